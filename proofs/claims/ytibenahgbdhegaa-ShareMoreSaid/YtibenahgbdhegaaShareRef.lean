/- Shares by weight: what the document answers. Conditions: none. -/
import Derived.Test.YtibenahgbdhegaaShare
namespace Go.Proofs.Ytibenahgbdhegaa
open Go Go.Proofs.Ytibenahgbdhegaa.Ev
set_option linter.unusedVariables false
set_option linter.unusedSimpArgs false
set_option linter.unnecessarySimpa false
def phiR (r : Int) : Int := if r = 0 then -1 else r
theorem phiR_lt {x y : Int} (hx : 0 ≤ x) (hy : 0 ≤ y) : phiR x > phiR y ↔ x > y := by unfold phiR; split <;> split <;> omega
theorem map_getD {l : List Int} {b : Nat} (h : b < l.length) : (l.map phiR).getD b 0 = phiR (l.getD b 0) := by
  simp [List.getD_eq_getElem?_getD, List.getElem?_eq_getElem h]
theorem bestF_phi (l : List Int) (hl : ∀ x ∈ l, 0 ≤ x) : ∀ (r : List Int) (i b : Nat), (∀ x ∈ r, 0 ≤ x) → b < l.length → i + r.length ≤ l.length → bestF (l.map phiR) (r.map phiR) i b = bestF l r i b
  | [], _, b, _, _, _ => rfl
  | x :: r, i, b, hr, h, h2 => by
    simp only [List.length_cons] at h2
    simp only [List.map_cons, bestF]
    have hx := hr x (by simp)
    have hy := hl _ (getD_mem h)
    rw [map_getD h, show decide (phiR x > phiR (l.getD b 0)) = decide (x > l.getD b 0) by simp only [decide_eq_decide]; exact phiR_lt hx hy]
    refine bestF_phi l hl r (i + 1) _ (fun y hy => hr y (by simp [hy])) ?_ (by omega)
    cases decide (x > l.getD b 0)
    · exact h
    · show i < l.length; omega
theorem deal_phi : ∀ (k : Nat) (o l : List Int), (∀ x ∈ l, 0 ≤ x) → l ≠ [] → dealZ (-1) k o (l.map phiR) = dealZ 0 k o l
  | 0, _, _, _, _ => rfl
  | k + 1, o, l, hl, hne => by
    have e : bestOf (l.map phiR) = bestOf l := bestF_phi l hl l 0 0 hl (List.length_pos_iff.2 hne) (by simp)
    simp only [dealZ]
    rw [e, show (l.map phiR).set (bestOf l) (-1) = (l.set (bestOf l) 0).map phiR by rw [List.map_set]; rfl]
    exact deal_phi k _ _ (fun x hx => by
      rcases List.mem_or_eq_of_mem_set hx with h | h
      · exact hl x h
      · omega) (by intro h; simp at h; exact hne h)
theorem mdUp1 {x a s : Int} (h1 : 0 ≤ x) (h2 : x ≤ 1152921504606846976) (h3 : 0 ≤ a) (h4 : a < s) (h5 : s ≤ 1152921504606846976) :
    mdV x a s 0 = a * x / s ∧ mdV x a s 1 = a * x / s + (if a * x % s > 0 then 1 else 0) ∧ 0 ≤ a * x / s ∧ a * x / s ≤ x ∧ 0 ≤ a * x % s := by
  have e := Int.mul_ediv_add_emod (a * x) s
  have r0 := Int.emod_nonneg (a * x) (show s ≠ 0 by omega)
  have r1 := Int.emod_lt_of_pos (a * x) (show 0 < s by omega)
  have q0 : 0 ≤ a * x / s := Int.ediv_nonneg (Int.mul_nonneg h3 h1) (by omega)
  have hm : a * x ≤ (s - 1) * x := Int.mul_le_mul_of_nonneg_right (by omega) h1
  have hsx : (s - 1) * x = s * x - x := by rw [Int.sub_mul, Int.one_mul]
  have hle : a * x / s ≤ x := Int.ediv_le_of_le_mul (by omega) (by rw [Int.mul_comm x s]; omega)
  have hlt : a * x % s > 0 → a * x / s + 1 ≤ x := fun h => by
    have : s * (a * x / s) < s * x := by omega
    have := Int.lt_of_mul_lt_mul_left this (by omega)
    omega
  rw [Int.mul_comm a x] at *
  have o0 : mdOk x a s 0 = true := by rw [md_ok h1 h2 h3 (by omega) (by omega) h5 (by omega) (by omega), mdQ0]; simp; omega
  have o1 : mdOk x a s 1 = true := by rw [md_ok h1 h2 h3 (by omega) (by omega) h5 (by omega) (by omega), mdQ1]; simp; split <;> omega
  exact ⟨by unfold mdV; rw [o0, mdQ0]; rfl, by unfold mdV; rw [o1, mdQ1]; rfl, q0, hle, r0⟩
theorem floors_zero (s : Int) (l : List Int) : floors 0 s l = List.replicate l.length 0 := by
  unfold floors
  rw [← List.map_const']
  congr 1
  funext c
  simp
theorem sum_rep (n : Nat) : (List.replicate n (0 : Int)).sum = 0 := by induction n with | zero => rfl | succ n ih => rw [List.replicate_succ, List.sum_cons, ih]; rfl
theorem zeros_of_sum : ∀ (l : List Int), (∀ x ∈ l, 0 ≤ x) → l.sum = 0 → l = List.replicate l.length 0
  | [], _, _ => rfl
  | x :: l, h, hs => by
    have hx := h x (by simp)
    have hl := sum_nonneg l (fun y hy => h y (by simp [hy]))
    rw [List.sum_cons] at hs
    have e := zeros_of_sum l (fun y hy => h y (by simp [hy])) (by omega)
    rw [List.length_cons, List.replicate_succ, ← e, show x = 0 by omega]


/-! cascade/cascaderef1.Pro -/
def N15 : Pn := ⟨[.int .i64, .ints .i64], []⟩
def X15 : Pn := ⟨[.buf 0 1], [.ints .i64]⟩
def L15_3s (m : Nat) (k2 : List Un → Option (List Un)) (k : List Un → Option (List Un)) : List Un → Option (List Un)
  | [.i a0, .i a1, .i a2, .i a3, .l a4, .l a5] =>
    bif decide (a3 < a2) then
     bif decide ((0 : Int) ≤ a3 ∧ a3 < (a5.length : Int)) then
      bif decide (a3.toNat < a5.length) then
       bif decide ((0 : Int) ≤ a1 ∧ a1 < (a5.length : Int)) then
        bif decide (a1.toNat < a5.length) then
         bif (decide ((a5.getD a3.toNat 0) > (a5.getD a1.toNat 0))) then
          k [.i a0, .i a3, .i a2, .i (IntKind.i64.wrap (a3 + 1)), .l a4, .l a5]
         else
          k [.i a0, .i a1, .i a2, .i (IntKind.i64.wrap (a3 + 1)), .l a4, .l a5]
        else
         none
       else
        none
      else
       none
     else
      none
    else
     bif decide ((0 : Int) ≤ a1 ∧ a1 < (a4.length : Int)) then
      bif decide (a1.toNat < a4.length) then
       bif decide ((0 : Int) ≤ a1 ∧ a1 < (a4.length : Int)) then
        bif decide (a1.toNat < a4.length) then
         bif decide ((0 : Int) ≤ a1 ∧ a1 < (a5.length : Int)) then
          bif decide (a1.toNat < a5.length) then
           k2 [.i (IntKind.i64.wrap (a0 - 1)), .l (List.set a4 a1.toNat (IntKind.i64.wrap ((a4.getD a1.toNat 0) + 1))), .l (List.set a5 a1.toNat (-1))]
          else
           none
         else
          none
        else
         none
       else
        none
      else
       none
     else
      none
  | _ => none
def L15_3 (m : Nat) (k2 : List Un → Option (List Un)) : Nat → List Un → Option (List Un) := iterS (L15_3s m k2)
theorem L15_3_succ (m : Nat) (k2 : List Un → Option (List Un)) (n : Nat) : L15_3 m k2 (n + 1) = L15_3s m k2 (L15_3 m k2 n) := rfl
def P15_3 : Pn := ⟨[.any, .any, .any, .any, .any, .buf 0 1, .any, .any, .any, .any, .int .i64, .buf 1 1, .any, .any, .any, .any, .int .i64, .any, .any, .any, .any, .any, .any, .any, .any, .any, .any, .any, .any, .any, .any, .any, .any, .any, .any, .any, .any, .any, .any, .any, .any, .any, .any, .any, .any, .any, .any, .any, .any, .any, .any, .any, .any, .any, .any, .any, .any, .any, .any, .any, .any, .any, .any, .any, .any, .any, .any, .any, .any, .any, .any, .any, .any, .any, .any, .any, .any, .any, .any, .any, .any, .any, .any, .any, .any, .any, .any, .any, .any, .any, .any, .any, .any, .any, .any, .any, .any, .any, .any, .any, .any, .any, .any, .any, .any, .any, .any, .any, .any, .int .i64, .int .i64, .any, .any, .any, .any, .any, .any, .any, .any, .any, .any, .any, .any, .any, .any, .any, .any, .any, .any, .any, .any, .any, .any, .any], [.ints .i64, .ints .i64]⟩
def S15_3 (F : List Un → Option (List Un)) : StopS := ⟨[.lp [0, 1, 0, 1, 0, 0, 1, 0, 0, 0, 1, 1, 1, 1, 1, 1, 1, 1], .blk 6, .code [1, 1, 0, 0, 1, 0, 0, 0, 1, 1, 1, 1, 1, 1, 1, 1], .blk 5, .code [1, 1, 0, 0, 0, 1, 1, 1, 1, 1, 1, 1, 1], .lp [0, 0, 1, 1, 1, 1, 1, 1, 1, 1], .blk 4, .code [1, 1, 1, 1, 1, 1, 1, 1, 1]], P15_3, F⟩
def L15_2s (m : Nat) (k : List Un → Option (List Un)) : List Un → Option (List Un)
  | [.i a0, .l a1, .l a2] =>
    bif decide (a0 > 0) then
     L15_3 m k m [.i a0, .i 0, .i (a2.length : Int), .i 0, .l a1, .l a2]
    else
     some [.l a1]
  | _ => none
def L15_2 (m : Nat) : Nat → List Un → Option (List Un) := iterS (L15_2s m)
theorem L15_2_succ (m : Nat) (n : Nat) : L15_2 m (n + 1) = L15_2s m (L15_2 m n) := rfl
def P15_2 : Pn := ⟨[.any, .any, .any, .any, .any, .buf 0 1, .any, .any, .any, .any, .int .i64, .buf 1 1, .any, .any, .any, .any, .any, .any, .any, .any, .any, .any, .any, .any, .any, .any, .any, .any, .any, .any, .any, .any, .any, .any, .any, .any, .any, .any, .any, .any, .any, .any, .any, .any, .any, .any, .any, .any, .any, .any, .any, .any, .any, .any, .any, .any, .any, .any, .any, .any, .any, .any, .any, .any, .any, .any, .any, .any, .any, .any, .any, .any, .any, .any, .any, .any, .any, .any, .any, .any, .any, .any, .any, .any, .any, .any, .any, .any, .any, .any, .any, .any, .any, .any, .any, .any, .any, .any, .any, .any, .any, .any, .any, .any, .any, .any, .any, .any, .any, .any, .any, .any, .any, .any, .any, .any, .any, .any, .any, .any, .any, .any, .any, .any, .any, .any, .any, .any, .any, .any, .any, .any, .any, .any], [.ints .i64, .ints .i64]⟩
def S15_2 (F : List Un → Option (List Un)) : StopS := ⟨[.lp [0, 0, 1, 1, 1, 1, 1, 1, 1, 1], .blk 4, .code [1, 1, 1, 1, 1, 1, 1, 1, 1]], P15_2, F⟩
def L15_1s (m : Nat) (k : List Un → Option (List Un)) : List Un → Option (List Un)
  | [.i a0, .i a1, .i a2, .l a3, .i a4, .i a5, .l a6, .l a7] =>
    bif decide (a5 < a4) then
     bif decide ((0 : Int) ≤ a5 ∧ a5 < (a3.length : Int)) then
      bif decide (a5.toNat < a3.length) then
       bif decide ((0 : Int) ≤ a5 ∧ a5 < (a6.length : Int)) then
        bif decide (a5.toNat < a6.length) then
         lt ((List.set a6 a5.toNat (mdV (a3.getD a5.toNat 0) a0 a1 0)) : List Int) fun l7 =>
         bif decide ((0 : Int) ≤ a5 ∧ a5 < (l7.length : Int)) then
          bif decide (a5.toNat < l7.length) then
           lt ((IntKind.i64.wrap (a2 - (l7.getD a5.toNat 0))) : Int) fun x10 =>
           bif decide ((0 : Int) ≤ a5 ∧ a5 < (a7.length : Int)) then
            bif decide (a5.toNat < a7.length) then
             lt ((List.set a7 a5.toNat (-1)) : List Int) fun l11 =>
             bif decide ((0 : Int) ≤ a5 ∧ a5 < (l7.length : Int)) then
              bif decide (a5.toNat < l7.length) then
               bif (decide ((mdV (a3.getD a5.toNat 0) a0 a1 1) > (l7.getD a5.toNat 0))) then
                bif decide (0 ≤ (a3.getD a5.toNat 0) ∧ (a3.getD a5.toNat 0) ≤ 1152921504606846976 ∧ 0 ≤ a0 ∧ a0 ≤ 1152921504606846976 ∧ 1 ≤ a1 ∧ a1 ≤ 1152921504606846976) then
                 bif decide ((0 : Int) ≤ a5 ∧ a5 < (l11.length : Int)) then
                  bif decide (a5.toNat < l11.length) then
                   k [.i a0, .i a1, .i x10, .l a3, .i a4, .i (IntKind.i64.wrap (a5 + 1)), .l l7, .l (List.set l11 a5.toNat ((a3.getD a5.toNat 0) * a0 % a1))]
                  else
                   none
                 else
                  none
                else
                 none
               else
                k [.i a0, .i a1, .i x10, .l a3, .i a4, .i (IntKind.i64.wrap (a5 + 1)), .l l7, .l l11]
              else
               none
             else
              none
            else
             none
           else
            none
          else
           none
         else
          none
        else
         none
       else
        none
      else
       none
     else
      none
    else
     L15_2 m m [.i a2, .l a6, .l a7]
  | _ => none
def L15_1 (m : Nat) : Nat → List Un → Option (List Un) := iterS (L15_1s m)
theorem L15_1_succ (m : Nat) (n : Nat) : L15_1 m (n + 1) = L15_1s m (L15_1 m n) := rfl
def P15_1 : Pn := ⟨[.int .i64, .any, .any, .any, .any, .buf 0 1, .int .i64, .any, .any, .any, .int .i64, .buf 1 1, .any, .any, .any, .any, .any, .any, .any, .any, .any, .any, .any, .any, .any, .any, .any, .any, .any, .any, .any, .any, .any, .any, .any, .any, .any, .any, .any, .any, .any, .any, .any, .any, .any, .any, .any, .any, .any, .any, .any, .any, .any, .any, .any, .any, .any, .ints .i64, .int .i64, .int .i64, .any, .any, .any, .any, .any, .any, .any, .any, .any, .any, .any, .any, .any, .any, .any, .any, .any, .any, .any, .any, .any, .any, .any, .any, .any, .any, .any, .any, .any, .any, .any, .any, .any, .any, .any, .any, .any, .any, .any, .any, .any, .any, .any, .any, .any, .any, .any, .any, .any, .any, .any, .any, .any, .any, .any, .any, .any, .any, .any, .any, .any, .any, .any, .any, .any, .any, .any, .any, .any, .any, .any, .any, .any, .any], [.ints .i64, .ints .i64]⟩
def S15_1 (F : List Un → Option (List Un)) : StopS := ⟨[.lp [0, 1, 0, 1, 1, 1, 1, 1, 1, 1], .blk 2, .code [1, 1, 1, 1, 1, 1, 1, 1]], P15_1, F⟩
def L15_0s (m : Nat) (k : List Un → Option (List Un)) : List Un → Option (List Un)
  | [.l a0, .i a1, .i a2, .l a3] =>
    bif decide (a2 < a1) then
     bif decide ((0 : Int) ≤ a2 ∧ a2 < (a0.length : Int)) then
      bif decide (a2.toNat < a0.length) then
       bif decide ((0 : Int) ≤ a2 ∧ a2 < (a3.length : Int)) then
        bif decide (a2.toNat < a3.length) then
         k [.l a0, .i a1, .i (IntKind.i64.wrap (a2 + 1)), .l (List.set a3 a2.toNat (a0.getD a2.toNat 0))]
        else
         none
       else
        none
      else
       none
     else
      none
    else
     some [.l a3]
  | _ => none
def L15_0 (m : Nat) : Nat → List Un → Option (List Un) := iterS (L15_0s m)
theorem L15_0_succ (m : Nat) (n : Nat) : L15_0 m (n + 1) = L15_0s m (L15_0 m n) := rfl
def P15_0 : Pn := ⟨[.any, .any, .any, .any, .any, .buf 0 1, .any, .any, .any, .any, .any, .any, .any, .any, .any, .any, .any, .any, .any, .any, .any, .any, .any, .any, .any, .any, .any, .any, .any, .any, .any, .any, .any, .any, .any, .any, .any, .any, .any, .any, .ints .i64, .int .i64, .int .i64, .any, .any, .any, .any, .any, .any, .any, .any, .any, .any, .any, .any, .any, .any, .any, .any, .any, .any, .any, .any, .any, .any, .any, .any, .any, .any, .any, .any, .any, .any, .any, .any, .any, .any, .any, .any, .any, .any, .any, .any, .any, .any, .any, .any, .any, .any, .any, .any, .any, .any, .any, .any, .any, .any, .any, .any, .any, .any, .any, .any, .any, .any, .any, .any, .any, .any, .any, .any, .any, .any, .any, .any, .any, .any, .any, .any, .any, .any, .any, .any, .any, .any, .any, .any, .any, .any, .any, .any, .any, .any, .any], [.ints .i64]⟩
def S15_0 (F : List Un → Option (List Un)) : StopS := ⟨[.lp [0, 1, 0, 0, 1, 0, 1, 1, 1, 1], .blk 0, .code [1, 0, 1, 0, 1, 1, 1, 1], .code [1, 1, 1, 1, 1]], P15_0, F⟩
def t15 (m : Nat) (a0 : Int) (a1 : List Int) : Option (List Un) :=
  bif decide (0 ≤ (a1.length : Int) ∧ 8 * (a1.length : Int) ≤ 140737488355328 ∧ (a1.length : Int) ≤ 9223372036854775807) then
   lt ((List.replicate a1.length 0) : List Int) fun l1 =>
   bif decide (a1.length < 1099511627776) then
    bif !(sumOk a1) then
     some [.l l1]
    else
     bif decide (a0 ≤ 0) then
      some [.l l1]
     else
      bif (sumV a1) == 0 then
       some [.l l1]
      else
       bif decide (a0 ≥ (sumV a1)) then
        L15_0 m m [.l a1, .i (a1.length : Int), .i 0, .l l1]
       else
        bif decide (0 ≤ (a1.length : Int) ∧ 8 * (a1.length : Int) ≤ 140737488355328 ∧ (a1.length : Int) ≤ 9223372036854775807) then
         L15_1 m m [.i a0, .i (sumV a1), .i a0, .l a1, .i (a1.length : Int), .i 0, .l l1, .l (List.replicate a1.length 0)]
        else
         none
   else
    none
  else
   none
def T15 : TabS := tabS TE [(21, e21), (23, e23)]
theorem T15_right : TabRight Try.prog [] (ofTab TE) T15 := tabS_right (all1 right21 (all1 right23 all0))
theorem G15_3 (m : Nat) (k2 : List Un → Option (List Un)) (k : List Un → Option (List Un)) (a0 : Int) (a1 : Int) (a2 : Int) (a3 : Int) (a4 : List Int) (a5 : List Int) : roadFromS Try.prog [] T15 KN (bodyOf (fnOf Try.prog 15)) [0, 1, 0, 1, 0, 0, 1, 0, 0, 0, 1, 1, 1, 1, 1, 1, 1, 1] [.blk 6, .code [1, 1, 0, 0, 1, 0, 0, 0, 1, 1, 1, 1, 1, 1, 1, 1], .blk 5, .code [1, 1, 0, 0, 0, 1, 1, 1, 1, 1, 1, 1, 1], .lp [0, 0, 1, 1, 1, 1, 1, 1, 1, 1], .blk 4, .code [1, 1, 1, 1, 1, 1, 1, 1, 1]] P15_3 [.i a0, .i a1, .i a2, .i a3, .l a4, .l a5] (kksS Try.prog (fnOf Try.prog 15).results.toList X15 0 [S15_2 k2, S15_3 k]) = L15_3s m k2 k [.i a0, .i a1, .i a2, .i a3, .l a4, .l a5] := by kernel_rfl
theorem Y15_3 {m : Nat} {k2 : List Un → Option (List Un)} {k : List Un → Option (List Un)} {xs : List Un} {v : List Un} (h : L15_3s m k2 k xs = some v) : ∃ a0 a1 a2 a3 a4 a5, xs = [.i a0, .i a1, .i a2, .i a3, .l a4, .l a5] := by
  unfold L15_3s at h
  split at h
  · exact ⟨_, _, _, _, _, _, rfl⟩
  · cases h
theorem H15_3 (m : Nat) (k2 : List Un → Option (List Un)) (h2 : HoldsS Try.prog [] (ofTab TE) (fnOf Try.prog 15).results.toList X15 0 (bodyOf (fnOf Try.prog 15)) (S15_2 k2)) : ∀ n, HoldsS Try.prog [] (ofTab TE) (fnOf Try.prog 15).results.toList X15 0 (bodyOf (fnOf Try.prog 15)) (S15_3 (L15_3 m k2 n)) :=
  StopS.iter KN_none T15_right (mk := S15_3) (Fs := L15_3s m k2) (W := fun k => [S15_2 k2, S15_3 k]) (p := [0, 1, 0, 1, 0, 0, 1, 0, 0, 0, 1, 1, 1, 1, 1, 1, 1, 1]) (rest := [.blk 6, .code [1, 1, 0, 0, 1, 0, 0, 0, 1, 1, 1, 1, 1, 1, 1, 1], .blk 5, .code [1, 1, 0, 0, 0, 1, 1, 1, 1, 1, 1, 1, 1], .lp [0, 0, 1, 1, 1, 1, 1, 1, 1, 1], .blk 4, .code [1, 1, 1, 1, 1, 1, 1, 1, 1]]) (pat := P15_3)
    (fun _ => rfl) (fun _ => rfl) (fun _ => rfl) (by kernel_rfl) (by kernel_rfl)
    (fun k h => (all1 h2 (all1 h all0)))
    (fun k xs v h => by
      obtain ⟨a0, a1, a2, a3, a4, a5, rfl⟩ := Y15_3 h
      exact (G15_3 m k2 k a0 a1 a2 a3 a4 a5).trans h)
theorem G15_2 (m : Nat) (k : List Un → Option (List Un)) (a0 : Int) (a1 : List Int) (a2 : List Int) : roadFromS Try.prog [] T15 KN (bodyOf (fnOf Try.prog 15)) [0, 0, 1, 1, 1, 1, 1, 1, 1, 1] [.blk 4, .code [1, 1, 1, 1, 1, 1, 1, 1, 1]] P15_2 [.i a0, .l a1, .l a2] (kksS Try.prog (fnOf Try.prog 15).results.toList X15 0 [S15_3 (L15_3 m (k) m)]) = L15_2s m k [.i a0, .l a1, .l a2] := by kernel_rfl
theorem Y15_2 {m : Nat} {k : List Un → Option (List Un)} {xs : List Un} {v : List Un} (h : L15_2s m k xs = some v) : ∃ a0 a1 a2, xs = [.i a0, .l a1, .l a2] := by
  unfold L15_2s at h
  split at h
  · exact ⟨_, _, _, rfl⟩
  · cases h
theorem H15_2 (m : Nat) : ∀ n, HoldsS Try.prog [] (ofTab TE) (fnOf Try.prog 15).results.toList X15 0 (bodyOf (fnOf Try.prog 15)) (S15_2 (L15_2 m n)) :=
  StopS.iter KN_none T15_right (mk := S15_2) (Fs := L15_2s m) (W := fun k => [S15_3 (L15_3 m (k) m)]) (p := [0, 0, 1, 1, 1, 1, 1, 1, 1, 1]) (rest := [.blk 4, .code [1, 1, 1, 1, 1, 1, 1, 1, 1]]) (pat := P15_2)
    (fun _ => rfl) (fun _ => rfl) (fun _ => rfl) (by kernel_rfl) (by kernel_rfl)
    (fun k h => (all1 (H15_3 m _ h m) all0))
    (fun k xs v h => by
      obtain ⟨a0, a1, a2, rfl⟩ := Y15_2 h
      exact (G15_2 m k a0 a1 a2).trans h)
theorem G15_1 (m : Nat) (k : List Un → Option (List Un)) (a0 : Int) (a1 : Int) (a2 : Int) (a3 : List Int) (a4 : Int) (a5 : Int) (a6 : List Int) (a7 : List Int) : roadFromS Try.prog [] T15 KN (bodyOf (fnOf Try.prog 15)) [0, 1, 0, 1, 1, 1, 1, 1, 1, 1] [.blk 2, .code [1, 1, 1, 1, 1, 1, 1, 1]] P15_1 [.i a0, .i a1, .i a2, .l a3, .i a4, .i a5, .l a6, .l a7] (kksS Try.prog (fnOf Try.prog 15).results.toList X15 0 [S15_1 k, S15_2 (L15_2 m m)]) = L15_1s m k [.i a0, .i a1, .i a2, .l a3, .i a4, .i a5, .l a6, .l a7] := by kernel_rfl
theorem Y15_1 {m : Nat} {k : List Un → Option (List Un)} {xs : List Un} {v : List Un} (h : L15_1s m k xs = some v) : ∃ a0 a1 a2 a3 a4 a5 a6 a7, xs = [.i a0, .i a1, .i a2, .l a3, .i a4, .i a5, .l a6, .l a7] := by
  unfold L15_1s at h
  split at h
  · exact ⟨_, _, _, _, _, _, _, _, rfl⟩
  · cases h
theorem H15_1 (m : Nat) : ∀ n, HoldsS Try.prog [] (ofTab TE) (fnOf Try.prog 15).results.toList X15 0 (bodyOf (fnOf Try.prog 15)) (S15_1 (L15_1 m n)) :=
  StopS.iter KN_none T15_right (mk := S15_1) (Fs := L15_1s m) (W := fun k => [S15_1 k, S15_2 (L15_2 m m)]) (p := [0, 1, 0, 1, 1, 1, 1, 1, 1, 1]) (rest := [.blk 2, .code [1, 1, 1, 1, 1, 1, 1, 1]]) (pat := P15_1)
    (fun _ => rfl) (fun _ => rfl) (fun _ => rfl) (by kernel_rfl) (by kernel_rfl)
    (fun k h => (all1 h (all1 (H15_2 m m) all0)))
    (fun k xs v h => by
      obtain ⟨a0, a1, a2, a3, a4, a5, a6, a7, rfl⟩ := Y15_1 h
      exact (G15_1 m k a0 a1 a2 a3 a4 a5 a6 a7).trans h)
theorem G15_0 (m : Nat) (k : List Un → Option (List Un)) (a0 : List Int) (a1 : Int) (a2 : Int) (a3 : List Int) : roadFromS Try.prog [] T15 KN (bodyOf (fnOf Try.prog 15)) [0, 1, 0, 0, 1, 0, 1, 1, 1, 1] [.blk 0, .code [1, 0, 1, 0, 1, 1, 1, 1], .code [1, 1, 1, 1, 1]] P15_0 [.l a0, .i a1, .i a2, .l a3] (kksS Try.prog (fnOf Try.prog 15).results.toList X15 0 [S15_0 k]) = L15_0s m k [.l a0, .i a1, .i a2, .l a3] := by kernel_rfl
theorem Y15_0 {m : Nat} {k : List Un → Option (List Un)} {xs : List Un} {v : List Un} (h : L15_0s m k xs = some v) : ∃ a0 a1 a2 a3, xs = [.l a0, .i a1, .i a2, .l a3] := by
  unfold L15_0s at h
  split at h
  · exact ⟨_, _, _, _, rfl⟩
  · cases h
theorem H15_0 (m : Nat) : ∀ n, HoldsS Try.prog [] (ofTab TE) (fnOf Try.prog 15).results.toList X15 0 (bodyOf (fnOf Try.prog 15)) (S15_0 (L15_0 m n)) :=
  StopS.iter KN_none T15_right (mk := S15_0) (Fs := L15_0s m) (W := fun k => [S15_0 k]) (p := [0, 1, 0, 0, 1, 0, 1, 1, 1, 1]) (rest := [.blk 0, .code [1, 0, 1, 0, 1, 1, 1, 1], .code [1, 1, 1, 1, 1]]) (pat := P15_0)
    (fun _ => rfl) (fun _ => rfl) (fun _ => rfl) (by kernel_rfl) (by kernel_rfl)
    (fun k h => (all1 h all0))
    (fun k xs v h => by
      obtain ⟨a0, a1, a2, a3, rfl⟩ := Y15_0 h
      exact (G15_0 m k a0 a1 a2 a3).trans h)
theorem G15 (m : Nat) (a0 : Int) (a1 : List Int) : roadInS Try.prog [] T15 KN (fnOf Try.prog 15) N15 [.i a0, .l a1] (kksS Try.prog (fnOf Try.prog 15).results.toList X15 0 [S15_0 (L15_0 m m), S15_1 (L15_1 m m)]) = t15 m a0 a1 := by kernel_rfl
theorem tells15 (m : Nat) (a0 : Int) (a1 : List Int) {ys : List Un} (h : t15 m a0 a1 = some ys) : TellsS Try.prog [] (ofTab TE) 15 N15 X15 [.i a0, .l a1] ys :=
  tells_road KN_none T15_right (W := [S15_0 (L15_0 m m), S15_1 (L15_1 m m)]) (by kernel_rfl) (by kernel_rfl) (by kernel_rfl)
    (all1 (H15_0 m m) (all1 (H15_1 m m) all0)) ((G15 m a0 a1).trans h)

theorem bestL15 (m : Nat) (k1 : List Un → Option (List Un)) (left : Int) (out lost : List Int) (h1 : 0 < left) (h2 : left < 4611686018427387904) (hl : out.length = lost.length) (hs : lost.length < 1099511627776)
    (hb : ∀ x ∈ out, 0 ≤ x ∧ x < 4611686018427387904) : ∀ (rest pre : List Int) (b n : Nat), rest.length < n → lost = pre ++ rest → b < lost.length →
    L15_3 m k1 n [.i left, .i (b : Int), .i (lost.length : Int), .i (pre.length : Int), .l out, .l lost] =
      k1 [.i (left - 1), .l (out.set (bestF lost rest pre.length b) (out.getD (bestF lost rest pre.length b) 0 + 1)), .l (lost.set (bestF lost rest pre.length b) (-1))] := by
  intro rest
  induction rest with
  | nil =>
    intro pre b n hn he hlt
    obtain ⟨n, rfl⟩ := one_more n (by simp at hn; omega)
    rw [L15_3_succ]; unfold L15_3s; dsimp only
    have hp : pre.length = lost.length := by rw [he]; simp
    have hm := hb _ (getD_mem (l := out) (i := b) (by omega))
    simp only [bestF, Int.toNat_natCast]
    repeat' (first
      | with_reducible rfl
      | (with_reducible refine lt_i ?_; intro x hx; (try simp (disch := omega) only [wr, if_pos, if_neg, Int.sub_zero, Int.zero_add, List.length_append, List.length_cons, List.length_nil, List.length_replicate, List.length_take, List.length_drop, Int.natCast_add, Int.toNat_natCast] at hx); (try simp only [min_if', max_if'] at hx); subst hx)
      | (with_reducible refine bif_t ?_ ?_; · ((try simp (disch := omega) only [wr, if_pos, if_neg, List.length_append, List.length_cons, List.length_nil, List.length_replicate, List.length_take, List.length_drop, Int.natCast_add, Int.toNat_natCast]); (first | done | ((try simp only [min_if', max_if']); (first | done | ((try simp only [Bool.true_and, Bool.and_true, Bool.and_eq_true, Bool.and_eq_false_iff, Bool.or_eq_true, Bool.or_eq_false_iff, true_and, and_true, decide_eq_true_eq, decide_eq_false_iff_not, beq_iff_eq, beq_eq_false_iff_ne, bne_iff_ne, bne_eq_false_iff_eq, ne_eq, Bool.not_eq_true', Bool.not_eq_false', Decidable.not_not]) <;> omega))))))
      | (with_reducible refine bif_f ?_ ?_; · ((try simp (disch := omega) only [wr, if_pos, if_neg, List.length_append, List.length_cons, List.length_nil, List.length_replicate, List.length_take, List.length_drop, Int.natCast_add, Int.toNat_natCast]); (first | done | ((try simp only [min_if', max_if']); (first | done | ((try simp only [Bool.true_and, Bool.and_true, Bool.and_eq_true, Bool.and_eq_false_iff, Bool.or_eq_true, Bool.or_eq_false_iff, true_and, and_true, decide_eq_true_eq, decide_eq_false_iff_not, beq_iff_eq, beq_eq_false_iff_ne, bne_iff_ne, bne_eq_false_iff_eq, ne_eq, Bool.not_eq_true', Bool.not_eq_false', Decidable.not_not]) <;> omega))))))
      | (with_reducible refine bif_s ?_ ?_ <;> (intro hc; (try simp (disch := omega) only [wr, if_pos, if_neg, List.length_append, List.length_cons, List.length_nil, List.length_replicate, List.length_take, List.length_drop, Int.natCast_add, Int.toNat_natCast] at hc); (try simp only [min_if', max_if'] at hc); (try simp only [Bool.true_and, Bool.and_true, Bool.and_eq_true, Bool.and_eq_false_iff, Bool.or_eq_true, Bool.or_eq_false_iff, true_and, and_true, decide_eq_true_eq, decide_eq_false_iff_not, beq_iff_eq, beq_eq_false_iff_ne, bne_iff_ne, bne_eq_false_iff_eq, ne_eq, Bool.not_eq_true', Bool.not_eq_false', Decidable.not_not] at hc)))
      | fail "stuck")
    simp (disch := omega) only [wr]
  | cons x rest ih =>
    intro pre b n hn he hlt
    obtain ⟨n, rfl⟩ := one_more n (by simp at hn; omega)
    have hp : lost.length = pre.length + (rest.length + 1) := by rw [he]; simp
    have hg : lost.getD pre.length 0 = x := by rw [he]; simp
    rw [L15_3_succ]; unfold L15_3s; dsimp only
    simp only [bestF, Int.toNat_natCast, hg]
    have i1 := ih (pre ++ [x]) pre.length n (by simp at hn; omega) (by rw [he]; simp) (by omega)
    have i2 := ih (pre ++ [x]) b n (by simp at hn; omega) (by rw [he]; simp) hlt
    simp only [List.length_append, List.length_cons, List.length_nil, Int.natCast_add] at i1 i2
    repeat' (first
      | with_reducible rfl
      | (with_reducible refine lt_i ?_; intro x hx; (try simp (disch := omega) only [wr, if_pos, if_neg, Int.sub_zero, Int.zero_add, List.length_append, List.length_cons, List.length_nil, List.length_replicate, List.length_take, List.length_drop, Int.natCast_add, Int.toNat_natCast] at hx); (try simp only [min_if', max_if'] at hx); subst hx)
      | (with_reducible refine bif_t ?_ ?_; · ((try simp (disch := omega) only [wr, if_pos, if_neg, List.length_append, List.length_cons, List.length_nil, List.length_replicate, List.length_take, List.length_drop, Int.natCast_add, Int.toNat_natCast]); (first | done | ((try simp only [min_if', max_if']); (first | done | ((try simp only [Bool.true_and, Bool.and_true, Bool.and_eq_true, Bool.and_eq_false_iff, Bool.or_eq_true, Bool.or_eq_false_iff, true_and, and_true, decide_eq_true_eq, decide_eq_false_iff_not, beq_iff_eq, beq_eq_false_iff_ne, bne_iff_ne, bne_eq_false_iff_eq, ne_eq, Bool.not_eq_true', Bool.not_eq_false', Decidable.not_not]) <;> omega))))))
      | (with_reducible refine bif_f ?_ ?_; · ((try simp (disch := omega) only [wr, if_pos, if_neg, List.length_append, List.length_cons, List.length_nil, List.length_replicate, List.length_take, List.length_drop, Int.natCast_add, Int.toNat_natCast]); (first | done | ((try simp only [min_if', max_if']); (first | done | ((try simp only [Bool.true_and, Bool.and_true, Bool.and_eq_true, Bool.and_eq_false_iff, Bool.or_eq_true, Bool.or_eq_false_iff, true_and, and_true, decide_eq_true_eq, decide_eq_false_iff_not, beq_iff_eq, beq_eq_false_iff_ne, bne_iff_ne, bne_eq_false_iff_eq, ne_eq, Bool.not_eq_true', Bool.not_eq_false', Decidable.not_not]) <;> omega))))))
      | (with_reducible refine bif_s ?_ ?_ <;> (intro hc; (try simp (disch := omega) only [wr, if_pos, if_neg, List.length_append, List.length_cons, List.length_nil, List.length_replicate, List.length_take, List.length_drop, Int.natCast_add, Int.toNat_natCast] at hc); (try simp only [min_if', max_if'] at hc); (try simp only [Bool.true_and, Bool.and_true, Bool.and_eq_true, Bool.and_eq_false_iff, Bool.or_eq_true, Bool.or_eq_false_iff, true_and, and_true, decide_eq_true_eq, decide_eq_false_iff_not, beq_iff_eq, beq_eq_false_iff_ne, bne_iff_ne, bne_eq_false_iff_eq, ne_eq, Bool.not_eq_true', Bool.not_eq_false', Decidable.not_not] at hc)))
      | fail "stuck")
    · simp (disch := omega) only [wr]
      rw [show decide (x > lost.getD b 0) = true from decide_eq_true (by omega)]
      exact i1
    · simp (disch := omega) only [wr]
      rw [show decide (x > lost.getD b 0) = false from decide_eq_false (by omega)]
      exact i2
theorem dealL15 (m : Nat) : ∀ (k : Nat) (left : Int) (out lost : List Int) (n : Nat), left.toNat = k → k < n → left < 4611686018427387904 → out.length = lost.length → lost.length < 1099511627776 → lost.length < m → lost ≠ [] → (∀ x ∈ out, 0 ≤ x ∧ x + k < 4611686018427387904) →
    L15_2 m n [.i left, .l out, .l lost] = some [.l (dealZ (-1) k out lost)] := by
  intro k
  induction k with
  | zero =>
    intro left out lost n hk hn h2 hl hs hm hne hb
    obtain ⟨n, rfl⟩ := one_more n (by omega)
    rw [L15_2_succ]; unfold L15_2s; dsimp only
    simp only [dealZ]
    repeat' (first
      | with_reducible rfl
      | (with_reducible refine lt_i ?_; intro x hx; (try simp (disch := omega) only [wr, if_pos, if_neg, Int.sub_zero, Int.zero_add, List.length_append, List.length_cons, List.length_nil, List.length_replicate, List.length_take, List.length_drop, Int.natCast_add, Int.toNat_natCast] at hx); (try simp only [min_if', max_if'] at hx); subst hx)
      | (with_reducible refine bif_t ?_ ?_; · ((try simp (disch := omega) only [wr, if_pos, if_neg, List.length_append, List.length_cons, List.length_nil, List.length_replicate, List.length_take, List.length_drop, Int.natCast_add, Int.toNat_natCast]); (first | done | ((try simp only [min_if', max_if']); (first | done | ((try simp only [Bool.true_and, Bool.and_true, Bool.and_eq_true, Bool.and_eq_false_iff, Bool.or_eq_true, Bool.or_eq_false_iff, true_and, and_true, decide_eq_true_eq, decide_eq_false_iff_not, beq_iff_eq, beq_eq_false_iff_ne, bne_iff_ne, bne_eq_false_iff_eq, ne_eq, Bool.not_eq_true', Bool.not_eq_false', Decidable.not_not]) <;> omega))))))
      | (with_reducible refine bif_f ?_ ?_; · ((try simp (disch := omega) only [wr, if_pos, if_neg, List.length_append, List.length_cons, List.length_nil, List.length_replicate, List.length_take, List.length_drop, Int.natCast_add, Int.toNat_natCast]); (first | done | ((try simp only [min_if', max_if']); (first | done | ((try simp only [Bool.true_and, Bool.and_true, Bool.and_eq_true, Bool.and_eq_false_iff, Bool.or_eq_true, Bool.or_eq_false_iff, true_and, and_true, decide_eq_true_eq, decide_eq_false_iff_not, beq_iff_eq, beq_eq_false_iff_ne, bne_iff_ne, bne_eq_false_iff_eq, ne_eq, Bool.not_eq_true', Bool.not_eq_false', Decidable.not_not]) <;> omega))))))
      | (with_reducible refine bif_s ?_ ?_ <;> (intro hc; (try simp (disch := omega) only [wr, if_pos, if_neg, List.length_append, List.length_cons, List.length_nil, List.length_replicate, List.length_take, List.length_drop, Int.natCast_add, Int.toNat_natCast] at hc); (try simp only [min_if', max_if'] at hc); (try simp only [Bool.true_and, Bool.and_true, Bool.and_eq_true, Bool.and_eq_false_iff, Bool.or_eq_true, Bool.or_eq_false_iff, true_and, and_true, decide_eq_true_eq, decide_eq_false_iff_not, beq_iff_eq, beq_eq_false_iff_ne, bne_iff_ne, bne_eq_false_iff_eq, ne_eq, Bool.not_eq_true', Bool.not_eq_false', Decidable.not_not] at hc)))
      | fail "stuck")
  | succ k ih =>
    intro left out lost n hk hn h2 hl hs hm hne hb
    obtain ⟨n, rfl⟩ := one_more n (by omega)
    rw [L15_2_succ]; unfold L15_2s; dsimp only
    have hB := bestOf_lt hne
    repeat' (first
      | with_reducible rfl
      | (with_reducible refine lt_i ?_; intro x hx; (try simp (disch := omega) only [wr, if_pos, if_neg, Int.sub_zero, Int.zero_add, List.length_append, List.length_cons, List.length_nil, List.length_replicate, List.length_take, List.length_drop, Int.natCast_add, Int.toNat_natCast] at hx); (try simp only [min_if', max_if'] at hx); subst hx)
      | (with_reducible refine bif_t ?_ ?_; · ((try simp (disch := omega) only [wr, if_pos, if_neg, List.length_append, List.length_cons, List.length_nil, List.length_replicate, List.length_take, List.length_drop, Int.natCast_add, Int.toNat_natCast]); (first | done | ((try simp only [min_if', max_if']); (first | done | ((try simp only [Bool.true_and, Bool.and_true, Bool.and_eq_true, Bool.and_eq_false_iff, Bool.or_eq_true, Bool.or_eq_false_iff, true_and, and_true, decide_eq_true_eq, decide_eq_false_iff_not, beq_iff_eq, beq_eq_false_iff_ne, bne_iff_ne, bne_eq_false_iff_eq, ne_eq, Bool.not_eq_true', Bool.not_eq_false', Decidable.not_not]) <;> omega))))))
      | (with_reducible refine bif_f ?_ ?_; · ((try simp (disch := omega) only [wr, if_pos, if_neg, List.length_append, List.length_cons, List.length_nil, List.length_replicate, List.length_take, List.length_drop, Int.natCast_add, Int.toNat_natCast]); (first | done | ((try simp only [min_if', max_if']); (first | done | ((try simp only [Bool.true_and, Bool.and_true, Bool.and_eq_true, Bool.and_eq_false_iff, Bool.or_eq_true, Bool.or_eq_false_iff, true_and, and_true, decide_eq_true_eq, decide_eq_false_iff_not, beq_iff_eq, beq_eq_false_iff_ne, bne_iff_ne, bne_eq_false_iff_eq, ne_eq, Bool.not_eq_true', Bool.not_eq_false', Decidable.not_not]) <;> omega))))))
      | (with_reducible refine bif_s ?_ ?_ <;> (intro hc; (try simp (disch := omega) only [wr, if_pos, if_neg, List.length_append, List.length_cons, List.length_nil, List.length_replicate, List.length_take, List.length_drop, Int.natCast_add, Int.toNat_natCast] at hc); (try simp only [min_if', max_if'] at hc); (try simp only [Bool.true_and, Bool.and_true, Bool.and_eq_true, Bool.and_eq_false_iff, Bool.or_eq_true, Bool.or_eq_false_iff, true_and, and_true, decide_eq_true_eq, decide_eq_false_iff_not, beq_iff_eq, beq_eq_false_iff_ne, bne_iff_ne, bne_eq_false_iff_eq, ne_eq, Bool.not_eq_true', Bool.not_eq_false', Decidable.not_not] at hc)))
      | fail "stuck")
    have := bestL15 m (L15_2 m n) left out lost (by omega) h2 hl hs (fun x hx => by have := hb x hx; omega) lost [] 0 m hm rfl (List.length_pos_iff.2 hne)
    simp only [List.length_nil, Int.natCast_zero] at this
    refine this.trans ?_
    have hq := hb _ (getD_mem (l := out) (i := bestOf lost) (by omega))
    rw [show bestF lost lost 0 0 = bestOf lost from rfl]
    refine ih _ _ _ _ (by omega) (by omega) (by omega) (by simp [hl]) (by simpa using hs) (by simpa using hm) (by intro h; simp at h; exact hne h) (fun x hx => ?_)
    rcases List.mem_or_eq_of_mem_set hx with h | h
    · have := hb x h; omega
    · omega
theorem copyL15 (m : Nat) : ∀ (rest pre d : List Int) (n : Nat), rest.length < n → d.length = pre.length → (pre ++ rest).length < 1099511627776 →
    L15_0 m n [.l (pre ++ rest), .i ((pre ++ rest).length : Int), .i (pre.length : Int), .l (d ++ List.replicate rest.length 0)] = some [.l (d ++ rest)] := by
  intro rest
  induction rest with
  | nil =>
    intro pre d n hn hp h3
    obtain ⟨n, rfl⟩ := one_more n (by simp at hn; omega)
    rw [L15_0_succ]; unfold L15_0s; dsimp only
    simp only [List.append_nil, List.length_nil, List.replicate_zero] at h3 ⊢
    repeat' (first
      | with_reducible rfl
      | (with_reducible refine lt_i ?_; intro x hx; (try simp (disch := omega) only [wr, if_pos, if_neg, Int.sub_zero, Int.zero_add, set_mid2 _ _ _ _ _ hp, getD_mid, List.length_append, List.length_cons, List.length_nil, List.length_replicate, List.length_take, List.length_drop, Int.natCast_add, Int.toNat_natCast] at hx); (try simp only [min_if', max_if'] at hx); subst hx)
      | (with_reducible refine bif_t ?_ ?_; · ((try simp (disch := omega) only [wr, if_pos, if_neg, set_mid2 _ _ _ _ _ hp, getD_mid, List.length_append, List.length_cons, List.length_nil, List.length_replicate, List.length_take, List.length_drop, Int.natCast_add, Int.toNat_natCast]); (first | done | ((try simp only [min_if', max_if']); (first | done | ((try simp only [Bool.true_and, Bool.and_true, Bool.and_eq_true, Bool.and_eq_false_iff, Bool.or_eq_true, Bool.or_eq_false_iff, true_and, and_true, decide_eq_true_eq, decide_eq_false_iff_not, beq_iff_eq, beq_eq_false_iff_ne, bne_iff_ne, bne_eq_false_iff_eq, ne_eq, Bool.not_eq_true', Bool.not_eq_false', Decidable.not_not]) <;> omega))))))
      | (with_reducible refine bif_f ?_ ?_; · ((try simp (disch := omega) only [wr, if_pos, if_neg, set_mid2 _ _ _ _ _ hp, getD_mid, List.length_append, List.length_cons, List.length_nil, List.length_replicate, List.length_take, List.length_drop, Int.natCast_add, Int.toNat_natCast]); (first | done | ((try simp only [min_if', max_if']); (first | done | ((try simp only [Bool.true_and, Bool.and_true, Bool.and_eq_true, Bool.and_eq_false_iff, Bool.or_eq_true, Bool.or_eq_false_iff, true_and, and_true, decide_eq_true_eq, decide_eq_false_iff_not, beq_iff_eq, beq_eq_false_iff_ne, bne_iff_ne, bne_eq_false_iff_eq, ne_eq, Bool.not_eq_true', Bool.not_eq_false', Decidable.not_not]) <;> omega))))))
      | (with_reducible refine bif_s ?_ ?_ <;> (intro hc; (try simp (disch := omega) only [wr, if_pos, if_neg, set_mid2 _ _ _ _ _ hp, getD_mid, List.length_append, List.length_cons, List.length_nil, List.length_replicate, List.length_take, List.length_drop, Int.natCast_add, Int.toNat_natCast] at hc); (try simp only [min_if', max_if'] at hc); (try simp only [Bool.true_and, Bool.and_true, Bool.and_eq_true, Bool.and_eq_false_iff, Bool.or_eq_true, Bool.or_eq_false_iff, true_and, and_true, decide_eq_true_eq, decide_eq_false_iff_not, beq_iff_eq, beq_eq_false_iff_ne, bne_iff_ne, bne_eq_false_iff_eq, ne_eq, Bool.not_eq_true', Bool.not_eq_false', Decidable.not_not] at hc)))
      | fail "stuck")
  | cons x rest ih =>
    intro pre d n hn hp h3
    obtain ⟨n, rfl⟩ := one_more n (by simp at hn; omega)
    simp only [List.length_append, List.length_cons] at h3 hn
    rw [L15_0_succ]; unfold L15_0s; dsimp only
    simp only [List.length_cons, List.replicate_succ]
    have := ih (pre ++ [x]) (d ++ [x]) n (by omega) (by simp; omega) (by simp; omega)
    simp only [List.append_assoc, List.cons_append, List.nil_append, List.length_append, List.length_cons, List.length_nil, Int.natCast_add] at this
    repeat' (first
      | with_reducible rfl
      | (with_reducible refine lt_i ?_; intro x hx; (try simp (disch := omega) only [wr, if_pos, if_neg, Int.sub_zero, Int.zero_add, set_mid2 _ _ _ _ _ hp, getD_mid, List.length_append, List.length_cons, List.length_nil, List.length_replicate, List.length_take, List.length_drop, Int.natCast_add, Int.toNat_natCast] at hx); (try simp only [min_if', max_if'] at hx); subst hx)
      | (with_reducible refine bif_t ?_ ?_; · ((try simp (disch := omega) only [wr, if_pos, if_neg, set_mid2 _ _ _ _ _ hp, getD_mid, List.length_append, List.length_cons, List.length_nil, List.length_replicate, List.length_take, List.length_drop, Int.natCast_add, Int.toNat_natCast]); (first | done | ((try simp only [min_if', max_if']); (first | done | ((try simp only [Bool.true_and, Bool.and_true, Bool.and_eq_true, Bool.and_eq_false_iff, Bool.or_eq_true, Bool.or_eq_false_iff, true_and, and_true, decide_eq_true_eq, decide_eq_false_iff_not, beq_iff_eq, beq_eq_false_iff_ne, bne_iff_ne, bne_eq_false_iff_eq, ne_eq, Bool.not_eq_true', Bool.not_eq_false', Decidable.not_not]) <;> omega))))))
      | (with_reducible refine bif_f ?_ ?_; · ((try simp (disch := omega) only [wr, if_pos, if_neg, set_mid2 _ _ _ _ _ hp, getD_mid, List.length_append, List.length_cons, List.length_nil, List.length_replicate, List.length_take, List.length_drop, Int.natCast_add, Int.toNat_natCast]); (first | done | ((try simp only [min_if', max_if']); (first | done | ((try simp only [Bool.true_and, Bool.and_true, Bool.and_eq_true, Bool.and_eq_false_iff, Bool.or_eq_true, Bool.or_eq_false_iff, true_and, and_true, decide_eq_true_eq, decide_eq_false_iff_not, beq_iff_eq, beq_eq_false_iff_ne, bne_iff_ne, bne_eq_false_iff_eq, ne_eq, Bool.not_eq_true', Bool.not_eq_false', Decidable.not_not]) <;> omega))))))
      | (with_reducible refine bif_s ?_ ?_ <;> (intro hc; (try simp (disch := omega) only [wr, if_pos, if_neg, set_mid2 _ _ _ _ _ hp, getD_mid, List.length_append, List.length_cons, List.length_nil, List.length_replicate, List.length_take, List.length_drop, Int.natCast_add, Int.toNat_natCast] at hc); (try simp only [min_if', max_if'] at hc); (try simp only [Bool.true_and, Bool.and_true, Bool.and_eq_true, Bool.and_eq_false_iff, Bool.or_eq_true, Bool.or_eq_false_iff, true_and, and_true, decide_eq_true_eq, decide_eq_false_iff_not, beq_iff_eq, beq_eq_false_iff_ne, bne_iff_ne, bne_eq_false_iff_eq, ne_eq, Bool.not_eq_true', Bool.not_eq_false', Decidable.not_not] at hc)))
      | fail "stuck")
    simp (disch := omega) only [wr, set_mid2 _ _ _ _ _ hp, getD_mid, Int.toNat_natCast, List.length_append, List.length_cons, List.length_nil, Int.natCast_add] at this ⊢
    exact this
theorem compL15 (m : Nat) (a s : Int) (h1 : 0 ≤ a) (h2 : a < s) (h3 : s ≤ 1152921504606846976) : ∀ (rest pre d1 d2 : List Int) (left : Int) (n : Nat), rest.length < n → d1.length = pre.length → d2.length = pre.length → (∀ x ∈ rest, 0 ≤ x ∧ x ≤ 1152921504606846976) →
    left ≤ 1152921504606846976 → -1152921504606846976 ≤ left - (floors a s rest).sum → (pre ++ rest).length < 1099511627776 →
    L15_1 m n [.i a, .i s, .i left, .l (pre ++ rest), .i ((pre ++ rest).length : Int), .i (pre.length : Int), .l (d1 ++ List.replicate rest.length 0), .l (d2 ++ List.replicate rest.length 0)] =
      L15_2 m m [.i (left - (floors a s rest).sum), .l (d1 ++ floors a s rest), .l (d2 ++ (rems a s rest).map phiR)] := by
  intro rest
  induction rest with
  | nil =>
    intro pre d1 d2 left n hn p1 p2 hb l1 l2 h4
    obtain ⟨n, rfl⟩ := one_more n (by simp at hn; omega)
    rw [L15_1_succ]; unfold L15_1s; dsimp only
    simp only [List.append_nil, List.length_nil, List.replicate_zero, floors, rems, List.map_nil, List.sum_nil, Int.sub_zero] at h4 ⊢
    repeat' (first
      | with_reducible rfl
      | (with_reducible refine lt_i ?_; intro x hx; (try simp (disch := omega) only [wr, if_pos, if_neg, Int.sub_zero, Int.zero_add, set_mid2 _ _ _ _ _ hp, getD_mid, List.length_append, List.length_cons, List.length_nil, List.length_replicate, List.length_take, List.length_drop, Int.natCast_add, Int.toNat_natCast] at hx); (try simp only [min_if', max_if'] at hx); subst hx)
      | (with_reducible refine bif_t ?_ ?_; · ((try simp (disch := omega) only [wr, if_pos, if_neg, set_mid2 _ _ _ _ _ hp, getD_mid, List.length_append, List.length_cons, List.length_nil, List.length_replicate, List.length_take, List.length_drop, Int.natCast_add, Int.toNat_natCast]); (first | done | ((try simp only [min_if', max_if']); (first | done | ((try simp only [Bool.true_and, Bool.and_true, Bool.and_eq_true, Bool.and_eq_false_iff, Bool.or_eq_true, Bool.or_eq_false_iff, true_and, and_true, decide_eq_true_eq, decide_eq_false_iff_not, beq_iff_eq, beq_eq_false_iff_ne, bne_iff_ne, bne_eq_false_iff_eq, ne_eq, Bool.not_eq_true', Bool.not_eq_false', Decidable.not_not]) <;> omega))))))
      | (with_reducible refine bif_f ?_ ?_; · ((try simp (disch := omega) only [wr, if_pos, if_neg, set_mid2 _ _ _ _ _ hp, getD_mid, List.length_append, List.length_cons, List.length_nil, List.length_replicate, List.length_take, List.length_drop, Int.natCast_add, Int.toNat_natCast]); (first | done | ((try simp only [min_if', max_if']); (first | done | ((try simp only [Bool.true_and, Bool.and_true, Bool.and_eq_true, Bool.and_eq_false_iff, Bool.or_eq_true, Bool.or_eq_false_iff, true_and, and_true, decide_eq_true_eq, decide_eq_false_iff_not, beq_iff_eq, beq_eq_false_iff_ne, bne_iff_ne, bne_eq_false_iff_eq, ne_eq, Bool.not_eq_true', Bool.not_eq_false', Decidable.not_not]) <;> omega))))))
      | (with_reducible refine bif_s ?_ ?_ <;> (intro hc; (try simp (disch := omega) only [wr, if_pos, if_neg, set_mid2 _ _ _ _ _ hp, getD_mid, List.length_append, List.length_cons, List.length_nil, List.length_replicate, List.length_take, List.length_drop, Int.natCast_add, Int.toNat_natCast] at hc); (try simp only [min_if', max_if'] at hc); (try simp only [Bool.true_and, Bool.and_true, Bool.and_eq_true, Bool.and_eq_false_iff, Bool.or_eq_true, Bool.or_eq_false_iff, true_and, and_true, decide_eq_true_eq, decide_eq_false_iff_not, beq_iff_eq, beq_eq_false_iff_ne, bne_iff_ne, bne_eq_false_iff_eq, ne_eq, Bool.not_eq_true', Bool.not_eq_false', Decidable.not_not] at hc)))
      | fail "stuck")
  | cons x rest ih =>
    intro pre d1 d2 left n hn p1 p2 hb l1 l2 h4
    obtain ⟨n, rfl⟩ := one_more n (by simp at hn; omega)
    simp only [List.length_append, List.length_cons] at h4 hn
    have hx := hb x (by simp)
    obtain ⟨e0, e1, q0, q1, r0⟩ := mdUp1 hx.1 hx.2 h1 h2 h3
    have hf : 0 ≤ (floors a s rest).sum := (floors_bound h1 h2 (fun y hy => hb y (by simp [hy]))).2.1
    have ef : (floors a s (x :: rest)) = a * x / s :: floors a s rest := rfl
    have er : (rems a s (x :: rest)).map phiR = phiR (a * x % s) :: (rems a s rest).map phiR := rfl
    rw [ef, List.sum_cons] at l2
    rw [ef, er, List.sum_cons]
    rw [L15_1_succ]; unfold L15_1s; dsimp only
    simp only [List.length_cons, List.replicate_succ]
    have := ih (pre ++ [x]) (d1 ++ [a * x / s]) (d2 ++ [phiR (a * x % s)]) (left - a * x / s) n (by omega) (by simp; omega) (by simp; omega) (fun y hy => hb y (by simp [hy])) (by omega) (by omega) (by simp; omega)
    simp only [List.append_assoc, List.cons_append, List.nil_append, List.length_append, List.length_cons, List.length_nil, Int.natCast_add] at this
    rw [show left - (a * x / s + (floors a s rest).sum) = left - a * x / s - (floors a s rest).sum by omega]
    by_cases hr : a * x % s > 0
    · rw [if_pos hr] at e1
      rw [show phiR (a * x % s) = a * x % s by unfold phiR; rw [if_neg (by omega)]] at this ⊢
      repeat' (first
        | with_reducible rfl
        | (with_reducible refine lt_i ?_; intro x hx; (try simp (disch := omega) only [wr, if_pos, if_neg, Int.sub_zero, Int.zero_add, e0, e1, set_mid2 _ _ _ _ _ p1, getD_mid2 _ _ _ _ _ p1, set_mid2 _ _ _ _ _ p2, getD_mid, List.length_append, List.length_cons, List.length_nil, List.length_replicate, List.length_take, List.length_drop, Int.natCast_add, Int.toNat_natCast] at hx); (try simp only [min_if', max_if'] at hx); subst hx)
        | (with_reducible refine bif_t ?_ ?_; · ((try simp (disch := omega) only [wr, if_pos, if_neg, e0, e1, set_mid2 _ _ _ _ _ p1, getD_mid2 _ _ _ _ _ p1, set_mid2 _ _ _ _ _ p2, getD_mid, List.length_append, List.length_cons, List.length_nil, List.length_replicate, List.length_take, List.length_drop, Int.natCast_add, Int.toNat_natCast]); (first | done | ((try simp only [min_if', max_if']); (first | done | ((try simp only [Bool.true_and, Bool.and_true, Bool.and_eq_true, Bool.and_eq_false_iff, Bool.or_eq_true, Bool.or_eq_false_iff, true_and, and_true, decide_eq_true_eq, decide_eq_false_iff_not, beq_iff_eq, beq_eq_false_iff_ne, bne_iff_ne, bne_eq_false_iff_eq, ne_eq, Bool.not_eq_true', Bool.not_eq_false', Decidable.not_not]) <;> omega))))))
        | (with_reducible refine bif_f ?_ ?_; · ((try simp (disch := omega) only [wr, if_pos, if_neg, e0, e1, set_mid2 _ _ _ _ _ p1, getD_mid2 _ _ _ _ _ p1, set_mid2 _ _ _ _ _ p2, getD_mid, List.length_append, List.length_cons, List.length_nil, List.length_replicate, List.length_take, List.length_drop, Int.natCast_add, Int.toNat_natCast]); (first | done | ((try simp only [min_if', max_if']); (first | done | ((try simp only [Bool.true_and, Bool.and_true, Bool.and_eq_true, Bool.and_eq_false_iff, Bool.or_eq_true, Bool.or_eq_false_iff, true_and, and_true, decide_eq_true_eq, decide_eq_false_iff_not, beq_iff_eq, beq_eq_false_iff_ne, bne_iff_ne, bne_eq_false_iff_eq, ne_eq, Bool.not_eq_true', Bool.not_eq_false', Decidable.not_not]) <;> omega))))))
        | (with_reducible refine bif_s ?_ ?_ <;> (intro hc; (try simp (disch := omega) only [wr, if_pos, if_neg, e0, e1, set_mid2 _ _ _ _ _ p1, getD_mid2 _ _ _ _ _ p1, set_mid2 _ _ _ _ _ p2, getD_mid, List.length_append, List.length_cons, List.length_nil, List.length_replicate, List.length_take, List.length_drop, Int.natCast_add, Int.toNat_natCast] at hc); (try simp only [min_if', max_if'] at hc); (try simp only [Bool.true_and, Bool.and_true, Bool.and_eq_true, Bool.and_eq_false_iff, Bool.or_eq_true, Bool.or_eq_false_iff, true_and, and_true, decide_eq_true_eq, decide_eq_false_iff_not, beq_iff_eq, beq_eq_false_iff_ne, bne_iff_ne, bne_eq_false_iff_eq, ne_eq, Bool.not_eq_true', Bool.not_eq_false', Decidable.not_not] at hc)))
        | fail "stuck")
      simp (disch := omega) only [wr, e0, set_mid2 _ _ _ _ _ p1, getD_mid2 _ _ _ _ _ p1, set_mid2 _ _ _ _ _ p2, getD_mid, Int.toNat_natCast, List.length_append, List.length_cons, List.length_nil, Int.natCast_add, Int.mul_comm x a] at this ⊢
      exact this
    · rw [if_neg hr, Int.add_zero] at e1
      rw [show phiR (a * x % s) = -1 by unfold phiR; rw [if_pos (by omega)]] at this ⊢
      repeat' (first
        | with_reducible rfl
        | (with_reducible refine lt_i ?_; intro x hx; (try simp (disch := omega) only [wr, if_pos, if_neg, Int.sub_zero, Int.zero_add, e0, e1, set_mid2 _ _ _ _ _ p1, getD_mid2 _ _ _ _ _ p1, set_mid2 _ _ _ _ _ p2, getD_mid, List.length_append, List.length_cons, List.length_nil, List.length_replicate, List.length_take, List.length_drop, Int.natCast_add, Int.toNat_natCast] at hx); (try simp only [min_if', max_if'] at hx); subst hx)
        | (with_reducible refine bif_t ?_ ?_; · ((try simp (disch := omega) only [wr, if_pos, if_neg, e0, e1, set_mid2 _ _ _ _ _ p1, getD_mid2 _ _ _ _ _ p1, set_mid2 _ _ _ _ _ p2, getD_mid, List.length_append, List.length_cons, List.length_nil, List.length_replicate, List.length_take, List.length_drop, Int.natCast_add, Int.toNat_natCast]); (first | done | ((try simp only [min_if', max_if']); (first | done | ((try simp only [Bool.true_and, Bool.and_true, Bool.and_eq_true, Bool.and_eq_false_iff, Bool.or_eq_true, Bool.or_eq_false_iff, true_and, and_true, decide_eq_true_eq, decide_eq_false_iff_not, beq_iff_eq, beq_eq_false_iff_ne, bne_iff_ne, bne_eq_false_iff_eq, ne_eq, Bool.not_eq_true', Bool.not_eq_false', Decidable.not_not]) <;> omega))))))
        | (with_reducible refine bif_f ?_ ?_; · ((try simp (disch := omega) only [wr, if_pos, if_neg, e0, e1, set_mid2 _ _ _ _ _ p1, getD_mid2 _ _ _ _ _ p1, set_mid2 _ _ _ _ _ p2, getD_mid, List.length_append, List.length_cons, List.length_nil, List.length_replicate, List.length_take, List.length_drop, Int.natCast_add, Int.toNat_natCast]); (first | done | ((try simp only [min_if', max_if']); (first | done | ((try simp only [Bool.true_and, Bool.and_true, Bool.and_eq_true, Bool.and_eq_false_iff, Bool.or_eq_true, Bool.or_eq_false_iff, true_and, and_true, decide_eq_true_eq, decide_eq_false_iff_not, beq_iff_eq, beq_eq_false_iff_ne, bne_iff_ne, bne_eq_false_iff_eq, ne_eq, Bool.not_eq_true', Bool.not_eq_false', Decidable.not_not]) <;> omega))))))
        | (with_reducible refine bif_s ?_ ?_ <;> (intro hc; (try simp (disch := omega) only [wr, if_pos, if_neg, e0, e1, set_mid2 _ _ _ _ _ p1, getD_mid2 _ _ _ _ _ p1, set_mid2 _ _ _ _ _ p2, getD_mid, List.length_append, List.length_cons, List.length_nil, List.length_replicate, List.length_take, List.length_drop, Int.natCast_add, Int.toNat_natCast] at hc); (try simp only [min_if', max_if'] at hc); (try simp only [Bool.true_and, Bool.and_true, Bool.and_eq_true, Bool.and_eq_false_iff, Bool.or_eq_true, Bool.or_eq_false_iff, true_and, and_true, decide_eq_true_eq, decide_eq_false_iff_not, beq_iff_eq, beq_eq_false_iff_ne, bne_iff_ne, bne_eq_false_iff_eq, ne_eq, Bool.not_eq_true', Bool.not_eq_false', Decidable.not_not] at hc)))
        | fail "stuck")
      simp (disch := omega) only [wr, e0, set_mid2 _ _ _ _ _ p1, getD_mid2 _ _ _ _ _ p1, set_mid2 _ _ _ _ _ p2, getD_mid, Int.toNat_natCast, List.length_append, List.length_cons, List.length_nil, Int.natCast_add] at this ⊢
      exact this

def q15 : List Un → Option (Bool × List Un)
  | [.i a0, .l a1] => some (decide (a0 ≤ 9223372036854775807 ∧ a1.length < 1099511627776), [.l (proV a0 a1)])
  | _ => none
def e15 : EntS := ⟨N15, X15, q15⟩

theorem spec15 (a0 : Int) (a1 : List Int) (hc : (decide (a0 ≤ 9223372036854775807 ∧ a1.length < 1099511627776)) = true) : ∃ m, t15 m a0 a1 = some [.l (proV a0 a1)] := by
  obtain ⟨h1, h2⟩ := of_decide_eq_true hc
  clear hc
  refine ⟨1152921504606846976 + a1.length + 2, ?_⟩
  unfold t15 proV
  cases hok : sumOk a1 with
  | false =>
    simp only [Bool.not_false, cond_true]
    repeat' (first
        | with_reducible rfl
        | (with_reducible refine lt_i ?_; intro x hx; (try simp (disch := omega) only [wr, if_pos, if_neg, Int.sub_zero, Int.zero_add, hok, Bool.not_true, List.length_append, List.length_cons, List.length_nil, List.length_replicate, List.length_take, List.length_drop, Int.natCast_add, Int.toNat_natCast] at hx); (try simp only [min_if', max_if'] at hx); subst hx)
        | (with_reducible refine bif_t ?_ ?_; · ((try simp (disch := omega) only [wr, if_pos, if_neg, hok, Bool.not_true, List.length_append, List.length_cons, List.length_nil, List.length_replicate, List.length_take, List.length_drop, Int.natCast_add, Int.toNat_natCast]); (first | done | ((try simp only [min_if', max_if']); (first | done | ((try simp only [Bool.true_and, Bool.and_true, Bool.and_eq_true, Bool.and_eq_false_iff, Bool.or_eq_true, Bool.or_eq_false_iff, true_and, and_true, decide_eq_true_eq, decide_eq_false_iff_not, beq_iff_eq, beq_eq_false_iff_ne, bne_iff_ne, bne_eq_false_iff_eq, ne_eq, Bool.not_eq_true', Bool.not_eq_false', Decidable.not_not]) <;> omega))))))
        | (with_reducible refine bif_f ?_ ?_; · ((try simp (disch := omega) only [wr, if_pos, if_neg, hok, Bool.not_true, List.length_append, List.length_cons, List.length_nil, List.length_replicate, List.length_take, List.length_drop, Int.natCast_add, Int.toNat_natCast]); (first | done | ((try simp only [min_if', max_if']); (first | done | ((try simp only [Bool.true_and, Bool.and_true, Bool.and_eq_true, Bool.and_eq_false_iff, Bool.or_eq_true, Bool.or_eq_false_iff, true_and, and_true, decide_eq_true_eq, decide_eq_false_iff_not, beq_iff_eq, beq_eq_false_iff_ne, bne_iff_ne, bne_eq_false_iff_eq, ne_eq, Bool.not_eq_true', Bool.not_eq_false', Decidable.not_not]) <;> omega))))))
        | (with_reducible refine bif_s ?_ ?_ <;> (intro hc; (try simp (disch := omega) only [wr, if_pos, if_neg, hok, Bool.not_true, List.length_append, List.length_cons, List.length_nil, List.length_replicate, List.length_take, List.length_drop, Int.natCast_add, Int.toNat_natCast] at hc); (try simp only [min_if', max_if'] at hc); (try simp only [Bool.true_and, Bool.and_true, Bool.and_eq_true, Bool.and_eq_false_iff, Bool.or_eq_true, Bool.or_eq_false_iff, true_and, and_true, decide_eq_true_eq, decide_eq_false_iff_not, beq_iff_eq, beq_eq_false_iff_ne, bne_iff_ne, bne_eq_false_iff_eq, ne_eq, Bool.not_eq_true', Bool.not_eq_false', Decidable.not_not] at hc)))
        | fail "stuck")
  | true =>
    simp only [Bool.not_true, cond_false]
    obtain ⟨hb, hs, hs2⟩ := sumOk_inv hok
    have hs0 := sum_nonneg a1 (fun x hx => (hb x hx).1)
    by_cases hz : sumV a1 = 0
    · have ez := zeros_of_sum a1 (fun x hx => (hb x hx).1) (by omega)
      rw [hz, show decide (max a0 0 ≥ 0) = true from decide_eq_true (by omega), cond_true]
      generalize hk : (1152921504606846976 + a1.length + 2) = k
      conv => rhs; rw [ez]
      repeat' (first
        | with_reducible rfl
        | (with_reducible refine lt_i ?_; intro x hx; (try simp (disch := omega) only [wr, if_pos, if_neg, Int.sub_zero, Int.zero_add, hok, Bool.not_true, List.length_append, List.length_cons, List.length_nil, List.length_replicate, List.length_take, List.length_drop, Int.natCast_add, Int.toNat_natCast] at hx); (try simp only [min_if', max_if'] at hx); subst hx)
        | (with_reducible refine bif_t ?_ ?_; · ((try simp (disch := omega) only [wr, if_pos, if_neg, hok, Bool.not_true, List.length_append, List.length_cons, List.length_nil, List.length_replicate, List.length_take, List.length_drop, Int.natCast_add, Int.toNat_natCast]); (first | done | ((try simp only [min_if', max_if']); (first | done | ((try simp only [Bool.true_and, Bool.and_true, Bool.and_eq_true, Bool.and_eq_false_iff, Bool.or_eq_true, Bool.or_eq_false_iff, true_and, and_true, decide_eq_true_eq, decide_eq_false_iff_not, beq_iff_eq, beq_eq_false_iff_ne, bne_iff_ne, bne_eq_false_iff_eq, ne_eq, Bool.not_eq_true', Bool.not_eq_false', Decidable.not_not]) <;> omega))))))
        | (with_reducible refine bif_f ?_ ?_; · ((try simp (disch := omega) only [wr, if_pos, if_neg, hok, Bool.not_true, List.length_append, List.length_cons, List.length_nil, List.length_replicate, List.length_take, List.length_drop, Int.natCast_add, Int.toNat_natCast]); (first | done | ((try simp only [min_if', max_if']); (first | done | ((try simp only [Bool.true_and, Bool.and_true, Bool.and_eq_true, Bool.and_eq_false_iff, Bool.or_eq_true, Bool.or_eq_false_iff, true_and, and_true, decide_eq_true_eq, decide_eq_false_iff_not, beq_iff_eq, beq_eq_false_iff_ne, bne_iff_ne, bne_eq_false_iff_eq, ne_eq, Bool.not_eq_true', Bool.not_eq_false', Decidable.not_not]) <;> omega))))))
        | (with_reducible refine bif_s ?_ ?_ <;> (intro hc; (try simp (disch := omega) only [wr, if_pos, if_neg, hok, Bool.not_true, List.length_append, List.length_cons, List.length_nil, List.length_replicate, List.length_take, List.length_drop, Int.natCast_add, Int.toNat_natCast] at hc); (try simp only [min_if', max_if'] at hc); (try simp only [Bool.true_and, Bool.and_true, Bool.and_eq_true, Bool.and_eq_false_iff, Bool.or_eq_true, Bool.or_eq_false_iff, true_and, and_true, decide_eq_true_eq, decide_eq_false_iff_not, beq_iff_eq, beq_eq_false_iff_ne, bne_iff_ne, bne_eq_false_iff_eq, ne_eq, Bool.not_eq_true', Bool.not_eq_false', Decidable.not_not] at hc)))
        | fail "stuck")
    by_cases h0 : a0 ≤ 0
    · rw [show max a0 0 = 0 by omega, show decide (0 ≥ sumV a1) = false from decide_eq_false (by omega), cond_false, floors_zero, sum_rep]
      show _ = some [Un.l (List.replicate a1.length 0)]
      repeat' (first
        | with_reducible rfl
        | (with_reducible refine lt_i ?_; intro x hx; (try simp (disch := omega) only [wr, if_pos, if_neg, Int.sub_zero, Int.zero_add, hok, Bool.not_true, List.length_append, List.length_cons, List.length_nil, List.length_replicate, List.length_take, List.length_drop, Int.natCast_add, Int.toNat_natCast] at hx); (try simp only [min_if', max_if'] at hx); subst hx)
        | (with_reducible refine bif_t ?_ ?_; · ((try simp (disch := omega) only [wr, if_pos, if_neg, hok, Bool.not_true, List.length_append, List.length_cons, List.length_nil, List.length_replicate, List.length_take, List.length_drop, Int.natCast_add, Int.toNat_natCast]); (first | done | ((try simp only [min_if', max_if']); (first | done | ((try simp only [Bool.true_and, Bool.and_true, Bool.and_eq_true, Bool.and_eq_false_iff, Bool.or_eq_true, Bool.or_eq_false_iff, true_and, and_true, decide_eq_true_eq, decide_eq_false_iff_not, beq_iff_eq, beq_eq_false_iff_ne, bne_iff_ne, bne_eq_false_iff_eq, ne_eq, Bool.not_eq_true', Bool.not_eq_false', Decidable.not_not]) <;> omega))))))
        | (with_reducible refine bif_f ?_ ?_; · ((try simp (disch := omega) only [wr, if_pos, if_neg, hok, Bool.not_true, List.length_append, List.length_cons, List.length_nil, List.length_replicate, List.length_take, List.length_drop, Int.natCast_add, Int.toNat_natCast]); (first | done | ((try simp only [min_if', max_if']); (first | done | ((try simp only [Bool.true_and, Bool.and_true, Bool.and_eq_true, Bool.and_eq_false_iff, Bool.or_eq_true, Bool.or_eq_false_iff, true_and, and_true, decide_eq_true_eq, decide_eq_false_iff_not, beq_iff_eq, beq_eq_false_iff_ne, bne_iff_ne, bne_eq_false_iff_eq, ne_eq, Bool.not_eq_true', Bool.not_eq_false', Decidable.not_not]) <;> omega))))))
        | (with_reducible refine bif_s ?_ ?_ <;> (intro hc; (try simp (disch := omega) only [wr, if_pos, if_neg, hok, Bool.not_true, List.length_append, List.length_cons, List.length_nil, List.length_replicate, List.length_take, List.length_drop, Int.natCast_add, Int.toNat_natCast] at hc); (try simp only [min_if', max_if'] at hc); (try simp only [Bool.true_and, Bool.and_true, Bool.and_eq_true, Bool.and_eq_false_iff, Bool.or_eq_true, Bool.or_eq_false_iff, true_and, and_true, decide_eq_true_eq, decide_eq_false_iff_not, beq_iff_eq, beq_eq_false_iff_ne, bne_iff_ne, bne_eq_false_iff_eq, ne_eq, Bool.not_eq_true', Bool.not_eq_false', Decidable.not_not] at hc)))
        | fail "stuck")
    rw [show max a0 0 = a0 by omega]
    by_cases hge : a0 ≥ sumV a1
    · simp only [show decide (a0 ≥ sumV a1) = true from decide_eq_true hge, cond_true]
      have := copyL15 (1152921504606846976 + a1.length + 2) a1 [] [] (1152921504606846976 + a1.length + 2) (by omega) rfl (by simpa using h2)
      repeat' (first
        | with_reducible rfl
        | (with_reducible refine lt_i ?_; intro x hx; (try simp (disch := omega) only [wr, if_pos, if_neg, Int.sub_zero, Int.zero_add, hok, Bool.not_true, List.length_append, List.length_cons, List.length_nil, List.length_replicate, List.length_take, List.length_drop, Int.natCast_add, Int.toNat_natCast] at hx); (try simp only [min_if', max_if'] at hx); subst hx)
        | (with_reducible refine bif_t ?_ ?_; · ((try simp (disch := omega) only [wr, if_pos, if_neg, hok, Bool.not_true, List.length_append, List.length_cons, List.length_nil, List.length_replicate, List.length_take, List.length_drop, Int.natCast_add, Int.toNat_natCast]); (first | done | ((try simp only [min_if', max_if']); (first | done | ((try simp only [Bool.true_and, Bool.and_true, Bool.and_eq_true, Bool.and_eq_false_iff, Bool.or_eq_true, Bool.or_eq_false_iff, true_and, and_true, decide_eq_true_eq, decide_eq_false_iff_not, beq_iff_eq, beq_eq_false_iff_ne, bne_iff_ne, bne_eq_false_iff_eq, ne_eq, Bool.not_eq_true', Bool.not_eq_false', Decidable.not_not]) <;> omega))))))
        | (with_reducible refine bif_f ?_ ?_; · ((try simp (disch := omega) only [wr, if_pos, if_neg, hok, Bool.not_true, List.length_append, List.length_cons, List.length_nil, List.length_replicate, List.length_take, List.length_drop, Int.natCast_add, Int.toNat_natCast]); (first | done | ((try simp only [min_if', max_if']); (first | done | ((try simp only [Bool.true_and, Bool.and_true, Bool.and_eq_true, Bool.and_eq_false_iff, Bool.or_eq_true, Bool.or_eq_false_iff, true_and, and_true, decide_eq_true_eq, decide_eq_false_iff_not, beq_iff_eq, beq_eq_false_iff_ne, bne_iff_ne, bne_eq_false_iff_eq, ne_eq, Bool.not_eq_true', Bool.not_eq_false', Decidable.not_not]) <;> omega))))))
        | (with_reducible refine bif_s ?_ ?_ <;> (intro hc; (try simp (disch := omega) only [wr, if_pos, if_neg, hok, Bool.not_true, List.length_append, List.length_cons, List.length_nil, List.length_replicate, List.length_take, List.length_drop, Int.natCast_add, Int.toNat_natCast] at hc); (try simp only [min_if', max_if'] at hc); (try simp only [Bool.true_and, Bool.and_true, Bool.and_eq_true, Bool.and_eq_false_iff, Bool.or_eq_true, Bool.or_eq_false_iff, true_and, and_true, decide_eq_true_eq, decide_eq_false_iff_not, beq_iff_eq, beq_eq_false_iff_ne, bne_iff_ne, bne_eq_false_iff_eq, ne_eq, Bool.not_eq_true', Bool.not_eq_false', Decidable.not_not] at hc)))
        | fail "stuck")
      exact this
    · simp only [show decide (a0 ≥ sumV a1) = false from decide_eq_false hge, cond_false]
      obtain ⟨f1, f2, f3⟩ := floors_bound (l := a1) (show 0 ≤ a0 by omega) (show a0 < sumV a1 by omega) hb
      have hlf : (floors a0 (sumV a1) a1).length = a1.length := by simp [floors]
      have hlr : (rems a0 (sumV a1) a1).length = a1.length := by simp [rems]
      have hne : a1 ≠ [] := by rintro rfl; simp at hs; omega
      have hnr : rems a0 (sumV a1) a1 ≠ [] := by intro h; have := congrArg List.length h; rw [hlr] at this; exact hne (List.eq_nil_of_length_eq_zero this)
      have hr0 : ∀ x ∈ rems a0 (sumV a1) a1, 0 ≤ x := by
        intro y hy
        obtain ⟨x, hx, rfl⟩ := List.mem_map.1 hy
        exact Int.emod_nonneg _ (by omega)
      have e1 := compL15 (1152921504606846976 + a1.length + 2) a0 (sumV a1) (by omega) (by omega) (by omega) a1 [] [] [] a0 (1152921504606846976 + a1.length + 2) (by omega) rfl rfl hb (by omega) (by omega) (by simpa using h2)
      have e2 := dealL15 (1152921504606846976 + a1.length + 2) _ (a0 - (floors a0 (sumV a1) a1).sum) (floors a0 (sumV a1) a1) ((rems a0 (sumV a1) a1).map phiR) (1152921504606846976 + a1.length + 2) rfl (by omega) (by omega) (by simp [hlf, hlr]) (by simp [hlr]; omega) (by simp [hlr]; omega)
        (by simp [hnr]) (fun x hx => by have := f1 x hx; omega)
      rw [deal_phi _ _ _ hr0 hnr] at e2
      repeat' (first
        | with_reducible rfl
        | (with_reducible refine lt_i ?_; intro x hx; (try simp (disch := omega) only [wr, if_pos, if_neg, Int.sub_zero, Int.zero_add, hok, Bool.not_true, List.length_append, List.length_cons, List.length_nil, List.length_replicate, List.length_take, List.length_drop, Int.natCast_add, Int.toNat_natCast] at hx); (try simp only [min_if', max_if'] at hx); subst hx)
        | (with_reducible refine bif_t ?_ ?_; · ((try simp (disch := omega) only [wr, if_pos, if_neg, hok, Bool.not_true, List.length_append, List.length_cons, List.length_nil, List.length_replicate, List.length_take, List.length_drop, Int.natCast_add, Int.toNat_natCast]); (first | done | ((try simp only [min_if', max_if']); (first | done | ((try simp only [Bool.true_and, Bool.and_true, Bool.and_eq_true, Bool.and_eq_false_iff, Bool.or_eq_true, Bool.or_eq_false_iff, true_and, and_true, decide_eq_true_eq, decide_eq_false_iff_not, beq_iff_eq, beq_eq_false_iff_ne, bne_iff_ne, bne_eq_false_iff_eq, ne_eq, Bool.not_eq_true', Bool.not_eq_false', Decidable.not_not]) <;> omega))))))
        | (with_reducible refine bif_f ?_ ?_; · ((try simp (disch := omega) only [wr, if_pos, if_neg, hok, Bool.not_true, List.length_append, List.length_cons, List.length_nil, List.length_replicate, List.length_take, List.length_drop, Int.natCast_add, Int.toNat_natCast]); (first | done | ((try simp only [min_if', max_if']); (first | done | ((try simp only [Bool.true_and, Bool.and_true, Bool.and_eq_true, Bool.and_eq_false_iff, Bool.or_eq_true, Bool.or_eq_false_iff, true_and, and_true, decide_eq_true_eq, decide_eq_false_iff_not, beq_iff_eq, beq_eq_false_iff_ne, bne_iff_ne, bne_eq_false_iff_eq, ne_eq, Bool.not_eq_true', Bool.not_eq_false', Decidable.not_not]) <;> omega))))))
        | (with_reducible refine bif_s ?_ ?_ <;> (intro hc; (try simp (disch := omega) only [wr, if_pos, if_neg, hok, Bool.not_true, List.length_append, List.length_cons, List.length_nil, List.length_replicate, List.length_take, List.length_drop, Int.natCast_add, Int.toNat_natCast] at hc); (try simp only [min_if', max_if'] at hc); (try simp only [Bool.true_and, Bool.and_true, Bool.and_eq_true, Bool.and_eq_false_iff, Bool.or_eq_true, Bool.or_eq_false_iff, true_and, and_true, decide_eq_true_eq, decide_eq_false_iff_not, beq_iff_eq, beq_eq_false_iff_ne, bne_iff_ne, bne_eq_false_iff_eq, ne_eq, Bool.not_eq_true', Bool.not_eq_false', Decidable.not_not] at hc)))
        | fail "stuck")
      exact (e1.trans e2)

theorem right15 : EntSRight Try.prog [] (ofTab TE) 15 e15 := by
  intro us ys h
  replace h : q15 us = some (true, ys) := h
  unfold q15 at h
  split at h
  · rename_i a0 a1
    simp only [Option.some.injEq, Prod.mk.injEq] at h
    obtain ⟨hc, rfl⟩ := h
    obtain ⟨m, hm⟩ := spec15 a0 a1 hc
    exact tells15 m a0 a1 hm
  · cases h

theorem inOrd_len : ∀ (l : List Int) (n : Int), (inOrd n l).length = l.length
  | [], _ => rfl
  | c :: l, n => by simp [inOrd, inOrd_len l]
theorem dealZ_len (z : Int) : ∀ (k : Nat) (o l : List Int), (dealZ z k o l).length = o.length
  | 0, _, _ => rfl
  | k + 1, o, l => by simp [dealZ, dealZ_len z k]
theorem proV_len (n : Int) (l : List Int) : (proV n l).length = l.length := by
  unfold proV
  cases sumOk l
  · simp
  · cases decide (max n 0 ≥ sumV l)
    · simp [dealZ_len, floors]
    · simp

end Go.Proofs.Ytibenahgbdhegaa
