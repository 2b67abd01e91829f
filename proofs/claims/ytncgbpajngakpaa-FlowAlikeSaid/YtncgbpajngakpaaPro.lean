/- A part of the walk. -/
import Derived.Test.YtncgbpajngakpaaKeep
namespace Go.Proofs.Ytncgbpajngakpaa
open Go Go.Proofs.Ytncgbpajngakpaa.Ev
set_option linter.unusedVariables false
set_option linter.unusedSimpArgs false
set_option linter.unnecessarySimpa false

def sumC : List Int → Int → Int × Bool
  | [], s => (s, true)
  | x :: l, s => bif (decide (x < 0) || decide (x > 1152921504606846976 - s)) then (0, false) else sumC l (s + x)
def sumV (l : List Int) : Int := (sumC l 0).1
def sumOk (l : List Int) : Bool := (sumC l 0).2
def rightV (l : List Int) : Bool := l.all fun x => decide (0 ≤ x ∧ x ≤ 1152921504606846976)
theorem sumC_ok : ∀ (l : List Int) (s b : Int), 0 ≤ s → 0 ≤ b → (∀ x ∈ l, 0 ≤ x ∧ x ≤ b) → s + l.length * b ≤ 1152921504606846976 → sumC l s = (s + l.sum, true)
  | [], s, b, _, _, _, _ => by simp [sumC]
  | x :: l, s, b, h1, h2, h3, h4 => by
    have hx := h3 x (by simp)
    have hm : 0 ≤ (l.length : Int) * b := Int.mul_nonneg (by omega) h2
    have e : ((x :: l).length : Int) * b = l.length * b + b := by rw [List.length_cons, Int.natCast_add, Int.add_mul]; simp
    rw [e] at h4
    have := sumC_ok l (s + x) b (by omega) h2 (fun y hy => h3 y (by simp [hy])) (by omega)
    simp only [sumC]
    rw [show (decide (x < 0) || decide (x > 1152921504606846976 - s)) = false by simp; omega, cond_false, this, List.sum_cons]
    congr 1
    omega
theorem sum_bound : ∀ (l : List Int) (b : Int), 0 ≤ b → (∀ x ∈ l, 0 ≤ x ∧ x ≤ b) → 0 ≤ l.sum ∧ l.sum ≤ l.length * b
  | [], b, _, _ => by simp
  | x :: l, b, h2, h3 => by
    have hx := h3 x (by simp)
    have e : ((x :: l).length : Int) * b = l.length * b + b := by rw [List.length_cons, Int.natCast_add, Int.add_mul]; simp
    have := sum_bound l b h2 (fun y hy => h3 y (by simp [hy]))
    rw [e, List.sum_cons]
    omega
theorem sumV_ok {l : List Int} {b : Int} (h2 : 0 ≤ b) (h3 : ∀ x ∈ l, 0 ≤ x ∧ x ≤ b) (h4 : l.length * b ≤ 1152921504606846976) : sumV l = l.sum ∧ sumOk l = true := by
  have := sumC_ok l 0 b (by omega) h2 h3 (by omega)
  unfold sumV sumOk
  rw [this]
  simp
def floors (n s : Int) (l : List Int) : List Int := l.map fun c => n * c / s
def rems (n s : Int) (l : List Int) : List Int := l.map fun c => n * c % s
theorem rightV_mem {l : List Int} : rightV l = true ↔ ∀ x ∈ l, 0 ≤ x ∧ x ≤ 1152921504606846976 := by simp [rightV]
/-- The first of the greatest: where it is. -/
def bestF (l : List Int) : List Int → Nat → Nat → Nat
  | [], _, b => b
  | x :: r, i, b => bestF l r (i + 1) (bif decide (x > l.getD b 0) then i else b)
def bestOf (l : List Int) : Nat := bestF l l 0 0
def dealZ (z : Int) : Nat → List Int → List Int → List Int
  | 0, o, _ => o
  | k + 1, o, l => dealZ z k (o.set (bestOf l) (o.getD (bestOf l) 0 + 1)) (l.set (bestOf l) z)
/-- Shares by weight. -/
def proV (n : Int) (l : List Int) : List Int :=
  bif !(sumOk l) then List.replicate l.length 0 else
  bif decide (max n 0 ≥ sumV l) then l else
  dealZ 0 (max n 0 - (floors (max n 0) (sumV l) l).sum).toNat (floors (max n 0) (sumV l) l) (rems (max n 0) (sumV l) l)
theorem bestF_lt (l : List Int) : ∀ (r : List Int) (i b : Nat), b < l.length → i + r.length ≤ l.length → bestF l r i b < l.length
  | [], _, b, h, _ => h
  | x :: r, i, b, h, h2 => by
    simp only [List.length_cons] at h2
    unfold bestF
    refine bestF_lt l r (i + 1) _ ?_ (by omega)
    cases decide (x > l.getD b 0)
    · exact h
    · show i < l.length; omega
theorem bestOf_lt {l : List Int} (h : l ≠ []) : bestOf l < l.length := bestF_lt l l 0 0 (List.length_pos_iff.2 h) (by simp)
theorem sumC_inv : ∀ (l : List Int) (s : Int), 0 ≤ s → s ≤ 1152921504606846976 → (sumC l s).2 = true → (∀ x ∈ l, 0 ≤ x ∧ x ≤ 1152921504606846976) ∧ (sumC l s).1 = s + l.sum ∧ s + l.sum ≤ 1152921504606846976
  | [], s, h1, h2, _ => by simp [sumC, h2]
  | x :: l, s, h1, h2, h3 => by
    simp only [sumC] at h3 ⊢
    by_cases hx : x < 0 ∨ x > 1152921504606846976 - s
    · rw [show (decide (x < 0) || decide (x > 1152921504606846976 - s)) = true by simpa using hx] at h3
      cases h3
    · rw [show (decide (x < 0) || decide (x > 1152921504606846976 - s)) = false by simp; omega] at h3 ⊢
      simp only [cond_false] at h3 ⊢
      obtain ⟨a, b, c⟩ := sumC_inv l (s + x) (by omega) (by omega) h3
      refine ⟨fun y hy => ?_, by rw [b, List.sum_cons]; omega, by rw [List.sum_cons]; omega⟩
      rcases List.mem_cons.1 hy with rfl | hy
      · omega
      · exact a y hy
theorem sumOk_inv {l : List Int} (h : sumOk l = true) : (∀ x ∈ l, 0 ≤ x ∧ x ≤ 1152921504606846976) ∧ sumV l = l.sum ∧ l.sum ≤ 1152921504606846976 := by
  obtain ⟨a, b, c⟩ := sumC_inv l 0 (by omega) (by omega) h
  exact ⟨a, by unfold sumV; omega, by omega⟩
theorem sum_nonneg : ∀ (l : List Int), (∀ x ∈ l, 0 ≤ x) → 0 ≤ l.sum
  | [], _ => by simp
  | x :: l, h => by
    have := h x (by simp)
    have := sum_nonneg l (fun y hy => h y (by simp [hy]))
    rw [List.sum_cons]; omega
theorem sum_le_sum {f g : Int → Int} : ∀ (l : List Int), (∀ x ∈ l, f x ≤ g x) → (l.map f).sum ≤ (l.map g).sum
  | [], _ => by simp
  | x :: l, h => by
    have := h x (by simp)
    have := sum_le_sum l (fun y hy => h y (by simp [hy]))
    simp only [List.map_cons, List.sum_cons]; omega
theorem floors_bound {n s : Int} {l : List Int} (h1 : 0 ≤ n) (h2 : n < s) (hb : ∀ x ∈ l, 0 ≤ x ∧ x ≤ 1152921504606846976) : (∀ y ∈ floors n s l, 0 ≤ y ∧ y ≤ 1152921504606846976) ∧ 0 ≤ (floors n s l).sum ∧ (floors n s l).sum ≤ l.sum := by
  have e : ∀ x ∈ l, 0 ≤ n * x / s ∧ n * x / s ≤ x := fun x hx => by
    have hx := hb x hx
    refine ⟨Int.ediv_nonneg (Int.mul_nonneg h1 hx.1) (by omega), ?_⟩
    have : n * x ≤ s * x := Int.mul_le_mul_of_nonneg_right (by omega) hx.1
    exact Int.ediv_le_of_le_mul (by omega) (by rw [Int.mul_comm x s]; exact this)
  have a : ∀ y ∈ floors n s l, 0 ≤ y ∧ y ≤ 1152921504606846976 := by
    intro y hy
    obtain ⟨x, hx, rfl⟩ := List.mem_map.1 hy
    have := e x hx; have := hb x hx
    omega
  refine ⟨a, sum_nonneg _ (fun y hy => (a y hy).1), ?_⟩
  have := sum_le_sum (f := fun c => n * c / s) (g := id) l (fun x hx => (e x hx).2)
  simpa [floors] using this
theorem getD_mem {l : List Int} {i : Nat} (h : i < l.length) : l.getD i 0 ∈ l := by
  rw [List.getD_eq_getElem?_getD, List.getElem?_eq_getElem h]; exact List.getElem_mem h
def phiR (r : Int) : Int := if r = 0 then -1 else r
theorem phiR_lt {x y : Int} (hx : 0 ≤ x) (hy : 0 ≤ y) : phiR x > phiR y ↔ x > y := by unfold phiR; split <;> split <;> omega
theorem map_getD {l : List Int} {b : Nat} (h : b < l.length) : (l.map phiR).getD b 0 = phiR (l.getD b 0) := by
  simp [List.getD_eq_getElem?_getD, List.getElem?_eq_getElem h]
theorem bestF_phi (l : List Int) (hl : ∀ x ∈ l, 0 ≤ x) : ∀ (r : List Int) (i b : Nat), (∀ x ∈ r, 0 ≤ x) → b < l.length → i + r.length ≤ l.length → bestF (l.map phiR) (r.map phiR) i b = bestF l r i b
  | [], _, b, _, _, _ => rfl
  | x :: r, i, b, hr, h, h2 => by
    simp only [List.length_cons] at h2
    simp only [List.map_cons, bestF]
    have hx := hr x (by simp)
    have hy := hl _ (getD_mem h)
    rw [map_getD h, show decide (phiR x > phiR (l.getD b 0)) = decide (x > l.getD b 0) by simp only [decide_eq_decide]; exact phiR_lt hx hy]
    refine bestF_phi l hl r (i + 1) _ (fun y hy => hr y (by simp [hy])) ?_ (by omega)
    cases decide (x > l.getD b 0)
    · exact h
    · show i < l.length; omega
theorem deal_phi : ∀ (k : Nat) (o l : List Int), (∀ x ∈ l, 0 ≤ x) → l ≠ [] → dealZ (-1) k o (l.map phiR) = dealZ 0 k o l
  | 0, _, _, _, _ => rfl
  | k + 1, o, l, hl, hne => by
    have e : bestOf (l.map phiR) = bestOf l := bestF_phi l hl l 0 0 hl (List.length_pos_iff.2 hne) (by simp)
    simp only [dealZ]
    rw [e, show (l.map phiR).set (bestOf l) (-1) = (l.set (bestOf l) 0).map phiR by rw [List.map_set]; rfl]
    exact deal_phi k _ _ (fun x hx => by
      rcases List.mem_or_eq_of_mem_set hx with h | h
      · exact hl x h
      · omega) (by intro h; simp at h; exact hne h)
theorem floors_zero (s : Int) (l : List Int) : floors 0 s l = List.replicate l.length 0 := by
  unfold floors
  rw [← List.map_const']
  congr 1
  funext c
  simp
theorem sum_rep (n : Nat) : (List.replicate n (0 : Int)).sum = 0 := by induction n with | zero => rfl | succ n ih => rw [List.replicate_succ, List.sum_cons, ih]; rfl
theorem zeros_of_sum : ∀ (l : List Int), (∀ x ∈ l, 0 ≤ x) → l.sum = 0 → l = List.replicate l.length 0
  | [], _, _ => rfl
  | x :: l, h, hs => by
    have hx := h x (by simp)
    have hl := sum_nonneg l (fun y hy => h y (by simp [hy]))
    rw [List.sum_cons] at hs
    have e := zeros_of_sum l (fun y hy => h y (by simp [hy])) (by omega)
    rw [List.length_cons, List.replicate_succ, ← e, show x = 0 by omega]
theorem dealZ_len (z : Int) : ∀ (k : Nat) (o l : List Int), (dealZ z k o l).length = o.length
  | 0, _, _ => rfl
  | k + 1, o, l => by simp [dealZ, dealZ_len z k]
theorem proV_len (n : Int) (l : List Int) : (proV n l).length = l.length := by
  unfold proV
  cases sumOk l
  · simp
  · cases decide (max n 0 ≥ sumV l)
    · simp [dealZ_len, floors]
    · simp
theorem sum_set : ∀ (l : List Int) (b : Nat) (v : Int), b < l.length → (l.set b v).sum = l.sum - l.getD b 0 + v
  | [], b, v, h => by simp at h
  | x :: l, 0, v, _ => by simp; omega
  | x :: l, b + 1, v, h => by
    have := sum_set l b v (by simpa using h)
    simp only [List.set_cons_succ, List.sum_cons, List.getD_cons_succ]
    omega
theorem getD_set (l : List Int) (b i : Nat) (v : Int) (h : b < l.length) : (l.set b v).getD i 0 = if i = b then v else l.getD i 0 := by
  simp only [List.getD_eq_getElem?_getD, List.getElem?_set]
  by_cases e : b = i
  · subst e; simp [h]
  · rw [if_neg e, if_neg (Ne.symm e)]
theorem bestF_inv (l : List Int) : ∀ (r pre : List Int) (b : Nat), l = pre ++ r → b < l.length → (∀ j, j < pre.length → l.getD j 0 ≤ l.getD b 0) → (∀ j, j < b → l.getD j 0 < l.getD b 0) → b ≤ pre.length →
    (∀ j, j < l.length → l.getD j 0 ≤ l.getD (bestF l r pre.length b) 0) ∧ ∀ j, j < bestF l r pre.length b → l.getD j 0 < l.getD (bestF l r pre.length b) 0
  | [], pre, b, he, hb, h1, h2, _ => by
    have : pre.length = l.length := by rw [he]; simp
    exact ⟨fun j hj => h1 j (by omega), h2⟩
  | x :: r, pre, b, he, hb, h1, h2, h3 => by
    have hg : l.getD pre.length 0 = x := by rw [he]; simp
    have hl : l.length = pre.length + (r.length + 1) := by rw [he]; simp
    have hp : (pre ++ [x]).length = pre.length + 1 := by simp
    simp only [bestF]
    rw [← hp]
    by_cases hx : x > l.getD b 0
    · rw [show decide (x > l.getD b 0) = true from decide_eq_true hx, cond_true]
      refine bestF_inv l r (pre ++ [x]) pre.length (by rw [he]; simp) (by omega) (fun j hj => ?_) (fun j hj => ?_) (by omega)
      · rw [hp] at hj
        by_cases e : j = pre.length
        · subst e; omega
        · have := h1 j (by omega); omega
      · have := h1 j hj; omega
    · rw [show decide (x > l.getD b 0) = false from decide_eq_false hx, cond_false]
      refine bestF_inv l r (pre ++ [x]) b (by rw [he]; simp) hb (fun j hj => ?_) h2 (by omega)
      rw [hp] at hj
      by_cases e : j = pre.length
      · subst e; omega
      · exact h1 j (by omega)
theorem bestOf_max {l : List Int} (h : l ≠ []) : (∀ j, j < l.length → l.getD j 0 ≤ l.getD (bestOf l) 0) ∧ ∀ j, j < bestOf l → l.getD j 0 < l.getD (bestOf l) 0 :=
  bestF_inv l l [] 0 rfl (List.length_pos_iff.2 h) (fun j hj => by simp at hj) (fun j hj => by omega) (by simp)
theorem sum_le_zero : ∀ (l : List Int), (∀ x ∈ l, x ≤ 0) → l.sum ≤ 0
  | [], _ => by simp
  | x :: l, h => by
    have := h x (by simp)
    have := sum_le_zero l (fun y hy => h y (by simp [hy]))
    rw [List.sum_cons]; omega
theorem mem_getD {l : List Int} {x : Int} (h : x ∈ l) : ∃ j, j < l.length ∧ l.getD j 0 = x := by
  obtain ⟨j, hj, rfl⟩ := List.getElem_of_mem h
  exact ⟨j, hj, by rw [List.getD_eq_getElem?_getD, List.getElem?_eq_getElem hj]; rfl⟩
theorem deal_spec {s : Int} (hs : 0 < s) : ∀ (k : Nat) (o l : List Int), o.length = l.length → (∀ x ∈ l, 0 ≤ x ∧ x < s) → s * (k : Int) ≤ l.sum →
    (dealZ 0 k o l).sum = o.sum + k ∧ (∀ i, i < l.length → (dealZ 0 k o l).getD i 0 = o.getD i 0 ∨ ((dealZ 0 k o l).getD i 0 = o.getD i 0 + 1 ∧ 0 < l.getD i 0)) ∧
    ∀ i j, i < j → j < l.length → l.getD j 0 ≤ l.getD i 0 → (dealZ 0 k o l).getD j 0 - o.getD j 0 ≤ (dealZ 0 k o l).getD i 0 - o.getD i 0
  | 0, o, l, hl, hb, hk => by simp [dealZ]
  | k + 1, o, l, hl, hb, hk => by
    have e1 : s * ((k + 1 : Nat) : Int) = s * k + s := by rw [Int.natCast_add, Int.mul_add]; simp
    rw [e1] at hk
    have hk0 : 0 ≤ s * (k : Int) := Int.mul_nonneg (by omega) (by omega)
    have hne : l ≠ [] := by rintro rfl; simp at hk; omega
    have hB := bestOf_lt hne
    obtain ⟨hm, hf⟩ := bestOf_max hne
    have hpos : 0 < l.getD (bestOf l) 0 := by
      rcases Int.lt_or_le 0 (l.getD (bestOf l) 0) with h | h
      · exact h
      · have := sum_le_zero l (fun x hx => by
          obtain ⟨j, hj, rfl⟩ := mem_getD hx
          have := hm j hj; omega)
        omega
    have hmem := hb _ (getD_mem hB)
    simp only [dealZ]
    generalize hbb : bestOf l = b at *
    have hs' := sum_set l b 0 hB
    have ho' := sum_set o b (o.getD b 0 + 1) (by omega)
    obtain ⟨g1, g2, g3⟩ := deal_spec hs k (o.set b (o.getD b 0 + 1)) (l.set b 0) (by simp [hl]) (fun x hx => by
      rcases List.mem_or_eq_of_mem_set hx with h | h
      · exact hb x h
      · omega) (by omega)
    generalize dealZ 0 k (o.set b (o.getD b 0 + 1)) (l.set b 0) = y at *
    simp only [List.length_set] at g2 g3
    refine ⟨by rw [g1, ho']; simp only [Int.natCast_add]; omega, fun i hi => ?_, fun i j hij hj hle => ?_⟩
    · have := g2 i hi
      rw [getD_set _ _ _ _ (by omega), getD_set _ _ _ _ hB] at this
      by_cases e : i = b
      · subst e; simp only [↓reduceIte] at this; right; omega
      · simpa [e] using this
    · have a1 := g2 i (by omega)
      have a2 := g2 j hj
      have a3 := g3 i j hij hj
      rw [getD_set _ _ _ _ (by omega), getD_set _ _ _ _ hB] at a1 a2
      rw [getD_set _ _ _ _ hB, getD_set _ _ _ _ hB, getD_set _ _ _ _ (by omega), getD_set _ _ _ _ (by omega)] at a3
      by_cases ei : i = b
      · subst ei
        have ne : ¬ j = i := by omega
        simp only [↓reduceIte, ne] at a1 a2 a3
        omega
      · by_cases ej : j = b
        · subst ej
          have := hf i hij
          omega
        · simp only [ei, ej, if_false] at a1 a2 a3
          exact a3 hle
theorem rems_sum (a s : Int) : ∀ l : List Int, s * (floors a s l).sum + (rems a s l).sum = a * l.sum
  | [] => by simp [floors, rems]
  | x :: l => by
    have := rems_sum a s l
    have e := Int.mul_ediv_add_emod (a * x) s
    show s * (a * x / s + (floors a s l).sum) + (a * x % s + (rems a s l).sum) = a * (x + l.sum)
    rw [Int.mul_add, Int.mul_add]
    omega
theorem map_getD' (f : Int → Int) {l : List Int} {b : Nat} (h : b < l.length) : (l.map f).getD b 0 = f (l.getD b 0) := by
  simp [List.getD_eq_getElem?_getD, List.getElem?_eq_getElem h]
/-- Shares by weight: each is its exact part, or the next number above; the greater remainders first, the first ones ahead. -/
theorem proV_part {a : Int} {l : List Int} (ha : 0 ≤ a) (hok : sumOk l = true) (hlt : a < l.sum) : (proV a l).sum = a ∧
    (∀ i, i < l.length → (proV a l).getD i 0 = a * l.getD i 0 / l.sum ∨ ((proV a l).getD i 0 = a * l.getD i 0 / l.sum + 1 ∧ 0 < a * l.getD i 0 % l.sum)) ∧
    ∀ i j, i < j → j < l.length → a * l.getD j 0 % l.sum ≤ a * l.getD i 0 % l.sum → (proV a l).getD j 0 - a * l.getD j 0 / l.sum ≤ (proV a l).getD i 0 - a * l.getD i 0 / l.sum := by
  obtain ⟨hb, hs, hs2⟩ := sumOk_inv hok
  have hr : ∀ x ∈ rems a l.sum l, 0 ≤ x ∧ x < l.sum := by
    intro y hy
    obtain ⟨x, hx, rfl⟩ := List.mem_map.1 hy
    exact ⟨Int.emod_nonneg _ (by omega), Int.emod_lt_of_pos _ (by omega)⟩
  have hsum := rems_sum a l.sum l
  have hr0 := sum_nonneg _ (fun x hx => (hr x hx).1)
  have hk : 0 ≤ a - (floors a l.sum l).sum := by
    have : l.sum * (floors a l.sum l).sum ≤ l.sum * a := by rw [Int.mul_comm l.sum a]; omega
    have := Int.le_of_mul_le_mul_left this (by omega)
    omega
  have he : proV a l = dealZ 0 (a - (floors a l.sum l).sum).toNat (floors a l.sum l) (rems a l.sum l) := by
    unfold proV
    rw [hok, hs, show max a 0 = a by omega, show decide (a ≥ l.sum) = false from decide_eq_false (by omega)]
    rfl
  have hl1 : (floors a l.sum l).length = l.length := by simp [floors]
  have hl2 : (rems a l.sum l).length = l.length := by simp [rems]
  have d := deal_spec (s := l.sum) (by omega) (a - (floors a l.sum l).sum).toNat (floors a l.sum l) (rems a l.sum l) (by omega) hr (by
    rw [Int.toNat_of_nonneg hk, Int.mul_sub, Int.mul_comm l.sum a]; omega)
  rw [← he, hl2] at d
  obtain ⟨d1, d2, d3⟩ := d
  have ef : ∀ i, i < l.length → (floors a l.sum l).getD i 0 = a * l.getD i 0 / l.sum := fun i hi => map_getD' _ hi
  have er : ∀ i, i < l.length → (rems a l.sum l).getD i 0 = a * l.getD i 0 % l.sum := fun i hi => map_getD' _ hi
  refine ⟨by rw [d1, Int.toNat_of_nonneg hk]; omega, fun i hi => ?_, fun i j hij hj hle => ?_⟩
  · have := d2 i hi
    rwa [ef i hi, er i hi] at this
  · have := d3 i j hij hj (by rw [er i (by omega), er j hj]; exact hle)
    rwa [ef i (by omega), ef j hj] at this
theorem proV_full {a : Int} {l : List Int} (hok : sumOk l = true) (hge : l.sum ≤ max a 0) : proV a l = l := by
  obtain ⟨hb, hs, hs2⟩ := sumOk_inv hok
  unfold proV
  rw [hok, hs, show decide (max a 0 ≥ l.sum) = true from decide_eq_true hge]
  rfl
theorem part_le {a x s : Int} (ha : 0 ≤ a) (hlt : a < s) (hx : 0 ≤ x) : 0 ≤ a * x / s ∧ a * x / s ≤ x ∧ (0 < a * x % s → a * x / s + 1 ≤ x) := by
  have e := Int.mul_ediv_add_emod (a * x) s
  have hm : a * x ≤ (s - 1) * x := Int.mul_le_mul_of_nonneg_right (by omega) hx
  have hsx : (s - 1) * x = s * x - x := by rw [Int.sub_mul, Int.one_mul]
  refine ⟨Int.ediv_nonneg (Int.mul_nonneg ha hx) (by omega), Int.ediv_le_of_le_mul (by omega) (by rw [Int.mul_comm x s]; omega), fun h => ?_⟩
  have : s * (a * x / s) < s * x := by omega
  have := Int.lt_of_mul_lt_mul_left this (by omega)
  omega
theorem proV_sum {a : Int} {l : List Int} (ha : 0 ≤ a) (hok : sumOk l = true) : (proV a l).sum = min a l.sum ∧ ∀ i, i < l.length → 0 ≤ (proV a l).getD i 0 ∧ (proV a l).getD i 0 ≤ l.getD i 0 := by
  obtain ⟨hb, hs, hs2⟩ := sumOk_inv hok
  by_cases h : l.sum ≤ a
  · rw [proV_full hok (by omega)]
    exact ⟨by omega, fun i hi => ⟨(hb _ (getD_mem hi)).1, Int.le_refl _⟩⟩
  · obtain ⟨h1, h2, _⟩ := proV_part ha hok (by omega)
    refine ⟨by omega, fun i hi => ?_⟩
    have hx := hb _ (getD_mem hi)
    have := part_le (a := a) (s := l.sum) ha (by omega) hx.1
    rcases h2 i hi with h | ⟨h, h'⟩ <;> omega
/-- Numbers of those that were picked, with nought for the others. -/
def maskV : List Bool → List Int → List Int
  | [], _ => []
  | false :: ms, l => 0 :: maskV ms l
  | true :: ms, l => l.headD 0 :: maskV ms l.tail
def posV : List Bool → Nat → Nat
  | [], _ => 0
  | false :: ms, i => posV ms i + 1
  | true :: _, 0 => 0
  | true :: ms, i + 1 => posV ms i + 1
def trues : List Bool → Nat
  | [] => 0
  | false :: ms => trues ms
  | true :: ms => trues ms + 1
theorem maskV_len : ∀ (ms : List Bool) (l : List Int), (maskV ms l).length = ms.length
  | [], _ => rfl
  | false :: ms, l => by simp [maskV, maskV_len ms l]
  | true :: ms, l => by simp [maskV, maskV_len ms l.tail]
theorem posV_lt : ∀ (ms : List Bool) (i : Nat), i < trues ms → posV ms i < ms.length
  | [], i, h => by simp [trues] at h
  | false :: ms, i, h => by have := posV_lt ms i h; simp [posV]; omega
  | true :: ms, 0, _ => by simp [posV]
  | true :: ms, i + 1, h => by have := posV_lt ms i (by simpa [trues] using h); simp [posV]; omega
theorem posV_mono : ∀ (ms : List Bool) (i j : Nat), i < j → j < trues ms → posV ms i < posV ms j
  | [], i, j, _, h => by simp [trues] at h
  | false :: ms, i, j, h, h2 => by have := posV_mono ms i j h h2; simp [posV]; omega
  | true :: ms, 0, j + 1, _, _ => by simp [posV]
  | true :: ms, i + 1, j + 1, h, h2 => by have := posV_mono ms i j (by omega) (by simpa [trues] using h2); simp [posV]; omega
theorem mask_getD : ∀ (ms : List Bool) (l : List Int) (i : Nat), l.length = trues ms → i < trues ms → (maskV ms l).getD (posV ms i) 0 = l.getD i 0
  | [], l, i, _, h => by simp [trues] at h
  | false :: ms, l, i, h, h2 => by simp only [maskV, posV, List.getD_cons_succ]; exact mask_getD ms l i h h2
  | true :: ms, [], i, h, _ => by simp [trues] at h
  | true :: ms, x :: l, 0, h, _ => by simp [maskV, posV]
  | true :: ms, x :: l, i + 1, h, h2 => by
    simp only [maskV, posV, List.getD_cons_succ, List.tail_cons]
    exact mask_getD ms l i (by simpa [trues] using h) (by simpa [trues] using h2)
theorem mask_set : ∀ (ms : List Bool) (l : List Int) (i : Nat) (v : Int), l.length = trues ms → i < trues ms → (maskV ms l).set (posV ms i) v = maskV ms (l.set i v)
  | [], l, i, v, _, h => by simp [trues] at h
  | false :: ms, l, i, v, h, h2 => by simp only [maskV, posV, List.set_cons_succ]; rw [mask_set ms l i v h h2]
  | true :: ms, [], i, v, h, _ => by simp [trues] at h
  | true :: ms, x :: l, 0, v, h, _ => by simp [maskV, posV]
  | true :: ms, x :: l, i + 1, v, h, h2 => by
    simp only [maskV, posV, List.set_cons_succ, List.tail_cons, List.headD_cons]
    rw [mask_set ms l i v (by simpa [trues] using h) (by simpa [trues] using h2)]
theorem mask_at : ∀ (ms : List Bool) (p : Nat), p < ms.length → (∃ i, i < trues ms ∧ p = posV ms i) ∨ ∀ l, (maskV ms l).getD p 0 = 0
  | [], p, h => by simp at h
  | false :: ms, 0, _ => .inr fun l => by simp [maskV]
  | true :: ms, 0, _ => .inl ⟨0, by simp [trues], by simp [posV]⟩
  | false :: ms, p + 1, h => by
    rcases mask_at ms p (by simpa using h) with ⟨i, h1, h2⟩ | h2
    · exact .inl ⟨i, h1, by simp [posV, h2]⟩
    · exact .inr fun l => by simp only [maskV, List.getD_cons_succ]; exact h2 l
  | true :: ms, p + 1, h => by
    rcases mask_at ms p (by simpa using h) with ⟨i, h1, h2⟩ | h2
    · exact .inl ⟨i + 1, by simp [trues, h1], by simp [posV, h2]⟩
    · exact .inr fun l => by simp only [maskV, List.getD_cons_succ]; exact h2 _
theorem bestOf_uniq {l : List Int} {b : Nat} (hb : b < l.length) (h1 : ∀ j, j < l.length → l.getD j 0 ≤ l.getD b 0) (h2 : ∀ j, j < b → l.getD j 0 < l.getD b 0) : bestOf l = b := by
  have hne : l ≠ [] := by rintro rfl; simp at hb
  obtain ⟨m1, m2⟩ := bestOf_max hne
  have hB := bestOf_lt hne
  rcases Nat.lt_trichotomy (bestOf l) b with h | h | h
  · have := h2 _ h; have := m1 b hb; omega
  · exact h
  · have := m2 _ h; have := h1 _ hB; omega
theorem bestOf_mask (ms : List Bool) (l : List Int) (hl : l.length = trues ms) (hp : 0 < l.getD (bestOf l) 0) : bestOf (maskV ms l) = posV ms (bestOf l) := by
  have hne : l ≠ [] := by rintro rfl; simp at hp
  obtain ⟨m1, m2⟩ := bestOf_max hne
  have hB := bestOf_lt hne
  rw [hl] at hB
  refine bestOf_uniq (by rw [maskV_len]; exact posV_lt ms _ hB) (fun j hj => ?_) (fun j hj => ?_)
  · rw [mask_getD ms l _ hl hB]
    rw [maskV_len] at hj
    rcases mask_at ms j hj with ⟨i, h1, rfl⟩ | h2
    · rw [mask_getD ms l i hl h1]; exact m1 i (by omega)
    · rw [h2]; omega
  · rw [mask_getD ms l _ hl hB]
    have hj2 : j < ms.length := Nat.lt_trans hj (posV_lt ms _ hB)
    rcases mask_at ms j hj2 with ⟨i, h1, rfl⟩ | h2
    · rw [mask_getD ms l i hl h1]
      refine m2 i ?_
      rcases Nat.lt_trichotomy i (bestOf l) with h | h | h
      · exact h
      · subst h; omega
      · have := posV_mono ms _ _ h h1; omega
    · rw [h2]; exact hp
theorem deal_mask {s : Int} (hs : 0 < s) (ms : List Bool) : ∀ (k : Nat) (o l : List Int), o.length = trues ms → l.length = trues ms → (∀ x ∈ l, 0 ≤ x ∧ x < s) → s * (k : Int) ≤ l.sum →
    dealZ 0 k (maskV ms o) (maskV ms l) = maskV ms (dealZ 0 k o l)
  | 0, o, l, _, _, _, _ => rfl
  | k + 1, o, l, ho, hl, hb, hk => by
    have e1 : s * ((k + 1 : Nat) : Int) = s * k + s := by rw [Int.natCast_add, Int.mul_add]; simp
    rw [e1] at hk
    have hk0 : 0 ≤ s * (k : Int) := Int.mul_nonneg (by omega) (by omega)
    have hne : l ≠ [] := by rintro rfl; simp at hk; omega
    have hB := bestOf_lt hne
    obtain ⟨hm, hf⟩ := bestOf_max hne
    have hpos : 0 < l.getD (bestOf l) 0 := by
      rcases Int.lt_or_le 0 (l.getD (bestOf l) 0) with h | h
      · exact h
      · have := sum_le_zero l (fun x hx => by
          obtain ⟨j, hj, rfl⟩ := mem_getD hx
          have := hm j hj; omega)
        omega
    have hmem := hb _ (getD_mem hB)
    have hs' := sum_set l (bestOf l) 0 hB
    simp only [dealZ]
    rw [bestOf_mask ms l hl hpos, mask_getD ms o _ ho (by omega), mask_set ms o _ _ ho (by omega), mask_set ms l _ _ hl (by omega)]
    refine deal_mask hs ms k _ _ (by simpa using ho) (by simpa using hl) (fun x hx => ?_) (by omega)
    rcases List.mem_or_eq_of_mem_set hx with h | h
    · exact hb x h
    · omega
theorem mask_map (f : Int → Int) (h0 : f 0 = 0) : ∀ (ms : List Bool) (l : List Int), (maskV ms l).map f = maskV ms (l.map f)
  | [], _ => rfl
  | false :: ms, l => by simp [maskV, h0, mask_map f h0 ms l]
  | true :: ms, l => by
    simp only [maskV, List.map_cons, mask_map f h0 ms l.tail]
    cases l with
    | nil => simp [h0]
    | cons x l => simp
theorem mask_sum : ∀ (ms : List Bool) (l : List Int), l.length = trues ms → (maskV ms l).sum = l.sum
  | [], l, h => by rw [List.eq_nil_of_length_eq_zero h]; rfl
  | false :: ms, l, h => by simp [maskV, mask_sum ms l h]
  | true :: ms, [], h => by simp [trues] at h
  | true :: ms, x :: l, h => by simp [maskV, mask_sum ms l (by simpa [trues] using h)]
theorem mask_mem : ∀ (ms : List Bool) (l : List Int) (y : Int), y ∈ maskV ms l → y = 0 ∨ y ∈ l
  | [], _, y, h => by simp [maskV] at h
  | false :: ms, l, y, h => by
    simp only [maskV, List.mem_cons] at h
    rcases h with h | h
    · exact .inl h
    · exact mask_mem ms l y h
  | true :: ms, l, y, h => by
    simp only [maskV, List.mem_cons] at h
    rcases h with h | h
    · cases l with
      | nil => exact .inl (by simpa using h)
      | cons x l => exact .inr (by simp at h; simp [h])
    · rcases mask_mem ms l.tail y h with h | h
      · exact .inl h
      · exact .inr (List.mem_of_mem_tail h)
theorem mask_rep (ms : List Bool) : ∀ k, maskV ms (List.replicate k 0) = List.replicate ms.length 0 := by
  induction ms with
  | nil => intro k; rfl
  | cons b ms ih =>
    intro k
    cases b
    · simp [maskV, ih, List.replicate_succ]
    · cases k with
      | zero => have := ih 0; simp at this; simp [maskV, this, List.replicate_succ]
      | succ k => simp [maskV, ih, List.replicate_succ]
/-- Shares by weight, with noughts between, are the shares without them. -/
theorem proV_mask (ms : List Bool) (n : Int) (l : List Int) (hl : l.length = trues ms) (b : Int) (hb0 : 0 ≤ b) (hb : ∀ x ∈ l, 0 ≤ x ∧ x ≤ b) (h4 : ms.length * b ≤ 1152921504606846976) :
    proV n (maskV ms l) = maskV ms (proV n l) := by
  have hlm : trues ms ≤ ms.length := by
    clear hl h4
    induction ms with
    | nil => simp [trues]
    | cons c ms ih => cases c <;> simp [trues] <;> omega
  have hlb : (l.length : Int) * b ≤ ms.length * b := Int.mul_le_mul_of_nonneg_right (by omega) hb0
  obtain ⟨s1, o1⟩ := sumV_ok hb0 hb (by omega)
  have hb2 : ∀ x ∈ maskV ms l, 0 ≤ x ∧ x ≤ b := fun x hx => by
    rcases mask_mem ms l x hx with h | h
    · omega
    · exact hb x h
  obtain ⟨s2, o2⟩ := sumV_ok hb0 hb2 (by rw [maskV_len]; exact h4)
  rw [mask_sum ms l hl] at s2
  obtain ⟨hB, _, hs2⟩ := sumOk_inv o1
  have h0 := sum_nonneg l (fun x hx => (hb x hx).1)
  unfold proV
  rw [o1, o2, s1, s2]
  simp only [Bool.not_true, cond_false]
  by_cases h : max n 0 ≥ l.sum
  · rw [decide_eq_true h, cond_true, cond_true]
  · rw [decide_eq_false h, cond_false, cond_false]
    have ef : floors (max n 0) l.sum (maskV ms l) = maskV ms (floors (max n 0) l.sum l) := mask_map (fun c => max n 0 * c / l.sum) (by simp) ms l
    have er : rems (max n 0) l.sum (maskV ms l) = maskV ms (rems (max n 0) l.sum l) := mask_map (fun c => max n 0 * c % l.sum) (by simp) ms l
    have lf : (floors (max n 0) l.sum l).length = trues ms := by simpa [floors] using hl
    have lr : (rems (max n 0) l.sum l).length = trues ms := by simpa [rems] using hl
    rw [ef, er, mask_sum ms _ lf]
    have hr : ∀ x ∈ rems (max n 0) l.sum l, 0 ≤ x ∧ x < l.sum := by
      intro y hy
      obtain ⟨x, hx, rfl⟩ := List.mem_map.1 hy
      exact ⟨Int.emod_nonneg _ (by omega), Int.emod_lt_of_pos _ (by omega)⟩
    have hsum := rems_sum (max n 0) l.sum l
    have hr0 := sum_nonneg _ (fun x hx => (hr x hx).1)
    have hk : 0 ≤ max n 0 - (floors (max n 0) l.sum l).sum := by
      have : l.sum * (floors (max n 0) l.sum l).sum ≤ l.sum * max n 0 := by rw [Int.mul_comm l.sum (max n 0)]; omega
      have := Int.le_of_mul_le_mul_left this (by omega)
      omega
    exact deal_mask (s := l.sum) (by omega) ms _ _ _ lf lr hr (by rw [Int.toNat_of_nonneg hk, Int.mul_sub, Int.mul_comm l.sum (max n 0)]; omega)
theorem mdDown {n c p : Int} (h1 : 0 ≤ n) (h2 : n < p) (h3 : p ≤ 1152921504606846976) (h4 : 0 ≤ c) (h5 : c ≤ 1152921504606846976) : mdV n c p 0 = n * c / p ∧ mdOk n c p 0 = true ∧ 0 ≤ n * c / p ∧ n * c / p ≤ c := by
  have h : n * c / p ≤ c := by
    have : n * c ≤ p * c := Int.mul_le_mul_of_nonneg_right (by omega) h4
    exact Int.ediv_le_of_le_mul (by omega) (by rw [Int.mul_comm c p]; exact this)
  have ok : mdOk n c p 0 = true := by rw [md_ok h1 (by omega) h4 h5 (by omega) h3 (by omega) (by omega), mdQ0]; simp; omega
  exact ⟨by unfold mdV; rw [ok, mdQ0]; rfl, ok, Int.ediv_nonneg (Int.mul_nonneg h1 h4) (by omega), h⟩
theorem lost_eq {n c s q : Int} (hq : q = n * c / s) (h1 : 0 ≤ n) (h2 : 0 < s) (h3 : s ≤ 1152921504606846976) (h4 : 0 ≤ c) :
    wu64 (wu64 (wu64 n * wu64 c) - wu64 (wu64 q * wu64 s)) = n * c % s := by
  show IntKind.u64.wrap (IntKind.u64.wrap (IntKind.u64.wrap n * IntKind.u64.wrap c) - IntKind.u64.wrap (IntKind.u64.wrap q * IntKind.u64.wrap s)) = n * c % s
  simp only [wu_mod]
  rw [← Int.mul_emod, ← Int.mul_emod, ← Int.sub_emod]
  have e := Int.mul_ediv_add_emod (n * c) s
  have a := Int.emod_nonneg (n * c) (show s ≠ 0 by omega)
  have b := Int.emod_lt_of_pos (n * c) h2
  rw [← hq] at e
  rw [show n * c - q * s = n * c % s by rw [Int.mul_comm q s]; omega]
  exact Int.emod_eq_of_lt a (by omega)
theorem set_mid2 {α : Type} (pre done : List α) (x y : α) (rest : List α) (h : done.length = pre.length) : List.set (done ++ x :: rest) pre.length y = done ++ y :: rest := by rw [← h]; simp
theorem mdUp1 {x a s : Int} (h1 : 0 ≤ x) (h2 : x ≤ 1152921504606846976) (h3 : 0 ≤ a) (h4 : a < s) (h5 : s ≤ 1152921504606846976) :
    mdV x a s 0 = a * x / s ∧ mdV x a s 1 = a * x / s + (if a * x % s > 0 then 1 else 0) ∧ 0 ≤ a * x / s ∧ a * x / s ≤ x ∧ 0 ≤ a * x % s := by
  have e := Int.mul_ediv_add_emod (a * x) s
  have r0 := Int.emod_nonneg (a * x) (show s ≠ 0 by omega)
  have r1 := Int.emod_lt_of_pos (a * x) (show 0 < s by omega)
  have q0 : 0 ≤ a * x / s := Int.ediv_nonneg (Int.mul_nonneg h3 h1) (by omega)
  have hm : a * x ≤ (s - 1) * x := Int.mul_le_mul_of_nonneg_right (by omega) h1
  have hsx : (s - 1) * x = s * x - x := by rw [Int.sub_mul, Int.one_mul]
  have hle : a * x / s ≤ x := Int.ediv_le_of_le_mul (by omega) (by rw [Int.mul_comm x s]; omega)
  have hlt : a * x % s > 0 → a * x / s + 1 ≤ x := fun h => by
    have : s * (a * x / s) < s * x := by omega
    have := Int.lt_of_mul_lt_mul_left this (by omega)
    omega
  rw [Int.mul_comm a x] at *
  have o0 : mdOk x a s 0 = true := by rw [md_ok h1 h2 h3 (by omega) (by omega) h5 (by omega) (by omega), mdQ0]; simp; omega
  have o1 : mdOk x a s 1 = true := by rw [md_ok h1 h2 h3 (by omega) (by omega) h5 (by omega) (by omega), mdQ1]; simp; split <;> omega
  exact ⟨by unfold mdV; rw [o0, mdQ0]; rfl, by unfold mdV; rw [o1, mdQ1]; rfl, q0, hle, r0⟩
/-! cascade/cents.Sum -/
noncomputable def N42 : RoadF := ⟨T16.tab, 42, ⟨[.ints .i64], []⟩, ⟨[.int .i64, .bool], []⟩, []⟩
abbrev A42_0 : Type := Int × List Int × Int × Int
noncomputable def L42_0s (m : Nat) (k : A42_0 → Option (List Un)) : A42_0 → Option (List Un) := fun (a0, a1, a2, a3) =>
  bif decide (a3 < a2) then
   chk (inb a3 a1.length) <|
   chk (decide (a3.toNat < a1.length)) <|
   bif (decide ((a1.getD a3.toNat 0) < 0)) then
    some ([.i 0, .b false])
   else
    bif (decide ((a1.getD a3.toNat 0) > (w64 (1152921504606846976 - a0)))) then
     some ([.i 0, .b false])
    else
     k ((w64 (a0 + (a1.getD a3.toNat 0))), a1, a2, (w64 (a3 + 1)))
  else
   some ([.i a0, .b true])
noncomputable def L42_0 (m : Nat) : Nat → A42_0 → Option (List Un) := iterA (L42_0s m)
theorem L42_0_succ (m : Nat) (n : Nat) : L42_0 m (n + 1) = L42_0s m (L42_0 m n) := rfl
noncomputable def S42_0 (F : A42_0 → Option (List Un)) : StopS := ⟨[.lp [0, 1, 0, 1, 1], .blk 0, .code [1, 1, 1]], ⟨frm 26 [(4, .int .i64), (7, .ints .i64), (8, .int .i64), (9, .int .i64)], []⟩, onU F⟩
theorem H42_0 (m : Nat) : ∀ n, HO N42 (S42_0 (L42_0 m n)) := loop_holds KN_none T16.right (fun k => [S42_0 k]) (fun k h => (all1 h all0)) fun k a => by kernel_rfl
noncomputable def t42 (m : Nat) : List Int → Option (List Un) := fun a0 =>
  L42_0 m m (0, a0, (a0.length : Int), 0)
theorem sumL42 (m : Nat) : ∀ (rest pre : List Int) (s : Int) (n : Nat), rest.length < n → 0 ≤ s → s ≤ 1152921504606846976 → (pre ++ rest).length < 1099511627776 →
    L42_0 m n (s, pre ++ rest, ((pre ++ rest).length : Int), (pre.length : Int)) = some [.i (sumC rest s).1, .b (sumC rest s).2] := by
  intro rest
  induction rest with
  | nil =>
    intro pre s n hn h1 h2 h3
    obtain ⟨n, rfl⟩ := one_more n (by simp at hn; omega)
    rw [L42_0_succ]; unfold L42_0s; dsimp only
    simp [cond_df, sumC]
  | cons x rest ih =>
    intro pre s n hn h1 h2 h3
    obtain ⟨n, rfl⟩ := one_more n (by simp at hn; omega)
    simp only [List.length_append, List.length_cons] at h3 hn
    rw [L42_0_succ]; unfold L42_0s; dsimp only
    simp only [sumC]
    by_cases c1 : x < 0
    · rw [decide_eq_true c1, Bool.true_or, cond_true]
      simp (disch := omega) only [lt_eq, chk_dec, chk_tt, chk_and, chk_inb, chk_fits, chk_make, chkn_dec, cond_dt, cond_df, cond_bt, cond_bf, cond_nt, cond_nf, cond_not, cond_and, cond_or, cond_tt, cond_ff, wrap_id, min_if', max_if', List.length_append, List.length_cons, List.length_nil, List.length_replicate, List.length_set, List.length_map, List.length_range, Int.natCast_add, Int.cast_ofNat_Int, Int.toNat_natCast, Int.add_assoc, Nat.zero_add, Int.zero_add, List.append_assoc, List.cons_append, List.nil_append, getD_mid]
    · by_cases c2 : x > 1152921504606846976 - s
      · rw [decide_eq_true c2, Bool.or_true, cond_true]
        simp (disch := omega) only [lt_eq, chk_dec, chk_tt, chk_and, chk_inb, chk_fits, chk_make, chkn_dec, cond_dt, cond_df, cond_bt, cond_bf, cond_nt, cond_nf, cond_not, cond_and, cond_or, cond_tt, cond_ff, wrap_id, min_if', max_if', List.length_append, List.length_cons, List.length_nil, List.length_replicate, List.length_set, List.length_map, List.length_range, Int.natCast_add, Int.cast_ofNat_Int, Int.toNat_natCast, Int.add_assoc, Nat.zero_add, Int.zero_add, List.append_assoc, List.cons_append, List.nil_append, getD_mid]
      · rw [decide_eq_false c1, decide_eq_false c2, Bool.false_or, cond_false]
        have := ih (pre ++ [x]) (s + x) n (by omega) (by omega) (by omega) (by simp; omega)
        simp (disch := omega) only [lt_eq, chk_dec, chk_tt, chk_and, chk_inb, chk_fits, chk_make, chkn_dec, cond_dt, cond_df, cond_bt, cond_bf, cond_nt, cond_nf, cond_not, cond_and, cond_or, cond_tt, cond_ff, wrap_id, min_if', max_if', List.length_append, List.length_cons, List.length_nil, List.length_replicate, List.length_set, List.length_map, List.length_range, Int.natCast_add, Int.cast_ofNat_Int, Int.toNat_natCast, Int.add_assoc, Nat.zero_add, Int.zero_add, List.append_assoc, List.cons_append, List.nil_append, getD_mid]
        simp only [List.length_append, List.length_cons, List.length_nil, List.length_replicate, List.length_set, List.length_map, List.length_range, Int.natCast_add, Int.cast_ofNat_Int, Int.toNat_natCast, Int.add_assoc, Nat.zero_add, Int.zero_add, List.append_assoc, List.cons_append, List.nil_append] at this ⊢
        exact this
noncomputable def f42 : List Int → Bool × List Un := fun a0 => (decide (a0.length < 1099511627776), [.i (sumV a0), .b (sumOk a0)])
theorem spec42 (a0 : List Int) (hc : (decide (a0.length < 1099511627776)) = true) : ∃ m, t42 m a0 = some ([.i (sumV a0), .b (sumOk a0)]) := by
  exact ⟨a0.length + 1, sumL42 _ a0 [] 0 _ (by omega) (by omega) (by omega) (by simpa using of_decide_eq_true hc)⟩
theorem right42 : ER 42 (mkE N42.en N42.ex f42) := right_of KN_none T16.right (fun m => [S42_0 (L42_0 m m)]) (t := t42) (by kernel_rfl) (fun m => (all1 (H42_0 m m) all0)) (fun m a => by kernel_rfl) fun a0 hc => spec42 a0 hc
noncomputable def T42 : Tb Try.prog LQ TE := T16.add 42 _ right42
/-! cascade/cascaderef1.Sum -/
noncomputable def N36 : RoadF := ⟨T42.tab, 36, ⟨[.ints .i64], []⟩, ⟨[.int .i64, .bool], []⟩, []⟩
abbrev A36_0 : Type := Int × List Int × Int × Int
noncomputable def L36_0s (m : Nat) (k : A36_0 → Option (List Un)) : A36_0 → Option (List Un) := fun (a0, a1, a2, a3) =>
  bif decide (a3 < a2) then
   chk (inb a3 a1.length) <|
   chk (decide (a3.toNat < a1.length)) <|
   bif (decide ((a1.getD a3.toNat 0) < 0)) then
    some ([.i 0, .b false])
   else
    bif (decide ((a1.getD a3.toNat 0) > (w64 (1152921504606846976 - a0)))) then
     some ([.i 0, .b false])
    else
     k ((w64 (a0 + (a1.getD a3.toNat 0))), a1, a2, (w64 (a3 + 1)))
  else
   some ([.i a0, .b true])
noncomputable def L36_0 (m : Nat) : Nat → A36_0 → Option (List Un) := iterA (L36_0s m)
theorem L36_0_succ (m : Nat) (n : Nat) : L36_0 m (n + 1) = L36_0s m (L36_0 m n) := rfl
noncomputable def S36_0 (F : A36_0 → Option (List Un)) : StopS := ⟨[.lp [0, 1, 0, 1, 1], .blk 0, .code [1, 1, 1]], ⟨frm 26 [(4, .int .i64), (7, .ints .i64), (8, .int .i64), (9, .int .i64)], []⟩, onU F⟩
theorem H36_0 (m : Nat) : ∀ n, HO N36 (S36_0 (L36_0 m n)) := loop_holds KN_none T42.right (fun k => [S36_0 k]) (fun k h => (all1 h all0)) fun k a => by kernel_rfl
noncomputable def t36 (m : Nat) : List Int → Option (List Un) := fun a0 =>
  L36_0 m m (0, a0, (a0.length : Int), 0)
theorem sumL36 (m : Nat) : ∀ (rest pre : List Int) (s : Int) (n : Nat), rest.length < n → 0 ≤ s → s ≤ 1152921504606846976 → (pre ++ rest).length < 1099511627776 →
    L36_0 m n (s, pre ++ rest, ((pre ++ rest).length : Int), (pre.length : Int)) = some [.i (sumC rest s).1, .b (sumC rest s).2] := by
  intro rest
  induction rest with
  | nil =>
    intro pre s n hn h1 h2 h3
    obtain ⟨n, rfl⟩ := one_more n (by simp at hn; omega)
    rw [L36_0_succ]; unfold L36_0s; dsimp only
    simp [cond_df, sumC]
  | cons x rest ih =>
    intro pre s n hn h1 h2 h3
    obtain ⟨n, rfl⟩ := one_more n (by simp at hn; omega)
    simp only [List.length_append, List.length_cons] at h3 hn
    rw [L36_0_succ]; unfold L36_0s; dsimp only
    simp only [sumC]
    by_cases c1 : x < 0
    · rw [decide_eq_true c1, Bool.true_or, cond_true]
      simp (disch := omega) only [lt_eq, chk_dec, chk_tt, chk_and, chk_inb, chk_fits, chk_make, chkn_dec, cond_dt, cond_df, cond_bt, cond_bf, cond_nt, cond_nf, cond_not, cond_and, cond_or, cond_tt, cond_ff, wrap_id, min_if', max_if', List.length_append, List.length_cons, List.length_nil, List.length_replicate, List.length_set, List.length_map, List.length_range, Int.natCast_add, Int.cast_ofNat_Int, Int.toNat_natCast, Int.add_assoc, Nat.zero_add, Int.zero_add, List.append_assoc, List.cons_append, List.nil_append, getD_mid]
    · by_cases c2 : x > 1152921504606846976 - s
      · rw [decide_eq_true c2, Bool.or_true, cond_true]
        simp (disch := omega) only [lt_eq, chk_dec, chk_tt, chk_and, chk_inb, chk_fits, chk_make, chkn_dec, cond_dt, cond_df, cond_bt, cond_bf, cond_nt, cond_nf, cond_not, cond_and, cond_or, cond_tt, cond_ff, wrap_id, min_if', max_if', List.length_append, List.length_cons, List.length_nil, List.length_replicate, List.length_set, List.length_map, List.length_range, Int.natCast_add, Int.cast_ofNat_Int, Int.toNat_natCast, Int.add_assoc, Nat.zero_add, Int.zero_add, List.append_assoc, List.cons_append, List.nil_append, getD_mid]
      · rw [decide_eq_false c1, decide_eq_false c2, Bool.false_or, cond_false]
        have := ih (pre ++ [x]) (s + x) n (by omega) (by omega) (by omega) (by simp; omega)
        simp (disch := omega) only [lt_eq, chk_dec, chk_tt, chk_and, chk_inb, chk_fits, chk_make, chkn_dec, cond_dt, cond_df, cond_bt, cond_bf, cond_nt, cond_nf, cond_not, cond_and, cond_or, cond_tt, cond_ff, wrap_id, min_if', max_if', List.length_append, List.length_cons, List.length_nil, List.length_replicate, List.length_set, List.length_map, List.length_range, Int.natCast_add, Int.cast_ofNat_Int, Int.toNat_natCast, Int.add_assoc, Nat.zero_add, Int.zero_add, List.append_assoc, List.cons_append, List.nil_append, getD_mid]
        simp only [List.length_append, List.length_cons, List.length_nil, List.length_replicate, List.length_set, List.length_map, List.length_range, Int.natCast_add, Int.cast_ofNat_Int, Int.toNat_natCast, Int.add_assoc, Nat.zero_add, Int.zero_add, List.append_assoc, List.cons_append, List.nil_append] at this ⊢
        exact this
noncomputable def f36 : List Int → Bool × List Un := fun a0 => (decide (a0.length < 1099511627776), [.i (sumV a0), .b (sumOk a0)])
theorem spec36 (a0 : List Int) (hc : (decide (a0.length < 1099511627776)) = true) : ∃ m, t36 m a0 = some ([.i (sumV a0), .b (sumOk a0)]) := by
  exact ⟨a0.length + 1, sumL36 _ a0 [] 0 _ (by omega) (by omega) (by omega) (by simpa using of_decide_eq_true hc)⟩
theorem right36 : ER 36 (mkE N36.en N36.ex f36) := right_of KN_none T42.right (fun m => [S36_0 (L36_0 m m)]) (t := t36) (by kernel_rfl) (fun m => (all1 (H36_0 m m) all0)) (fun m a => by kernel_rfl) fun a0 hc => spec36 a0 hc
noncomputable def T36 : Tb Try.prog LQ TE := T42.add 36 _ right36
/-! cascade/share.parts -/
noncomputable def N43 : RoadF := ⟨T36.tab, 43, ⟨[.int .i64, .int .i64, .ints .i64], []⟩, ⟨[.buf 0 1, .buf 1 1], [.ints .i64, .ints .u64]⟩, []⟩
abbrev A43_0 : Type := Int × Int × List Int × Int × Int × List Int × List Int
noncomputable def L43_0s (m : Nat) (k : A43_0 → Option (List Un)) : A43_0 → Option (List Un) := fun (a0, a1, a2, a3, a4, a5, a6) =>
  bif decide (a4 < a3) then
   chk (inb a4 a2.length) <|
   chk (decide (a4.toNat < a2.length)) <|
   chk (inb a4 a5.length) <|
   chk (decide (a4.toNat < a5.length)) <|
   lt ((List.set a5 a4.toNat (mdV a0 (a2.getD a4.toNat 0) a1 0)) : List Int) fun l5 =>
   chk (inb a4 l5.length) <|
   chk (decide (a4.toNat < l5.length)) <|
   chk (inb a4 a6.length) <|
   chk (decide (a4.toNat < a6.length)) <|
   k (a0, a1, a2, a3, (w64 (a4 + 1)), l5, (List.set a6 a4.toNat (wu64 ((wu64 ((wu64 a0) * (wu64 (a2.getD a4.toNat 0)))) - (wu64 ((wu64 (l5.getD a4.toNat 0)) * (wu64 a1)))))))
  else
   some ([.l a5, .l a6])
noncomputable def L43_0 (m : Nat) : Nat → A43_0 → Option (List Un) := iterA (L43_0s m)
theorem L43_0_succ (m : Nat) (n : Nat) : L43_0 m (n + 1) = L43_0s m (L43_0 m n) := rfl
noncomputable def S43_0 (F : A43_0 → Option (List Un)) : StopS := ⟨[.lp [0, 1, 0, 1, 1], .blk 0, .code [1, 1, 1]], ⟨frm 55 [(0, .int .i64), (1, .int .i64), (8, .buf 0 1), (9, .buf 1 1), (18, .ints .i64), (19, .int .i64), (20, .int .i64)], [.ints .i64, .ints .u64]⟩, onU F⟩
theorem H43_0 (m : Nat) : ∀ n, HO N43 (S43_0 (L43_0 m n)) := loop_holds KN_none T36.right (fun k => [S43_0 k]) (fun k h => (all1 h all0)) fun k a => by kernel_rfl
noncomputable def t43 (m : Nat) : Int × Int × List Int → Option (List Un) := fun (a0, a1, a2) =>
  chk (mayMake (a2.length : Int) 8) <|
  chk (mayMake (a2.length : Int) 8) <|
  L43_0 m m (a0, a1, a2, (a2.length : Int), 0, (List.replicate a2.length 0), (List.replicate a2.length 0))
theorem partsL (m : Nat) (a s : Int) (h1 : 0 ≤ a) (h2 : a < s) (h3 : s ≤ 1152921504606846976) : ∀ (rest pre d1 d2 : List Int) (n : Nat), rest.length < n → d1.length = pre.length → d2.length = pre.length → (∀ x ∈ rest, 0 ≤ x ∧ x ≤ 1152921504606846976) → (pre ++ rest).length < 1099511627776 →
    L43_0 m n (a, s, pre ++ rest, ((pre ++ rest).length : Int), (pre.length : Int), d1 ++ List.replicate rest.length 0, d2 ++ List.replicate rest.length 0) = some [.l (d1 ++ floors a s rest), .l (d2 ++ rems a s rest)] := by
  intro rest
  induction rest with
  | nil =>
    intro pre d1 d2 n hn p1 p2 hb h4
    obtain ⟨n, rfl⟩ := one_more n (by simp at hn; omega)
    rw [L43_0_succ]; unfold L43_0s; dsimp only
    simp [cond_df, floors, rems]
  | cons x rest ih =>
    intro pre d1 d2 n hn p1 p2 hb h4
    obtain ⟨n, rfl⟩ := one_more n (by simp at hn; omega)
    simp only [List.length_append, List.length_cons] at h4 hn
    rw [L43_0_succ]; unfold L43_0s; dsimp only
    simp only [List.length_cons, List.replicate_succ]
    have hx := hb x (by simp)
    obtain ⟨e1, _, _, _⟩ := mdDown h1 h2 h3 hx.1 hx.2
    have := ih (pre ++ [x]) (d1 ++ [a * x / s]) (d2 ++ [a * x % s]) n (by omega) (by simp; omega) (by simp; omega) (fun y hy => hb y (by simp [hy])) (by simp; omega)
    have le := lost_eq (n := a) (c := x) (s := s) rfl h1 (by omega) h3 hx.1
    simp (disch := omega) only [lt_eq, chk_dec, chk_tt, chk_and, chk_inb, chk_fits, chk_make, chkn_dec, cond_dt, cond_df, cond_bt, cond_bf, cond_nt, cond_nf, cond_not, cond_and, cond_or, cond_tt, cond_ff, wrap_id, min_if', max_if', List.length_append, List.length_cons, List.length_nil, List.length_replicate, List.length_set, List.length_map, List.length_range, Int.natCast_add, Int.cast_ofNat_Int, Int.toNat_natCast, Int.add_assoc, Nat.zero_add, Int.zero_add, List.append_assoc, List.cons_append, List.nil_append, getD_mid, e1, set_mid2 _ _ _ _ _ p1, getD_mid2 _ _ _ _ _ p1, set_mid2 _ _ _ _ _ p2]
    rw [le]
    simp only [List.length_append, List.length_cons, List.length_nil, List.length_replicate, List.length_set, List.length_map, List.length_range, Int.natCast_add, Int.cast_ofNat_Int, Int.toNat_natCast, Int.add_assoc, Nat.zero_add, Int.zero_add, List.append_assoc, List.cons_append, List.nil_append] at this ⊢
    refine this.trans ?_
    simp [floors, rems]
noncomputable def f43 : Int × Int × List Int → Bool × List Un := fun (a0, a1, a2) => (decide (0 ≤ a0 ∧ a0 < a1 ∧ a1 ≤ 1152921504606846976 ∧ a2.length < 1099511627776) && rightV a2, [.l (floors a0 a1 a2), .l (rems a0 a1 a2)])
theorem spec43 (a0 : Int) (a1 : Int) (a2 : List Int) (hc : (decide (0 ≤ a0 ∧ a0 < a1 ∧ a1 ≤ 1152921504606846976 ∧ a2.length < 1099511627776) && rightV a2) = true) : ∃ m, t43 m (a0, a1, a2) = some ([.l (floors a0 a1 a2), .l (rems a0 a1 a2)]) := by
  simp only [Bool.and_eq_true, decide_eq_true_eq, rightV_mem] at hc
  obtain ⟨⟨h1, h2, h3, h4⟩, hb⟩ := hc
  refine ⟨a2.length + 1, ?_⟩
  unfold t43
  simp (disch := omega) only [lt_eq, chk_dec, chk_tt, chk_and, chk_inb, chk_fits, chk_make, chkn_dec, cond_dt, cond_df, cond_bt, cond_bf, cond_nt, cond_nf, cond_not, cond_and, cond_or, cond_tt, cond_ff, wrap_id, min_if', max_if']
  exact partsL (a2.length + 1) a0 a1 h1 h2 h3 a2 [] [] [] (a2.length + 1) (by omega) rfl rfl hb (by simpa using h4)
theorem right43 : ER 43 (mkE N43.en N43.ex f43) := right_of KN_none T36.right (fun m => [S43_0 (L43_0 m m)]) (t := t43) (by kernel_rfl) (fun m => (all1 (H43_0 m m) all0)) (fun m a => by kernel_rfl) fun (a0, a1, a2) hc => spec43 a0 a1 a2 hc
noncomputable def T43 : Tb Try.prog LQ TE := T36.add 43 _ right43
/-! cascade/share.Pro -/
noncomputable def N40 : RoadF := ⟨T43.tab, 40, ⟨[.int .i64, .ints .i64], []⟩, ⟨[.buf 0 1], [.ints .i64]⟩, []⟩
abbrev A40_2 : Type := Int × Int × Int × Int × List Int × List Int
abbrev A40_1 : Type := Int × List Int × List Int
abbrev A40_0 : Type := Int × Int × Int × List Int × List Int
noncomputable def L40_2s (m : Nat) (k1 : A40_1 → Option (List Un)) (k : A40_2 → Option (List Un)) : A40_2 → Option (List Un) := fun (a0, a1, a2, a3, a4, a5) =>
  bif decide (a3 < a2) then
   chk (inb a3 a5.length) <|
   chk (decide (a3.toNat < a5.length)) <|
   chk (inb a1 a5.length) <|
   chk (decide (a1.toNat < a5.length)) <|
   bif (decide ((a5.getD a3.toNat 0) > (a5.getD a1.toNat 0))) then
    k (a0, a3, a2, (w64 (a3 + 1)), a4, a5)
   else
    k (a0, a1, a2, (w64 (a3 + 1)), a4, a5)
  else
   chk (inb a1 a4.length) <|
   chk (decide (a1.toNat < a4.length)) <|
   chk (inb a1 a4.length) <|
   chk (decide (a1.toNat < a4.length)) <|
   chk (inb a1 a5.length) <|
   chk (decide (a1.toNat < a5.length)) <|
   k1 ((w64 (a0 - 1)), (List.set a4 a1.toNat (w64 ((a4.getD a1.toNat 0) + 1))), (List.set a5 a1.toNat 0))
noncomputable def L40_2 (m : Nat) (k1 : A40_1 → Option (List Un)) : Nat → A40_2 → Option (List Un) := iterA (L40_2s m k1)
theorem L40_2_succ (m : Nat) (k1 : A40_1 → Option (List Un)) (n : Nat) : L40_2 m k1 (n + 1) = L40_2s m k1 (L40_2 m k1 n) := rfl
noncomputable def S40_2 (F : A40_2 → Option (List Un)) : StopS := ⟨[.lp [0, 1, 0, 1, 0, 0, 1, 0, 0, 0, 1, 1, 1, 1, 1, 1, 1, 1], .blk 4, .code [1, 1, 0, 0, 1, 0, 0, 0, 1, 1, 1, 1, 1, 1, 1, 1], .blk 3, .code [1, 1, 0, 0, 0, 1, 1, 1, 1, 1, 1, 1, 1], .lp [0, 0, 1, 1, 1, 1, 1, 1, 1, 1], .blk 2, .code [1, 1, 1, 1, 1, 1, 1, 1, 1]], ⟨frm 80 [(7, .buf 0 1), (8, .buf 1 1), (9, .int .i64), (12, .int .i64), (55, .int .i64), (56, .int .i64)], [.ints .i64, .ints .u64]⟩, onU F⟩
noncomputable def L40_1s (m : Nat) (k : A40_1 → Option (List Un)) : A40_1 → Option (List Un) := fun (a0, a1, a2) =>
  bif decide (a0 > 0) then
   L40_2 m k m (a0, 0, (a2.length : Int), 0, a1, a2)
  else
   some ([.l a1])
noncomputable def L40_1 (m : Nat) : Nat → A40_1 → Option (List Un) := iterA (L40_1s m)
theorem L40_1_succ (m : Nat) (n : Nat) : L40_1 m (n + 1) = L40_1s m (L40_1 m n) := rfl
noncomputable def S40_1 (F : A40_1 → Option (List Un)) : StopS := ⟨[.lp [0, 0, 1, 1, 1, 1, 1, 1, 1, 1], .blk 2, .code [1, 1, 1, 1, 1, 1, 1, 1, 1]], ⟨frm 80 [(7, .buf 0 1), (8, .buf 1 1), (9, .int .i64)], [.ints .i64, .ints .u64]⟩, onU F⟩
noncomputable def L40_0s (m : Nat) (k : A40_0 → Option (List Un)) : A40_0 → Option (List Un) := fun (a0, a1, a2, a3, a4) =>
  bif decide (a2 < a1) then
   chk (inb a2 a3.length) <|
   chk (decide (a2.toNat < a3.length)) <|
   k ((w64 (a0 - (a3.getD a2.toNat 0))), a1, (w64 (a2 + 1)), a3, a4)
  else
   L40_1 m m (a0, a3, a4)
noncomputable def L40_0 (m : Nat) : Nat → A40_0 → Option (List Un) := iterA (L40_0s m)
theorem L40_0_succ (m : Nat) (n : Nat) : L40_0 m (n + 1) = L40_0s m (L40_0 m n) := rfl
noncomputable def S40_0 (F : A40_0 → Option (List Un)) : StopS := ⟨[.lp [0, 1, 0, 1, 1, 1, 1, 1, 1, 1], .blk 0, .code [1, 1, 1, 1, 1, 1, 1, 1]], ⟨frm 80 [(7, .buf 0 1), (8, .buf 1 1), (9, .int .i64), (40, .buf 0 1), (41, .int .i64), (42, .int .i64)], [.ints .i64, .ints .u64]⟩, onU F⟩
theorem H40_2 (m : Nat) (k1 : A40_1 → Option (List Un)) (h1 : HO N40 (S40_1 k1)) : ∀ n, HO N40 (S40_2 (L40_2 m k1 n)) := loop_holds KN_none T43.right (fun k => [S40_1 k1, S40_2 k]) (fun k h => (all1 h1 (all1 h all0))) fun k a => by kernel_rfl
theorem H40_1 (m : Nat) : ∀ n, HO N40 (S40_1 (L40_1 m n)) := loop_holds KN_none T43.right (fun k => [S40_2 (L40_2 m (k) m)]) (fun k h => (all1 (H40_2 m _ h m) all0)) fun k a => by kernel_rfl
theorem H40_0 (m : Nat) : ∀ n, HO N40 (S40_0 (L40_0 m n)) := loop_holds KN_none T43.right (fun k => [S40_0 k, S40_1 (L40_1 m m)]) (fun k h => (all1 h (all1 (H40_1 m m) all0))) fun k a => by kernel_rfl
noncomputable def t40 (m : Nat) : Int × List Int → Option (List Un) := fun (a0, a1) =>
  chk (decide (a1.length < 1099511627776)) <|
  bif !(sumOk a1) then
   chk (mayMake (a1.length : Int) 8) <|
   some ([.l (List.replicate a1.length 0)])
  else
   lt ((if a0 < 0 then 0 else a0) : Int) fun x2 =>
   bif decide (x2 ≥ (sumV a1)) then
    chk (fits (0 + a1.length) 8) <|
    some ([.l a1])
   else
    chk (decide (0 ≤ x2 ∧ x2 < (sumV a1) ∧ (sumV a1) ≤ 1152921504606846976 ∧ a1.length < 1099511627776) && rightV a1) <|
    lt ((floors x2 (sumV a1) a1) : List Int) fun l3 =>
    L40_0 m m (x2, (l3.length : Int), 0, l3, (rems x2 (sumV a1) a1))
theorem bestL40 (m : Nat) (k1 : A40_1 → Option (List Un)) (left : Int) (out lost : List Int) (h1 : 0 < left) (h2 : left < 4611686018427387904) (hl : out.length = lost.length) (hs : lost.length < 1099511627776)
    (hb : ∀ x ∈ out, 0 ≤ x ∧ x < 4611686018427387904) : ∀ (rest pre : List Int) (b n : Nat), rest.length < n → lost = pre ++ rest → b < lost.length →
    L40_2 m k1 n (left, (b : Int), (lost.length : Int), (pre.length : Int), out, lost) =
      k1 (left - 1, out.set (bestF lost rest pre.length b) (out.getD (bestF lost rest pre.length b) 0 + 1), lost.set (bestF lost rest pre.length b) 0) := by
  intro rest
  induction rest with
  | nil =>
    intro pre b n hn he hlt
    obtain ⟨n, rfl⟩ := one_more n (by simp at hn; omega)
    have hp : pre.length = lost.length := by rw [he]; simp
    have hm := hb _ (getD_mem (l := out) (i := b) (by omega))
    rw [L40_2_succ]; unfold L40_2s; dsimp only
    simp only [bestF, Int.toNat_natCast]
    simp (disch := omega) only [lt_eq, chk_dec, chk_tt, chk_and, chk_inb, chk_fits, chk_make, chkn_dec, cond_dt, cond_df, cond_bt, cond_bf, cond_nt, cond_nf, cond_not, cond_and, cond_or, cond_tt, cond_ff, wrap_id, min_if', max_if']
  | cons x rest ih =>
    intro pre b n hn he hlt
    obtain ⟨n, rfl⟩ := one_more n (by simp at hn; omega)
    have hp : lost.length = pre.length + (rest.length + 1) := by rw [he]; simp
    have hg : lost.getD pre.length 0 = x := by rw [he]; simp
    rw [L40_2_succ]; unfold L40_2s; dsimp only
    simp only [bestF, Int.toNat_natCast, hg]
    have i1 := ih (pre ++ [x]) pre.length n (by simp at hn; omega) (by rw [he]; simp) (by omega)
    have i2 := ih (pre ++ [x]) b n (by simp at hn; omega) (by rw [he]; simp) hlt
    simp only [List.length_append, List.length_cons, List.length_nil, Int.natCast_add, Nat.zero_add, Int.cast_ofNat_Int] at i1 i2
    by_cases c : x > lost.getD b 0
    · simp (disch := omega) only [lt_eq, chk_dec, chk_tt, chk_and, chk_inb, chk_fits, chk_make, chkn_dec, cond_dt, cond_df, cond_bt, cond_bf, cond_nt, cond_nf, cond_not, cond_and, cond_or, cond_tt, cond_ff, wrap_id, min_if', max_if']
      exact i1
    · simp (disch := omega) only [lt_eq, chk_dec, chk_tt, chk_and, chk_inb, chk_fits, chk_make, chkn_dec, cond_dt, cond_df, cond_bt, cond_bf, cond_nt, cond_nf, cond_not, cond_and, cond_or, cond_tt, cond_ff, wrap_id, min_if', max_if']
      exact i2
theorem dealL40 (m : Nat) : ∀ (k : Nat) (left : Int) (out lost : List Int) (n : Nat), left.toNat = k → k < n → left < 4611686018427387904 → out.length = lost.length → lost.length < 1099511627776 → lost.length < m → lost ≠ [] → (∀ x ∈ out, 0 ≤ x ∧ x + left < 4611686018427387904) →
    L40_1 m n (left, out, lost) = some [.l (dealZ 0 k out lost)] := by
  intro k
  induction k with
  | zero =>
    intro left out lost n hk hn h2 hl hs hm hne hb
    obtain ⟨n, rfl⟩ := one_more n (by omega)
    rw [L40_1_succ]; unfold L40_1s; dsimp only
    simp only [dealZ]
    rw [cond_df (by omega)]
  | succ k ih =>
    intro left out lost n hk hn h2 hl hs hm hne hb
    obtain ⟨n, rfl⟩ := one_more n (by omega)
    rw [L40_1_succ]; unfold L40_1s; dsimp only
    have hB := bestOf_lt hne
    rw [cond_dt (by omega)]
    have := bestL40 m (L40_1 m n) left out lost (by omega) h2 hl hs (fun x hx => by have := hb x hx; omega) lost [] 0 m hm rfl (List.length_pos_iff.2 hne)
    simp only [List.length_nil, Int.natCast_zero] at this
    refine this.trans ?_
    have hq := hb _ (getD_mem (l := out) (i := bestOf lost) (by omega))
    rw [show bestF lost lost 0 0 = bestOf lost from rfl]
    refine ih _ _ _ _ (by omega) (by omega) (by omega) (by simp [hl]) (by simpa using hs) (by simpa using hm) (by intro h; simp at h; exact hne h) (fun x hx => ?_)
    rcases List.mem_or_eq_of_mem_set hx with h | h
    · have := hb x h; omega
    · omega
theorem leftL (m : Nat) (lost : List Int) : ∀ (rest pre : List Int) (left : Int) (n : Nat), rest.length < n → (∀ x ∈ rest, 0 ≤ x ∧ x ≤ 1152921504606846976) → -1152921504606846976 ≤ left - rest.sum → left ≤ 1152921504606846976 → (pre ++ rest).length < 1099511627776 →
    L40_0 m n (left, ((pre ++ rest).length : Int), (pre.length : Int), pre ++ rest, lost) = L40_1 m m (left - rest.sum, pre ++ rest, lost) := by
  intro rest
  induction rest with
  | nil =>
    intro pre left n hn hb h1 h2 h3
    obtain ⟨n, rfl⟩ := one_more n (by simp at hn; omega)
    rw [L40_0_succ]; unfold L40_0s; dsimp only
    simp [cond_df]
  | cons x rest ih =>
    intro pre left n hn hb h1 h2 h3
    obtain ⟨n, rfl⟩ := one_more n (by simp at hn; omega)
    simp only [List.length_append, List.length_cons] at h3 hn
    have hx := hb x (by simp)
    have hs := sum_nonneg rest (fun y hy => (hb y (by simp [hy])).1)
    rw [List.sum_cons] at h1 ⊢
    rw [L40_0_succ]; unfold L40_0s; dsimp only
    have := ih (pre ++ [x]) (left - x) n (by omega) (fun y hy => hb y (by simp [hy])) (by omega) (by omega) (by simp; omega)
    rw [show left - (x + rest.sum) = left - x - rest.sum by omega]
    simp (disch := omega) only [lt_eq, chk_dec, chk_tt, chk_and, chk_inb, chk_fits, chk_make, chkn_dec, cond_dt, cond_df, cond_bt, cond_bf, cond_nt, cond_nf, cond_not, cond_and, cond_or, cond_tt, cond_ff, wrap_id, min_if', max_if', List.length_append, List.length_cons, List.length_nil, List.length_replicate, List.length_set, List.length_map, List.length_range, Int.natCast_add, Int.cast_ofNat_Int, Int.toNat_natCast, Int.add_assoc, Nat.zero_add, Int.zero_add, List.append_assoc, List.cons_append, List.nil_append, getD_mid]
    simp only [List.length_append, List.length_cons, List.length_nil, List.length_replicate, List.length_set, List.length_map, List.length_range, Int.natCast_add, Int.cast_ofNat_Int, Int.toNat_natCast, Int.add_assoc, Nat.zero_add, Int.zero_add, List.append_assoc, List.cons_append, List.nil_append] at this ⊢
    exact this
noncomputable def f40 : Int × List Int → Bool × List Un := fun (a0, a1) => (decide (a0 ≤ 9223372036854775807 ∧ a1.length < 1099511627776), [.l (proV a0 a1)])
theorem spec40 (a0 : Int) (a1 : List Int) (hc : (decide (a0 ≤ 9223372036854775807 ∧ a1.length < 1099511627776)) = true) : ∃ m, t40 m (a0, a1) = some ([.l (proV a0 a1)]) := by
  obtain ⟨h1, h2⟩ := of_decide_eq_true hc
  clear hc
  refine ⟨1152921504606846976 + a1.length + 2, ?_⟩
  unfold t40 proV
  dsimp only
  rw [chk_dec h2]
  cases hok : sumOk a1 with
  | false =>
    simp only [Bool.not_false, cond_true]
    simp (disch := omega) only [lt_eq, chk_dec, chk_tt, chk_and, chk_inb, chk_fits, chk_make, chkn_dec, cond_dt, cond_df, cond_bt, cond_bf, cond_nt, cond_nf, cond_not, cond_and, cond_or, cond_tt, cond_ff, wrap_id, min_if', max_if']
  | true =>
    simp only [Bool.not_true, cond_false]
    obtain ⟨hb, hs, hs2⟩ := sumOk_inv hok
    simp only [lt_eq]
    rw [max_if' a0 0]
    generalize hn : max a0 0 = a
    have ha : 0 ≤ a := by omega
    have hr : rightV a1 = true := rightV_mem.2 hb
    by_cases hge : a ≥ sumV a1
    · simp only [show decide (a ≥ sumV a1) = true by simpa using hge, cond_true]
      simp (disch := omega) only [lt_eq, chk_dec, chk_tt, chk_and, chk_inb, chk_fits, chk_make, chkn_dec, cond_dt, cond_df, cond_bt, cond_bf, cond_nt, cond_nf, cond_not, cond_and, cond_or, cond_tt, cond_ff, wrap_id, min_if', max_if', Nat.zero_add]
    · simp only [show decide (a ≥ sumV a1) = false by simpa using hge, cond_false]
      obtain ⟨f1, f2, f3⟩ := floors_bound (l := a1) ha (show a < sumV a1 by omega) hb
      have hlf : (floors a (sumV a1) a1).length = a1.length := by simp [floors]
      have hlr : (rems a (sumV a1) a1).length = a1.length := by simp [rems]
      have hne : a1 ≠ [] := by rintro rfl; simp at hs; omega
      have e1 := leftL (1152921504606846976 + a1.length + 2) (rems a (sumV a1) a1) (floors a (sumV a1) a1) [] a (1152921504606846976 + a1.length + 2) (by omega) f1 (by omega) (by omega) (by simp; omega)
      have e2 := dealL40 (1152921504606846976 + a1.length + 2) _ (a - (floors a (sumV a1) a1).sum) (floors a (sumV a1) a1) (rems a (sumV a1) a1) (1152921504606846976 + a1.length + 2) rfl (by omega) (by omega) (by omega) (by omega) (by omega)
        (by intro h; have := congrArg List.length h; rw [hlr] at this; exact hne (List.eq_nil_of_length_eq_zero this)) (fun x hx => by have := f1 x hx; omega)
      rw [hr, Bool.and_true]
      simp (disch := omega) only [chk_dec]
      exact e1.trans e2
theorem right40 : ER 40 (mkE N40.en N40.ex f40) := right_of KN_none T43.right (fun m => [S40_0 (L40_0 m m)]) (t := t40) (by kernel_rfl) (fun m => (all1 (H40_0 m m) all0)) (fun m a => by kernel_rfl) fun (a0, a1) hc => spec40 a0 a1 hc
noncomputable def T40 : Tb Try.prog LQ TE := T43.add 40 _ right40
/-! cascade/cascaderef1.remainder -/
noncomputable def N38 : RoadF := ⟨T40.tab, 38, ⟨[.int .i64, .int .i64, .int .i64], []⟩, ⟨[.int .i64], []⟩, []⟩
abbrev A38_0 : Type := Int × Int × Int × Int × Int
noncomputable def L38_0s (m : Nat) (k : A38_0 → Option (List Un)) : A38_0 → Option (List Un) := fun (a0, a1, a2, a3, a4) =>
  bif decide (a4 ≥ 0) then
   chkn (decide (a2 = 0)) <|
   lt (((w64 (2 * a3)).tmod a2) : Int) fun x1 =>
   chkn (decide (a4 < 0)) <|
   bif (w64 ((BitVec.ofInt 64 (Int.fdiv a1 (2 ^ (min a4.toNat 64))) &&& BitVec.ofInt 64 1).toNat)) == 1 then
    chkn (decide (a2 = 0)) <|
    chkn (decide (a2 = 0)) <|
    k (a0, a1, a2, ((w64 (x1 + (a0.tmod a2))).tmod a2), (w64 (a4 - 1)))
   else
    k (a0, a1, a2, x1, (w64 (a4 - 1)))
  else
   some ([.i a3])
noncomputable def L38_0 (m : Nat) : Nat → A38_0 → Option (List Un) := iterA (L38_0s m)
theorem L38_0_succ (m : Nat) (n : Nat) : L38_0 m (n + 1) = L38_0s m (L38_0 m n) := rfl
noncomputable def S38_0 (F : A38_0 → Option (List Un)) : StopS := ⟨[.lp [0, 1, 0, 1, 1], .blk 0, .code [1, 1, 1]], ⟨frm 30 [(0, .int .i64), (1, .int .i64), (2, .int .i64), (7, .int .i64), (8, .int .i64)], []⟩, onU F⟩
theorem H38_0 (m : Nat) : ∀ n, HO N38 (S38_0 (L38_0 m n)) := loop_holds KN_none T40.right (fun k => [S38_0 k]) (fun k h => (all1 h all0)) fun k a => by kernel_rfl
noncomputable def t38 (m : Nat) : Int × Int × Int → Option (List Un) := fun (a0, a1, a2) =>
  L38_0 m m (a0, a1, a2, 0, 60)
noncomputable def f38 : Int × Int × Int → Bool × List Un := fun (a0, a1, a2) => (decide (0 ≤ a0 ∧ a0 ≤ 1152921504606846976 ∧ 0 ≤ a1 ∧ a1 ≤ 1152921504606846976 ∧ 1 ≤ a2 ∧ a2 ≤ 1152921504606846976), [.i (a0 * a1 % a2)])
theorem spec38 (a0 : Int) (a1 : Int) (a2 : Int) (hc : (decide (0 ≤ a0 ∧ a0 ≤ 1152921504606846976 ∧ 0 ≤ a1 ∧ a1 ≤ 1152921504606846976 ∧ 1 ≤ a2 ∧ a2 ≤ 1152921504606846976)) = true) : ∃ m, t38 m (a0, a1, a2) = some ([.i (a0 * a1 % a2)]) := by
  obtain ⟨g1, g2, g3, g4, g5, g6⟩ := of_decide_eq_true hc
  clear hc
  refine ⟨62, ?_⟩
  have key : ∀ (k : Nat) (r i : Int), k ≤ 61 → i = (k : Int) - 1 → r = a0 * (a1 / 2 ^ k) % a2 → L38_0 62 (k + 1) (a0, a1, a2, r, i) = some [.i (a0 * a1 % a2)] := by
    intro k
    induction k with
    | zero =>
      intro r i _ hi hr
      rw [L38_0_succ]; unfold L38_0s; dsimp only
      simp only [Int.pow_zero, Int.ediv_one] at hr
      rw [← hr]
      rw [cond_df (by omega)]
    | succ k ih =>
      intro r i hk hi hr
      rw [L38_0_succ]; unfold L38_0s; dsimp only
      have i3 : min i.toNat 64 = k := by omega
      have i4 : ¬ a2 = 0 := by omega
      have hP' : (0 : Int) < 2 ^ k := Int.pow_pos (by decide)
      have hd0 : 0 ≤ a1 / 2 ^ k := Int.ediv_nonneg g3 (by omega)
      have hd1 : a1 / 2 ^ k ≤ a1 := Int.ediv_le_self _ g3
      have hr0 : 0 ≤ r := by rw [hr]; exact Int.emod_nonneg _ (by omega)
      have hr1 : r < a2 := by rw [hr]; exact Int.emod_lt_of_pos _ (by omega)
      have hm0 := Int.emod_nonneg a0 i4
      have hm1 := Int.emod_lt_of_pos a0 (show 0 < a2 by omega)
      have hph := pow_half a1 k
      have hc : (a1 / 2 ^ k) % 2 = 0 ∨ (a1 / 2 ^ k) % 2 = 1 := by omega
      obtain ⟨_, s2⟩ := md_step (q := a0 * (a1 / 2 ^ (k + 1)) / a2) (n := a0) (p := a2) (c := (a1 / 2 ^ k) % 2) (by omega) hc rfl hr
      rw [← hph] at s2
      have z0 := Int.emod_nonneg (2 * r) i4
      have z1 := Int.emod_lt_of_pos (2 * r) (show 0 < a2 by omega)
      rw [fd (by rw [i3]; omega), i3, and_one (by omega) (by omega)]
      simp (disch := omega) only [cond_dt, chkn_dec, wrap_id, tm, lt_eq]
      rcases hc with hc | hc
      · rw [hc] at s2 ⊢
        simp only [Int.zero_mul, Int.add_zero] at s2
        simp (disch := omega) only [cond_bf, wrap_id, tm]
        exact ih _ _ (by omega) (by omega) s2.symm
      · rw [hc] at s2 ⊢
        simp only [Int.one_mul] at s2
        simp (disch := omega) only [cond_bt, wrap_id, tm]
        rw [Int.emod_add_emod]
        exact ih _ _ (by omega) (by omega) s2.symm
  have z : a1 / 2 ^ 61 = 0 := by omega
  exact key 61 0 60 (by omega) (by omega) (by rw [z]; simp)
theorem right38 : ER 38 (mkE N38.en N38.ex f38) := right_of KN_none T40.right (fun m => [S38_0 (L38_0 m m)]) (t := t38) (by kernel_rfl) (fun m => (all1 (H38_0 m m) all0)) (fun m a => by kernel_rfl) fun (a0, a1, a2) hc => spec38 a0 a1 a2 hc
noncomputable def T38 : Tb Try.prog LQ TE := T40.add 38 _ right38
/-! cascade/cascaderef1.Pro -/
noncomputable def N27 : RoadF := ⟨T38.tab, 27, ⟨[.int .i64, .ints .i64], []⟩, ⟨[.buf 0 1], [.ints .i64]⟩, []⟩
abbrev A27_3 : Type := Int × Int × Int × Int × List Int × List Int
abbrev A27_2 : Type := Int × List Int × List Int
abbrev A27_1 : Type := Int × Int × Int × List Int × Int × Int × List Int × List Int
abbrev A27_0 : Type := List Int × Int × Int × List Int
noncomputable def L27_3s (m : Nat) (k2 : A27_2 → Option (List Un)) (k : A27_3 → Option (List Un)) : A27_3 → Option (List Un) := fun (a0, a1, a2, a3, a4, a5) =>
  bif decide (a3 < a2) then
   chk (inb a3 a5.length) <|
   chk (decide (a3.toNat < a5.length)) <|
   chk (inb a1 a5.length) <|
   chk (decide (a1.toNat < a5.length)) <|
   bif (decide ((a5.getD a3.toNat 0) > (a5.getD a1.toNat 0))) then
    k (a0, a3, a2, (w64 (a3 + 1)), a4, a5)
   else
    k (a0, a1, a2, (w64 (a3 + 1)), a4, a5)
  else
   chk (inb a1 a4.length) <|
   chk (decide (a1.toNat < a4.length)) <|
   chk (inb a1 a4.length) <|
   chk (decide (a1.toNat < a4.length)) <|
   chk (inb a1 a5.length) <|
   chk (decide (a1.toNat < a5.length)) <|
   k2 ((w64 (a0 - 1)), (List.set a4 a1.toNat (w64 ((a4.getD a1.toNat 0) + 1))), (List.set a5 a1.toNat (-1)))
noncomputable def L27_3 (m : Nat) (k2 : A27_2 → Option (List Un)) : Nat → A27_3 → Option (List Un) := iterA (L27_3s m k2)
theorem L27_3_succ (m : Nat) (k2 : A27_2 → Option (List Un)) (n : Nat) : L27_3 m k2 (n + 1) = L27_3s m k2 (L27_3 m k2 n) := rfl
noncomputable def S27_3 (F : A27_3 → Option (List Un)) : StopS := ⟨[.lp [0, 1, 0, 1, 0, 0, 1, 0, 0, 0, 1, 1, 1, 1, 1, 1, 1, 1], .blk 6, .code [1, 1, 0, 0, 1, 0, 0, 0, 1, 1, 1, 1, 1, 1, 1, 1], .blk 5, .code [1, 1, 0, 0, 0, 1, 1, 1, 1, 1, 1, 1, 1], .lp [0, 0, 1, 1, 1, 1, 1, 1, 1, 1], .blk 4, .code [1, 1, 1, 1, 1, 1, 1, 1, 1]], ⟨frm 134 [(5, .buf 0 1), (10, .int .i64), (11, .buf 1 1), (16, .int .i64), (109, .int .i64), (110, .int .i64)], [.ints .i64, .ints .i64]⟩, onU F⟩
noncomputable def L27_2s (m : Nat) (k : A27_2 → Option (List Un)) : A27_2 → Option (List Un) := fun (a0, a1, a2) =>
  bif decide (a0 > 0) then
   L27_3 m k m (a0, 0, (a2.length : Int), 0, a1, a2)
  else
   some ([.l a1])
noncomputable def L27_2 (m : Nat) : Nat → A27_2 → Option (List Un) := iterA (L27_2s m)
theorem L27_2_succ (m : Nat) (n : Nat) : L27_2 m (n + 1) = L27_2s m (L27_2 m n) := rfl
noncomputable def S27_2 (F : A27_2 → Option (List Un)) : StopS := ⟨[.lp [0, 0, 1, 1, 1, 1, 1, 1, 1, 1], .blk 4, .code [1, 1, 1, 1, 1, 1, 1, 1, 1]], ⟨frm 134 [(5, .buf 0 1), (10, .int .i64), (11, .buf 1 1)], [.ints .i64, .ints .i64]⟩, onU F⟩
noncomputable def L27_1s (m : Nat) (k : A27_1 → Option (List Un)) : A27_1 → Option (List Un) := fun (a0, a1, a2, a3, a4, a5, a6, a7) =>
  bif decide (a5 < a4) then
   chk (inb a5 a3.length) <|
   chk (decide (a5.toNat < a3.length)) <|
   chk (inb a5 a6.length) <|
   chk (decide (a5.toNat < a6.length)) <|
   lt ((List.set a6 a5.toNat (mdV (a3.getD a5.toNat 0) a0 a1 0)) : List Int) fun l6 =>
   chk (inb a5 l6.length) <|
   chk (decide (a5.toNat < l6.length)) <|
   lt ((w64 (a2 - (l6.getD a5.toNat 0))) : Int) fun x9 =>
   chk (inb a5 a7.length) <|
   chk (decide (a5.toNat < a7.length)) <|
   lt ((List.set a7 a5.toNat (-1)) : List Int) fun l10 =>
   chk (inb a5 l6.length) <|
   chk (decide (a5.toNat < l6.length)) <|
   bif (decide ((mdV (a3.getD a5.toNat 0) a0 a1 1) > (l6.getD a5.toNat 0))) then
    chk (decide (0 ≤ (a3.getD a5.toNat 0) ∧ (a3.getD a5.toNat 0) ≤ 1152921504606846976 ∧ 0 ≤ a0 ∧ a0 ≤ 1152921504606846976 ∧ 1 ≤ a1 ∧ a1 ≤ 1152921504606846976)) <|
    chk (inb a5 l10.length) <|
    chk (decide (a5.toNat < l10.length)) <|
    k (a0, a1, x9, a3, a4, (w64 (a5 + 1)), l6, (List.set l10 a5.toNat ((a3.getD a5.toNat 0) * a0 % a1)))
   else
    k (a0, a1, x9, a3, a4, (w64 (a5 + 1)), l6, l10)
  else
   L27_2 m m (a2, a6, a7)
noncomputable def L27_1 (m : Nat) : Nat → A27_1 → Option (List Un) := iterA (L27_1s m)
theorem L27_1_succ (m : Nat) (n : Nat) : L27_1 m (n + 1) = L27_1s m (L27_1 m n) := rfl
noncomputable def S27_1 (F : A27_1 → Option (List Un)) : StopS := ⟨[.lp [0, 1, 0, 1, 1, 1, 1, 1, 1, 1], .blk 2, .code [1, 1, 1, 1, 1, 1, 1, 1]], ⟨frm 134 [(0, .int .i64), (5, .buf 0 1), (6, .int .i64), (10, .int .i64), (11, .buf 1 1), (57, .ints .i64), (58, .int .i64), (59, .int .i64)], [.ints .i64, .ints .i64]⟩, onU F⟩
noncomputable def L27_0s (m : Nat) (k : A27_0 → Option (List Un)) : A27_0 → Option (List Un) := fun (a0, a1, a2, a3) =>
  bif decide (a2 < a1) then
   chk (inb a2 a0.length) <|
   chk (decide (a2.toNat < a0.length)) <|
   chk (inb a2 a3.length) <|
   chk (decide (a2.toNat < a3.length)) <|
   k (a0, a1, (w64 (a2 + 1)), (List.set a3 a2.toNat (a0.getD a2.toNat 0)))
  else
   some ([.l a3])
noncomputable def L27_0 (m : Nat) : Nat → A27_0 → Option (List Un) := iterA (L27_0s m)
theorem L27_0_succ (m : Nat) (n : Nat) : L27_0 m (n + 1) = L27_0s m (L27_0 m n) := rfl
noncomputable def S27_0 (F : A27_0 → Option (List Un)) : StopS := ⟨[.lp [0, 1, 0, 0, 1, 0, 1, 1, 1, 1], .blk 0, .code [1, 0, 1, 0, 1, 1, 1, 1], .code [1, 1, 1, 1, 1]], ⟨frm 134 [(5, .buf 0 1), (40, .ints .i64), (41, .int .i64), (42, .int .i64)], [.ints .i64]⟩, onU F⟩
theorem H27_3 (m : Nat) (k2 : A27_2 → Option (List Un)) (h2 : HO N27 (S27_2 k2)) : ∀ n, HO N27 (S27_3 (L27_3 m k2 n)) := loop_holds KN_none T38.right (fun k => [S27_2 k2, S27_3 k]) (fun k h => (all1 h2 (all1 h all0))) fun k a => by kernel_rfl
theorem H27_2 (m : Nat) : ∀ n, HO N27 (S27_2 (L27_2 m n)) := loop_holds KN_none T38.right (fun k => [S27_3 (L27_3 m (k) m)]) (fun k h => (all1 (H27_3 m _ h m) all0)) fun k a => by kernel_rfl
theorem H27_1 (m : Nat) : ∀ n, HO N27 (S27_1 (L27_1 m n)) := loop_holds KN_none T38.right (fun k => [S27_1 k, S27_2 (L27_2 m m)]) (fun k h => (all1 h (all1 (H27_2 m m) all0))) fun k a => by kernel_rfl
theorem H27_0 (m : Nat) : ∀ n, HO N27 (S27_0 (L27_0 m n)) := loop_holds KN_none T38.right (fun k => [S27_0 k]) (fun k h => (all1 h all0)) fun k a => by kernel_rfl
noncomputable def t27 (m : Nat) : Int × List Int → Option (List Un) := fun (a0, a1) =>
  chk (mayMake (a1.length : Int) 8) <|
  lt ((List.replicate a1.length 0) : List Int) fun l1 =>
  chk (decide (a1.length < 1099511627776)) <|
  bif !(sumOk a1) then
   some ([.l l1])
  else
   bif decide (a0 ≤ 0) then
    some ([.l l1])
   else
    bif (sumV a1) == 0 then
     some ([.l l1])
    else
     bif decide (a0 ≥ (sumV a1)) then
      L27_0 m m (a1, (a1.length : Int), 0, l1)
     else
      chk (mayMake (a1.length : Int) 8) <|
      L27_1 m m (a0, (sumV a1), a0, a1, (a1.length : Int), 0, l1, (List.replicate a1.length 0))
theorem bestL27 (m : Nat) (k1 : A27_2 → Option (List Un)) (left : Int) (out lost : List Int) (h1 : 0 < left) (h2 : left < 4611686018427387904) (hl : out.length = lost.length) (hs : lost.length < 1099511627776)
    (hb : ∀ x ∈ out, 0 ≤ x ∧ x < 4611686018427387904) : ∀ (rest pre : List Int) (b n : Nat), rest.length < n → lost = pre ++ rest → b < lost.length →
    L27_3 m k1 n (left, (b : Int), (lost.length : Int), (pre.length : Int), out, lost) =
      k1 (left - 1, out.set (bestF lost rest pre.length b) (out.getD (bestF lost rest pre.length b) 0 + 1), lost.set (bestF lost rest pre.length b) (-1)) := by
  intro rest
  induction rest with
  | nil =>
    intro pre b n hn he hlt
    obtain ⟨n, rfl⟩ := one_more n (by simp at hn; omega)
    have hp : pre.length = lost.length := by rw [he]; simp
    have hm := hb _ (getD_mem (l := out) (i := b) (by omega))
    rw [L27_3_succ]; unfold L27_3s; dsimp only
    simp only [bestF, Int.toNat_natCast]
    simp (disch := omega) only [lt_eq, chk_dec, chk_tt, chk_and, chk_inb, chk_fits, chk_make, chkn_dec, cond_dt, cond_df, cond_bt, cond_bf, cond_nt, cond_nf, cond_not, cond_and, cond_or, cond_tt, cond_ff, wrap_id, min_if', max_if']
  | cons x rest ih =>
    intro pre b n hn he hlt
    obtain ⟨n, rfl⟩ := one_more n (by simp at hn; omega)
    have hp : lost.length = pre.length + (rest.length + 1) := by rw [he]; simp
    have hg : lost.getD pre.length 0 = x := by rw [he]; simp
    rw [L27_3_succ]; unfold L27_3s; dsimp only
    simp only [bestF, Int.toNat_natCast, hg]
    have i1 := ih (pre ++ [x]) pre.length n (by simp at hn; omega) (by rw [he]; simp) (by omega)
    have i2 := ih (pre ++ [x]) b n (by simp at hn; omega) (by rw [he]; simp) hlt
    simp only [List.length_append, List.length_cons, List.length_nil, Int.natCast_add, Nat.zero_add, Int.cast_ofNat_Int] at i1 i2
    by_cases c : x > lost.getD b 0
    · simp (disch := omega) only [lt_eq, chk_dec, chk_tt, chk_and, chk_inb, chk_fits, chk_make, chkn_dec, cond_dt, cond_df, cond_bt, cond_bf, cond_nt, cond_nf, cond_not, cond_and, cond_or, cond_tt, cond_ff, wrap_id, min_if', max_if']
      exact i1
    · simp (disch := omega) only [lt_eq, chk_dec, chk_tt, chk_and, chk_inb, chk_fits, chk_make, chkn_dec, cond_dt, cond_df, cond_bt, cond_bf, cond_nt, cond_nf, cond_not, cond_and, cond_or, cond_tt, cond_ff, wrap_id, min_if', max_if']
      exact i2
theorem dealL27 (m : Nat) : ∀ (k : Nat) (left : Int) (out lost : List Int) (n : Nat), left.toNat = k → k < n → left < 4611686018427387904 → out.length = lost.length → lost.length < 1099511627776 → lost.length < m → lost ≠ [] → (∀ x ∈ out, 0 ≤ x ∧ x + left < 4611686018427387904) →
    L27_2 m n (left, out, lost) = some [.l (dealZ (-1) k out lost)] := by
  intro k
  induction k with
  | zero =>
    intro left out lost n hk hn h2 hl hs hm hne hb
    obtain ⟨n, rfl⟩ := one_more n (by omega)
    rw [L27_2_succ]; unfold L27_2s; dsimp only
    simp only [dealZ]
    rw [cond_df (by omega)]
  | succ k ih =>
    intro left out lost n hk hn h2 hl hs hm hne hb
    obtain ⟨n, rfl⟩ := one_more n (by omega)
    rw [L27_2_succ]; unfold L27_2s; dsimp only
    have hB := bestOf_lt hne
    rw [cond_dt (by omega)]
    have := bestL27 m (L27_2 m n) left out lost (by omega) h2 hl hs (fun x hx => by have := hb x hx; omega) lost [] 0 m hm rfl (List.length_pos_iff.2 hne)
    simp only [List.length_nil, Int.natCast_zero] at this
    refine this.trans ?_
    have hq := hb _ (getD_mem (l := out) (i := bestOf lost) (by omega))
    rw [show bestF lost lost 0 0 = bestOf lost from rfl]
    refine ih _ _ _ _ (by omega) (by omega) (by omega) (by simp [hl]) (by simpa using hs) (by simpa using hm) (by intro h; simp at h; exact hne h) (fun x hx => ?_)
    rcases List.mem_or_eq_of_mem_set hx with h | h
    · have := hb x h; omega
    · omega
theorem copyL (m : Nat) : ∀ (rest pre d : List Int) (n : Nat), rest.length < n → d.length = pre.length → (pre ++ rest).length < 1099511627776 →
    L27_0 m n (pre ++ rest, ((pre ++ rest).length : Int), (pre.length : Int), d ++ List.replicate rest.length 0) = some [.l (d ++ rest)] := by
  intro rest
  induction rest with
  | nil =>
    intro pre d n hn hp h3
    obtain ⟨n, rfl⟩ := one_more n (by simp at hn; omega)
    rw [L27_0_succ]; unfold L27_0s; dsimp only
    simp [cond_df]
  | cons x rest ih =>
    intro pre d n hn hp h3
    obtain ⟨n, rfl⟩ := one_more n (by simp at hn; omega)
    simp only [List.length_append, List.length_cons] at h3 hn
    rw [L27_0_succ]; unfold L27_0s; dsimp only
    simp only [List.length_cons, List.replicate_succ]
    have := ih (pre ++ [x]) (d ++ [x]) n (by omega) (by simp; omega) (by simp; omega)
    simp (disch := omega) only [lt_eq, chk_dec, chk_tt, chk_and, chk_inb, chk_fits, chk_make, chkn_dec, cond_dt, cond_df, cond_bt, cond_bf, cond_nt, cond_nf, cond_not, cond_and, cond_or, cond_tt, cond_ff, wrap_id, min_if', max_if', List.length_append, List.length_cons, List.length_nil, List.length_replicate, List.length_set, List.length_map, List.length_range, Int.natCast_add, Int.cast_ofNat_Int, Int.toNat_natCast, Int.add_assoc, Nat.zero_add, Int.zero_add, List.append_assoc, List.cons_append, List.nil_append, getD_mid, set_mid2 _ _ _ _ _ hp]
    simp only [List.length_append, List.length_cons, List.length_nil, List.length_replicate, List.length_set, List.length_map, List.length_range, Int.natCast_add, Int.cast_ofNat_Int, Int.toNat_natCast, Int.add_assoc, Nat.zero_add, Int.zero_add, List.append_assoc, List.cons_append, List.nil_append] at this ⊢
    exact this
theorem compL (m : Nat) (a s : Int) (h1 : 0 ≤ a) (h2 : a < s) (h3 : s ≤ 1152921504606846976) : ∀ (rest pre d1 d2 : List Int) (left : Int) (n : Nat), rest.length < n → d1.length = pre.length → d2.length = pre.length → (∀ x ∈ rest, 0 ≤ x ∧ x ≤ 1152921504606846976) →
    left ≤ 1152921504606846976 → -1152921504606846976 ≤ left - (floors a s rest).sum → (pre ++ rest).length < 1099511627776 →
    L27_1 m n (a, s, left, pre ++ rest, ((pre ++ rest).length : Int), (pre.length : Int), d1 ++ List.replicate rest.length 0, d2 ++ List.replicate rest.length 0) =
      L27_2 m m (left - (floors a s rest).sum, d1 ++ floors a s rest, d2 ++ (rems a s rest).map phiR) := by
  intro rest
  induction rest with
  | nil =>
    intro pre d1 d2 left n hn p1 p2 hb l1 l2 h4
    obtain ⟨n, rfl⟩ := one_more n (by simp at hn; omega)
    rw [L27_1_succ]; unfold L27_1s; dsimp only
    simp [cond_df, floors, rems]
  | cons x rest ih =>
    intro pre d1 d2 left n hn p1 p2 hb l1 l2 h4
    obtain ⟨n, rfl⟩ := one_more n (by simp at hn; omega)
    simp only [List.length_append, List.length_cons] at h4 hn
    have hx := hb x (by simp)
    obtain ⟨e0, e1, q0, q1, r0⟩ := mdUp1 hx.1 hx.2 h1 h2 h3
    have hf : 0 ≤ (floors a s rest).sum := (floors_bound h1 h2 (fun y hy => hb y (by simp [hy]))).2.1
    have ef : (floors a s (x :: rest)) = a * x / s :: floors a s rest := rfl
    have er : (rems a s (x :: rest)).map phiR = phiR (a * x % s) :: (rems a s rest).map phiR := rfl
    rw [ef, List.sum_cons] at l2
    rw [ef, er, List.sum_cons]
    rw [L27_1_succ]; unfold L27_1s; dsimp only
    simp only [List.length_cons, List.replicate_succ]
    have := ih (pre ++ [x]) (d1 ++ [a * x / s]) (d2 ++ [phiR (a * x % s)]) (left - a * x / s) n (by omega) (by simp; omega) (by simp; omega) (fun y hy => hb y (by simp [hy])) (by omega) (by omega) (by simp; omega)
    rw [show left - (a * x / s + (floors a s rest).sum) = left - a * x / s - (floors a s rest).sum by omega]
    by_cases hr : a * x % s > 0
    · rw [if_pos hr] at e1
      rw [show phiR (a * x % s) = a * x % s by unfold phiR; rw [if_neg (by omega)]] at this ⊢
      simp (disch := omega) only [lt_eq, chk_dec, chk_tt, chk_and, chk_inb, chk_fits, chk_make, chkn_dec, cond_dt, cond_df, cond_bt, cond_bf, cond_nt, cond_nf, cond_not, cond_and, cond_or, cond_tt, cond_ff, wrap_id, min_if', max_if', List.length_append, List.length_cons, List.length_nil, List.length_replicate, List.length_set, List.length_map, List.length_range, Int.natCast_add, Int.cast_ofNat_Int, Int.toNat_natCast, Int.add_assoc, Nat.zero_add, Int.zero_add, List.append_assoc, List.cons_append, List.nil_append, getD_mid, e0, e1, set_mid2 _ _ _ _ _ p1, getD_mid2 _ _ _ _ _ p1, set_mid2 _ _ _ _ _ p2]
      simp only [List.length_append, List.length_cons, List.length_nil, List.length_replicate, List.length_set, List.length_map, List.length_range, Int.natCast_add, Int.cast_ofNat_Int, Int.toNat_natCast, Int.add_assoc, Nat.zero_add, Int.zero_add, List.append_assoc, List.cons_append, List.nil_append] at this ⊢
      simp only [Int.mul_comm x a]
      exact this
    · rw [if_neg hr, Int.add_zero] at e1
      rw [show phiR (a * x % s) = -1 by unfold phiR; rw [if_pos (by omega)]] at this ⊢
      simp (disch := omega) only [lt_eq, chk_dec, chk_tt, chk_and, chk_inb, chk_fits, chk_make, chkn_dec, cond_dt, cond_df, cond_bt, cond_bf, cond_nt, cond_nf, cond_not, cond_and, cond_or, cond_tt, cond_ff, wrap_id, min_if', max_if', List.length_append, List.length_cons, List.length_nil, List.length_replicate, List.length_set, List.length_map, List.length_range, Int.natCast_add, Int.cast_ofNat_Int, Int.toNat_natCast, Int.add_assoc, Nat.zero_add, Int.zero_add, List.append_assoc, List.cons_append, List.nil_append, getD_mid, e0, e1, set_mid2 _ _ _ _ _ p1, getD_mid2 _ _ _ _ _ p1, set_mid2 _ _ _ _ _ p2]
      simp only [List.length_append, List.length_cons, List.length_nil, List.length_replicate, List.length_set, List.length_map, List.length_range, Int.natCast_add, Int.cast_ofNat_Int, Int.toNat_natCast, Int.add_assoc, Nat.zero_add, Int.zero_add, List.append_assoc, List.cons_append, List.nil_append] at this ⊢
      exact this
noncomputable def f27 : Int × List Int → Bool × List Un := fun (a0, a1) => (decide (a0 ≤ 9223372036854775807 ∧ a1.length < 1099511627776), [.l (proV a0 a1)])
theorem spec27 (a0 : Int) (a1 : List Int) (hc : (decide (a0 ≤ 9223372036854775807 ∧ a1.length < 1099511627776)) = true) : ∃ m, t27 m (a0, a1) = some ([.l (proV a0 a1)]) := by
  obtain ⟨h1, h2⟩ := of_decide_eq_true hc
  clear hc
  refine ⟨1152921504606846976 + a1.length + 2, ?_⟩
  unfold t27 proV
  dsimp only
  rw [chk_make (by omega) (by omega) (by omega), lt_eq, chk_dec h2]
  cases hok : sumOk a1 with
  | false => rfl
  | true =>
    simp only [Bool.not_true, cond_false]
    obtain ⟨hb, hs, hs2⟩ := sumOk_inv hok
    have hs0 := sum_nonneg a1 (fun x hx => (hb x hx).1)
    by_cases hz : sumV a1 = 0
    · have ez := zeros_of_sum a1 (fun x hx => (hb x hx).1) (by omega)
      rw [hz, show decide (max a0 0 ≥ 0) = true from decide_eq_true (by omega), cond_true]
      generalize hk : (1152921504606846976 + a1.length + 2) = k
      conv => rhs; rw [ez]
      rw [cond_bt rfl, cond_same]
    by_cases h0 : a0 ≤ 0
    · rw [show max a0 0 = 0 by omega, show decide (0 ≥ sumV a1) = false from decide_eq_false (by omega), cond_false, floors_zero, sum_rep]
      show _ = some [Un.l (List.replicate a1.length 0)]
      rw [cond_dt h0]
    rw [show max a0 0 = a0 by omega]
    by_cases hge : a0 ≥ sumV a1
    · simp only [show decide (a0 ≥ sumV a1) = true from decide_eq_true hge, cond_true]
      have := copyL (1152921504606846976 + a1.length + 2) a1 [] [] (1152921504606846976 + a1.length + 2) (by omega) rfl (by simpa using h2)
      rw [cond_df h0, cond_bf hz]
      exact this
    · simp only [show decide (a0 ≥ sumV a1) = false from decide_eq_false hge, cond_false]
      obtain ⟨f1, f2, f3⟩ := floors_bound (l := a1) (show 0 ≤ a0 by omega) (show a0 < sumV a1 by omega) hb
      have hlf : (floors a0 (sumV a1) a1).length = a1.length := by simp [floors]
      have hlr : (rems a0 (sumV a1) a1).length = a1.length := by simp [rems]
      have hne : a1 ≠ [] := by rintro rfl; simp at hs; omega
      have hnr : rems a0 (sumV a1) a1 ≠ [] := by intro h; have := congrArg List.length h; rw [hlr] at this; exact hne (List.eq_nil_of_length_eq_zero this)
      have hr0 : ∀ x ∈ rems a0 (sumV a1) a1, 0 ≤ x := by
        intro y hy
        obtain ⟨x, hx, rfl⟩ := List.mem_map.1 hy
        exact Int.emod_nonneg _ (by omega)
      have e1 := compL (1152921504606846976 + a1.length + 2) a0 (sumV a1) (by omega) (by omega) (by omega) a1 [] [] [] a0 (1152921504606846976 + a1.length + 2) (by omega) rfl rfl hb (by omega) (by omega) (by simpa using h2)
      have e2 := dealL27 (1152921504606846976 + a1.length + 2) _ (a0 - (floors a0 (sumV a1) a1).sum) (floors a0 (sumV a1) a1) ((rems a0 (sumV a1) a1).map phiR) (1152921504606846976 + a1.length + 2) rfl (by omega) (by omega) (by simp [hlf, hlr]) (by simp [hlr]; omega) (by simp [hlr]; omega)
        (by simp [hnr]) (fun x hx => by have := f1 x hx; omega)
      rw [deal_phi _ _ _ hr0 hnr] at e2
      rw [cond_df h0, cond_bf hz, chk_make (by omega) (by omega) (by omega)]
      exact e1.trans e2
theorem right27 : ER 27 (mkE N27.en N27.ex f27) := right_of KN_none T38.right (fun m => [S27_0 (L27_0 m m), S27_1 (L27_1 m m)]) (t := t27) (by kernel_rfl) (fun m => (all1 (H27_0 m m) (all1 (H27_1 m m) all0))) (fun m a => by kernel_rfl) fun (a0, a1) hc => spec27 a0 a1 hc
noncomputable def T27 : Tb Try.prog LQ TE := T38.add 27 _ right27

end Go.Proofs.Ytncgbpajngakpaa
