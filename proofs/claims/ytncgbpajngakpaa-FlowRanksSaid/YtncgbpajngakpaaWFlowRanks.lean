/- A part of the walk. -/
import Derived.Test.YtncgbpajngakpaaFlowPlain2
namespace Go.Proofs.Ytncgbpajngakpaa
open Go Go.Proofs.Ytncgbpajngakpaa.Ev
set_option linter.unusedVariables false
set_option linter.unusedSimpArgs false
set_option linter.unnecessarySimpa false

/-- Where something is left nobody that was picked lacks anything. -/
theorem shares_paid {c : List Dat} (sel : Dat → Bool) {j : Nat} (hj : j = 1 ∨ j = 2) {n : Int} (h : claimsG c = true) (hs : (sharesV sel j n c).sum < n) : ∀ i, i < c.length → sel (rowD c i) = true → (rowD (giveAll j (sharesV sel j n c) c) i).i j = 0 := by
  intro i hi hsel
  obtain ⟨l1, l2, l3⟩ := sharesV_ok sel hj n h
  have hw := (wantV_ok sel hj h).2.2.1
  have hf := sharesV_full sel hj h (n := n) (by omega)
  have e : (sharesV sel j n c).getD i 0 = (rowD c i).i j := by
    rw [hf]
    simp [List.getD_eq_getElem?_getD, hi, rowD, hsel]
    have : sel c[i] = true := by rw [rowD_get hi] at hsel; exact hsel
    rw [this]; rfl
  rw [giveAll_row j _ c i l1 hi, e]
  rcases hj with rfl | rfl
  · simp only [lessD, if_true, fld_i1]; omega
  · simp only [lessD, show ¬ (2 : Nat) = 1 by decide, if_false, fld_i2]; omega
theorem shares_sel {c : List Dat} (sel : Dat → Bool) {j : Nat} (hj : j = 1 ∨ j = 2) (n : Int) (h : claimsG c = true) (a k : Int) : ∀ d ∈ payAll a k 0 (sharesV sel j n c), ∃ t : Nat, d.i 2 = (t : Int) ∧ t < c.length ∧ sel (rowD c t) = true ∧ 0 < (sharesV sel j n c).sum := by
  intro d hd
  obtain ⟨l1, l2, l3⟩ := sharesV_ok sel hj n h
  obtain ⟨h1, h2, h3, h4, h5⟩ := payAll_row a k _ 0 d hd
  refine ⟨(d.i 2).toNat, by omega, by omega, ?_, ?_⟩
  · have := l3 (d.i 2).toNat (by omega)
    rw [Int.sub_zero] at h5
    cases hs : sel (rowD c (d.i 2).toNat)
    · rw [hs] at this; simp only [cond_false] at this; omega
    · rfl
  · have hm := shares_mem sel hj n h
    have := sumI_le_mem 3 _ (payAll_mem a k (sharesV sel j n c) 0) d hd
    rw [payAll_sum a k _ 0 hm] at this
    omega
theorem Kept.rank {x x' : RunN} {c ps c' : List Dat} (k : Kept x c ps x' c') {i : Nat} (hi : i < c.length) : (rowD c' i).i 0 = (rowD c i).i 0 := by rw [k.row i hi, fld_i0]
theorem Kept.le1 {x x' : RunN} {c ps c' : List Dat} (k : Kept x c ps x' c') (hp : ∀ d ∈ ps, 0 ≤ d.i 3) {i : Nat} (hi : i < c.length) : (rowD c' i).i 1 ≤ (rowD c i).i 1 := by
  have := sumW_nonneg (toB i) ps hp
  rw [k.row i hi, fld_i1]; omega
theorem Kept.le2 {x x' : RunN} {c ps c' : List Dat} (k : Kept x c ps x' c') (hp : ∀ d ∈ ps, 0 ≤ d.i 3) {i : Nat} (hi : i < c.length) : (rowD c' i).i 2 ≤ (rowD c i).i 2 := by
  have := sumW_nonneg (toI i) ps hp
  rw [k.row i hi, fld_i2]; omega
theorem claims_ge {c : List Dat} (h : claimsG c = true) {i : Nat} (hi : i < c.length) : 0 ≤ (rowD c i).i 1 ∧ 0 ≤ (rowD c i).i 2 := by
  have := claimG_at ((claimsG_at h).2 _ (rowD_in hi)); omega
/-- By ranks: a rank has something only if those above have no balance any more. -/
theorem rankV_order {a kd : Int} (hk : kd = 4 ∨ kd = 7) : ∀ (k : Nat) (r n : Int) (c : List Dat), claimsG c = true → ∀ d ∈ (rankV a kd k r n c).2.1, ∃ t : Nat, d.i 2 = (t : Int) ∧ t < c.length ∧ r ≤ (rowD c t).i 0 ∧
    ∀ i, i < c.length → r ≤ (rowD c i).i 0 → (rowD c i).i 0 < (rowD c t).i 0 → (rowD (rankV a kd k r n c).1 i).i 1 = 0
  | 0, r, n, c, h, d, hd => by simp [rankV] at hd
  | k + 1, r, n, c, h, d, hd => by
    obtain ⟨g1, g2⟩ := give_ok (rankS r) (j := 1) (.inl rfl) n h
    have x0 : RunN := ⟨0, 0, 0, 0, 0⟩
    have kk := Kept.shares (rankS r) n h x0 a (j := 1) (kd := kd) (.inr ⟨rfl, by omega⟩)
    have kr := Kept.ranks (a := a) hk k (r + 1) (n - (sharesV (rankS r) 1 n c).sum) x0 _ g1
    have kp := (rankV_sum a kd k (r + 1) (n - (sharesV (rankS r) 1 n c).sum) _ g1).2
    have ko := (rankV_ok a kd k (r + 1) (n - (sharesV (rankS r) 1 n c).sum) _ g1).1
    simp only [rankV] at hd ⊢
    rcases List.mem_append.1 hd with hd | hd
    · obtain ⟨t, h1, h2, h3, h4⟩ := shares_sel (rankS r) (.inl rfl) n h a kd d hd
      have : (rowD c t).i 0 = r := by simpa [rankS] using h3
      exact ⟨t, h1, h2, by omega, fun i hi h5 h6 => by omega⟩
    · have hpos : (sharesV (rankS r) 1 n c).sum < n := by
        rcases Int.lt_or_le (sharesV (rankS r) 1 n c).sum n with h5 | h5
        · exact h5
        · rw [rankV_zero a kd k (r + 1) _ _ (by omega) g1] at hd; cases hd
      obtain ⟨t, h1, h2, h3, h4⟩ := rankV_order hk k (r + 1) _ _ g1 d hd
      rw [g2] at h2 h4
      rw [kk.rank h2] at h3
      refine ⟨t, h1, h2, by omega, fun i hi h5 h6 => ?_⟩
      by_cases e : (rowD c i).i 0 = r
      · have z := shares_paid (rankS r) (.inl rfl) h hpos i hi (by simp [rankS, e])
        have m1 := kr.le1 kp (i := i) (by rw [g2]; exact hi)
        have m2 := (claims_ge ko (i := i) (by rw [kr.len, g2]; exact hi)).1
        omega
      · refine h4 i hi ?_ ?_
        · rw [kk.rank hi]; omega
        · rw [kk.rank hi, kk.rank h2]; exact h6
/-- Interest of ranks, one behind the other. -/
def ranksI (r : Int) : Nat → List Dat
  | 0 => []
  | k + 1 => .r [.n 3, .n r] :: ranksI (r + 1) k
theorem ranksI_order : ∀ (k : Nat) (r a : Int) (x : RunN) (c : List Dat), runG x = true → claimsG c = true → (0 < x.cash → ∀ i, i < c.length → (rowD c i).i 0 < r → (rowD c i).i 2 = 0) → (∀ i, i < c.length → (rowD c i).i 0 < r ∨ r ≤ (rowD c i).i 0) →
    (0 < (runV a (ranksI r k) x c).1.cash → ∀ i, i < c.length → (rowD c i).i 0 < r + k → (rowD (runV a (ranksI r k) x c).2.1 i).i 2 = 0) ∧
    ∀ d ∈ (runV a (ranksI r k) x c).2.2, d.i 1 = 3 ∧ ∃ t : Nat, d.i 2 = (t : Int) ∧ t < c.length ∧ ∀ i, i < c.length → (rowD c i).i 0 < (rowD c t).i 0 → (rowD (runV a (ranksI r k) x c).2.1 i).i 2 = 0
  | 0, r, a, x, c, hx, h, h0, _ => ⟨fun hp i hi hr => h0 hp i hi (by simpa using hr), fun d hd => by simp [ranksI, runV] at hd⟩
  | k + 1, r, a, x, c, hx, h, h0, h1 => by
    obtain ⟨s1, s2, s3, s4⟩ := stepV_ok a 3 r hx h
    obtain ⟨q1, q2⟩ := stepV_kept a 3 r hx h
    have qp : ∀ d ∈ (stepV a 3 r x c).2.2, 0 ≤ d.i 3 := fun d hd => by have := (q2 d hd).2.2.1; omega
    have est : stepV a 3 r x c = ({ x with cash := x.cash - (sharesV (rankS r) 2 x.cash c).sum }, giveAll 2 (sharesV (rankS r) 2 x.cash c) c, payAll a 3 0 (sharesV (rankS r) 2 x.cash c)) := by
      simp only [stepV, show ¬ (3 : Int) = 1 by decide, show ¬ (3 : Int) = 2 by decide, show ¬ (3 : Int) = 6 by decide, if_true, if_false]
    have hx' := runG_at hx
    obtain ⟨l1, l2, l3⟩ := sharesV_ok (rankS r) (j := 2) (.inr rfl) x.cash h
    have w0 := (wantV_ok (rankS r) (j := 2) (.inr rfl) h).2.2.1
    -- behind this step
    have hin : 0 < (stepV a 3 r x c).1.cash → ∀ i, i < (stepV a 3 r x c).2.1.length → (rowD (stepV a 3 r x c).2.1 i).i 0 < r + 1 → (rowD (stepV a 3 r x c).2.1 i).i 2 = 0 := by
      intro hp i hi hr
      rw [s3] at hi
      rw [q1.rank hi] at hr
      by_cases e : (rowD c i).i 0 = r
      · have : (sharesV (rankS r) 2 x.cash c).sum < x.cash := by rw [est] at hp; simp only at hp; omega
        have := shares_paid (rankS r) (.inr rfl) h this i hi (by simp [rankS, e])
        rw [est]; exact this
      · have z := h0 (by rw [est] at hp; simp only at hp; omega) i hi (by omega)
        have m1 := q1.le2 qp hi
        have m2 := (claims_ge s2 (i := i) (by rw [s3]; exact hi)).2
        omega
    obtain ⟨i1, i2⟩ := ranksI_order k (r + 1) (a + 1) _ _ s1 s2 hin (fun i _ => by omega)
    obtain ⟨p1, p2, _⟩ := runV_kept (ranksI (r + 1) k) (a + 1) _ _ s1 s2
    have pp : ∀ d ∈ (runV (a + 1) (ranksI (r + 1) k) (stepV a 3 r x c).1 (stepV a 3 r x c).2.1).2.2, 0 ≤ d.i 3 := fun d hd => by have := (p2 d hd).2.2.2.1; omega
    have po := (runV_ok (ranksI (r + 1) k) (a + 1) _ _ s1 s2).2.1
    simp only [ranksI, runV, fld_i0, fld_i1]
    rw [s3] at i1 i2
    refine ⟨fun hp i hi hr => i1 hp i hi (by rw [q1.rank hi]; simp only [Int.natCast_add] at hr; omega), fun d hd => ?_⟩
    rcases List.mem_append.1 hd with hd | hd
    · refine ⟨(q2 d hd).2.1, ?_⟩
      rw [est] at hd
      obtain ⟨t, g1, g2, g3, g4⟩ := shares_sel (rankS r) (.inr rfl) x.cash h a 3 d hd
      have : (rowD c t).i 0 = r := by simpa [rankS] using g3
      refine ⟨t, g1, g2, fun i hi hr => ?_⟩
      have z := h0 (by omega) i hi (by omega)
      have m0 := q1.le2 qp hi
      have m1 := p1.le2 pp (i := i) (by rw [s3]; exact hi)
      have m2 := (claims_ge po (i := i) (by rw [p1.len, s3]; exact hi)).2
      omega
    · obtain ⟨e1, t, g1, g2, g3⟩ := i2 d hd
      exact ⟨e1, t, g1, g2, fun i hi hr => g3 i hi (by rw [q1.rank hi, q1.rank g2]; exact hr)⟩
/-- A payment, as those above and their interest are behind all. -/
def OrderOk (c c' : List Dat) (d : Dat) : Prop := ∃ t : Nat, d.i 2 = (t : Int) ∧ t < c.length ∧ ∀ i, i < c.length → ((rowD c i).i 0 < (rowD c t).i 0 → (d.i 1 = 3 → (rowD c' i).i 2 ≤ 0) ∧ (d.i 1 ≠ 3 → (rowD c' i).i 1 ≤ 0)) ∧ (d.i 1 ≠ 3 → (rowD c' i).i 2 ≤ 0)
theorem ranks_law {x : RunN} {c : List Dat} (hx : runG x = true) (h : claimsG c = true) (hr : ∀ i, i < c.length → 0 ≤ (rowD c i).i 0 ∧ (rowD c i).i 0 ≤ 3) : ∀ d ∈ (runV 0 (ranksI 0 4 ++ [.r [.n 4, .n 0], .r [.n 7, .n 0]]) x c).2.2, OrderOk c (runV 0 (ranksI 0 4 ++ [.r [.n 4, .n 0], .r [.n 7, .n 0]]) x c).2.1 d := by
  obtain ⟨a1, a2⟩ := ranksI_order 4 0 0 x c hx h (fun _ i hi hlt => by have := hr i hi; omega) (fun i _ => by omega)
  obtain ⟨o1, o2, o3, o4⟩ := runV_ok (ranksI 0 4) 0 x c hx h
  obtain ⟨k1, k2, _⟩ := runV_kept (ranksI 0 4) 0 x c hx h
  rw [runV_app]
  generalize runV 0 (ranksI 0 4) x c = R at *
  obtain ⟨y, e, ps⟩ := R
  simp only at a1 a2 o1 o2 o3 k1 k2 ⊢
  simp only [runV, fld_i0, fld_i1]
  generalize hb : (0 : Int) + ((ranksI 0 4).length : Int) = b
  -- principal
  have u1 : stepV b 4 0 y e = ({ y with cash := y.cash - (rankV b 4 8 0 (min y.principal y.cash) e).2.2, principal := y.principal - (rankV b 4 8 0 (min y.principal y.cash) e).2.2 }, (rankV b 4 8 0 (min y.principal y.cash) e).1, (rankV b 4 8 0 (min y.principal y.cash) e).2.1) := by
    simp only [stepV, show ¬ (4 : Int) = 1 by decide, show ¬ (4 : Int) = 2 by decide, show ¬ (4 : Int) = 6 by decide, show ¬ (4 : Int) = 3 by decide, if_true, if_false]
  obtain ⟨s1, s2, s3, s4⟩ := stepV_ok b 4 0 o1 o2
  obtain ⟨q1, q2⟩ := stepV_kept b 4 0 o1 o2
  have qp : ∀ d ∈ (stepV b 4 0 y e).2.2, 0 ≤ d.i 3 := fun d hd => by have := (q2 d hd).2.2.1; omega
  have ord1 := rankV_order (a := b) (kd := 4) (.inl rfl) 8 0 (min y.principal y.cash) e o2
  have z1 : y.cash ≤ 0 → (rankV b 4 8 0 (min y.principal y.cash) e).2.1 = [] := fun hle => by rw [rankV_zero b 4 8 0 _ e (by omega) o2]
  generalize hP : rankV b 4 8 0 (min y.principal y.cash) e = P at *
  -- all that is left
  have u2 : stepV (b + 1) 7 0 (stepV b 4 0 y e).1 (stepV b 4 0 y e).2.1 = ({ (stepV b 4 0 y e).1 with cash := (stepV b 4 0 y e).1.cash - (rankV (b + 1) 7 8 0 (stepV b 4 0 y e).1.cash (stepV b 4 0 y e).2.1).2.2 }, (rankV (b + 1) 7 8 0 (stepV b 4 0 y e).1.cash (stepV b 4 0 y e).2.1).1, (rankV (b + 1) 7 8 0 (stepV b 4 0 y e).1.cash (stepV b 4 0 y e).2.1).2.1) := by
    generalize stepV b 4 0 y e = w
    simp only [stepV, show ¬ (7 : Int) = 1 by decide, show ¬ (7 : Int) = 2 by decide, show ¬ (7 : Int) = 6 by decide, show ¬ (7 : Int) = 3 by decide, show ¬ (7 : Int) = 4 by decide, show ¬ (7 : Int) = 5 by decide, if_true, if_false]
  obtain ⟨v1, v2, v3, v4⟩ := stepV_ok (b + 1) 7 0 s1 s2
  obtain ⟨w1, w2⟩ := stepV_kept (b + 1) 7 0 s1 s2
  have wp : ∀ d ∈ (stepV (b + 1) 7 0 (stepV b 4 0 y e).1 (stepV b 4 0 y e).2.1).2.2, 0 ≤ d.i 3 := fun d hd => by have := (w2 d hd).2.2.1; omega
  have ord2 := rankV_order (a := b + 1) (kd := 7) (.inr rfl) 8 0 (stepV b 4 0 y e).1.cash (stepV b 4 0 y e).2.1 s2
  have z2 : (stepV b 4 0 y e).1.cash ≤ 0 → (rankV (b + 1) 7 8 0 (stepV b 4 0 y e).1.cash (stepV b 4 0 y e).2.1).2.1 = [] := fun hle => by rw [rankV_zero (b + 1) 7 8 0 _ _ (by omega) s2]
  have hcash := q1.cash
  have hpos := sumI_nonneg 3 _ qp
  generalize hQ : rankV (b + 1) 7 8 0 (stepV b 4 0 y e).1.cash (stepV b 4 0 y e).2.1 = Q at *
  have m12 : ∀ i, i < c.length → (rowD (stepV b 4 0 y e).2.1 i).i 2 ≤ (rowD e i).i 2 := fun i hi => q1.le2 qp (by omega)
  have m22 : ∀ i, i < c.length → (rowD (stepV (b + 1) 7 0 (stepV b 4 0 y e).1 (stepV b 4 0 y e).2.1).2.1 i).i 2 ≤ (rowD (stepV b 4 0 y e).2.1 i).i 2 := fun i hi => w1.le2 wp (by omega)
  have m21 : ∀ i, i < c.length → (rowD (stepV (b + 1) 7 0 (stepV b 4 0 y e).1 (stepV b 4 0 y e).2.1).2.1 i).i 1 ≤ (rowD (stepV b 4 0 y e).2.1 i).i 1 := fun i hi => w1.le1 wp (by omega)
  have r1 : ∀ i, i < c.length → (rowD e i).i 0 = (rowD c i).i 0 := fun i hi => k1.rank hi
  have r2 : ∀ i, i < c.length → (rowD (stepV b 4 0 y e).2.1 i).i 0 = (rowD c i).i 0 := fun i hi => by rw [q1.rank (by omega), r1 i hi]
  intro d hd
  simp only [List.append_nil] at hd ⊢
  rcases List.mem_append.1 hd with hd | hd
  · obtain ⟨e3, t, g1, g2, g3⟩ := a2 d hd
    refine ⟨t, g1, g2, fun i hi => ⟨fun hlt => ⟨fun _ => ?_, fun hne => absurd e3 hne⟩, fun hne => absurd e3 hne⟩⟩
    have := g3 i hi hlt
    have := m12 i hi
    have := m22 i hi
    omega
  · rcases List.mem_append.1 hd with hd | hd
    · have e4 := (q2 d hd).2.1
      have hd' : d ∈ P.2.1 := by rw [u1] at hd; exact hd
      have hp : 0 < y.cash := by
        rcases Int.lt_or_le 0 y.cash with h5 | h5
        · exact h5
        · rw [z1 h5] at hd'; cases hd'
      have hsh : ∀ i, i < c.length → (rowD e i).i 2 = 0 := fun i hi => a1 hp i hi (by have := hr i hi; omega)
      obtain ⟨t, g1, g2, _, g4⟩ := ord1 d hd'
      refine ⟨t, g1, by omega, fun i hi => ⟨fun hlt => ⟨fun h3 => by omega, fun _ => ?_⟩, fun _ => ?_⟩⟩
      · have b0 : (rowD (stepV b 4 0 y e).2.1 i).i 1 = 0 := by
          rw [u1]
          exact g4 i (by omega) (by rw [r1 i hi]; exact (hr i hi).1) (by rw [r1 i hi, r1 t (by omega)]; exact hlt)
        have := m21 i hi
        omega
      · have := hsh i hi
        have := m12 i hi
        have := m22 i hi
        omega
    · have e7 := (w2 d hd).2.1
      have hd' : d ∈ Q.2.1 := by rw [u2] at hd; exact hd
      have hp : 0 < (stepV b 4 0 y e).1.cash := by
        rcases Int.lt_or_le 0 (stepV b 4 0 y e).1.cash with h5 | h5
        · exact h5
        · rw [z2 h5] at hd'; cases hd'
      have hsh : ∀ i, i < c.length → (rowD e i).i 2 = 0 := fun i hi => a1 (by omega) i hi (by have := hr i hi; omega)
      obtain ⟨t, g1, g2, _, g4⟩ := ord2 d hd'
      refine ⟨t, g1, by omega, fun i hi => ⟨fun hlt => ⟨fun h3 => by omega, fun _ => ?_⟩, fun _ => ?_⟩⟩
      · have := g4 i (by omega) (by rw [r2 i hi]; exact (hr i hi).1) (by rw [r2 i hi, r2 t (by omega)]; exact hlt)
        rw [u2]
        simp only
        omega
      · have := hsh i hi
        have := m12 i hi
        have := m22 i hi
        omega
def RFlowRanks : List Par := [(false, [.ints .i64]), (false, [.int .i64])]
/-! cascade/cascadelaw17.FlowRanks -/
noncomputable def N6 : RoadF := ⟨T12.tab, 6, ⟨List.map Par.vp RFlowRanks, []⟩, ⟨[.bool], []⟩, []⟩
abbrev A6_2 : Type := Int × Int × Int × Int × Int × Int × Int × Int × Int × Int × Int × Int × Int × Int × Int × Int × List Dat × List Dat × List Dat
abbrev A6_1 : Type := Int × Int × Int × Int × Int × Int × Int × Int × Int × Int × List Dat × List Dat × List Dat
abbrev A6_0 : Type := Int × Int × Int × Int × Int × Int × List Dat × List Dat
noncomputable def L6_2s (m : Nat) (k1 : A6_1 → Option (List Un)) (k : A6_2 → Option (List Un)) : A6_2 → Option (List Un) := fun (a0, a1, a2, a3, a4, a5, a6, a7, a8, a9, a10, a11, a12, a13, a14, a15, a16, a17, a18) =>
  bif decide (a3 < a2) then
   chk (inb a3 a17.length) <|
   chk (decide (a3.toNat < a17.length)) <|
   chk (inb a14 a17.length) <|
   chk (decide (a14.toNat < a17.length)) <|
   bif (decide (((rowD a17 a3.toNat).i 0) < ((rowD a17 a14.toNat).i 0))) then
    bif a13 == 3 then
     chk (inb a3 a18.length) <|
     chk (decide (a3.toNat < a18.length)) <|
     bif decide (((rowD a18 a3.toNat).i 2) > 0) then
      some ([.b false])
     else
      bif a13 != 3 then
       chk (inb a3 a18.length) <|
       chk (decide (a3.toNat < a18.length)) <|
       bif decide (((rowD a18 a3.toNat).i 1) > 0) then
        some ([.b false])
       else
        bif a13 != 3 then
         chk (inb a3 a18.length) <|
         chk (decide (a3.toNat < a18.length)) <|
         bif decide (((rowD a18 a3.toNat).i 2) > 0) then
          some ([.b false])
         else
          k (a0, a1, a2, (w64 (a3 + 1)), a4, a5, a6, a7, a8, a9, a10, a11, a12, a13, a14, a15, a16, a17, a18)
        else
         k (a0, a1, a2, (w64 (a3 + 1)), a4, a5, a6, a7, a8, a9, a10, a11, a12, a13, a14, a15, a16, a17, a18)
      else
       bif a13 != 3 then
        chk (inb a3 a18.length) <|
        chk (decide (a3.toNat < a18.length)) <|
        bif decide (((rowD a18 a3.toNat).i 2) > 0) then
         some ([.b false])
        else
         k (a0, a1, a2, (w64 (a3 + 1)), a4, a5, a6, a7, a8, a9, a10, a11, a12, a13, a14, a15, a16, a17, a18)
       else
        k (a0, a1, a2, (w64 (a3 + 1)), a4, a5, a6, a7, a8, a9, a10, a11, a12, a13, a14, a15, a16, a17, a18)
    else
     bif a13 != 3 then
      chk (inb a3 a18.length) <|
      chk (decide (a3.toNat < a18.length)) <|
      bif decide (((rowD a18 a3.toNat).i 1) > 0) then
       some ([.b false])
      else
       bif a13 != 3 then
        chk (inb a3 a18.length) <|
        chk (decide (a3.toNat < a18.length)) <|
        bif decide (((rowD a18 a3.toNat).i 2) > 0) then
         some ([.b false])
        else
         k (a0, a1, a2, (w64 (a3 + 1)), a4, a5, a6, a7, a8, a9, a10, a11, a12, a13, a14, a15, a16, a17, a18)
       else
        k (a0, a1, a2, (w64 (a3 + 1)), a4, a5, a6, a7, a8, a9, a10, a11, a12, a13, a14, a15, a16, a17, a18)
     else
      bif a13 != 3 then
       chk (inb a3 a18.length) <|
       chk (decide (a3.toNat < a18.length)) <|
       bif decide (((rowD a18 a3.toNat).i 2) > 0) then
        some ([.b false])
       else
        k (a0, a1, a2, (w64 (a3 + 1)), a4, a5, a6, a7, a8, a9, a10, a11, a12, a13, a14, a15, a16, a17, a18)
      else
       k (a0, a1, a2, (w64 (a3 + 1)), a4, a5, a6, a7, a8, a9, a10, a11, a12, a13, a14, a15, a16, a17, a18)
   else
    bif a13 != 3 then
     chk (inb a3 a18.length) <|
     chk (decide (a3.toNat < a18.length)) <|
     bif decide (((rowD a18 a3.toNat).i 2) > 0) then
      some ([.b false])
     else
      k (a0, a1, a2, (w64 (a3 + 1)), a4, a5, a6, a7, a8, a9, a10, a11, a12, a13, a14, a15, a16, a17, a18)
    else
     k (a0, a1, a2, (w64 (a3 + 1)), a4, a5, a6, a7, a8, a9, a10, a11, a12, a13, a14, a15, a16, a17, a18)
  else
   k1 (a0, (w64 (a1 + 1)), a4, a5, a6, a7, a8, a9, a10, a11, a16, a17, a18)
noncomputable def L6_2 (m : Nat) (k1 : A6_1 → Option (List Un)) : Nat → A6_2 → Option (List Un) := iterA (L6_2s m k1)
theorem L6_2_succ (m : Nat) (k1 : A6_1 → Option (List Un)) (n : Nat) : L6_2 m k1 (n + 1) = L6_2s m k1 (L6_2 m k1 n) := rfl
noncomputable def S6_2 (F : A6_2 → Option (List Un)) : StopS := ⟨[.lp [0, 1, 1, 1, 0, 0, 1, 1, 0, 0, 1, 0, 1, 1, 1, 1, 1, 1, 1, 1], .blk 4, .blk 3, .code [1, 1, 1, 0, 0, 1, 0, 1, 1, 1, 1, 1, 1, 1, 1], .lp [0, 1, 0, 1, 1, 1, 1, 1, 1, 1, 1], .blk 2, .code [1, 1, 1, 1, 1, 1, 1, 1, 1]], ⟨frm 131 [(5, .ptr 0 0 0), (12, .ptr 1 0 0), (14, .ptr 2 0 0), (53, .buf 3 4), (54, .int .i64), (55, .int .i64), (71, .buf 4 3), (72, .int .i64), (73, .int .i64)], [.cells [.int .i64, .int .i64, .int .i64, .int .i64, .buf 4 3], .cells [.int .i64, .int .i64, .int .i64, .int .i64, .buf 5 3], .cells [.int .i64, .int .i64, .int .i64, .int .i64], .recs [.int .i64, .int .i64, .int .i64, .int .i64], .recs [.int .i64, .int .i64, .int .i64], .recs [.int .i64, .int .i64, .int .i64]]⟩, onU F⟩
noncomputable def L6_1s (m : Nat) (k : A6_1 → Option (List Un)) : A6_1 → Option (List Un) := fun (a0, a1, a2, a3, a4, a5, a6, a7, a8, a9, a10, a11, a12) =>
  bif decide (a1 < a0) then
   chk (inb a1 a10.length) <|
   chk (decide (a1.toNat < a10.length)) <|
   lt (rowD a10 a1.toNat : Dat) fun d11 =>
   bif decide ((d11.i 2) < 0) then
    some ([.b false])
   else
    bif (decide ((d11.i 2) ≥ (a11.length : Int))) then
     some ([.b false])
    else
     L6_2 m k m (a0, a1, (a11.length : Int), 0, a2, a3, a4, a5, a6, a7, a8, a9, (d11.i 0), (d11.i 1), (d11.i 2), (d11.i 3), a10, a11, a12)
  else
   some ([.b true])
noncomputable def L6_1 (m : Nat) : Nat → A6_1 → Option (List Un) := iterA (L6_1s m)
theorem L6_1_succ (m : Nat) (n : Nat) : L6_1 m (n + 1) = L6_1s m (L6_1 m n) := rfl
noncomputable def S6_1 (F : A6_1 → Option (List Un)) : StopS := ⟨[.lp [0, 1, 0, 1, 1, 1, 1, 1, 1, 1, 1], .blk 2, .code [1, 1, 1, 1, 1, 1, 1, 1, 1]], ⟨frm 131 [(5, .ptr 0 0 0), (12, .ptr 1 0 0), (53, .buf 2 4), (54, .int .i64), (55, .int .i64)], [.cells [.int .i64, .int .i64, .int .i64, .int .i64, .buf 3 3], .cells [.int .i64, .int .i64, .int .i64, .int .i64, .buf 4 3], .recs [.int .i64, .int .i64, .int .i64, .int .i64], .recs [.int .i64, .int .i64, .int .i64], .recs [.int .i64, .int .i64, .int .i64]]⟩, onU F⟩
noncomputable def L6_0s (m : Nat) (k : A6_0 → Option (List Un)) : A6_0 → Option (List Un) := fun (a0, a1, a2, a3, a4, a5, a6, a7) =>
  bif decide (a1 < 4) then
   chk (fits (a6.length + 1) 16) <|
   k (a0, (w64 (a1 + 1)), a2, a3, a4, a5, (a6 ++ ([.r [.n 3, .n a1]])), a7)
  else
   chk (fits (a6.length + 2) 16) <|
   lt ((a6 ++ ([.r [.n 4, .n 0], .r [.n 7, .n 0]])) : List Dat) fun l2 =>
   chk (decide (l2.length ≤ 1000000) && (runG ⟨a0, a2, a3, a4, a5⟩ && claimsG a7)) <|
   lt ((runV 0 l2 ⟨a0, a2, a3, a4, a5⟩ a7).2.2 : List Dat) fun l8 =>
   lt ((runV 0 l2 ⟨a0, a2, a3, a4, a5⟩ a7).2.1 : List Dat) fun l9 =>
   bif ((l9.length : Int) != (a7.length : Int)) then
    some ([.b false])
   else
    L6_1 m m ((l8.length : Int), 0, a2, a3, a4, a5, ((runV 0 l2 ⟨a0, a2, a3, a4, a5⟩ a7).1.fee), ((runV 0 l2 ⟨a0, a2, a3, a4, a5⟩ a7).1.recoup), ((runV 0 l2 ⟨a0, a2, a3, a4, a5⟩ a7).1.principal), ((runV 0 l2 ⟨a0, a2, a3, a4, a5⟩ a7).1.room), l8, a7, l9)
noncomputable def L6_0 (m : Nat) : Nat → A6_0 → Option (List Un) := iterA (L6_0s m)
theorem L6_0_succ (m : Nat) (n : Nat) : L6_0 m (n + 1) = L6_0s m (L6_0 m n) := rfl
noncomputable def S6_0 (F : A6_0 → Option (List Un)) : StopS := ⟨[.lp [0, 1, 0, 1, 1, 1, 1], .blk 0, .code [1, 1, 1, 1, 1]], ⟨frm 131 [(5, .ptr 0 0 0), (7, .int .i64), (8, .buf 1 2), (9, .int .i64)], [.cells [.int .i64, .int .i64, .int .i64, .int .i64, .buf 2 3], .recs [.int .i64, .int .i64], .recs [.int .i64, .int .i64, .int .i64]]⟩, onU F⟩
theorem H6_2 (m : Nat) (k1 : A6_1 → Option (List Un)) (h1 : HO N6 (S6_1 k1)) : ∀ n, HO N6 (S6_2 (L6_2 m k1 n)) := loop_holds KN_none T12.right (fun k => [S6_1 k1, S6_2 k]) (fun k h => (all1 h1 (all1 h all0))) fun k a => by kernel_rfl
theorem H6_1 (m : Nat) : ∀ n, HO N6 (S6_1 (L6_1 m n)) := loop_holds KN_none T12.right (fun k => [S6_2 (L6_2 m (k) m)]) (fun k h => (all1 (H6_2 m _ h m) all0)) fun k a => by kernel_rfl
theorem H6_0 (m : Nat) : ∀ n, HO N6 (S6_0 (L6_0 m n)) := loop_holds KN_none T12.right (fun k => [S6_0 k, S6_1 (L6_1 m m)]) (fun k h => (all1 h (all1 (H6_1 m m) all0))) fun k a => by kernel_rfl
noncomputable def t6 (m : Nat) : List Int × Int → Option (List Un) := fun (a0, a1) =>
  L6_0 m m ((within a1 0 20000), 0, (nextV a0 0 300), (nextV a0 1 900), (nextV a0 2 5000), (nextV a0 3 700), [], (workC a0))
section
variable (m : Nat) (f r p o y0 y1 y2 y3 : Int) (ps c c' : List Dat)
theorem ordL2 (hcl : c'.length = c.length) (hc : c.length ≤ 1000) (k1 : A6_1 → Option (List Un)) (len at_ : Int) (d : Dat) (hd : OrderOk c c' d) (hat : 0 ≤ at_ ∧ at_ ≤ 1000000) : ∀ (q i n : Nat), i + q = c.length → q < n →
    L6_2 m k1 n (len, at_, (c.length : Int), (i : Int), f, r, p, o, y0, y1, y2, y3, d.i 0, d.i 1, d.i 2, d.i 3, ps, c, c') = k1 (len, at_ + 1, f, r, p, o, y0, y1, y2, y3, ps, c, c') := by
  obtain ⟨t, ht, htl, hall⟩ := hd
  intro q
  induction q with
  | zero =>
    intro i n hi hn
    obtain ⟨n, rfl⟩ := one_more n (by omega)
    rw [L6_2_succ]; unfold L6_2s; dsimp only
    rw [cond_df (by omega), wrap_id (by omega) (by omega)]
  | succ q ih =>
    intro i n hi hn
    obtain ⟨n, rfl⟩ := one_more n (by omega)
    have := ih (i + 1) n (by omega) (by omega)
    obtain ⟨h1, h2⟩ := hall i (by omega)
    rw [ht] at this ⊢
    rw [L6_2_succ]; unfold L6_2s; dsimp only
    simp only [Int.toNat_natCast]
    rw [cond_dt (by omega), chk_inb (by omega) (by omega), chk_dec (by omega), chk_inb (by omega) (by omega), chk_dec (by omega)]
    rw [wrap_id (n := (i : Int) + 1) (by omega) (by omega)]
    simp only [Int.natCast_add, Int.cast_ofNat_Int] at this
    by_cases hlt : (rowD c i).i 0 < (rowD c t).i 0
    · obtain ⟨g1, g2⟩ := h1 hlt
      rw [cond_dt hlt]
      by_cases k3 : d.i 1 = 3
      · have := g1 k3
        simp (disch := omega) only [cond_bt k3, cond_nf k3, chk_inb, chk_dec, cond_df]
        assumption
      · have := g2 k3
        have := h2 k3
        simp (disch := omega) only [cond_bf k3, cond_nt k3, chk_inb, chk_dec, cond_df]
        assumption
    · rw [cond_df hlt]
      by_cases k3 : d.i 1 = 3
      · simp (disch := omega) only [cond_bt k3, cond_nf k3, chk_inb, chk_dec, cond_df]
        assumption
      · have := h2 k3
        simp (disch := omega) only [cond_bf k3, cond_nt k3, chk_inb, chk_dec, cond_df]
        assumption
theorem ordL1 (hm : c.length < m) (hcl : c'.length = c.length) (hc : c.length ≤ 1000) : ∀ (rest pre : List Dat) (n : Nat), rest.length < n → ps = pre ++ rest → ps.length ≤ 1000000 → (∀ d ∈ rest, OrderOk c c' d) →
    L6_1 m n ((ps.length : Int), (pre.length : Int), f, r, p, o, y0, y1, y2, y3, ps, c, c') = some [.b true] := by
  intro rest
  induction rest with
  | nil =>
    intro pre n hn hp hl hd
    obtain ⟨n, rfl⟩ := one_more n (by simp at hn; omega)
    simp only [List.append_nil] at hp
    rw [L6_1_succ]; unfold L6_1s; dsimp only
    rw [cond_df (by rw [hp]; omega)]
  | cons x rest ih =>
    intro pre n hn hp hl hd
    obtain ⟨n, rfl⟩ := one_more n (by simp at hn; omega)
    have := ih (pre ++ [x]) n (by simp at hn; omega) (by rw [hp]; simp) hl (fun d h => hd d (by simp [h]))
    have hx := hd x (by simp)
    obtain ⟨t, ht, htl, _⟩ := hx
    have hpl : ps.length = pre.length + (rest.length + 1) := by rw [hp]; simp
    have hrow : rowD ps pre.length = x := by rw [hp]; exact rowD_mid _ _ _
    rw [L6_1_succ]; unfold L6_1s; dsimp only
    rw [Int.toNat_natCast]
    rw [cond_dt (by omega), chk_inb (by omega) (by omega), chk_dec (by omega), lt_eq, hrow, cond_df (by omega), cond_df (by omega)]
    refine (ordL2 m f r p o y0 y1 y2 y3 ps c c' hcl hc (L6_1 m n) ps.length pre.length x (hd x (by simp)) ⟨by omega, by omega⟩ c.length 0 m (by omega) hm).trans ?_
    simpa using this
end
theorem ordL0 (m : Nat) (n : Nat) (cash f r p o : Int) (c acc : List Dat) (i : Int) (hi : 0 ≤ i ∧ i < 4) (ha : acc.length ≤ 10) : L6_0 m (n + 1) (cash, i, f, r, p, o, acc, c) = L6_0 m n (cash, i + 1, f, r, p, o, acc ++ [.r [.n 3, .n i]], c) := by
  rw [L6_0_succ]
  unfold L6_0s
  dsimp only
  rw [cond_dt (by omega), chk_fits (by omega) (by omega), wrap_id (by omega) (by omega)]
set_option maxHeartbeats 8000000 in
theorem spec6 (a0 : List Int) (wa0 : a0.length ≤ 140737488355328 ∧ ∀ x ∈ a0, (Lit.int .i64 x).wf = true) (a1 : Int) (wa1 : (Lit.int .i64 a1).wf = true) : ∃ m, t6 m (a0, a1) = some [.b true] := by
  have hw := within_le (a := a1) (show (0 : Int) ≤ 20000 by decide)
  have hx := workR_ok a0 (cash := within a1 0 20000) (by omega)
  have hc := workC_ok a0
  have hcl := workC_len a0
  have hmem := workC_mem a0
  unfold workR at hx
  refine ⟨100000, ?_⟩
  unfold t6
  dsimp only
  generalize hM : 100000 = M
  obtain ⟨n, hn⟩ : ∃ n, M = n + 1 + 1 + 1 + 1 + 1 := ⟨M - 5, by omega⟩
  rw [show L6_0 M M = L6_0 M (n + 1 + 1 + 1 + 1 + 1) from by rw [← hn]]
  rw [ordL0 M _ _ _ _ _ _ _ [] 0 ⟨by omega, by omega⟩ (by simp), ordL0 M _ _ _ _ _ _ _ _ (0 + 1) ⟨by omega, by omega⟩ (by simp), ordL0 M _ _ _ _ _ _ _ _ (0 + 1 + 1) ⟨by omega, by omega⟩ (by simp), ordL0 M _ _ _ _ _ _ _ _ (0 + 1 + 1 + 1) ⟨by omega, by omega⟩ (by simp)]
  rw [L6_0_succ]
  unfold L6_0s
  dsimp only
  rw [cond_df (by omega), chk_fits (by simp) (by simp), lt_eq]
  simp only [List.append_assoc, List.cons_append, List.nil_append, Int.zero_add, Int.reduceAdd]
  rw [show ([.r [.n 3, .n 0], .r [.n 3, .n 1], .r [.n 3, .n 2], .r [.n 3, .n 3], .r [.n 4, .n 0], .r [.n 7, .n 0]] : List Dat) = ranksI 0 4 ++ [.r [.n 4, .n 0], .r [.n 7, .n 0]] from rfl]
  generalize (⟨within a1 0 20000, nextV a0 0 300, nextV a0 1 900, nextV a0 2 5000, nextV a0 3 700⟩ : RunN) = X at *
  have ho := ranks_law hx hc (fun i hi => by have := hmem _ (rowD_in hi); omega)
  have hl6 : (ranksI 0 4 ++ [.r [.n 4, .n 0], .r [.n 7, .n 0]] : List Dat).length = 6 := rfl
  generalize ranksI 0 4 ++ [.r [.n 4, .n 0], .r [.n 7, .n 0]] = L at *
  have hr := runV_ok L 0 X (workC a0) hx hc
  rw [hl6] at hr
  simp only [hx, hc, Bool.and_self, Bool.and_true]
  rw [chk_dec (by rw [hl6]; omega)]
  generalize runV 0 L X (workC a0) = R at *
  simp only [lt_eq]
  rw [cond_nf (by rw [hr.2.2.1])]
  have e := ordL1 M (nextV a0 0 300) (nextV a0 1 900) (nextV a0 2 5000) (nextV a0 3 700) R.1.fee R.1.recoup R.1.principal R.1.room R.2.2 (workC a0) R.2.1 (by omega) hr.2.2.1 (by omega) R.2.2 [] M (by omega) (List.nil_append _).symm (by omega) ho
  simp only [List.length_nil, Int.cast_ofNat_Int] at e
  exact e
set_option maxRecDepth 20000 in
theorem walkFlowRanks {HH : Type} {enc : TypeId × Value → HH} {w : World} {base : Nat} {vs : List Value} {ds : List (DataW HH)} {ps : List MemPlace} (hsh : w.ShapedOpen Try.prog)
    (hd : DataW.TrodAll enc Try.prog w 0 (fun _ => true) true Try.f6.params.toList vs ds ps) {us' : List TypeId} {gs : List (DataW HH)} (hz : (DataW.weightsEach Try.prog (Try.f6.params.toList ++ us') (ds ++ gs)).all (· ≤ reachBytes) = true) (hval : ∀ (j : Nat) t v, Try.f6.params.toList[j]? = some t → vs[j]? = some v → Value.okWide Try.prog w .any base t v) :
    Calls Try.prog 6 vs.toArray w fun e w' => e = .returned (.bool true) ∧ RowKit.Below w.heap.size w w' :=
  law_args Seat.mix Seat.names TE_right (pars := RFlowRanks) (by kernel_rfl) (fun us h => by
    change WfU [.ints .i64, .int .i64] us at h
    obtain ⟨a0, u, rfl, wa0, h⟩ := wf_ints h
    obtain ⟨a1, u, rfl, wa1, h⟩ := wf_int h
    obtain rfl := wf_nil h
    obtain ⟨m, hm⟩ := spec6 a0 wa0 a1 wa1
    have G : N6.road Try.prog LQ KN (Uns.enc (a0, a1)) ([S6_0 (L6_0 m m)]) = t6 m (a0, a1) := by kernel_rfl
    exact N6.tells KN_none T12.right (W := [S6_0 (L6_0 m m)]) (by kernel_rfl) (by kernel_rfl) (by kernel_rfl) (all1 (H6_0 m m) all0) (G.trans hm)) hsh hd hz hval
end Go.Proofs.Ytncgbpajngakpaa
