/- A part of the walk. -/
import Derived.Test.YtncgbpajngakpaaFlowPlain2
namespace Go.Proofs.Ytncgbpajngakpaa
open Go Go.Proofs.Ytncgbpajngakpaa.Ev
set_option linter.unusedVariables false
set_option linter.unusedSimpArgs false
set_option linter.unnecessarySimpa false

/-- Where nothing is shared all stays. -/
theorem shares_nil {c : List Dat} (sel : Dat → Bool) {j : Nat} (hj : j = 1 ∨ j = 2) (n : Int) (h : claimsG c = true) (hs : (sharesV sel j n c).sum = 0) : giveAll j (sharesV sel j n c) c = c ∧ ∀ a k i, payAll a k i (sharesV sel j n c) = [] := by
  obtain ⟨l1, l2, l3⟩ := sharesV_ok sel hj n h
  have hm := shares_mem sel hj n h
  obtain ⟨h1, h2⟩ := claimsG_at h
  have hz := zeros_of_sum _ hm hs
  rw [l1] at hz
  refine ⟨by rw [hz]; exact giveAll_zero j c h2, fun a k i => ?_⟩
  rw [hz]
  clear hz hs l1 l2 l3 hm h1 h h2
  generalize c.length = m
  induction m generalizing i with
  | zero => rfl
  | succ m ih => simp only [List.replicate_succ, payAll, ih]; simp
theorem want_none (sel : Dat → Bool) (j : Nat) : ∀ c : List Dat, (∀ d ∈ c, sel d = false) → wantV sel j c = 0
  | [], _ => rfl
  | d :: c, h => by
    have := want_none sel j c fun x hx => h x (by simp [hx])
    unfold wantV at this ⊢
    rw [List.map_cons, List.sum_cons, h d (by simp), this]; rfl
theorem shares_none {c : List Dat} (sel : Dat → Bool) {j : Nat} (hj : j = 1 ∨ j = 2) (n : Int) (h : claimsG c = true) (hn : ∀ d ∈ c, sel d = false) : (sharesV sel j n c).sum = 0 ∧ giveAll j (sharesV sel j n c) c = c ∧ ∀ a k i, payAll a k i (sharesV sel j n c) = [] := by
  have hs : (sharesV sel j n c).sum = 0 := by
    rw [(sharesV_ok sel hj n h).2.1, want_none sel j c hn]; omega
  exact ⟨hs, shares_nil sel hj n h hs⟩
theorem rankV_none (a kd : Int) : ∀ (k : Nat) (r n : Int) (c : List Dat), claimsG c = true → (∀ d ∈ c, d.i 0 < r ∨ r + k ≤ d.i 0) → rankV a kd k r n c = (c, [], 0)
  | 0, r, n, c, _, _ => rfl
  | k + 1, r, n, c, h, hr => by
    obtain ⟨z1, z2, z3⟩ := shares_none (rankS r) (j := 1) (.inl rfl) n h (fun d hd => by
      have := hr d hd
      simp only [rankS, beq_eq_false_iff_ne]; omega)
    simp only [rankV, z1, z2, z3]
    rw [rankV_none a kd k (r + 1) _ c h (fun d hd => by have := hr d hd; omega)]
    rfl
/-- Of claims that are alike nobody has more than the first one, nor a cent less. -/
theorem proV_alike {n v : Int} {k : Nat} (h0 : 0 ≤ v) (h1 : v ≤ 1125899906842624) (hk : k ≤ 1000) : ∀ i, i < k → (proV n (List.replicate k v)).getD i 0 ≤ (proV n (List.replicate k v)).getD 0 0 ∧ (proV n (List.replicate k v)).getD 0 0 - 1 ≤ (proV n (List.replicate k v)).getD i 0 := by
  intro i hi
  have hb : ∀ x ∈ List.replicate k v, 0 ≤ x ∧ x ≤ 1125899906842624 := fun x hx => by rw [(List.mem_replicate.1 hx).2]; omega
  have hok := (sumV_ok (l := List.replicate k v) (b := 1125899906842624) (by decide) hb (by rw [List.length_replicate]; omega)).2
  have e : proV n (List.replicate k v) = proV (max n 0) (List.replicate k v) := by
    by_cases hn : 0 ≤ n
    · rw [show max n 0 = n by omega]
    · rw [show max n 0 = 0 by omega]; exact proV_neg (by omega)
  have g : ∀ j, j < k → (List.replicate k v).getD j 0 = v := fun j hj => by simp [List.getD_eq_getElem?_getD, hj]
  rw [e]
  by_cases hs : (List.replicate k v).sum ≤ max n 0
  · rw [proV_full hok (by omega), g i hi, g 0 (by omega)]; omega
  · obtain ⟨p1, p2, p3⟩ := proV_part (a := max n 0) (by omega) hok (by omega)
    have q0 := p2 0 (by simpa using (show 0 < k by omega))
    have qi := p2 i (by simpa using hi)
    rw [g 0 (by omega)] at q0
    rw [g i hi] at qi
    by_cases e : i = 0
    · subst e; omega
    · have := p3 0 i (by omega) (by simpa using hi) (by rw [g i hi, g 0 (by omega)]; exact Int.le_refl _)
      rw [g i hi, g 0 (by omega)] at this
      omega
/-- Claims that are alike. -/
def alikeC (k : Nat) (b s : Int) : List Dat := List.replicate k (.r [.n 2, .n b, .n s])
theorem alike_ok {k : Nat} {b s : Int} (hk : k ≤ 8) (hb : 0 ≤ b ∧ b ≤ 1048576) (hs : 0 ≤ s ∧ s ≤ 1048576) : claimsG (alikeC k b s) = true := by
  refine claimsG_of (by simp [alikeC]; omega) fun d hd => ?_
  rw [(List.mem_replicate.1 hd).2]
  simp only [claimG, Bool.and_eq_true]
  exact ⟨rfl, decide_eq_true (by simp only [fld_i1, fld_i2]; omega)⟩
theorem alike_row {k : Nat} {b s : Int} {i : Nat} (h : i < k) : rowD (alikeC k b s) i = .r [.n 2, .n b, .n s] := by simp [alikeC, rowD, h]
/-- So much less, but for a cent, for each. -/
def Alike (k : Nat) (b s : Int) (c : List Dat) : Prop := c.length = k ∧ ∀ i, i < k → (b - (rowD c i).i 1 + s - (rowD c i).i 2 ≤ b - (rowD c 0).i 1 + s - (rowD c 0).i 2 ∧ b - (rowD c 0).i 1 + s - (rowD c 0).i 2 - 1 ≤ b - (rowD c i).i 1 + s - (rowD c i).i 2) ∧ 0 ≤ (rowD c i).i 1 ∧ (rowD c i).i 1 ≤ b ∧ 0 ≤ (rowD c i).i 2 ∧ (rowD c i).i 2 ≤ s
theorem alike_shares (sel : Dat → Bool) {j : Nat} (hj : j = 1 ∨ j = 2) (n : Int) {k : Nat} {b s : Int} (hk : k ≤ 8) (hb : 0 ≤ b ∧ b ≤ 1048576) (hs : 0 ≤ s ∧ s ≤ 1048576) : Alike k b s (giveAll j (sharesV sel j n (alikeC k b s)) (alikeC k b s)) := by
  have hc := alike_ok (k := k) hk hb hs
  obtain ⟨l1, l2, l3⟩ := sharesV_ok sel hj n hc
  have hl : (alikeC k b s).length = k := by simp [alikeC]
  have hlen := giveAll_len j _ _ l1
  refine ⟨by omega, fun i hi => ?_⟩
  rw [giveAll_row j _ _ i l1 (by omega), giveAll_row j _ _ 0 l1 (by omega), alike_row hi, alike_row (show 0 < k by omega)]
  have e : sharesV sel j n (alikeC k b s) = proV n (List.replicate k (bif sel (.r [.n 2, .n b, .n s]) then (Dat.r [.n 2, .n b, .n s]).i j else 0)) := by simp [sharesV, alikeC]
  have hv : 0 ≤ (bif sel (.r [.n 2, .n b, .n s]) then (Dat.r [.n 2, .n b, .n s]).i j else 0) ∧ (bif sel (.r [.n 2, .n b, .n s]) then (Dat.r [.n 2, .n b, .n s]).i j else 0) ≤ 1125899906842624 := by
    cases sel (.r [.n 2, .n b, .n s])
    · simp only [cond_false]; omega
    · rcases hj with rfl | rfl <;> simp only [cond_true, fld_i1, fld_i2] <;> omega
  have ha := proV_alike (n := n) (k := k) hv.1 hv.2 (by omega) i hi
  rw [← e] at ha
  have b1 := l3 i (by omega)
  have b2 := l3 0 (by omega)
  rw [alike_row hi] at b1
  rw [alike_row (show 0 < k by omega)] at b2
  generalize (sharesV sel j n (alikeC k b s)).getD i 0 = yi at *
  generalize (sharesV sel j n (alikeC k b s)).getD 0 0 = y0 at *
  rcases hj with rfl | rfl
  · simp only [lessD, if_true, fld_i1, fld_i2] at b1 b2 ⊢
    cases hsel : sel (.r [.n 2, .n b, .n s]) <;> rw [hsel] at b1 b2 <;> simp only [cond_true, cond_false] at b1 b2 <;> omega
  · simp only [lessD, show ¬ (2 : Nat) = 1 by decide, if_false, fld_i1, fld_i2] at b1 b2 ⊢
    cases hsel : sel (.r [.n 2, .n b, .n s]) <;> rw [hsel] at b1 b2 <;> simp only [cond_true, cond_false] at b1 b2 <;> omega
theorem alike_ranks (a kd n : Int) {k : Nat} {b s : Int} (hk : k ≤ 8) (hb : 0 ≤ b ∧ b ≤ 1048576) (hs : 0 ≤ s ∧ s ≤ 1048576) : (rankV a kd 8 0 n (alikeC k b s)).1 = giveAll 1 (sharesV (rankS 2) 1 n (alikeC k b s)) (alikeC k b s) := by
  have hc := alike_ok (k := k) hk hb hs
  have hm : ∀ d ∈ alikeC k b s, d.i 0 = 2 := fun d hd => by rw [(List.mem_replicate.1 hd).2]; rfl
  obtain ⟨z1, z2, z3⟩ := shares_none (rankS 0) (j := 1) (.inl rfl) n hc (fun d hd => by simp [rankS, hm d hd])
  obtain ⟨y1, y2, y3⟩ := shares_none (rankS 1) (j := 1) (.inl rfl) n hc (fun d hd => by simp [rankS, hm d hd])
  obtain ⟨g1, g2⟩ := give_ok (rankS 2) (j := 1) (.inl rfl) n hc
  have l1 := (sharesV_ok (rankS 2) (j := 1) (.inl rfl) n hc).1
  rw [show rankV a kd 8 0 n (alikeC k b s) = rankV a kd (7 + 1) 0 n (alikeC k b s) from rfl]
  rw [rankV]
  simp only [z1, z2, Int.sub_zero, Int.zero_add]
  rw [show rankV a kd 7 1 n (alikeC k b s) = rankV a kd (6 + 1) 1 n (alikeC k b s) from rfl]
  rw [rankV]
  simp only [y1, y2, Int.sub_zero, Int.reduceAdd]
  rw [show rankV a kd 6 2 n (alikeC k b s) = rankV a kd (5 + 1) 2 n (alikeC k b s) from rfl]
  rw [rankV]
  simp only [Int.reduceAdd]
  rw [rankV_none a kd 5 3 _ _ g1 (fun d hd => by
    obtain ⟨i, hi, rfl⟩ := mem_rowD hd
    rw [giveAll_row 1 _ _ i l1 (by omega)]
    have := hm _ (rowD_in (show i < (alikeC k b s).length by omega))
    simp only [lessD, if_true, fld_i0]; omega)]
theorem alike_step {k : Nat} {b s : Int} (hk : k ≤ 8) (hb : 0 ≤ b ∧ b ≤ 1048576) (hs : 0 ≤ s ∧ s ≤ 1048576) (x : RunN) {kd rk : Int} (h : (kd = 3 ∧ rk = 2) ∨ kd = 4 ∨ kd = 5 ∨ kd = 7) : Alike k b s (stepV 0 kd rk x (alikeC k b s)).2.1 := by
  unfold stepV
  rw [if_neg (show ¬ kd = 1 by omega), if_neg (show ¬ kd = 2 by omega), if_neg (show ¬ kd = 6 by omega)]
  by_cases k3 : kd = 3
  · rw [if_pos k3]; exact alike_shares _ (.inr rfl) _ hk hb hs
  rw [if_neg k3]
  by_cases k4 : kd = 4
  · rw [if_pos k4]
    simp only [alike_ranks 0 kd _ hk hb hs]
    exact alike_shares _ (.inl rfl) _ hk hb hs
  rw [if_neg k4]
  by_cases k5 : kd = 5
  · rw [if_pos k5]; exact alike_shares _ (.inl rfl) _ hk hb hs
  rw [if_neg k5, if_pos (show kd = 7 by omega)]
  simp only [alike_ranks 0 kd _ hk hb hs]
  exact alike_shares _ (.inl rfl) _ hk hb hs
theorem alike_other {k : Nat} {b s : Int} (hk : k ≤ 8) (hb : 0 ≤ b ∧ b ≤ 1048576) (hs : 0 ≤ s ∧ s ≤ 1048576) (x : RunN) {rk : Int} (h : 0 ≤ rk ∧ rk ≤ 1) : runV 0 [.r [.n 3, .n rk]] x (alikeC k b s) = (x, alikeC k b s, []) := by
  have hc := alike_ok (k := k) hk hb hs
  have hm : ∀ d ∈ alikeC k b s, d.i 0 = 2 := fun d hd => by rw [(List.mem_replicate.1 hd).2]; rfl
  obtain ⟨z1, z2, z3⟩ := shares_none (rankS rk) (j := 2) (.inr rfl) x.cash hc (fun d hd => by
    simp only [rankS, hm d hd, beq_eq_false_iff_ne]; omega)
  simp only [runV, stepV, fld_i0, fld_i1]
  simp only [show ¬ (3 : Int) = 1 by decide, show ¬ (3 : Int) = 2 by decide, show ¬ (3 : Int) = 6 by decide, if_true, if_false, z1, z2, z3, Int.sub_zero, List.append_nil]
def RFlowAlike : List Par := [(false, [.int .i64]), (false, [.int .i64]), (false, [.int .i64]), (false, [.int .i64]), (false, [.int .i64]), (false, [.int .i64])]
/-! cascade/cascadelaw17.FlowAlike -/
noncomputable def N9 : RoadF := ⟨T12.tab, 9, ⟨List.map Par.vp RFlowAlike, []⟩, ⟨[.bool], []⟩, []⟩
abbrev A9_2 : Type := Int × Int × Int × Int × Int × Int × Int × Int × Int × Int × Int × List Dat × Int × Int × Int × Int × List Dat × List Dat × List Dat
abbrev A9_1 : Type := Int × Int × Int × Int × Int × Int × Int × Int × Int × List Dat × List Dat
abbrev A9_0 : Type := Int × Int × Int × Int × Int × Int × Int × Int × Int × Int × List Dat
noncomputable def L9_2s (m : Nat) (k1 : A9_1 → Option (List Un)) (k : A9_2 → Option (List Un)) : A9_2 → Option (List Un) := fun (a0, a1, a2, a3, a4, a5, a6, a7, a8, a9, a10, a11, a12, a13, a14, a15, a16, a17, a18) =>
  bif decide (a6 < a5) then
   chk (inb a6 a17.length) <|
   chk (decide (a6.toNat < a17.length)) <|
   chk (inb a6 a18.length) <|
   chk (decide (a6.toNat < a18.length)) <|
   chk (inb a6 a17.length) <|
   chk (decide (a6.toNat < a17.length)) <|
   chk (inb a6 a18.length) <|
   chk (decide (a6.toNat < a18.length)) <|
   lt ((w64 ((w64 ((w64 (((rowD a17 a6.toNat).i 1) - ((rowD a18 a6.toNat).i 1))) + ((rowD a17 a6.toNat).i 2))) - ((rowD a18 a6.toNat).i 2))) : Int) fun x24 =>
   chk (inb 0 a17.length) <|
   chk (decide (0 < a17.length)) <|
   chk (inb 0 a18.length) <|
   chk (decide (0 < a18.length)) <|
   chk (inb 0 a17.length) <|
   chk (decide (0 < a17.length)) <|
   chk (inb 0 a18.length) <|
   chk (decide (0 < a18.length)) <|
   lt ((w64 ((w64 ((w64 (((rowD a17 0).i 1) - ((rowD a18 0).i 1))) + ((rowD a17 0).i 2))) - ((rowD a18 0).i 2))) : Int) fun x30 =>
   bif decide (x24 > x30) then
    some ([.b false])
   else
    bif (decide (x24 < (w64 (x30 - 1)))) then
     some ([.b false])
    else
     k (a0, a1, a2, a3, a4, a5, (w64 (a6 + 1)), a7, a8, a9, a10, a11, a12, a13, a14, a15, a16, a17, a18)
  else
   chk (decide (a11.length ≤ 1000000) && a11.all paidG) <|
   bif (decide ((sumI 3 a11) > a2)) then
    some ([.b false])
   else
    k1 (a0, a1, a2, a3, (w64 (a4 + 1)), a7, a8, a9, a10, a16, a17)
noncomputable def L9_2 (m : Nat) (k1 : A9_1 → Option (List Un)) : Nat → A9_2 → Option (List Un) := iterA (L9_2s m k1)
theorem L9_2_succ (m : Nat) (k1 : A9_1 → Option (List Un)) (n : Nat) : L9_2 m k1 (n + 1) = L9_2s m k1 (L9_2 m k1 n) := rfl
noncomputable def S9_2 (F : A9_2 → Option (List Un)) : StopS := ⟨[.lp [0, 1, 0, 1, 1, 1, 0, 0, 1, 1, 0, 0, 1, 0, 1, 1, 1, 1, 1], .blk 4, .code [1, 1, 1, 1, 0, 0, 1, 1, 0, 0, 1, 0, 1, 1, 1, 1, 1], .blk 3, .code [1, 1, 1, 0, 0, 1, 0, 1, 1, 1, 1, 1], .lp [0, 1, 0, 1, 1, 1, 1, 1], .blk 2, .code [1, 1, 1, 1, 1, 1]], ⟨frm 176 [(5, .int .i64), (15, .int .i64), (16, .ptr 0 0 0), (18, .int .i64), (21, .buf 1 4), (23, .ptr 2 0 0), (62, .buf 3 2), (63, .int .i64), (64, .int .i64), (84, .int .i64), (85, .int .i64)], [.cells [.int .i64, .int .i64, .int .i64, .int .i64, .buf 4 3], .recs [.int .i64, .int .i64, .int .i64, .int .i64], .cells [.int .i64, .int .i64, .int .i64, .int .i64, .buf 5 3], .recs [.int .i64, .int .i64], .recs [.int .i64, .int .i64, .int .i64], .recs [.int .i64, .int .i64, .int .i64]]⟩, onU F⟩
noncomputable def L9_1s (m : Nat) (k : A9_1 → Option (List Un)) : A9_1 → Option (List Un) := fun (a0, a1, a2, a3, a4, a5, a6, a7, a8, a9, a10) =>
  bif decide (a4 < a3) then
   chk (inb a4 a9.length) <|
   chk (decide (a4.toNat < a9.length)) <|
   lt (rowD a9 a4.toNat : Dat) fun d3 =>
   chk (decide (([.r [.n (d3.i 0), .n (d3.i 1)]] : List Dat).length ≤ 1000000) && (runG ⟨a2, a5, a6, a7, a8⟩ && claimsG a10)) <|
   lt (((runV 0 ([.r [.n (d3.i 0), .n (d3.i 1)]] : List Dat) ⟨a2, a5, a6, a7, a8⟩ a10).2.1) : List Dat) fun l10 =>
   bif ((l10.length : Int) != a1) then
    some ([.b false])
   else
    L9_2 m k m (a0, a1, a2, a3, a4, (l10.length : Int), 0, a5, a6, a7, a8, ((runV 0 ([.r [.n (d3.i 0), .n (d3.i 1)]] : List Dat) ⟨a2, a5, a6, a7, a8⟩ a10).2.2), ((runV 0 ([.r [.n (d3.i 0), .n (d3.i 1)]] : List Dat) ⟨a2, a5, a6, a7, a8⟩ a10).1.fee), ((runV 0 ([.r [.n (d3.i 0), .n (d3.i 1)]] : List Dat) ⟨a2, a5, a6, a7, a8⟩ a10).1.recoup), ((runV 0 ([.r [.n (d3.i 0), .n (d3.i 1)]] : List Dat) ⟨a2, a5, a6, a7, a8⟩ a10).1.principal), ((runV 0 ([.r [.n (d3.i 0), .n (d3.i 1)]] : List Dat) ⟨a2, a5, a6, a7, a8⟩ a10).1.room), a9, a10, l10)
  else
   chk (decide (([.r [.n 3, .n (within a0 0 1)]] : List Dat).length ≤ 1000000) && (runG ⟨a2, a5, a6, a7, a8⟩ && claimsG a10)) <|
   bif (((runV 0 ([.r [.n 3, .n (within a0 0 1)]] : List Dat) ⟨a2, a5, a6, a7, a8⟩ a10).2.2).length : Int) == 0 then
    bif ((runV 0 ([.r [.n 3, .n (within a0 0 1)]] : List Dat) ⟨a2, a5, a6, a7, a8⟩ a10).1.cash) == a2 then
     some ([.b true])
    else
     some ([.b false])
   else
    some ([.b false])
noncomputable def L9_1 (m : Nat) : Nat → A9_1 → Option (List Un) := iterA (L9_1s m)
theorem L9_1_succ (m : Nat) (n : Nat) : L9_1 m (n + 1) = L9_1s m (L9_1 m n) := rfl
noncomputable def S9_1 (F : A9_1 → Option (List Un)) : StopS := ⟨[.lp [0, 1, 0, 1, 1, 1, 1, 1], .blk 2, .code [1, 1, 1, 1, 1, 1]], ⟨frm 176 [(5, .int .i64), (15, .int .i64), (16, .ptr 0 0 0), (18, .int .i64), (62, .buf 1 2), (63, .int .i64), (64, .int .i64)], [.cells [.int .i64, .int .i64, .int .i64, .int .i64, .buf 2 3], .recs [.int .i64, .int .i64], .recs [.int .i64, .int .i64, .int .i64]]⟩, onU F⟩
noncomputable def L9_0s (m : Nat) (k : A9_0 → Option (List Un)) : A9_0 → Option (List Un) := fun (a0, a1, a2, a3, a4, a5, a6, a7, a8, a9, a10) =>
  bif decide (a5 < a4) then
   chk (fits (a10.length + 1) 24) <|
   k (a0, a1, a2, a3, a4, (w64 (a5 + 1)), a6, a7, a8, a9, (a10 ++ ([.r [.n 2, .n a2, .n a3]])))
  else
   L9_1 m m (a1, a4, (within a0 0 8388608), 4, 0, a6, a7, a8, a9, ([.r [.n 3, .n 2], .r [.n 4, .n 0], .r [.n 5, .n 0], .r [.n 7, .n 0]] : List Dat), a10)
noncomputable def L9_0 (m : Nat) : Nat → A9_0 → Option (List Un) := iterA (L9_0s m)
theorem L9_0_succ (m : Nat) (n : Nat) : L9_0 m (n + 1) = L9_0s m (L9_0 m n) := rfl
noncomputable def S9_0 (F : A9_0 → Option (List Un)) : StopS := ⟨[.lp [0, 1, 0, 1, 1, 1], .blk 0, .code [1, 1, 1, 1]], ⟨frm 176 [(4, .int .i64), (5, .int .i64), (13, .int .i64), (14, .int .i64), (15, .int .i64), (16, .ptr 0 0 0), (17, .int .i64)], [.cells [.int .i64, .int .i64, .int .i64, .int .i64, .buf 1 3], .recs [.int .i64, .int .i64, .int .i64]]⟩, onU F⟩
theorem H9_2 (m : Nat) (k1 : A9_1 → Option (List Un)) (h1 : HO N9 (S9_1 k1)) : ∀ n, HO N9 (S9_2 (L9_2 m k1 n)) := loop_holds KN_none T12.right (fun k => [S9_1 k1, S9_2 k]) (fun k h => (all1 h1 (all1 h all0))) fun k a => by kernel_rfl
theorem H9_1 (m : Nat) : ∀ n, HO N9 (S9_1 (L9_1 m n)) := loop_holds KN_none T12.right (fun k => [S9_2 (L9_2 m (k) m)]) (fun k h => (all1 (H9_2 m _ h m) all0)) fun k a => by kernel_rfl
theorem H9_0 (m : Nat) : ∀ n, HO N9 (S9_0 (L9_0 m n)) := loop_holds KN_none T12.right (fun k => [S9_0 k, S9_1 (L9_1 m m)]) (fun k h => (all1 h (all1 (H9_1 m m) all0))) fun k a => by kernel_rfl
noncomputable def t9 (m : Nat) : Int × Int × Int × Int × Int × Int → Option (List Un) := fun (a0, a1, a2, a3, a4, a5) =>
  lt ((w64 ((within a2 1 8) * (within a0 1 1048576))) : Int) fun x1 =>
  bif decide (-2305843009213693952 ≤ 0 ∧ 0 ≤ x1 ∧ x1 ≤ 2305843009213693952) then
   L9_0 m m (a4, a5, (within a0 1 1048576), (within a1 0 1048576), (within a2 1 8), 0, 0, 0, (within a3 0 x1), 0, [])
  else
   none
section
variable (m k : Nat) (rank cash P b s : Int)
theorem alikeL2 (hk : k ≤ 8) (hb : 0 ≤ b ∧ b ≤ 1048576) (hs : 0 ≤ s ∧ s ≤ 1048576) (k1 : A9_1 → Option (List Un)) (ns si y0 y1 y2 y3 : Int) (st ps c' : List Dat) (ha : Alike k b s c') (hps : (decide (ps.length ≤ 1000000) && ps.all paidG) = true) (hle : sumI 3 ps ≤ cash) : ∀ (c i n : Nat), i + c = k → c < n →
    L9_2 m k1 n (rank, (k : Int), cash, ns, si, (k : Int), (i : Int), 0, 0, P, 0, ps, y0, y1, y2, y3, st, alikeC k b s, c') = k1 (rank, (k : Int), cash, ns, w64 (si + 1), 0, 0, P, 0, st, alikeC k b s) := by
  intro c
  induction c with
  | zero =>
    intro i n hi hn
    obtain ⟨n, rfl⟩ := one_more n (by omega)
    rw [L9_2_succ]; unfold L9_2s; dsimp only
    rw [cond_df (by omega), hps, chk_tt, cond_df (by omega)]
  | succ c ih =>
    intro i n hi hn
    obtain ⟨n, rfl⟩ := one_more n (by omega)
    have := ih (i + 1) n (by omega) (by omega)
    obtain ⟨hl, hr⟩ := ha
    have h1 := hr i (by omega)
    have h0 := hr 0 (by omega)
    have hcl : (alikeC k b s).length = k := by simp [alikeC]
    have ri := alike_row (b := b) (s := s) (show i < k by omega)
    have r0 := alike_row (b := b) (s := s) (show 0 < k by omega)
    rw [L9_2_succ]; unfold L9_2s; dsimp only
    rw [Int.toNat_natCast]
    simp only [ri, r0, fld_i1, fld_i2, lt_eq]
    rw [wrap_id (n := b - (rowD c' i).i 1) (by omega) (by omega), wrap_id (n := b - (rowD c' 0).i 1) (by omega) (by omega)]
    rw [wrap_id (n := b - (rowD c' i).i 1 + s) (by omega) (by omega), wrap_id (n := b - (rowD c' 0).i 1 + s) (by omega) (by omega)]
    rw [wrap_id (n := b - (rowD c' i).i 1 + s - (rowD c' i).i 2) (by omega) (by omega), wrap_id (n := b - (rowD c' 0).i 1 + s - (rowD c' 0).i 2) (by omega) (by omega)]
    rw [wrap_id (n := b - (rowD c' 0).i 1 + s - (rowD c' 0).i 2 - 1) (by omega) (by omega)]
    simp (disch := omega) only [cond_dt, chk_inb, chk_dec, cond_df, wrap_id]
    exact this
theorem alikeL0 (hk : k ≤ 8) : ∀ (c i n : Nat), i + c = k → c < n →
    L9_0 m n (cash, rank, b, s, (k : Int), (i : Int), 0, 0, P, 0, alikeC i b s) = L9_1 m m (rank, (k : Int), within cash 0 8388608, 4, 0, 0, 0, P, 0, [.r [.n 3, .n 2], .r [.n 4, .n 0], .r [.n 5, .n 0], .r [.n 7, .n 0]], alikeC k b s) := by
  intro c
  induction c with
  | zero =>
    intro i n hi hn
    obtain ⟨n, rfl⟩ := one_more n (by omega)
    obtain rfl : i = k := by omega
    rw [L9_0_succ]; unfold L9_0s; dsimp only
    rw [cond_df (by omega)]
  | succ c ih =>
    intro i n hi hn
    obtain ⟨n, rfl⟩ := one_more n (by omega)
    have := ih (i + 1) n (by omega) (by omega)
    have e : alikeC (i + 1) b s = alikeC i b s ++ [.r [.n 2, .n b, .n s]] := by simp [alikeC, List.replicate_succ']
    have hcl : (alikeC i b s).length = i := by simp [alikeC]
    rw [e] at this
    rw [L9_0_succ]; unfold L9_0s; dsimp only
    simp (disch := omega) only [cond_dt, chk_fits, wrap_id]
    exact this
theorem alikeStep (hm : 100 < m) (hk1 : 1 ≤ k) (hk : k ≤ 8) (hb : 0 ≤ b ∧ b ≤ 1048576) (hs : 0 ≤ s ∧ s ≤ 1048576) (hcash : 0 ≤ cash ∧ cash ≤ 8388608) (hP : 0 ≤ P ∧ P ≤ 8388608) (st : List Dat) (hst : st.length = 4) (i : Nat) (hi : i < 4) (hrow : ((rowD st i).i 0 = 3 ∧ (rowD st i).i 1 = 2) ∨ (rowD st i).i 0 = 4 ∨ (rowD st i).i 0 = 5 ∨ (rowD st i).i 0 = 7) (n : Nat) :
    L9_1 m (n + 1) (rank, (k : Int), cash, 4, (i : Int), 0, 0, P, 0, st, alikeC k b s) = L9_1 m n (rank, (k : Int), cash, 4, ((i + 1 : Nat) : Int), 0, 0, P, 0, st, alikeC k b s) := by
  have hG : runG ⟨cash, 0, 0, P, 0⟩ = true := decide_eq_true (by simp only; omega)
  have hC := alike_ok (k := k) hk hb hs
  have hr := runV_ok [.r [.n ((rowD st i).i 0), .n ((rowD st i).i 1)]] 0 ⟨cash, 0, 0, P, 0⟩ (alikeC k b s) hG hC
  have hp := runV_paid (l := [.r [.n ((rowD st i).i 0), .n ((rowD st i).i 1)]]) (a := 0) hG hC (show (⟨cash, 0, 0, P, 0⟩ : RunN).cash ≤ 1000000000 by simp only; omega)
  have hkp := (runV_kept [.r [.n ((rowD st i).i 0), .n ((rowD st i).i 1)]] 0 ⟨cash, 0, 0, P, 0⟩ (alikeC k b s) hG hC).1.cash
  have hR := runG_at hr.1
  have ha : Alike k b s (runV 0 [.r [.n ((rowD st i).i 0), .n ((rowD st i).i 1)]] ⟨cash, 0, 0, P, 0⟩ (alikeC k b s)).2.1 := alike_step hk hb hs _ hrow
  rw [L9_1_succ]
  unfold L9_1s
  dsimp only
  rw [cond_dt (by omega), chk_inb (by omega) (by omega), chk_dec (by omega), lt_eq, Int.toNat_natCast, hG, hC, Bool.and_self, Bool.and_true, chk_dec (by simp), lt_eq]
  generalize runV 0 [.r [.n ((rowD st i).i 0), .n ((rowD st i).i 1)]] ⟨cash, 0, 0, P, 0⟩ (alikeC k b s) = R at *
  obtain ⟨x, c', ps⟩ := R
  simp only at hr hp hkp hR ha ⊢
  rw [cond_nf (by rw [ha.1]), ha.1]
  have e := alikeL2 m k rank cash P b s hk hb hs (L9_1 m n) 4 i x.fee x.recoup x.principal x.room st ps c' ha (by simp only [Bool.and_eq_true, decide_eq_true_eq, List.all_eq_true, paidG]; simp only [List.length_cons, List.length_nil] at hr; exact ⟨by omega, fun d hd => by have := hp d hd; omega⟩) (by omega) k 0 m (by omega) (by omega)
  refine e.trans ?_
  rw [wrap_id (by omega) (by omega)]
  rfl
end
set_option maxHeartbeats 8000000 in
theorem spec9 (a0 : Int) (wa0 : (Lit.int .i64 a0).wf = true) (a1 : Int) (wa1 : (Lit.int .i64 a1).wf = true) (a2 : Int) (wa2 : (Lit.int .i64 a2).wf = true) (a3 : Int) (wa3 : (Lit.int .i64 a3).wf = true) (a4 : Int) (wa4 : (Lit.int .i64 a4).wf = true) (a5 : Int) (wa5 : (Lit.int .i64 a5).wf = true) : ∃ m, t9 m (a0, a1, a2, a3, a4, a5) = some [.b true] := by
  have h0 := within_le (a := a0) (show (1 : Int) ≤ 1048576 by decide)
  have h1 := within_le (a := a1) (show (0 : Int) ≤ 1048576 by decide)
  have h2 := within_le (a := a2) (show (1 : Int) ≤ 8 by decide)
  have h4 := within_le (a := a4) (show (0 : Int) ≤ 8388608 by decide)
  have h5 := within_le (a := a5) (show (0 : Int) ≤ 1 by decide)
  have hkb : 0 ≤ within a2 1 8 * within a0 1 1048576 ∧ within a2 1 8 * within a0 1 1048576 ≤ 8388608 := by
    refine ⟨Int.mul_nonneg (by omega) (by omega), ?_⟩
    have := Int.mul_le_mul (show within a2 1 8 ≤ 8 by omega) (show within a0 1 1048576 ≤ 1048576 by omega) (by omega) (by decide)
    omega
  have h3 := within_le (a := a3) hkb.1
  refine ⟨1000, ?_⟩
  unfold t9
  dsimp only
  rw [wrap_id (by omega) (by omega), lt_eq, cond_dt (by omega)]
  generalize within a3 0 (within a2 1 8 * within a0 1 1048576) = P at *
  generalize within a0 1 1048576 = b at *
  generalize within a1 0 1048576 = s at *
  generalize hkk : within a2 1 8 = kk at *
  obtain ⟨k, rfl⟩ : ∃ k : Nat, kk = (k : Int) := ⟨kk.toNat, by omega⟩
  have e0 := alikeL0 1000 k a5 a4 P b s (by omega) k 0 1000 (by omega) (by omega)
  refine e0.trans ?_
  generalize within a4 0 8388608 = cash at *
  have st := fun i n hi hrow => alikeStep 1000 k a5 cash P b s (by omega) (by omega) (by omega) (by omega) (by omega) (by omega) (by omega) [.r [.n 3, .n 2], .r [.n 4, .n 0], .r [.n 5, .n 0], .r [.n 7, .n 0]] rfl i hi hrow n
  refine (st 0 999 (by omega) (.inl ⟨rfl, rfl⟩)).trans ?_
  refine (st 1 998 (by omega) (.inr (.inl rfl))).trans ?_
  refine (st 2 997 (by omega) (.inr (.inr (.inl rfl)))).trans ?_
  refine (st 3 996 (by omega) (.inr (.inr (.inr rfl)))).trans ?_
  have hG : runG ⟨cash, 0, 0, P, 0⟩ = true := decide_eq_true (by simp only; omega)
  have hC := alike_ok (k := k) (b := b) (s := s) (by omega) (by omega) (by omega)
  rw [show L9_1 1000 996 = L9_1 1000 (995 + 1) from rfl, L9_1_succ]
  unfold L9_1s
  dsimp only
  rw [cond_df (by decide), hG, hC, Bool.and_self, Bool.and_true, chk_dec (by simp)]
  rw [alike_other (by omega) (by omega) (by omega) _ h5]
  dsimp only [List.length_nil]
  exact bif_t rfl (bif_t (by simp) rfl)
set_option maxRecDepth 20000 in
theorem walkFlowAlike {HH : Type} {enc : TypeId × Value → HH} {w : World} {base : Nat} {vs : List Value} {ds : List (DataW HH)} {ps : List MemPlace} (hsh : w.ShapedOpen Try.prog)
    (hd : DataW.TrodAll enc Try.prog w 0 (fun _ => true) true Try.f9.params.toList vs ds ps) {us' : List TypeId} {gs : List (DataW HH)} (hz : (DataW.weightsEach Try.prog (Try.f9.params.toList ++ us') (ds ++ gs)).all (· ≤ reachBytes) = true) (hval : ∀ (j : Nat) t v, Try.f9.params.toList[j]? = some t → vs[j]? = some v → Value.okWide Try.prog w .any base t v) :
    Calls Try.prog 9 vs.toArray w fun e w' => e = .returned (.bool true) ∧ RowKit.Below w.heap.size w w' :=
  law_args Seat.mix Seat.names TE_right (pars := RFlowAlike) (by kernel_rfl) (fun us h => by
    change WfU [.int .i64, .int .i64, .int .i64, .int .i64, .int .i64, .int .i64] us at h
    obtain ⟨a0, u, rfl, wa0, h⟩ := wf_int h
    obtain ⟨a1, u, rfl, wa1, h⟩ := wf_int h
    obtain ⟨a2, u, rfl, wa2, h⟩ := wf_int h
    obtain ⟨a3, u, rfl, wa3, h⟩ := wf_int h
    obtain ⟨a4, u, rfl, wa4, h⟩ := wf_int h
    obtain ⟨a5, u, rfl, wa5, h⟩ := wf_int h
    obtain rfl := wf_nil h
    obtain ⟨m, hm⟩ := spec9 a0 wa0 a1 wa1 a2 wa2 a3 wa3 a4 wa4 a5 wa5
    have G : N9.road Try.prog LQ KN (Uns.enc (a0, a1, a2, a3, a4, a5)) ([S9_0 (L9_0 m m)]) = t9 m (a0, a1, a2, a3, a4, a5) := by kernel_rfl
    exact N9.tells KN_none T12.right (W := [S9_0 (L9_0 m m)]) (by kernel_rfl) (by kernel_rfl) (by kernel_rfl) (all1 (H9_0 m m) all0) (G.trans hm)) hsh hd hz hval
end Go.Proofs.Ytncgbpajngakpaa
