/- Part of a proof: FlowPlain, Loss, Closing, ClosePlain, Close, Runs, WClosingNothing. Conditions: none. -/
import Derived.Test.YtdbkoeefnodejaaGreatQ5
set_option linter.unusedVariables false
set_option linter.unusedSimpArgs false
set_option linter.unnecessarySimpa false
set_option linter.unusedSectionVars false
namespace Go.Proofs.YtdbkoeefnodejaaGreat
noncomputable section
open Go Go.Proofs.YtdbkoeefnodejaaGreat.Ev
set_option maxRecDepth 20000
def aU (f : Dat -> Bool) : List Dat -> Int
 | [] => 0
 | d :: l => (bif f d then d.i 3 else 0) + aU f l
theorem gK (f : Dat -> Bool) : ∀ a b : List Dat, aU f (a ++ b) = aU f a + aU f b
 | [], b => by simp [aU]
 | d :: a, b => by simp only [List.cons_append, aU, gK f a b]; omega
theorem fp (f : Dat -> Bool) : ∀ l : List Dat, (∀ d ∈ l, f d = false) -> aU f l = 0
 | [], _ => rfl
 | d :: l, h => by simp only [aU, h d (by simp), fp f l (fun x hx => h x (by simp [hx])), cond_false]; rfl
theorem zN (f : Dat -> Bool) : ∀ l : List Dat, (∀ d ∈ l, f d = true) -> aU f l = al 3 l
 | [], _ => rfl
 | d :: l, h => by simp only [aU, al, h d (by simp), zN f l (fun x hx => h x (by simp [hx])), cond_true]
theorem pg {f g : Dat -> Bool} : ∀ l : List Dat, (∀ d ∈ l, f d = g d) -> aU f l = aU g l
 | [], _ => rfl
 | d :: l, h => by simp only [aU, h d (by simp), pg l (fun x hx => h x (by simp [hx]))]
def kF (d : Dat) : Bool := d.i 1 == 1
def kR (d : Dat) : Bool := d.i 1 == 2
def kT (d : Dat) : Bool := d.i 1 == 6
def kI (d : Dat) : Bool := d.i 1 == 3
def kB (d : Dat) : Bool := !kF d && !kR d && !kT d && !kI d
def kP (d : Dat) : Bool := kB d && d.i 1 != 7
def toI (i : Nat) (d : Dat) : Bool := kI d && d.i 2 == (i : Int)
def toB (i : Nat) (d : Dat) : Bool := kB d && d.i 2 == (i : Int)
theorem kC (a k : Int) : ∀ (xs : List Int) (i : Int), ∀ d ∈ bA a k i xs, d.i 0 = a /\ d.i 1 = k /\ (i <= d.i 2 /\ d.i 2 < i + xs.length) /\ 1 <= d.i 3 /\ d.i 3 = xs.getD (d.i 2 - i).toNat 0
 | [], i, d, h => by simp [bA] at h
 | x :: xs, i, d, h => by
  simp only [bA, List.mem_append] at h; rcases h with h | h
  · by_cases hx : 0 < x
    · rw [if_pos hx] at h; rw [List.mem_singleton.1 h]; refine ⟨rfl, rfl, ?_, ?_, ?_⟩
      · simp only [gr, List.length_cons, Int.natCast_add]; omega
      · simp only [eL]; omega
      · simp only [gr, eL, Int.sub_self, Int.toNat_zero, List.getD_cons_zero]
    · rw [if_neg hx] at h; cases h
  · obtain ⟨h1, h2, h3, h4, h5⟩ := kC a k xs (i + 1) d h; simp only [List.length_cons, Int.natCast_add]; refine ⟨h1, h2, by omega, h4, ?_⟩; rw [show (d.i 2 - i).toNat = (d.i 2 - (i + 1)).toNat + 1 by omega, List.getD_cons_succ]; exact h5
theorem vL (a k : Int) : ∀ (xs : List Int) (i : Int) (j : Nat), (∀ x ∈ xs, 0 <= x) -> aU (fun d => d.i 2 == i + j) (bA a k i xs) = xs.getD j 0
 | [], i, j, _ => by simp [bA, aU]
 | x :: xs, i, j, h => by
  have h0 := h x (by simp); simp only [bA, gK]; cases j with
  | zero =>
   have e : aU (fun d => d.i 2 == i + ((0 : Nat) : Int)) (bA a k (i + 1) xs) = 0 := fp _ _ fun d hd => by
    have := kC a k xs (i + 1) d hd; simp only [beq_eq_false_iff_ne]; omega
   rw [e, List.getD_cons_zero]
   by_cases hx : 0 < x
   · rw [if_pos hx]; simp [aU, gr, eL]
   · rw [if_neg hx]; simp only [aU]; omega
  | succ j =>
   have := vL a k xs (i + 1) j fun y hy => h y (by simp [hy])
   rw [show i + 1 + (j : Int) = i + ((j + 1 : Nat) : Int) by omega] at this; rw [this, List.getD_cons_succ]
   by_cases hx : 0 < x
   · rw [if_pos hx]; simp only [aU, gr]; rw [show (i == i + ((j + 1 : Nat) : Int)) = false by simp only [beq_eq_false_iff_ne]; omega]; simp
   · rw [if_neg hx]; simp [aU]
structure Kept (x : ba) (c ps : List Dat) (x' : ba) (c' : List Dat) : Prop where
 ay : x'.ay = x.ay - al 3 ps
 fee : x'.fee = x.fee - aU kF ps
 bz : x'.bz = x.bz - aU kR ps
 room : x'.room = x.room - aU kT ps
 pri : x'.aq = x.aq - aU kP ps
 len : c'.length = c.length
 row : ∀ i, i < c.length -> ae c' i = .r [.n ((ae c i).i 0), .n ((ae c i).i 1 - aU (toB i) ps), .n ((ae c i).i 2 - aU (toI i) ps)]
theorem Kept.refl {x : ba} {c : List Dat} (h : ∀ d ∈ c, lj 3 d = true) : Kept x c [] x c := by
 refine ⟨by simp [al], by simp [aU], by simp [aU], by simp [aU], by simp [aU], rfl, fun i hi => ?_⟩; simp only [aU, Int.sub_zero]; exact B2 (h _ (mu hi))
theorem Kept.trans {x x' x'' : ba} {c c' c'' ps qs : List Dat} (a : Kept x c ps x' c') (b : Kept x' c' qs x'' c'') : Kept x c (ps ++ qs) x'' c'' := by
 refine ⟨?_, ?_, ?_, ?_, ?_, b.len.trans a.len, fun i hi => ?_⟩
 · rw [b.ay, a.ay, sh]; omega
 · rw [b.fee, a.fee, gK]; omega
 · rw [b.bz, a.bz, gK]; omega
 · rw [b.room, a.room, gK]; omega
 · rw [b.pri, a.pri, gK]; omega
 · rw [b.row i (by rw [a.len]; exact hi), a.row i hi, gK, gK]; simp only [HC, dQ, gr]; rw [show (ae c i).i 1 - aU (toB i) ps - aU (toB i) qs = (ae c i).i 1 - (aU (toB i) ps + aU (toB i) qs) by omega, show (ae c i).i 2 - aU (toI i) ps - aU (toI i) qs = (ae c i).i 2 - (aU (toI i) ps + aU (toI i) qs) by omega]
theorem Kept.shares {c : List Dat} (sel : Dat -> Bool) (n : Int) (h : aP c = true) (x : ba) (a : Int) {j : Nat} {kd : Int} (hk : (j = 2 /\ kd = 3) \/ (j = 1 /\ (kd = 4 \/ kd = 5 \/ kd = 7))) :
 Kept x c (bA a kd 0 (aw sel j n c)) { x with ay := x.ay - (aw sel j n c).sum, aq := if kd = 4 \/ kd = 5 then x.aq - (aw sel j n c).sum else x.aq } (bG j (aw sel j n c) c) := by
 have hj : j = 1 \/ j = 2 := by omega
 obtain ⟨l1, l2, l3⟩ := dK sel hj n h; obtain ⟨h1, h2⟩ := bC h; have hm := BW sel hj n h; have hp := kC a kd (aw sel j n c) 0; have hs := sU a kd (aw sel j n c) 0 hm; have hat := fun i => vL a kd (aw sel j n c) 0 i hm
 have kk : ∀ d ∈ bA a kd 0 (aw sel j n c), kF d = false /\ kR d = false /\ kT d = false /\ kI d = (kd == 3) /\ kB d = !(kd == 3) := fun d hd => by
  have := (hp d hd).2.1; simp only [kB, kF, kR, kT, kI, this]; rcases hk with ⟨_, rfl⟩ | ⟨_, rfl | rfl | rfl⟩ <;> decide
 refine ⟨by rw [hs], ?_, ?_, ?_, ?_, mo j _ c l1, fun i hi => ?_⟩
 · rw [fp kF _ fun d hd => (kk d hd).1]; simp
 · rw [fp kR _ fun d hd => (kk d hd).2.1]; simp
 · rw [fp kT _ fun d hd => (kk d hd).2.2.1]; simp
 · by_cases h45 : kd = 4 \/ kd = 5
   · simp only [if_pos h45]; rw [zN kP _ fun d hd => by
      have := (kk d hd).2.2.2.2; have h6 := (hp d hd).2.1; simp only [kP, this, h6]; rcases h45 with rfl | rfl <;> rfl, hs]
   · simp only [if_neg h45]; rw [fp kP _ fun d hd => by
      have := (kk d hd).2.2.2.2; have h6 := (hp d hd).2.1; simp only [kP, this, h6]; rcases hk with ⟨_, rfl⟩ | ⟨_, rfl | rfl | rfl⟩
      · rfl
      · exact absurd (.inl rfl) h45
      · exact absurd (.inr rfl) h45
      · rfl]
     simp
 · rw [lV j _ c i l1 hi]; have e2 := hat i; simp only [Int.zero_add] at e2; rcases hk with ⟨rfl, rfl⟩ | ⟨rfl, hk⟩
   · have a1 : aU (toB i) (bA a 3 0 (aw sel 2 n c)) = 0 := fp _ _ fun d hd => by simp only [toB, (kk d hd).2.2.2.2]; rfl
     have a2 : aU (toI i) (bA a 3 0 (aw sel 2 n c)) = (aw sel 2 n c).getD i 0 := by
      rw [<- e2]; exact pg _ fun d hd => by simp only [toI, (kk d hd).2.2.2.1]; rfl
     rw [a1, a2]; simp only [bW, show ¬ (2 : Nat) = 1 by decide, if_false, Int.sub_zero]
   · have k3 : (kd == 3) = false := by rcases hk with rfl | rfl | rfl <;> rfl
     have a1 : aU (toI i) (bA a kd 0 (aw sel 1 n c)) = 0 := fp _ _ fun d hd => by simp only [toI, (kk d hd).2.2.2.1, k3]; rfl
     have a2 : aU (toB i) (bA a kd 0 (aw sel 1 n c)) = (aw sel 1 n c).getD i 0 := by
      rw [<- e2]; exact pg _ fun d hd => by simp only [toB, (kk d hd).2.2.2.2, k3]; rfl
     rw [a1, a2]; simp only [bW, if_true, Int.sub_zero]
theorem Kept.mN {a kd : Int} (hk : kd = 4 \/ kd = 7) : ∀ (k : Nat) (r n : Int) (x : ba) (c : List Dat), aP c = true ->
 Kept x c (bp a kd k r n c).2.1 { x with ay := x.ay - (bp a kd k r n c).2.2, aq := if kd = 4 then x.aq - (bp a kd k r n c).2.2 else x.aq } (bp a kd k r n c).1
 | 0, r, n, x, c, h => by
  have := Kept.refl (x := x) fun d hd => (cf ((bC h).2 d hd)).1
  simp only [bp, Int.sub_zero, ite_self]; exact this
 | k + 1, r, n, x, c, h => by
  obtain ⟨g1, g2⟩ := oG (aH r) (j := 1) (.inl rfl) n h; have a1 := Kept.shares (aH r) n h x a (j := 1) (kd := kd) (.inr ⟨rfl, by omega⟩); have a2 := Kept.mN (a := a) hk k (r + 1) (n - (aw (aH r) 1 n c).sum) { x with ay := x.ay - (aw (aH r) 1 n c).sum, aq := if kd = 4 \/ kd = 5 then x.aq - (aw (aH r) 1 n c).sum else x.aq } _ g1; have := a1.trans a2; simp only [bp]; have e : (if kd = 4 \/ kd = 5 then x.aq - (aw (aH r) 1 n c).sum else x.aq) = if kd = 4 then x.aq - (aw (aH r) 1 n c).sum else x.aq := by
   rcases hk with rfl | rfl <;> simp
  simp only [e] at this; generalize (bp a kd k (r + 1) (n - (aw (aH r) 1 n c).sum) (bG 1 (aw (aH r) 1 n c) c)).2.2 = y at *
  by_cases h4 : kd = 4
  · simp only [if_pos h4, Int.sub_sub] at this ⊢; exact this
  · simp only [if_neg h4, Int.sub_sub] at this ⊢; exact this
def At (n : Nat) (a kd : Int) (d : Dat) : Prop := d.i 0 = a /\ d.i 1 = kd /\ 1 <= d.i 3 /\ (-1 <= d.i 2 /\ d.i 2 < n) /\ (d.i 2 < 0 ↔ (kd = 1 \/ kd = 2 \/ kd = 6))
theorem pj {a kd : Int} {xs : List Int} {n : Nat} (hl : xs.length = n) (hk : ¬ (kd = 1 \/ kd = 2 \/ kd = 6)) : ∀ d ∈ bA a kd 0 xs, At n a kd d := fun d hd => by
 obtain ⟨h1, h2, h3, h4, h5⟩ := kC a kd xs 0 d hd; exact ⟨h1, h2, h4, by omega, by omega⟩
theorem nA {a kd : Int} (hk : ¬ (kd = 1 \/ kd = 2 \/ kd = 6)) : ∀ (k : Nat) (r n : Int) (c : List Dat), aP c = true -> ∀ d ∈ (bp a kd k r n c).2.1, At c.length a kd d
 | 0, r, n, c, h, d, hd => by simp [bp] at hd
 | k + 1, r, n, c, h, d, hd => by
  obtain ⟨g1, g2⟩ := oG (aH r) (j := 1) (.inl rfl) n h; obtain ⟨l1, l2, l3⟩ := dK (aH r) (j := 1) (.inl rfl) n h; simp only [bp] at hd; rcases List.mem_append.1 hd with hd | hd
  · exact pj l1 hk d hd
  · have := nA hk k (r + 1) _ _ g1 d hd
    rwa [g2] at this
theorem lR {x : ba} {c : List Dat} (h : aP c = true) (a kd n : Int) (h0 : 0 <= n) (hk : kd = 1 \/ kd = 2 \/ kd = 6) :
 Kept x c (jv a kd n) { x with ay := x.ay - n, fee := if kd = 1 then x.fee - n else x.fee, bz := if kd = 2 then x.bz - n else x.bz, room := if kd = 6 then x.room - n else x.room } c /\ ∀ d ∈ jv a kd n, At c.length a kd d := by
 have hr : ∀ d ∈ c, lj 3 d = true := fun d hd => (cf ((bC h).2 d hd)).1
 unfold jv
 by_cases hn : 0 < n
 · rw [if_pos hn]; refine ⟨⟨by simp [al, eL], ?_, ?_, ?_, ?_, rfl, fun i hi => ?_⟩, fun d hd => ?_⟩
   · simp only [aU, kF, dQ, eL]; rcases hk with rfl | rfl | rfl <;> simp
   · simp only [aU, kR, dQ, eL]; rcases hk with rfl | rfl | rfl <;> simp
   · simp only [aU, kT, dQ, eL]; rcases hk with rfl | rfl | rfl <;> simp
   · simp only [aU, kP, kB, kF, kR, kT, kI, dQ, eL]; rcases hk with rfl | rfl | rfl <;> simp
   · have a1 : aU (toB i) [Dat.r [.n a, .n kd, .n (-1), .n n]] = 0 := by simp only [aU, toB, kB, kF, kR, kT, kI, dQ, gr]; rcases hk with rfl | rfl | rfl <;> simp
     have a2 : aU (toI i) [Dat.r [.n a, .n kd, .n (-1), .n n]] = 0 := by simp only [aU, toI, kI, dQ, gr]; rcases hk with rfl | rfl | rfl <;> simp
     rw [a1, a2, Int.sub_zero, Int.sub_zero]; exact B2 (hr _ (mu hi))
   · rw [List.mem_singleton.1 hd]; refine ⟨rfl, rfl, ?_, ?_, ?_⟩
     · show (1 : Int) <= n; exact hn
     · exact ⟨Int.le_refl (-1), by show (-1 : Int) < (c.length : Int); omega⟩
     · show (-1 : Int) < 0 ↔ _; exact ⟨fun _ => hk, fun _ => by decide⟩
 · rw [if_neg hn]; obtain rfl : n = 0 := by omega
   simp only [Int.sub_zero, ite_self]; exact ⟨Kept.refl hr, fun d hd => by cases hd⟩
theorem Cr (a kd rk : Int) {x : ba} {c : List Dat} (hx : mK x = true) (h : aP c = true) : Kept x c (de a kd rk x c).2.2 (de a kd rk x c).1 (de a kd rk x c).2.1 /\ ∀ d ∈ (de a kd rk x c).2.2, At c.length a kd d := by
 have hx' := rX hx; have s1 := fun sel j hj n => (dK (c := c) sel (j := j) hj n h).1
 unfold de
 by_cases k1 : kd = 1
 · rw [if_pos k1]; have := lR (x := x) h a kd (min x.fee x.ay) (by omega) (.inl k1); subst k1; exact this
 rw [if_neg k1]
 by_cases k2 : kd = 2
 · rw [if_pos k2]; have := lR (x := x) h a kd (min x.bz x.ay) (by omega) (.inr (.inl k2)); subst k2; exact this
 rw [if_neg k2]
 by_cases k6 : kd = 6
 · rw [if_pos k6]; have := lR (x := x) h a kd (min x.room x.ay) (by omega) (.inr (.inr k6)); subst k6; exact this
 rw [if_neg k6]; have hk : ¬ (kd = 1 \/ kd = 2 \/ kd = 6) := by omega
 by_cases k3 : kd = 3
 · rw [if_pos k3]; have := Kept.shares (aH rk) x.ay h x a (j := 2) (kd := kd) (.inl ⟨rfl, k3⟩); rw [if_neg (by omega)] at this; exact ⟨this, pj (s1 (aH rk) 2 (.inr rfl) x.ay) hk⟩
 rw [if_neg k3]
 by_cases k4 : kd = 4
 · rw [if_pos k4]; have := Kept.mN (a := a) (kd := kd) (.inl k4) 8 0 (min x.aq x.ay) x c h; simp only [if_pos k4] at this; have hp := nA (a := a) hk 8 0 (min x.aq x.ay) c h; generalize bp a kd 8 0 (min x.aq x.ay) c = y at *
   exact ⟨this, hp⟩
 rw [if_neg k4]
 by_cases k5 : kd = 5
 · rw [if_pos k5]; have := Kept.shares (fun _ => true) (min x.aq x.ay) h x a (j := 1) (kd := kd) (.inr ⟨rfl, by omega⟩); rw [if_pos (by omega)] at this; exact ⟨this, pj (s1 (fun _ => true) 1 (.inl rfl) _) hk⟩
 rw [if_neg k5]
 by_cases k7 : kd = 7
 · rw [if_pos k7]; have := Kept.mN (a := a) (kd := kd) (.inr k7) 8 0 x.ay x c h; simp only [if_neg k4] at this; have hp := nA (a := a) hk 8 0 x.ay c h; generalize bp a kd 8 0 x.ay c = y at *
   exact ⟨this, hp⟩
 rw [if_neg k7]; exact ⟨Kept.refl fun d hd => (cf ((bC h).2 d hd)).1, fun d hd => by cases hd⟩
def Ht (n : Nat) (a : Int) (l : List Dat) (d : Dat) : Prop := (a <= d.i 0 /\ d.i 0 < a + l.length) /\ At n (d.i 0) (ae l (d.i 0 - a).toNat |>.i 0) d
theorem wC : ∀ (l : List Dat) (a : Int) (x : ba) (c : List Dat), mK x = true -> aP c = true -> Kept x c (dn a l x c).2.2 (dn a l x c).1 (dn a l x c).2.1 /\ (∀ d ∈ (dn a l x c).2.2, Ht c.length a l d) /\ (dn a l x c).2.2.Pairwise fun d e => d.i 0 <= e.i 0
 | [], a, x, c, hx, h => ⟨Kept.refl fun d hd => (cf ((bC h).2 d hd)).1, fun d hd => by simp [dn] at hd, List.Pairwise.nil⟩
 | s :: l, a, x, c, hx, h => by
  obtain ⟨h1, h2, h3, h4⟩ := uI a (s.i 0) (s.i 1) hx h; obtain ⟨k1, k2⟩ := Cr a (s.i 0) (s.i 1) hx h; obtain ⟨i1, i2, i3⟩ := wC l (a + 1) _ _ h1 h2; simp only [dn]; refine ⟨k1.trans i1, fun d hd => ?_, ?_⟩
  · rcases List.mem_append.1 hd with hd | hd
    · obtain ⟨g0, g1, g2, g3, g4⟩ := k2 d hd; refine ⟨by rw [g0, List.length_cons]; omega, ?_⟩; rw [g0, Int.sub_self]; exact ⟨g0, g1, g2, g3, g4⟩
    · obtain ⟨g0, g1⟩ := i2 d hd; rw [h3] at g1; refine ⟨by rw [List.length_cons]; omega, ?_⟩; rw [show (d.i 0 - a).toNat = (d.i 0 - (a + 1)).toNat + 1 by omega]; exact g1
  · rw [List.pairwise_append]; refine ⟨?_, i3, fun d hd e he => ?_⟩
    · refine List.Pairwise.imp_of_mem (R := fun _ _ => True) (fun {d e} hd he _ => ?_) (List.pairwise_of_forall fun _ _ => trivial); rw [(k2 d hd).1, (k2 e he).1]; exact Int.le_refl _
    · have := (k2 d hd).1; have := (i2 e he).1; omega
end
end Go.Proofs.YtdbkoeefnodejaaGreat
namespace Go.Proofs.YtdbkoeefnodejaaGreat
noncomputable section
open Go Go.Proofs.YtdbkoeefnodejaaGreat.Ev
set_option maxRecDepth 20000
def cA (u p l r : Int) : Int := min (min (max (u - p) 0) (max (l - r) 0)) (max u 0)
def Qa : aD := ⟨T45.tab, 108, ⟨[.int .i64, .int .i64, .int .i64, .int .i64], [], 0⟩, ⟨[.int .i64], [], 0⟩, []⟩
def t108 (m : Nat) : Int × Int × Int × Int -> Option (List Un) := fun (a0, a1, a2, a3) =>
 lt ((if (w64 (a0 - a1)) < 0 then 0 else (w64 (a0 - a1))) : Int) fun x1 =>
 lt ((if (w64 (a2 - a3)) < 0 then 0 else (w64 (a2 - a3))) : Int) fun x2 =>
 lt ((if a0 < 0 then 0 else a0) : Int) fun x3 =>
 some ([.i (if x3 < (if x2 < x1 then x2 else x1) then x3 else (if x2 < x1 then x2 else x1))])
def f108 : Int × Int × Int × Int -> Bool × List Un := fun (a0, a1, a2, a3) => (decide ((-1152921504606846976 <= a0 /\ a0 <= 1152921504606846976) /\ (-1152921504606846976 <= a1 /\ a1 <= 1152921504606846976) /\ (-1152921504606846976 <= a2 /\ a2 <= 1152921504606846976) /\ (-1152921504606846976 <= a3 /\ a3 <= 1152921504606846976)), [.i (cA a0 a1 a2 a3)])
theorem ID (a0 : Int) (a1 : Int) (a2 : Int) (a3 : Int) (hc : (decide ((-1152921504606846976 <= a0 /\ a0 <= 1152921504606846976) /\ (-1152921504606846976 <= a1 /\ a1 <= 1152921504606846976) /\ (-1152921504606846976 <= a2 /\ a2 <= 1152921504606846976) /\ (-1152921504606846976 <= a3 /\ a3 <= 1152921504606846976))) = true) : ∃ m, t108 m (a0, a1, a2, a3) = some ([.i (cA a0 a1 a2 a3)]) := by
 have h := of_decide_eq_true hc; refine ⟨0, ?_⟩; unfold t108 cA; simp only [lt_eq]; rw [aa (n := a0 - a1) (by omega) (by omega), aa (n := a2 - a3) (by omega) (by omega)]
 congr 3
 omega
theorem Gl : ER 108 (mkE Qa.en Qa.ex f108) := an ai T45.right (fun m => []) (t := t108) (by kernel_rfl) (fun m => aB) (fun m a => by kernel_rfl) fun (a0, a1, a2, a3) hc => ID a0 a1 a2 a3 hc
def Iv : Tb Tryz.prog LQ TE := T45.add 108 _ Gl
def bV (n : Int) : Nat -> List Int
 | 0 => []
 | k + 1 => n :: bV (n + 1) k
theorem fw : ∀ (k : Nat) (n : Int), (bV n k).length = k
 | 0, _ => rfl
 | k + 1, n => by simp [bV, fw k]
theorem wg : ∀ (k j : Nat) (n : Int), j < k -> (bV n k).getD j 0 = n + j
 | 0, j, n, h => by omega
 | k + 1, 0, n, h => by simp [bV]
 | k + 1, j + 1, n, h => by
  simp only [bV, List.getD_cons_succ, wg k j (n + 1) (by omega)]; omega
theorem yu {c : List Dat} {i : Nat} (h : i < c.length) : (bV 0 c.length).getD i 0 = (i : Int) := by rw [wg _ _ _ h]; omega
theorem cd {c : List Dat} {i : Nat} (h : i < c.length) (hg : ∀ d ∈ c, aI d = true) : aI (ae c i) = true := hg _ (sV h)
theorem Gv {d : Dat} (h : aI d = true) : w64 (w64 (d.i 1 - w64 (d.i 3 - d.i 4)) - d.i 6) = bc d := by
 have := bQ h; rw [aa (n := d.i 3 - d.i 4) (by omega) (by omega), aa (n := d.i 1 - _) (by omega) (by omega), aa (by omega) (by omega)]; rfl
theorem wV (j : Nat) : ∀ (c : List Dat) (i : Nat), i < c.length -> al j (c.drop i) = (ae c i).i j + al j (c.drop (i + 1))
 | [], i, h => by simp at h
 | d :: c, 0, _ => by simp [al, ae]
 | d :: c, i + 1, h => by
  have := wV j c i (by simpa using h); simpa [ae] using this
def Nl : aD := ⟨Iv.tab, 144, ⟨[.buf 0 1], [.dj 1 7 0, .ag (sI 7)], 2⟩, ⟨[.int .i64], [.dj 1 7 0, .ag (sI 7)], 2⟩, []⟩
abbrev yX : Type := Int × Int × Int × List Int × List Dat
def rO (m : Nat) (k : yX -> Option (List Un)) : yX -> Option (List Un) := fun (a0, a1, a2, a3, a4) =>
 bif decide (a2 < a1) then
 chk (inb a2 a3.length) <|
 chk (decide (a2.toNat < a3.length)) <|
 bif (!((decide ((a3.getD a2.toNat 0) < 0)) && true)) then
 chk (decide (0 <= (a3.getD a2.toNat 0))) <|
 chk (decide ((a3.getD a2.toNat 0).toNat < a4.length)) <|
 k ((w64 (a0 + ((ae a4 ((a3.getD a2.toNat 0).toNat)).i 6))), a1, (w64 (a2 + 1)), a3, a4)
 else
 k (a0, a1, (w64 (a2 + 1)), a3, a4)
 else
 some ([.i a0, .l a3, .d a4])
def pK (m : Nat) : Nat -> yX -> Option (List Un) := bf (rO m)
theorem qe (m : Nat) (n : Nat) : pK m (n + 1) = rO m (pK m n) := rfl
def A7 (F : yX -> Option (List Un)) : aQ := ⟨[.lp [0, 1, 0, 1, 1], .blk 0, .code [1, 1, 1]], ⟨frm 22 [(3, .int .i64), (6, .buf 0 1), (7, .int .i64), (8, .int .i64)], [.dj 1 7 0, .ag (sI 7)], 2⟩, onU F⟩
theorem Nb (m : Nat) : ∀ n, HO Nl (A7 (pK m n)) := ax ai Iv.right (fun k => [A7 k]) (fun k h => (aF h aB)) fun k a => by kernel_rfl
def t144 (m : Nat) : List Int × List Dat -> Option (List Un) := fun (a0, a1) =>
 pK m m (0, (a0.length : Int), 0, a0, a1)
theorem Ml (m : Nat) (c : List Dat) (hl : c.length <= 1000) (hg : ∀ d ∈ c, aI d = true) : ∀ (k i n : Nat) (s : Int), i + k = c.length -> k < n -> 0 <= s -> s <= 1099511627776 * i ->
 pK m n (s, (c.length : Int), (i : Int), bV 0 c.length, c) = some [.i (s + al 6 (c.drop i)), .l (bV 0 c.length), .d c] := by
 intro k
 induction k with
 | zero =>
  intro i n s hi hn s0 s1; obtain ⟨n, rfl⟩ := ak n (by omega); rw [qe]; unfold rO; dsimp only; rw [aC (by omega), List.drop_eq_nil_of_le (by omega)]; simp [al]
 | succ k ih =>
  intro i n s hi hn s0 s1; obtain ⟨n, rfl⟩ := ak n (by omega); have hk := yu (c := c) (i := i) (by omega); have hL := fw c.length 0; have hx := bQ (cd (i := i) (by omega) hg); have := ih (i + 1) n (s + (ae c i).i 6) (by omega) (by omega) (by omega) (by omega); rw [wV 6 c i (by omega), <- Int.add_assoc]; rw [qe]; unfold rO; dsimp only; simp only [Int.toNat_natCast, hk, hL, Bool.and_true, decide_true]; simp (disch := omega) only [TRa, TRi, aa, LNl, LNi, Int.cast_ofNat_Int]; simp only [LNl, LNi, Int.cast_ofNat_Int] at this ⊢; exact this
def f144 : List Int × List Dat -> Bool × List Un := fun (a0, a1) => ((decide (a0 = bV 0 a1.length)) && (decide (a1.length <= 1000) && a1.all aI), [.i (al 6 a1), .l (a0), .d (a1)])
theorem Ih (a0 : List Int) (a1 : List Dat) (hc : ((decide (a0 = bV 0 a1.length)) && (decide (a1.length <= 1000) && a1.all aI)) = true) : ∃ m, t144 m (a0, a1) = some ([.i (al 6 a1), .l (a0), .d (a1)]) := by
 simp only [Bool.and_eq_true, decide_eq_true_eq, List.all_eq_true] at hc; obtain ⟨rfl, h1, h2⟩ := hc; refine ⟨a1.length + 1, ?_⟩; unfold t144; dsimp only; rw [fw]; exact (Ml _ a1 h1 h2 a1.length 0 _ 0 (by omega) (by omega) (by omega) (by simp)).trans (by simp only [Int.zero_add, List.drop_zero])
theorem Hk : ER 144 (mkE Nl.en Nl.ex f144) := an ai Iv.right (fun m => [A7 (pK m m)]) (t := t144) (by kernel_rfl) (fun m => (aF (Nb m m) aB)) (fun m a => by kernel_rfl) fun (a0, a1) hc => Ih a0 a1 hc
def Jh : Tb Tryz.prog LQ TE := Iv.add 144 _ Hk
def fa (c : List Dat) : Nat -> Nat -> Int -> Int
 | 0, _, o => o
 | k + 1, i, o => fa c k (i + 1) (if 0 < bc (ae c i) /\ (o < 0 \/ (ae c o.toNat).i 0 <= (ae c i).i 0) then (i : Int) else o)
theorem yT (c : List Dat) : ∀ (k i : Nat) (o : Int), i + k = c.length -> -1 <= o -> o < c.length -> -1 <= fa c k i o /\ fa c k i o < c.length
 | 0, _, o, _, h1, h2 => ⟨h1, h2⟩
 | k + 1, i, o, h, h1, h2 => by
  unfold fa
  split
  · exact yT c k (i + 1) _ (by omega) (by omega) (by omega)
  · exact yT c k (i + 1) _ (by omega) (by omega) (by omega)
def NA : aD := ⟨Jh.tab, 145, ⟨[.buf 0 1], [.dj 1 7 0, .ag (sI 7)], 2⟩, ⟨[.np 1 7 0], [.dj 1 7 0, .ag (sI 7)], 2⟩, []⟩
abbrev xP : Type := Int × Int × Int × List Int × List Dat
def r7 (m : Nat) (k : xP -> Option (List Un)) : xP -> Option (List Un) := fun (a0, a1, a2, a3, a4) =>
 bif decide (a2 < a1) then
 chk (inb a2 a3.length) <|
 chk (decide (a2.toNat < a3.length)) <|
 bif (!((decide ((a3.getD a2.toNat 0) < 0)) && true)) then
 chk (decide (0 <= (a3.getD a2.toNat 0))) <|
 chk (decide ((a3.getD a2.toNat 0).toNat < a4.length)) <|
 lt (ae a4 ((a3.getD a2.toNat 0).toNat) : Dat) fun d2 =>
 bif decide ((w64 (w64 ((d2.i 1) - w64 ((d2.i 3) - (d2.i 4))) - (d2.i 6))) > 0) then
 bif ((decide (a0 < 0)) && true) then
 k ((a3.getD a2.toNat 0), a1, (w64 (a2 + 1)), a3, a4)
 else
 chk (decide (0 <= (a3.getD a2.toNat 0))) <|
 chk (decide ((a3.getD a2.toNat 0).toNat < a4.length)) <|
 chk (decide (0 <= a0)) <|
 chk (decide (a0.toNat < a4.length)) <|
 bif (decide (((ae a4 ((a3.getD a2.toNat 0).toNat)).i 0) >= ((ae a4 a0.toNat).i 0))) then
 k ((a3.getD a2.toNat 0), a1, (w64 (a2 + 1)), a3, a4)
 else
 k (a0, a1, (w64 (a2 + 1)), a3, a4)
 else
 k (a0, a1, (w64 (a2 + 1)), a3, a4)
 else
 k (a0, a1, (w64 (a2 + 1)), a3, a4)
 else
 some ([.i a0, .l a3, .d a4])
def pt (m : Nat) : Nat -> xP -> Option (List Un) := bf (r7 m)
theorem qP (m : Nat) (n : Nat) : pt m (n + 1) = r7 m (pt m n) := rfl
def B8 (F : xP -> Option (List Un)) : aQ := ⟨[.lp [0, 1, 0, 1, 1], .blk 0, .code [1, 1, 1]], ⟨frm 41 [(3, .np 1 7 0), (6, .buf 0 1), (7, .int .i64), (8, .int .i64)], [.dj 1 7 0, .ag (sI 7)], 2⟩, onU F⟩
theorem Mn (m : Nat) : ∀ n, HO NA (B8 (pt m n)) := ax ai Jh.right (fun k => [B8 k]) (fun k h => (aF h aB)) fun k a => by kernel_rfl
def t145 (m : Nat) : List Int × List Dat -> Option (List Un) := fun (a0, a1) =>
 pt m m ((-1), (a0.length : Int), 0, a0, a1)
theorem Ph (m : Nat) (c : List Dat) (hl : c.length <= 1000) (hg : ∀ d ∈ c, aI d = true) : ∀ (k i n : Nat) (o : Int), i + k = c.length -> k < n -> -1 <= o -> o < c.length ->
 pt m n (o, (c.length : Int), (i : Int), bV 0 c.length, c) = some [.i (fa c k i o), .l (bV 0 c.length), .d c] := by
 intro k
 induction k with
 | zero =>
  intro i n o hi hn o0 o1; obtain ⟨n, rfl⟩ := ak n (by omega); rw [qP]; unfold r7; dsimp only; rw [aC (by omega)]; rfl
 | succ k ih =>
  intro i n o hi hn o0 o1; obtain ⟨n, rfl⟩ := ak n (by omega); have hk := yu (c := c) (i := i) (by omega); have hL := fw c.length 0; have hx := bQ (cd (i := i) (by omega) hg); have ia := ih (i + 1) n (i : Int) (by omega) (by omega) (by omega) (by omega); have ib := ih (i + 1) n o (by omega) (by omega) (by omega) (by omega); rw [qP]; unfold r7; dsimp only; unfold fa; have e := Gv (cd (c := c) (i := i) (by omega) hg); simp only [lt_eq, Int.toNat_natCast, hk, hL, Bool.and_true, decide_true, e, ge_iff_le, gt_iff_lt]
  by_cases h1 : 0 < bc (ae c i)
  · by_cases h2 : o < 0
    · have hc : 0 < bc (ae c i) /\ (o < 0 \/ (ae c o.toNat).i 0 <= (ae c i).i 0) := ⟨h1, .inl h2⟩
      rw [if_pos hc]; simp (disch := omega) only [TRa, TRi, aa, LNl, LNi, Int.cast_ofNat_Int]; simp only [Int.natCast_add, Int.cast_ofNat_Int] at ia ib ⊢; exact ia
    · by_cases h3 : (ae c o.toNat).i 0 <= (ae c i).i 0
      · have hc : 0 < bc (ae c i) /\ (o < 0 \/ (ae c o.toNat).i 0 <= (ae c i).i 0) := ⟨h1, .inr h3⟩
        rw [if_pos hc]; simp (disch := omega) only [TRa, TRi, aa, LNl, LNi, Int.cast_ofNat_Int]; simp only [Int.natCast_add, Int.cast_ofNat_Int] at ia ib ⊢; exact ia
      · have hc : ¬ (0 < bc (ae c i) /\ (o < 0 \/ (ae c o.toNat).i 0 <= (ae c i).i 0)) := fun h => h.2.elim h2 h3
        rw [if_neg hc]; simp (disch := omega) only [TRa, TRi, aa, LNl, LNi, Int.cast_ofNat_Int]; simp only [Int.natCast_add, Int.cast_ofNat_Int] at ia ib ⊢; exact ib
  · have hc : ¬ (0 < bc (ae c i) /\ (o < 0 \/ (ae c o.toNat).i 0 <= (ae c i).i 0)) := fun h => h1 h.1
    rw [if_neg hc]; simp (disch := omega) only [TRa, TRi, aa, LNl, LNi, Int.cast_ofNat_Int]; simp only [Int.natCast_add, Int.cast_ofNat_Int] at ia ib ⊢; exact ib
def f145 : List Int × List Dat -> Bool × List Un := fun (a0, a1) => ((decide (a0 = bV 0 a1.length)) && (decide (a1.length <= 1000) && a1.all aI), [.i (fa a1 a1.length 0 (-1)), .l (a0), .d (a1)])
theorem I3 (a0 : List Int) (a1 : List Dat) (hc : ((decide (a0 = bV 0 a1.length)) && (decide (a1.length <= 1000) && a1.all aI)) = true) : ∃ m, t145 m (a0, a1) = some ([.i (fa a1 a1.length 0 (-1)), .l (a0), .d (a1)]) := by
 simp only [Bool.and_eq_true, decide_eq_true_eq, List.all_eq_true] at hc; obtain ⟨rfl, h1, h2⟩ := hc; refine ⟨a1.length + 1, ?_⟩; unfold t145; dsimp only; rw [fw]; exact Ph _ a1 h1 h2 a1.length 0 _ (-1) (by omega) (by omega) (by omega) (by omega)
theorem Fb : ER 145 (mkE NA.en NA.ex f145) := an ai Jh.right (fun m => [B8 (pt m m)]) (t := t145) (by kernel_rfl) (fun m => (aF (Mn m m) aB)) (fun m a => by kernel_rfl) fun (a0, a1) hc => I3 a0 a1 hc
def IV : Tb Tryz.prog LQ TE := Jh.add 145 _ Fb
def fb (c : List Dat) : Nat -> Nat -> Int -> Int
 | 0, _, o => o
 | k + 1, i, o => fb c k (i + 1) (if 0 < (ae c i).i 6 /\ (o < 0 \/ (ae c i).i 0 < (ae c o.toNat).i 0) then (i : Int) else o)
theorem y3 (c : List Dat) : ∀ (k i : Nat) (o : Int), i + k = c.length -> -1 <= o -> o < c.length -> -1 <= fb c k i o /\ fb c k i o < c.length
 | 0, _, o, _, h1, h2 => ⟨h1, h2⟩
 | k + 1, i, o, h, h1, h2 => by
  unfold fb
  split
  · exact y3 c k (i + 1) _ (by omega) (by omega) (by omega)
  · exact y3 c k (i + 1) _ (by omega) (by omega) (by omega)
def Lr : aD := ⟨IV.tab, 147, ⟨[.buf 0 1], [.dj 1 7 0, .ag (sI 7)], 2⟩, ⟨[.np 1 7 0], [.dj 1 7 0, .ag (sI 7)], 2⟩, []⟩
abbrev yc : Type := Int × Int × Int × List Int × List Dat
def rL (m : Nat) (k : yc -> Option (List Un)) : yc -> Option (List Un) := fun (a0, a1, a2, a3, a4) =>
 bif decide (a2 < a1) then
 chk (inb a2 a3.length) <|
 chk (decide (a2.toNat < a3.length)) <|
 bif (!((decide ((a3.getD a2.toNat 0) < 0)) && true)) then
 chk (decide (0 <= (a3.getD a2.toNat 0))) <|
 chk (decide ((a3.getD a2.toNat 0).toNat < a4.length)) <|
 bif decide (((ae a4 ((a3.getD a2.toNat 0).toNat)).i 6) > 0) then
 bif ((decide (a0 < 0)) && true) then
 k ((a3.getD a2.toNat 0), a1, (w64 (a2 + 1)), a3, a4)
 else
 chk (decide (0 <= (a3.getD a2.toNat 0))) <|
 chk (decide ((a3.getD a2.toNat 0).toNat < a4.length)) <|
 chk (decide (0 <= a0)) <|
 chk (decide (a0.toNat < a4.length)) <|
 bif (decide (((ae a4 ((a3.getD a2.toNat 0).toNat)).i 0) < ((ae a4 a0.toNat).i 0))) then
 k ((a3.getD a2.toNat 0), a1, (w64 (a2 + 1)), a3, a4)
 else
 k (a0, a1, (w64 (a2 + 1)), a3, a4)
 else
 k (a0, a1, (w64 (a2 + 1)), a3, a4)
 else
 k (a0, a1, (w64 (a2 + 1)), a3, a4)
 else
 some ([.i a0, .l a3, .d a4])
def pP (m : Nat) : Nat -> yc -> Option (List Un) := bf (rL m)
theorem qn (m : Nat) (n : Nat) : pP m (n + 1) = rL m (pP m n) := rfl
def Cz (F : yc -> Option (List Un)) : aQ := ⟨[.lp [0, 1, 0, 1, 1], .blk 0, .code [1, 1, 1]], ⟨frm 41 [(3, .np 1 7 0), (6, .buf 0 1), (7, .int .i64), (8, .int .i64)], [.dj 1 7 0, .ag (sI 7)], 2⟩, onU F⟩
theorem LU (m : Nat) : ∀ n, HO Lr (Cz (pP m n)) := ax ai IV.right (fun k => [Cz k]) (fun k h => (aF h aB)) fun k a => by kernel_rfl
def t147 (m : Nat) : List Int × List Dat -> Option (List Un) := fun (a0, a1) =>
 pP m m ((-1), (a0.length : Int), 0, a0, a1)
theorem PJ (m : Nat) (c : List Dat) (hl : c.length <= 1000) (hg : ∀ d ∈ c, aI d = true) : ∀ (k i n : Nat) (o : Int), i + k = c.length -> k < n -> -1 <= o -> o < c.length ->
 pP m n (o, (c.length : Int), (i : Int), bV 0 c.length, c) = some [.i (fb c k i o), .l (bV 0 c.length), .d c] := by
 intro k
 induction k with
 | zero =>
  intro i n o hi hn o0 o1; obtain ⟨n, rfl⟩ := ak n (by omega); rw [qn]; unfold rL; dsimp only; rw [aC (by omega)]; rfl
 | succ k ih =>
  intro i n o hi hn o0 o1; obtain ⟨n, rfl⟩ := ak n (by omega); have hk := yu (c := c) (i := i) (by omega); have hL := fw c.length 0; have hx := bQ (cd (i := i) (by omega) hg); have ia := ih (i + 1) n (i : Int) (by omega) (by omega) (by omega) (by omega); have ib := ih (i + 1) n o (by omega) (by omega) (by omega) (by omega); rw [qn]; unfold rL; dsimp only; unfold fb; have e := Gv (cd (c := c) (i := i) (by omega) hg); simp only [lt_eq, Int.toNat_natCast, hk, hL, Bool.and_true, decide_true, e, ge_iff_le, gt_iff_lt]
  by_cases h1 : 0 < (ae c i).i 6
  · by_cases h2 : o < 0
    · have hc : 0 < (ae c i).i 6 /\ (o < 0 \/ (ae c i).i 0 < (ae c o.toNat).i 0) := ⟨h1, .inl h2⟩
      rw [if_pos hc]; simp (disch := omega) only [TRa, TRi, aa, LNl, LNi, Int.cast_ofNat_Int]; simp only [Int.natCast_add, Int.cast_ofNat_Int] at ia ib ⊢; exact ia
    · by_cases h3 : (ae c i).i 0 < (ae c o.toNat).i 0
      · have hc : 0 < (ae c i).i 6 /\ (o < 0 \/ (ae c i).i 0 < (ae c o.toNat).i 0) := ⟨h1, .inr h3⟩
        rw [if_pos hc]; simp (disch := omega) only [TRa, TRi, aa, LNl, LNi, Int.cast_ofNat_Int]; simp only [Int.natCast_add, Int.cast_ofNat_Int] at ia ib ⊢; exact ia
      · have hc : ¬ (0 < (ae c i).i 6 /\ (o < 0 \/ (ae c i).i 0 < (ae c o.toNat).i 0)) := fun h => h.2.elim h2 h3
        rw [if_neg hc]; simp (disch := omega) only [TRa, TRi, aa, LNl, LNi, Int.cast_ofNat_Int]; simp only [Int.natCast_add, Int.cast_ofNat_Int] at ia ib ⊢; exact ib
  · have hc : ¬ (0 < (ae c i).i 6 /\ (o < 0 \/ (ae c i).i 0 < (ae c o.toNat).i 0)) := fun h => h1 h.1
    rw [if_neg hc]; simp (disch := omega) only [TRa, TRi, aa, LNl, LNi, Int.cast_ofNat_Int]; simp only [Int.natCast_add, Int.cast_ofNat_Int] at ia ib ⊢; exact ib
def f147 : List Int × List Dat -> Bool × List Un := fun (a0, a1) => ((decide (a0 = bV 0 a1.length)) && (decide (a1.length <= 1000) && a1.all aI), [.i (fb a1 a1.length 0 (-1)), .l (a0), .d (a1)])
theorem JK (a0 : List Int) (a1 : List Dat) (hc : ((decide (a0 = bV 0 a1.length)) && (decide (a1.length <= 1000) && a1.all aI)) = true) : ∃ m, t147 m (a0, a1) = some ([.i (fb a1 a1.length 0 (-1)), .l (a0), .d (a1)]) := by
 simp only [Bool.and_eq_true, decide_eq_true_eq, List.all_eq_true] at hc; obtain ⟨rfl, h1, h2⟩ := hc; refine ⟨a1.length + 1, ?_⟩; unfold t147; dsimp only; rw [fw]; exact PJ _ a1 h1 h2 a1.length 0 _ (-1) (by omega) (by omega) (by omega) (by omega)
theorem E5 : ER 147 (mkE Lr.en Lr.ex f147) := an ai IV.right (fun m => [Cz (pP m m)]) (t := t147) (by kernel_rfl) (fun m => (aF (LU m m) aB)) (fun m a => by kernel_rfl) fun (a0, a1) hc => JK a0 a1 hc
def Hy : Tb Tryz.prog LQ TE := IV.add 147 _ E5
theorem mn (i : Nat) (y : Dat) : ∀ (l : List Dat) (j : Nat), j < l.length -> al i (l.set j y) = al i l - (ae l j).i i + y.i i
 | [], j, h => by simp at h
 | d :: l, 0, h => by simp only [List.set_cons_zero, al, ae, List.getD_cons_zero]; omega
 | d :: l, j + 1, h => by
  have := mn i y l j (by simpa using h); simp only [ae] at this; simp only [List.set_cons_succ, al, ae, List.getD_cons_succ, this]; omega
theorem tP {l : List Dat} {j : Nat} {y : Dat} (h : j < l.length) : ae (l.set j y) j = y := by
 unfold ae; rw [List.getD_eq_getElem?_getD, List.getElem?_set_self h]; rfl
theorem lJ {l : List Dat} {j i : Nat} {y : Dat} (h : i ≠ j) : ae (l.set j y) i = ae l i := by
 unfold ae; rw [List.getD_eq_getElem?_getD, List.getD_eq_getElem?_getD, List.getElem?_set_ne (by omega)]
def w5 (p : Dat -> Prop) [DecidablePred p] : List Dat -> Nat
 | [] => 0
 | d :: l => (if p d then 1 else 0) + w5 p l
theorem xC (p : Dat -> Prop) [DecidablePred p] : ∀ l : List Dat, w5 p l <= l.length
 | [] => Nat.le_refl _
 | d :: l => by have := xC p l; simp only [w5, List.length_cons]; split <;> omega
theorem uA (p : Dat -> Prop) [DecidablePred p] (y : Dat) (hy : ¬ p y) : ∀ (l : List Dat) (j : Nat), j < l.length -> p (ae l j) -> w5 p (l.set j y) + 1 = w5 p l
 | [], j, h, _ => by simp at h
 | d :: l, 0, h, hp => by
  have hp : p d := hp; simp only [List.set_cons_zero, w5, if_neg hy, if_pos hp]; omega
 | d :: l, j + 1, h, hp => by
  have := uA p y hy l j (by simpa using h) hp; simp only [List.set_cons_succ, w5]; omega
def dm (c : List Dat) : Prop := c.length <= 1000 /\ ∀ d ∈ c, aI d = true
theorem dZ {c : List Dat} (h : dm c) : (decide (c.length <= 1000) && c.all aI) = true := by
 rw [Bool.and_eq_true, List.all_eq_true]; exact ⟨decide_eq_true h.1, h.2⟩
theorem mA {c : List Dat} {j : Nat} {y : Dat} (h : dm c) (hy : aI y = true) : dm (c.set j y) := ⟨by rw [List.length_set]; exact h.1, CI h.2 hy⟩
theorem rV (c : List Dat) : ∀ (k i : Nat) (o : Int), i + k = c.length -> (o < 0 \/ 0 < bc (ae c o.toNat)) -> (fa c k i o < 0 -> o < 0 /\ ∀ j, i <= j -> j < c.length -> bc (ae c j) <= 0) /\ (0 <= fa c k i o -> 0 < bc (ae c (fa c k i o).toNat))
 | 0, i, o, h, ho => ⟨fun h1 => ⟨h1, fun j h2 h3 => by omega⟩, fun h1 => by simp only [fa] at h1 ⊢; omega⟩
 | k + 1, i, o, h, ho => by
  unfold fa
  split
  · rename_i hc; obtain ⟨a, b⟩ := rV c k (i + 1) (i : Int) (by omega) (.inr (by rw [Int.toNat_natCast]; exact hc.1)); exact ⟨fun h1 => by have := (a h1).1; omega, b⟩
  · rename_i hc; obtain ⟨a, b⟩ := rV c k (i + 1) o (by omega) ho; refine ⟨fun h1 => ⟨(a h1).1, fun j h2 h3 => ?_⟩, b⟩
    by_cases hj : j = i
    · subst hj; have := (a h1).1; omega
    · exact (a h1).2 j (by omega) h3
theorem rD (c : List Dat) : ∀ (k i : Nat) (o : Int), i + k = c.length -> (o < 0 \/ 0 < (ae c o.toNat).i 6) -> (fb c k i o < 0 -> o < 0 /\ ∀ j, i <= j -> j < c.length -> (ae c j).i 6 <= 0) /\ (0 <= fb c k i o -> 0 < (ae c (fb c k i o).toNat).i 6)
 | 0, i, o, h, ho => ⟨fun h1 => ⟨h1, fun j h2 h3 => by omega⟩, fun h1 => by simp only [fb] at h1 ⊢; omega⟩
 | k + 1, i, o, h, ho => by
  unfold fb
  split
  · rename_i hc; obtain ⟨a, b⟩ := rD c k (i + 1) (i : Int) (by omega) (.inr (by rw [Int.toNat_natCast]; exact hc.1)); exact ⟨fun h1 => by have := (a h1).1; omega, b⟩
  · rename_i hc; obtain ⟨a, b⟩ := rD c k (i + 1) o (by omega) ho; refine ⟨fun h1 => ⟨(a h1).1, fun j h2 h3 => ?_⟩, b⟩
    by_cases hj : j = i
    · subst hj; have := (a h1).1; omega
    · exact (a h1).2 j (by omega) h3
def rg : Nat -> Int -> List Dat -> List Dat
 | 0, _, c => c
 | k + 1, t, c => if al 6 c < t then (if fa c c.length 0 (-1) < 0 then c else rg k t (c.set (fa c c.length 0 (-1)).toNat (dw (t - al 6 c) (ae c (fa c c.length 0 (-1)).toNat)))) else c
def pa : Nat -> Int -> List Dat -> List Dat
 | 0, _, c => c
 | k + 1, t, c => if t < al 6 c then (if fb c c.length 0 (-1) < 0 then c else pa k t (c.set (fb c c.length 0 (-1)).toNat (fu (al 6 c - t) (ae c (fb c c.length 0 (-1)).toNat)))) else c
def fc (t : Int) (c : List Dat) : List Dat := pa (c.length + 2) (max t 0) (rg (c.length + 2) (max t 0) c)
theorem Fi (w : Int) (d : Dat) : (dw w d).i 6 = d.i 6 + l7 w d /\ bc (dw w d) = bc d - l7 w d := by
 simp only [dw, bc, dQ, eL, sN, m7]; exact ⟨trivial, by omega⟩
theorem Kg (w : Int) (d : Dat) : (fu w d).i 6 = d.i 6 - mj w d := by
 simp only [fu, m7]
def vb (t : Int) (c : List Dat) : Nat := if al 6 c < t then w5 (fun d => 0 < bc d) c + 1 else 0
def sE (t : Int) (c : List Dat) : Nat := if t < al 6 c then w5 (fun d => 0 < d.i 6) c + 1 else 0
theorem Lo {t : Int} {c : List Dat} (hg : dm c) (hs : al 6 c < t) (hj : 0 <= fa c c.length 0 (-1)) :
 (fa c c.length 0 (-1)).toNat < c.length /\ dm (c.set (fa c c.length 0 (-1)).toNat (dw (t - al 6 c) (ae c (fa c c.length 0 (-1)).toNat))) /\ vb t (c.set (fa c c.length 0 (-1)).toNat (dw (t - al 6 c) (ae c (fa c c.length 0 (-1)).toNat))) < vb t c /\
 al 6 (c.set (fa c c.length 0 (-1)).toNat (dw (t - al 6 c) (ae c (fa c c.length 0 (-1)).toNat))) <= t := by
 have h1 := yT c c.length 0 (-1) (by omega) (by omega) (by omega); have h2 := (rV c c.length 0 (-1) (by omega) (.inl (by omega))).2 hj; generalize fa c c.length 0 (-1) = o at *
 have h3 : o.toNat < c.length := by omega
 have hn := cd h3 hg.2; have e6 := Fi (t - al 6 c) (ae c o.toNat); have es := mn 6 (dw (t - al 6 c) (ae c o.toNat)) c o.toNat h3; have hp : l7 (t - al 6 c) (ae c o.toNat) = min (t - al 6 c) (bc (ae c o.toNat)) := by unfold l7; omega
 refine ⟨h3, mA hg (zO _ hn), ?_, by omega⟩; unfold vb; rw [if_pos hs]
 split
 · rename_i hlt; have := uA (fun d => 0 < bc d) (dw (t - al 6 c) (ae c o.toNat)) (by show ¬ 0 < bc _; omega) c o.toNat h3 h2; omega
 · omega
theorem Li {t : Int} {c : List Dat} (hg : dm c) (hs : t < al 6 c) (hj : 0 <= fb c c.length 0 (-1)) :
 (fb c c.length 0 (-1)).toNat < c.length /\ dm (c.set (fb c c.length 0 (-1)).toNat (fu (al 6 c - t) (ae c (fb c c.length 0 (-1)).toNat))) /\ sE t (c.set (fb c c.length 0 (-1)).toNat (fu (al 6 c - t) (ae c (fb c c.length 0 (-1)).toNat))) < sE t c /\
 t <= al 6 (c.set (fb c c.length 0 (-1)).toNat (fu (al 6 c - t) (ae c (fb c c.length 0 (-1)).toNat))) := by
 have h1 := y3 c c.length 0 (-1) (by omega) (by omega) (by omega); have h2 := (rD c c.length 0 (-1) (by omega) (.inl (by omega))).2 hj; generalize fb c c.length 0 (-1) = o at *
 have h3 : o.toNat < c.length := by omega
 have hn := cd h3 hg.2; have e6 := Kg (al 6 c - t) (ae c o.toNat); have es := mn 6 (fu (al 6 c - t) (ae c o.toNat)) c o.toNat h3; have hp : mj (al 6 c - t) (ae c o.toNat) = min (al 6 c - t) ((ae c o.toNat).i 6) := by unfold mj; omega
 refine ⟨h3, mA hg (Bk _ hn), ?_, by omega⟩; unfold sE; rw [if_pos hs]
 split
 · rename_i hlt; have := uA (fun d => 0 < d.i 6) (fu (al 6 c - t) (ae c o.toNat)) (by show ¬ 0 < (fu _ _).i 6; omega) c o.toNat h3 h2; omega
 · omega
theorem zZ (t : Int) (c : List Dat) : vb t c < c.length + 2 := by
 have := xC (fun d => 0 < bc d) c; unfold vb; split <;> omega
theorem Aw (t : Int) (c : List Dat) : sE t c < c.length + 2 := by
 have := xC (fun d => 0 < d.i 6) c; unfold sE; split <;> omega
theorem zt {c : List Dat} (hg : dm c) : 0 <= al 6 c /\ al 6 c <= 1125899906842624000 := by
 have := (fJ c hg.2).2.2.1; have := hg.1; omega
def KQ : aD := ⟨Hy.tab, 107, ⟨[.int .i64, .buf 0 1], [.dj 1 7 0, .ag (sI 7)], 0⟩, ⟨[.int .i64], [.dj 1 7 0, .ag (sI 7)], 0⟩, []⟩
abbrev xg : Type := Int × Int × List Int × List Dat
abbrev yP : Type := Int × Int × List Int × List Dat
def yp (m : Nat) (k : xg -> Option (List Un)) : xg -> Option (List Un) := fun (a0, a1, a2, a3) =>
 bif decide (a1 > a0) then
 chk ((decide (a2 = bV 0 a3.length)) && (decide (a3.length <= 1000) && a3.all aI)) <|
 lt ((fb a3 a3.length 0 (-1)) : Int) fun x6 =>
 bif ((decide (x6 < 0)) && true) then
 some ([.i a1, .l a2, .d a3])
 else
 chk (decide (0 <= x6 /\ x6.toNat < a3.length) && aI (ae a3 x6.toNat)) <|
 lt ((a3.set x6.toNat (fu (w64 (a1 - a0)) (ae a3 x6.toNat))) : List Dat) fun l9 =>
 chk ((decide (a2 = bV 0 l9.length)) && (decide (l9.length <= 1000) && l9.all aI)) <|
 k (a0, (al 6 l9), a2, l9)
 else
 chk ((decide (a2 = bV 0 a3.length)) && (decide (a3.length <= 1000) && a3.all aI)) <|
 some ([.i (al 6 a3), .l a2, .d a3])
def po (m : Nat) : Nat -> xg -> Option (List Un) := bf (yp m)
theorem zM (m : Nat) (n : Nat) : po m (n + 1) = yp m (po m n) := rfl
def Ch (F : xg -> Option (List Un)) : aQ := ⟨[.lp [0, 1, 0, 1, 1, 1], .blk 2, .code [1, 1, 1, 1]], ⟨frm 47 [(0, .int .i64), (1, .buf 0 1), (7, .int .i64)], [.dj 1 7 0, .ag (sI 7)], 0⟩, onU F⟩
def xV (m : Nat) (k : yP -> Option (List Un)) : yP -> Option (List Un) := fun (a0, a1, a2, a3) =>
 bif decide (a1 < a0) then
 chk ((decide (a2 = bV 0 a3.length)) && (decide (a3.length <= 1000) && a3.all aI)) <|
 lt ((fa a3 a3.length 0 (-1)) : Int) fun x2 =>
 bif ((decide (x2 < 0)) && true) then
 some ([.i a1, .l a2, .d a3])
 else
 chk (decide (0 <= x2 /\ x2.toNat < a3.length) && aI (ae a3 x2.toNat)) <|
 lt ((a3.set x2.toNat (dw (w64 (a0 - a1)) (ae a3 x2.toNat))) : List Dat) fun l5 =>
 chk ((decide (a2 = bV 0 l5.length)) && (decide (l5.length <= 1000) && l5.all aI)) <|
 k (a0, (al 6 l5), a2, l5)
 else
 chk ((decide (a2 = bV 0 a3.length)) && (decide (a3.length <= 1000) && a3.all aI)) <|
 po m m (a0, (al 6 a3), a2, a3)
def pe (m : Nat) : Nat -> yP -> Option (List Un) := bf (xV m)
theorem AE (m : Nat) (n : Nat) : pe m (n + 1) = xV m (pe m n) := rfl
def BF (F : yP -> Option (List Un)) : aQ := ⟨[.lp [0, 1, 0, 1, 1], .blk 0, .code [1, 1, 1]], ⟨frm 47 [(0, .int .i64), (1, .buf 0 1), (5, .int .i64)], [.dj 1 7 0, .ag (sI 7)], 0⟩, onU F⟩
theorem MB (m : Nat) : ∀ n, HO KQ (Ch (po m n)) := ax ai Hy.right (fun k => [Ch k]) (fun k h => (aF h aB)) fun k a => by kernel_rfl
theorem N0 (m : Nat) : ∀ n, HO KQ (BF (pe m n)) := ax ai Hy.right (fun k => [BF k, Ch (po m m)]) (fun k h => (aF h (aF (MB m m) aB))) fun k a => by kernel_rfl
def t107 (m : Nat) : Int × List Int × List Dat -> Option (List Un) := fun (a0, a1, a2) =>
 chk ((decide (a1 = bV 0 a2.length)) && (decide (a2.length <= 1000) && a2.all aI)) <|
 pe m m ((if a0 < 0 then 0 else a0), (al 6 a2), a1, a2)
theorem Oo (m : Nat) (t : Int) (h0 : 0 <= t) (h1 : t <= 1152921504606846976) : ∀ (k n : Nat) (c : List Dat), sE t c < k -> k <= n -> dm c ->
 po m n (t, al 6 c, bV 0 c.length, c) = some [.i (al 6 (pa k t c)), .l (bV 0 c.length), .d (pa k t c)] := by
 intro k
 induction k with
 | zero => intro n c h; omega
 | succ k ih =>
  intro n c hm hn hg; obtain ⟨n, rfl⟩ := ak n (by omega); have hgb := dZ hg; have hb := zt hg; unfold pa; rw [zM]; unfold yp; dsimp only; simp only [hgb, Bool.and_true, decide_true, gt_iff_lt]
  by_cases hs : t < al 6 c
  · rw [if_pos hs, bT hs, gZ]
    by_cases hj : fb c c.length 0 (-1) < 0
    · rw [if_pos hj]; simp only [lt_eq]; rw [bT hj]
    · rw [if_neg hj]; obtain ⟨a1, a2, a3, a4⟩ := Li hg hs (by omega); have a5 := dZ a2; have := ih n _ (by omega) (by omega) a2; rw [List.length_set] at this; simp only [lt_eq]; have hnr := cd a1 hg.2; rw [aC hj, aa (n := al 6 c - t) (by omega) (by omega), hnr, Bool.and_true, aN ⟨by omega, a1⟩, a5, List.length_set, decide_eq_true rfl, Bool.true_and, gZ]; exact this
  · rw [if_neg hs, aC hs, gZ]
theorem Pa (m : Nat) (t : Int) (h0 : 0 <= t) (h1 : t <= 1152921504606846976) : ∀ (k n : Nat) (c : List Dat), vb t c < k -> k <= n -> c.length + 2 <= m -> dm c ->
 pe m n (t, al 6 c, bV 0 c.length, c) = some [.i (al 6 (pa (c.length + 2) t (rg k t c))), .l (bV 0 c.length), .d (pa (c.length + 2) t (rg k t c))] := by
 intro k
 induction k with
 | zero => intro n c h; omega
 | succ k ih =>
  intro n c hm hn hml hg; obtain ⟨n, rfl⟩ := ak n (by omega); have hgb := dZ hg; have hb := zt hg; unfold rg; rw [AE]; unfold xV; dsimp only; simp only [hgb, Bool.and_true, decide_true]
  by_cases hs : al 6 c < t
  · rw [if_pos hs, bT hs, gZ]
    by_cases hj : fa c c.length 0 (-1) < 0
    · rw [if_pos hj]; simp only [lt_eq]; rw [bT hj, pa, if_neg (by omega)]
    · rw [if_neg hj]; obtain ⟨a1, a2, a3, a4⟩ := Lo hg hs (by omega); have a5 := dZ a2; have := ih n _ (by omega) (by omega) (by rw [List.length_set]; exact hml) a2; rw [List.length_set] at this; simp only [lt_eq]; have hnr := cd a1 hg.2; rw [aC hj, aa (n := t - al 6 c) (by omega) (by omega), hnr, Bool.and_true, aN ⟨by omega, a1⟩, a5, List.length_set, decide_eq_true rfl, Bool.true_and, gZ]; exact this
  · rw [if_neg hs, aC hs, gZ]; exact Oo m t h0 h1 (c.length + 2) m c (Aw t c) hml hg
def f107 : Int × List Int × List Dat -> Bool × List Un := fun (a0, a1, a2) => (decide (a0 <= 1152921504606846976) && ((decide (a1 = bV 0 a2.length)) && (decide (a2.length <= 1000) && a2.all aI)), [.i (al 6 (fc a0 a2)), .l (a1), .d (fc a0 a2)])
theorem JS (a0 : Int) (a1 : List Int) (a2 : List Dat) (hc : (decide (a0 <= 1152921504606846976) && ((decide (a1 = bV 0 a2.length)) && (decide (a2.length <= 1000) && a2.all aI))) = true) : ∃ m, t107 m (a0, a1, a2) = some ([.i (al 6 (fc a0 a2)), .l (a1), .d (fc a0 a2)]) := by
 simp only [Bool.and_eq_true, decide_eq_true_eq, List.all_eq_true] at hc; obtain ⟨h0, rfl, h1, h2⟩ := hc; have hg : dm a2 := ⟨h1, h2⟩
 refine ⟨a2.length + 2, ?_⟩; unfold t107 fc; dsimp only; rw [dZ hg, decide_eq_true rfl, kO, Bool.true_and, gZ]; exact Pa _ (max a0 0) (by omega) (by omega) (a2.length + 2) _ a2 (zZ _ _) (by omega) (by omega) hg
theorem FH : ER 107 (mkE KQ.en KQ.ex f107) := an ai Hy.right (fun m => [BF (pe m m)]) (t := t107) (by kernel_rfl) (fun m => (aF (N0 m m) aB)) (fun m a => by kernel_rfl) fun (a0, a1, a2) hc => JS a0 a1 a2 hc
def HT : Tb Tryz.prog LQ TE := Hy.add 107 _ FH
end
end Go.Proofs.YtdbkoeefnodejaaGreat
namespace Go.Proofs.YtdbkoeefnodejaaGreat
noncomputable section
open Go Go.Proofs.YtdbkoeefnodejaaGreat.Ev
set_option maxRecDepth 20000
@[ext] structure gL where
 call : Bool
 period : Int
 mode : Int
 aq : Int
 jM : Int
 aJ : Int
 aW : Int
 draw : Int
 advance : Int
 fee : Int
 due : Int
instance : Uns gL := Uns.via (B := Bool × Int × Int × Int × Int × Int × Int × Int × Int × Int × Int) (fun x => (x.call, x.period, x.mode, x.aq, x.jM, x.aJ, x.aW, x.draw, x.advance, x.fee, x.due)) (fun x => match x with | (call, period, mode, aq, jM, aJ, aW, draw, advance, fee, due) => ⟨call, period, mode, aq, jM, aJ, aW, draw, advance, fee, due⟩) (fun _ => rfl)
@[ext] structure fy where
 fB : Int
 bh : Int
 bl : Int
 out : Int
 Ko : Int
instance : Uns fy := Uns.via (B := Int × Int × Int × Int × Int) (fun x => (x.fB, x.bh, x.bl, x.out, x.Ko)) (fun x => match x with | (fB, bh, bl, out, Ko) => ⟨fB, bh, bl, out, Ko⟩) (fun _ => rfl)
def cG (a : au) (p bal r : Int) : Int := AK bal r a.basis (eH a.year a.month 1 p) (eJ a.year a.month 1 p) (fK a.year a.month 1 p) (eH a.year a.month 1 (p + 1)) (eJ a.year a.month 1 (p + 1)) (fK a.year a.month 1 (p + 1))
theorem pY {y m p : Int} (h1 : 1 <= y) (h2 : y <= 9000) (h3 : 1 <= m) (h4 : m <= 12) (h5 : 0 <= p) (h6 : p <= 700) : 1 <= eH y m 1 p /\ eH y m 1 p <= 9999 /\ 1 <= eJ y m 1 p /\ eJ y m 1 p <= 12 /\ fK y m 1 p = 1 /\ bJ (eH y m 1 p) (eJ y m 1 p) (fK y m 1 p) = true /\ 12 * eH y m 1 p + eJ y m 1 p = 12 * y + m + p := by
 have l1 := lS (y := y) (m := m) h1 (by omega) h3 h4; have hs : fN y m 1 p = true := by
  unfold fN; rw [show bJ y m 1 = true from cO.2 ⟨by omega, by omega⟩]; simp only [Bool.true_and, decide_eq_true_eq]; omega
 unfold eH eJ fK; rw [hs, if_pos rfl, if_pos rfl, if_pos rfl]; have l2 := lS (y := (12 * y + m - 1 + p) / 12) (m := (12 * y + m - 1 + p) % 12 + 1) (by omega) (by omega) (by omega) (by omega); have hd : min 1 (cv ((12 * y + m - 1 + p) / 12) ((12 * y + m - 1 + p) % 12 + 1)) = 1 := by omega
 rw [hd]; exact ⟨by omega, by omega, by omega, by omega, rfl, cO.2 ⟨by omega, by omega⟩, by omega⟩
theorem A2 {b y m y' m' : Int} (h1 : 1 <= y) (h2 : y <= 9999) (h3 : 1 <= m) (h4 : m <= 12) (h5 : 12 * y' + m' = 12 * y + m + 1) (h6 : 1 <= m') (h7 : m' <= 12) (r1 : bJ y m 1 = true) (r2 : bJ y' m' 1 = true) : 0 <= iI b y m 1 y' m' 1 /\ iI b y m 1 y' m' 1 <= 731 := by
 have n1 := o7 r1; have n2 := o7 r2; have a1 := ni h1; have a2 := ni (y := y + 1) (by omega); have q1 := oE y; have q2 := oE (y + 1); unfold iI
 split
 · split
   · unfold com; rw [if_neg (by omega)]; omega
   · split
     · rename_i h _ _; have hy : y' = y \/ y' = y + 1 := by omega
       rcases hy with rfl | rfl <;> omega
     · omega
 · omega
theorem Es {n b : Int} (p : Int) (hp : p = 3600000 \/ p = 3650000) (h1 : 0 <= n) (h2 : n <= 1099511627776) (h3 : 0 <= b) (h4 : b <= 3655000) : 0 <= mdV n b p 2 /\ mdV n b p 2 <= 1200000000000 := by
 unfold mdV
 split
 · have hm := Int.mul_le_mul_of_nonneg_left h4 h1; have hz := Int.mul_nonneg h1 h3; have e := Int.mul_ediv_add_emod (n * b) p; have r0 := Int.emod_nonneg (n * b) (show p ≠ 0 by omega); have d0 : 0 <= n * b / p := Int.ediv_nonneg hz (by omega); have d1 : n * b / p <= 1117000000000 := by
    have : n * b < 4018800800000000001 := by omega
    rcases hp with rfl | rfl <;> omega
   unfold mdQ
   split <;> omega
 · omega
theorem nV {a : au} {p bal : Int} (r : Int) (h1 : 1 <= a.year) (h2 : a.year <= 9000) (h3 : 1 <= a.month) (h4 : a.month <= 12) (h5 : 0 <= p) (h6 : p <= 650) (b0 : 0 <= bal) (b1 : bal <= 1099511627776) : 0 <= cG a p bal r /\ cG a p bal r <= 1200000000000 := by
 obtain ⟨s1, s2, s3, s4, s5, s6, s7⟩ := pY h1 h2 h3 h4 h5 (by omega); obtain ⟨t1, t2, t3, t4, t5, t6, t7⟩ := pY h1 h2 h3 h4 (show 0 <= p + 1 by omega) (by omega); unfold cG AK; rw [s5] at s6 ⊢; rw [t5] at t6 ⊢
 split
 · rename_i hr; have hd := A2 (b := a.basis) s1 s2 s3 s4 (by omega) t3 t4 s6 t6; have k0 := Int.mul_nonneg hr.1 hd.1; have k1 := Int.mul_le_mul hr.2 hd.2 hd.1 (show (0 : Int) <= 5000 by omega); exact Es _ (by unfold sr; split <;> omega) b0 b1 k0 (by omega)
 · omega
def dr (a : au) (p : Int) (d : Dat) : Dat := zf (cG a p (bc d) (d.i 2)) d
theorem EB {d : Dat} (h : aI d = true) : 0 <= bc d /\ bc d <= 1099511627776 := by
 have := bQ h; unfold bc; omega
def N43 : aD := ⟨HT.tab, 43, ⟨[.ptr 0 0 0, .int .i64], bs 0, 0⟩, ⟨[.int .i64, .int .i64], bs 0, 0⟩, []⟩
abbrev C8 : Type := Int × Int × Int × Int × au × av × aj × List Dat × List Dat × List Dat × List Dat × List Dat × List Dat × List Dat × Int × Int × Int × Int × Int × Int
def xj (m : Nat) (k : C8 -> Option (List Un)) : C8 -> Option (List Un) := fun (a0, a1, a2, a3, a4, a5, a6, a7, a8, a9, a10, a11, a12, a13, a14, a15, a16, a17, a18, a19) =>
 bif decide (a3 < a2) then
 chk (inb a3 a13.length) <|
 chk (decide (a3.toNat < a13.length)) <|
 lt (ae a13 a3.toNat : Dat) fun d9 =>
 chk (decide (a3.toNat < a13.length)) <|
 lt ((AK (w64 (w64 ((d9.i 1) - w64 ((d9.i 3) - (d9.i 4))) - (d9.i 6))) ((ae a13 a3.toNat).i 2) a4.basis a14 a15 a16 a17 a18 a19) : Int) fun x12 =>
 chk (decide (0 <= x12 /\ x12 <= 1125899906842624) && (decide (0 <= (a3.toNat : Int) /\ (a3.toNat : Int).toNat < a13.length) && aI (ae a13 (a3.toNat : Int).toNat))) <|
 k (a0, (w64 (a1 + x12)), a2, (w64 (a3 + 1)), a4, a5, a6, a7, a8, a9, a10, a11, a12, (a13.set (a3.toNat : Int).toNat (zf x12 (ae a13 (a3.toNat : Int).toNat))), a14, a15, a16, a17, a18, a19)
 else
 some ([.i a0, .i a1] ++ Uns.enc (a4 : au) ++ Uns.enc (a5 : av) ++ Uns.enc (a6 : aj) ++ [.d a7, .d a8, .d a9, .d a10, .d a11, .d a12, .d a13])
def tE (m : Nat) : Nat -> C8 -> Option (List Un) := bf (xj m)
theorem tM (m : Nat) (n : Nat) : tE m (n + 1) = xj m (tE m n) := rfl
def Gz (F : C8 -> Option (List Un)) : aQ := ⟨[.lp [0, 1, 0, 1, 1, 1, 1, 1], .blk 0, .code [1, 1, 1, 1, 1, 1]], ⟨frm 88 [(0, .ptr 0 0 0), (6, .ptr 9 0 0), (7, .ptr 10 0 0), (8, .int .i64), (10, .int .i64), (49, .int .i64), (50, .int .i64)], bs 0 ++ [.cells [.int .i64, .int .i64, .int .i64], .cells [.int .i64, .int .i64, .int .i64]], 0⟩, onU F⟩
theorem OL (m : Nat) : ∀ n, HO N43 (Gz (tE m n)) := ax ai HT.right (fun k => [Gz k]) (fun k h => (aF h aB)) fun k a => by kernel_rfl
def t43 (m : Nat) : Int × au × av × aj × List Dat × List Dat × List Dat × List Dat × List Dat × List Dat × List Dat -> Option (List Un) := fun (a0, a1, a2, a3, a4, a5, a6, a7, a8, a9, a10) =>
 lt ((eH a1.year a1.month 1 a3.period) : Int) fun x1 =>
 lt ((eJ a1.year a1.month 1 a3.period) : Int) fun x2 =>
 lt ((fK a1.year a1.month 1 a3.period) : Int) fun x3 =>
 lt ((eH a1.year a1.month 1 (w64 (a3.period + 1))) : Int) fun x4 =>
 lt ((eJ a1.year a1.month 1 (w64 (a3.period + 1))) : Int) fun x5 =>
 lt ((fK a1.year a1.month 1 (w64 (a3.period + 1))) : Int) fun x6 =>
 lt ((AK a0 a2.fee a1.basis x1 x2 x3 x4 x5 x6) : Int) fun x7 =>
 tE m m (x7, 0, (a10.length : Int), 0, a1, a2, ({ a3 with fee := (w64 (a3.fee + x7)) } : aj), a4, a5, a6, a7, a8, a9, a10, x1, x2, x3, x4, x5, x6)
theorem KP (m : Nat) (fe : Int) (xa : au) (xb : av) (xn : aj) (x1 x2 x3 x4 x5 x6 : List Dat) (p : Int) (hf : ∀ d, aI d = true -> 0 <= cG xa p (bc d) (d.i 2) /\ cG xa p (bc d) (d.i 2) <= 1200000000000) : ∀ (rest pre : List Dat) (n : Nat) (s : Int), rest.length < n -> (pre ++ rest).length <= 1000 -> (∀ d ∈ rest, aI d = true) -> 0 <= s -> s <= 1200000000000 * pre.length ->
 tE m n (fe, s, ((pre ++ rest).length : Int), (pre.length : Int), xa, xb, xn, x1, x2, x3, x4, x5, x6, pre ++ rest, eH xa.year xa.month 1 p, eJ xa.year xa.month 1 p, fK xa.year xa.month 1 p, eH xa.year xa.month 1 (p + 1), eJ xa.year xa.month 1 (p + 1), fK xa.year xa.month 1 (p + 1)) =
  some ([.i fe, .i (s + bj (fun d => cG xa p (bc d) (d.i 2)) rest)] ++ Uns.enc xa ++ Uns.enc xb ++ Uns.enc xn ++ [.d x1, .d x2, .d x3, .d x4, .d x5, .d x6, .d (pre ++ rest.map (dr xa p))]) := by
 intro rest
 induction rest with
 | nil =>
  intro pre n s hn hl hg s0 s1; obtain ⟨n, rfl⟩ := ak n (by simp at hn; omega); rw [tM]; unfold xj; dsimp only; simp [aC, bj]
 | cons x rest ih =>
  intro pre n s hn hl hg s0 s1; obtain ⟨n, rfl⟩ := ak n (by simp at hn; omega); simp only [List.length_cons, List.length_append] at hn hl; have hx := bQ (hg x (by simp)); have hb := hf x (hg x (by simp)); have hgx := hg x (by simp); have := ih (pre ++ [dr xa p x]) n (s + cG xa p (bc x) (x.i 2)) (by omega) (by simp; omega) (fun d hd => hg d (by simp [hd])) (by omega) (by simp; omega); have e : w64 (w64 (x.i 1 - w64 (x.i 3 - x.i 4)) - x.i 6) = bc x := by rw [aa (n := x.i 3 - x.i 4) (by omega) (by omega), aa (n := x.i 1 - _) (by omega) (by omega), aa (by omega) (by omega)]; rfl
  have e2 : ∀ z, AK z (x.i 2) xa.basis (eH xa.year xa.month 1 p) (eJ xa.year xa.month 1 p) (fK xa.year xa.month 1 p) (eH xa.year xa.month 1 (p + 1)) (eJ xa.year xa.month 1 (p + 1)) (fK xa.year xa.month 1 (p + 1)) = cG xa p z (x.i 2) := fun z => rfl
  rw [tM]; unfold xj; dsimp only; simp only [bj, List.map_cons, LNi, ao, lt_eq, e, e2, hgx, Bool.and_true, Dt]; rw [show zf (cG xa p (bc x) (x.i 2)) x = dr xa p x from rfl]; simp (disch := omega) only [TRa, TRi, aa, LNl, LNi, Int.cast_ofNat_Int, ao]; simp only [LNl, LNi, Int.cast_ofNat_Int] at this ⊢; exact this
def f43 : Int × au × av × aj × List Dat × List Dat × List Dat × List Dat × List Dat × List Dat × List Dat -> Bool × List Un := fun (a0, a1, a2, a3, a4, a5, a6, a7, a8, a9, a10) => (decide ((1 <= a1.year /\ a1.year <= 9000 /\ 1 <= a1.month /\ a1.month <= 12) /\ (0 <= a3.period /\ a3.period <= 600) /\ (0 <= a3.fee /\ a3.fee <= 1125899906842624) /\ (0 <= a0 /\ a0 <= 1099511627776)) && (decide (a10.length <= 1000) && a10.all aI), [.i (cG a1 a3.period a0 a2.fee), .i (bj (fun d => cG a1 a3.period (bc d) (d.i 2)) a10)] ++ Uns.enc ((a1) : au) ++ Uns.enc ((a2) : av) ++ Uns.enc (({ a3 with fee := a3.fee + cG a1 a3.period a0 a2.fee }) : aj) ++ [.d (a4), .d (a5), .d (a6), .d (a7), .d (a8), .d (a9), .d (a10.map (dr a1 a3.period))])
theorem Nq (a0 : Int) (a1 : au) (a2 : av) (a3 : aj) (a4 : List Dat) (a5 : List Dat) (a6 : List Dat) (a7 : List Dat) (a8 : List Dat) (a9 : List Dat) (a10 : List Dat) (hc : (decide ((1 <= a1.year /\ a1.year <= 9000 /\ 1 <= a1.month /\ a1.month <= 12) /\ (0 <= a3.period /\ a3.period <= 600) /\ (0 <= a3.fee /\ a3.fee <= 1125899906842624) /\ (0 <= a0 /\ a0 <= 1099511627776)) && (decide (a10.length <= 1000) && a10.all aI)) = true) : ∃ m, t43 m (a0, a1, a2, a3, a4, a5, a6, a7, a8, a9, a10) = some ([.i (cG a1 a3.period a0 a2.fee), .i (bj (fun d => cG a1 a3.period (bc d) (d.i 2)) a10)] ++ Uns.enc ((a1) : au) ++ Uns.enc ((a2) : av) ++ Uns.enc (({ a3 with fee := a3.fee + cG a1 a3.period a0 a2.fee }) : aj) ++ [.d (a4), .d (a5), .d (a6), .d (a7), .d (a8), .d (a9), .d (a10.map (dr a1 a3.period))]) := by
 simp only [Bool.and_eq_true, decide_eq_true_eq, List.all_eq_true] at hc; obtain ⟨⟨⟨h1, h2, h3, h4⟩, ⟨h5, h6⟩, ⟨h7, h8⟩, h9, h10⟩, h11, h12⟩ := hc; have hs := nV a2.fee h1 h2 h3 h4 h5 (show a3.period <= 650 by omega) h9 h10; have hf : ∀ d, aI d = true -> 0 <= cG a1 a3.period (bc d) (d.i 2) /\ cG a1 a3.period (bc d) (d.i 2) <= 1200000000000 := fun d hd => nV _ h1 h2 h3 h4 h5 (by omega) (EB hd).1 (EB hd).2
 refine ⟨a10.length + 1, ?_⟩; unfold t43; dsimp only [lt]; rw [aa (n := a3.period + 1) (by omega) (by omega)]; refine (show tE _ _ (cG a1 a3.period a0 a2.fee, 0, (a10.length : Int), 0, a1, a2, { a3 with fee := w64 (a3.fee + cG a1 a3.period a0 a2.fee) }, a4, a5, a6, a7, a8, a9, a10, _, _, _, _, _, _) = _ from ?_); rw [aa (n := a3.fee + _) (by omega) (by omega)]; exact (KP _ _ a1 a2 _ a4 a5 a6 a7 a8 a9 a3.period hf a10 [] (a10.length + 1) 0 (by omega) (by simpa using h11) h12 (by omega) (by simp)).trans (by simp only [Int.zero_add, List.nil_append])
theorem Ib : ER 43 (mkE N43.en N43.ex f43) := an ai HT.right (fun m => [Gz (tE m m)]) (t := t43) (by kernel_rfl) (fun m => (aF (OL m m) aB)) (fun m a => by kernel_rfl) fun (a0, a1, a2, a3, a4, a5, a6, a7, a8, a9, a10) hc => Nq a0 a1 a2 a3 a4 a5 a6 a7 a8 a9 a10 hc
def T43 : Tb Tryz.prog LQ TE := HT.add 43 _ Ib
def Aa (x : Int) (d : Dat) : Int := max (min x (d.i 5)) 0
def mw (x : Int) (d : Dat) : Dat := .r [.n (d.i 0), .n (d.i 1), .n (d.i 2), .n (d.i 3), .n (d.i 4), .n (d.i 5 - Aa x d), .n (d.i 6)]
def ig (n : aj) (p : Dat) : aj := if p.i 1 = 1 then { n with fee := n.fee - p.i 3 } else if p.i 1 = 2 then { n with out := n.out - p.i 3 } else if p.i 1 = 6 then { n with rin := n.rin + p.i 3 } else n
def jQ (c : List Dat) (p : Dat) : List Dat := if p.i 1 = 1 then c else if p.i 1 = 2 then c else if p.i 1 = 6 then c else if p.i 1 = 3 then c.set (p.i 2).toNat (mw (p.i 3) (ae c (p.i 2).toNat)) else c.set (p.i 2).toNat (rh (p.i 3) (ae c (p.i 2).toNat))
def cK : List Dat -> aj -> List Dat -> aj × List Dat
 | [], n, c => (n, c)
 | p :: l, n, c => cK l (ig n p) (jQ c p)
def D3 (k : Nat) (p : Dat) : Bool := decide (0 <= p.i 3) && (decide (p.i 1 = 1 \/ p.i 1 = 2 \/ p.i 1 = 6) || decide (0 <= p.i 2 /\ p.i 2 < (k : Int)))
theorem rQ {k : Nat} {p : Dat} (h : D3 k p = true) : 0 <= p.i 3 /\ ((p.i 1 = 1 \/ p.i 1 = 2 \/ p.i 1 = 6) \/ (0 <= p.i 2 /\ p.i 2 < (k : Int))) := by
 simp only [D3, Bool.and_eq_true, Bool.or_eq_true, decide_eq_true_eq] at h; exact h
def vT (l : List Dat) (n : aj) (c : List Dat) : Bool := decide (l.length <= 1000000) && (l.all (D3 c.length) && (decide (al 3 l <= 144115188075855872 /\ (0 <= n.fee /\ n.fee <= 144115188075855872) /\ (0 <= n.out /\ n.out <= 144115188075855872) /\ (0 <= n.rin /\ n.rin <= 144115188075855872)) && (decide (c.length <= 1000) && c.all aI)))
theorem wR (c : List Dat) (p : Dat) : (jQ c p).length = c.length := by
 unfold jQ; repeat' split
 all_goals simp
theorem xX {d : Dat} (x : Int) (h : aI d = true) : aI (mw x d) = true := by
 have := bQ h; refine decide_eq_true ?_
 simp only [mw, Aa, dQ, eL, sN, nd, m7]; omega
theorem B4 {c : List Dat} {p : Dat} (hp : D3 c.length p = true) (h : dm c) : dm (jQ c p) := by
 have hp := rQ hp; unfold jQ
 by_cases h1 : p.i 1 = 1
 · rw [if_pos h1]; exact h
 rw [if_neg h1]
 by_cases h2 : p.i 1 = 2
 · rw [if_pos h2]; exact h
 rw [if_neg h2]
 by_cases h3 : p.i 1 = 6
 · rw [if_pos h3]; exact h
 rw [if_neg h3]; have hj : (p.i 2).toNat < c.length := by omega
 split
 · exact mA h (xX _ (cd hj h.2))
 · exact mA h (Ez _ (cd hj h.2))
def N48 : aD := ⟨T43.tab, 48, ⟨[.np 0 0 0, .ag (sI 4)], bs 0, 0⟩, ⟨[], bs 0, 0⟩, []⟩
abbrev Dw : Type := Int × List Dat × Int × Int × au × av × aj × List Dat × List Dat × List Dat × List Dat × List Dat × List Dat × List Dat
def yG (m : Nat) (k : Dw -> Option (List Un)) : Dw -> Option (List Un) := fun (a0, a1, a2, a3, a4, a5, a6, a7, a8, a9, a10, a11, a12, a13) =>
 bif decide (a3 < a2) then
 chk (inb a3 a1.length) <|
 chk (decide (a3.toNat < a1.length)) <|
 lt (ae a1 a3.toNat : Dat) fun d1 =>
 bif (d1.i 1) == 1 then
 chk (decide (0 <= a0)) <|
 chk (decide (0 <= a0)) <|
 k (a0, a1, a2, (w64 (a3 + 1)), a4, a5, ({ a6 with fee := (w64 (a6.fee - (d1.i 3))) } : aj), a7, a8, a9, a10, a11, a12, a13)
 else
 bif (d1.i 1) == 2 then
 chk (decide (0 <= a0)) <|
 chk (decide (0 <= a0)) <|
 k (a0, a1, a2, (w64 (a3 + 1)), a4, a5, ({ a6 with out := (w64 (a6.out - (d1.i 3))) } : aj), a7, a8, a9, a10, a11, a12, a13)
 else
 bif (d1.i 1) == 6 then
 chk (decide (0 <= a0)) <|
 chk (decide (0 <= 0) && decide ((0 : Int) <= a6.rin /\ (0 : Int) <= (d1.i 3) /\ a6.rin + (d1.i 3) <= (1152921504606846976 : Int))) <|
 k (a0, a1, a2, (w64 (a3 + 1)), a4, a5, ({ a6 with rin := a6.rin + (d1.i 3) }), a7, a8, a9, a10, a11, a12, a13)
 else
 bif (d1.i 1) == 3 then
 chk (decide (0 <= a0)) <|
 chk (inb (d1.i 2) a13.length) <|
 chk (decide ((d1.i 2).toNat < a13.length)) <|
 lt (ae a13 ((d1.i 2).toNat) : Dat) fun d5 =>
 lt ((if (d5.i 5) < (d1.i 3) then (d5.i 5) else (d1.i 3)) : Int) fun x6 =>
 chk (decide ((d1.i 2).toNat < a13.length)) <|
 chk (decide ((d1.i 2).toNat < a13.length)) <|
 lt (ae a13 ((d1.i 2).toNat) : Dat) fun d9 =>
 k (a0, a1, a2, (w64 (a3 + 1)), a4, a5, a6, a7, a8, a9, a10, a11, a12, (List.set a13 ((d1.i 2).toNat) (.r [.n (d9.i 0), .n (d9.i 1), .n (d9.i 2), .n (d9.i 3), .n (d9.i 4), .n (w64 (((ae a13 ((d1.i 2).toNat)).i 5) - (if x6 < 0 then 0 else x6))), .n (d9.i 6)])))
 else
 chk (decide (0 <= a0)) <|
 chk (inb (d1.i 2) a13.length) <|
 chk (decide (0 <= ((d1.i 2).toNat : Int) /\ ((d1.i 2).toNat : Int).toNat < a13.length) && aI (ae a13 ((d1.i 2).toNat : Int).toNat)) <|
 k (a0, a1, a2, (w64 (a3 + 1)), a4, a5, a6, a7, a8, a9, a10, a11, a12, (a13.set ((d1.i 2).toNat : Int).toNat (rh (d1.i 3) (ae a13 ((d1.i 2).toNat : Int).toNat))))
 else
 some (Uns.enc (a4 : au) ++ Uns.enc (a5 : av) ++ Uns.enc (a6 : aj) ++ [.d a7, .d a8, .d a9, .d a10, .d a11, .d a12, .d a13])
def vO (m : Nat) : Nat -> Dw -> Option (List Un) := bf (yG m)
theorem uY (m : Nat) (n : Nat) : vO m (n + 1) = yG m (vO m n) := rfl
def GL (F : Dw -> Option (List Un)) : aQ := ⟨[.lp [0, 1], .blk 0], ⟨frm 67 [(0, .np 0 0 0), (6, .ag (sI 4)), (7, .int .i64), (8, .int .i64)], bs 0, 0⟩, onU F⟩
theorem OT (m : Nat) : ∀ n, HO N48 (GL (vO m n)) := ax ai T43.right (fun k => [GL k]) (fun k h => (aF h aB)) fun k a => by kernel_rfl
def t48 (m : Nat) : Int × List Dat × au × av × aj × List Dat × List Dat × List Dat × List Dat × List Dat × List Dat × List Dat -> Option (List Un) := fun (a0, a1, a2, a3, a4, a5, a6, a7, a8, a9, a10, a11) =>
 vO m m (a0, a1, (a1.length : Int), 0, a2, a3, a4, a5, a6, a7, a8, a9, a10, a11)
theorem NW (m : Nat) (p0 : Int) (hp0 : 0 <= p0) (xa : au) (xb : av) (x1 x2 x3 x4 x5 x6 : List Dat) : ∀ (rest pre : List Dat) (n : Nat) (y : aj) (c : List Dat), rest.length < n -> (pre ++ rest).length <= 1000000 -> (∀ d ∈ rest, D3 c.length d = true) -> dm c ->
 (-288230376151711744 <= y.fee - al 3 rest /\ y.fee <= 288230376151711744) -> (-288230376151711744 <= y.out - al 3 rest /\ y.out <= 288230376151711744) -> (0 <= y.rin /\ y.rin + al 3 rest <= 576460752303423488) ->
 vO m n (p0, pre ++ rest, ((pre ++ rest).length : Int), (pre.length : Int), xa, xb, y, x1, x2, x3, x4, x5, x6, c) = some (Uns.enc xa ++ Uns.enc xb ++ Uns.enc (cK rest y c).1 ++ [.d x1, .d x2, .d x3, .d x4, .d x5, .d x6, .d (cK rest y c).2]) := by
 intro rest
 induction rest with
 | nil =>
  intro pre n y c hn hl hp hg f1 f2 f3; obtain ⟨n, rfl⟩ := ak n (by simp at hn; omega); rw [uY]; unfold yG; dsimp only; simp [aC, cK]
 | cons x rest ih =>
  intro pre n y c hn hl hp hg f1 f2 f3; obtain ⟨n, rfl⟩ := ak n (by simp at hn; omega); simp only [List.length_cons, List.length_append] at hn hl; have hx := rQ (hp x (by simp)); have hr := fun d hd => hp d (List.mem_cons_of_mem _ hd)
  have hs := eB 3 rest fun d hd => (rQ (hr d hd)).1
  have hT := B4 (hp x (by simp)) hg; have hN : (-288230376151711744 <= (ig y x).fee - al 3 rest /\ (ig y x).fee <= 288230376151711744) /\ (-288230376151711744 <= (ig y x).out - al 3 rest /\ (ig y x).out <= 288230376151711744) /\ (0 <= (ig y x).rin /\ (ig y x).rin + al 3 rest <= 576460752303423488) := by
   simp only [al] at f1 f2 f3; unfold ig
   by_cases h1 : x.i 1 = 1
   · rw [if_pos h1]; simp only; omega
   rw [if_neg h1]
   by_cases h2 : x.i 1 = 2
   · rw [if_pos h2]; simp only; omega
   rw [if_neg h2]
   by_cases h3 : x.i 1 = 6
   · rw [if_pos h3]; simp only; omega
   rw [if_neg h3]; omega
  have := ih (pre ++ [x]) n (ig y x) (jQ c x) (by omega) (by simp; omega) (by rw [wR]; exact hr) hT hN.1 hN.2.1 hN.2.2; simp only [al] at f1 f2 f3; simp only [cK]; rw [uY]; unfold yG; dsimp only; unfold ig jQ at this ⊢
  by_cases h1 : x.i 1 = 1
  · simp only [if_pos h1] at this ⊢; simp (disch := omega) only [TRa, TRi, aa, LNl, LNi, Int.cast_ofNat_Int, ao]; simp only [LNl, LNi, Int.cast_ofNat_Int] at this ⊢; exact this
  simp only [if_neg h1] at this ⊢
  by_cases h2 : x.i 1 = 2
  · simp only [if_pos h2] at this ⊢; simp (disch := omega) only [TRa, TRi, aa, LNl, LNi, Int.cast_ofNat_Int, ao]; simp only [LNl, LNi, Int.cast_ofNat_Int] at this ⊢; exact this
  simp only [if_neg h2] at this ⊢
  by_cases h6 : x.i 1 = 6
  · simp only [if_pos h6] at this ⊢; simp only [show decide ((0 : Nat) <= 0) = true from rfl, Bool.true_and]; simp (disch := omega) only [TRa, TRi, aa, LNl, LNi, Int.cast_ofNat_Int, ao]; simp only [LNl, LNi, Int.cast_ofNat_Int] at this ⊢; exact this
  simp only [if_neg h6] at this ⊢; have hj : (x.i 2).toNat < c.length := by omega
  have hd := bQ (cd hj hg.2); have hd2 := cd hj hg.2; have hjn : (((x.i 2).toNat : Int)).toNat = (x.i 2).toNat := Int.toNat_natCast _
  by_cases h3 : x.i 1 = 3
  · simp only [if_pos h3] at this ⊢; have e : (if (if (ae c (x.i 2).toNat).i 5 < x.i 3 then (ae c (x.i 2).toNat).i 5 else x.i 3) < 0 then 0 else (if (ae c (x.i 2).toNat).i 5 < x.i 3 then (ae c (x.i 2).toNat).i 5 else x.i 3)) = Aa (x.i 3) (ae c (x.i 2).toNat) := by unfold Aa; omega
    have hv : 0 <= Aa (x.i 3) (ae c (x.i 2).toNat) /\ Aa (x.i 3) (ae c (x.i 2).toNat) <= (ae c (x.i 2).toNat).i 5 := by unfold Aa; omega
    simp (disch := omega) only [lt_eq, iu, aN, bT, dL, ek, LNl, LNi, Int.cast_ofNat_Int, ao, e]; rw [aa (n := (ae c (x.i 2).toNat).i 5 - _) (by omega) (by omega), aa (by omega) (by omega)]; unfold mw at this; simp only [LNl, LNi, Int.cast_ofNat_Int] at this ⊢; exact this
  · simp only [if_neg h3] at this ⊢; simp (disch := omega) only [lt_eq, iu, aN, bT, dL, ek, LNl, LNi, Int.cast_ofNat_Int, ao, hd2, Bool.and_true]; rw [aa (by omega) (by omega)]; simp only [LNl, LNi, Int.cast_ofNat_Int] at this ⊢; exact this
def f48 : Int × List Dat × au × av × aj × List Dat × List Dat × List Dat × List Dat × List Dat × List Dat × List Dat -> Bool × List Un := fun (a0, a1, a2, a3, a4, a5, a6, a7, a8, a9, a10, a11) => (decide (0 <= a0) && vT a1 a4 a11, Uns.enc ((a2) : au) ++ Uns.enc ((a3) : av) ++ Uns.enc (((cK a1 a4 a11).1) : aj) ++ [.d (a5), .d (a6), .d (a7), .d (a8), .d (a9), .d (a10), .d ((cK a1 a4 a11).2)])
theorem My (a0 : Int) (a1 : List Dat) (a2 : au) (a3 : av) (a4 : aj) (a5 : List Dat) (a6 : List Dat) (a7 : List Dat) (a8 : List Dat) (a9 : List Dat) (a10 : List Dat) (a11 : List Dat) (hc : (decide (0 <= a0) && vT a1 a4 a11) = true) : ∃ m, t48 m (a0, a1, a2, a3, a4, a5, a6, a7, a8, a9, a10, a11) = some (Uns.enc ((a2) : au) ++ Uns.enc ((a3) : av) ++ Uns.enc (((cK a1 a4 a11).1) : aj) ++ [.d (a5), .d (a6), .d (a7), .d (a8), .d (a9), .d (a10), .d ((cK a1 a4 a11).2)]) := by
 simp only [vT, Bool.and_eq_true, decide_eq_true_eq, List.all_eq_true] at hc; obtain ⟨h0, h1, h2, ⟨h3, h4, h5, h6⟩, h7, h8⟩ := hc; have hs := eB 3 a1 fun d hd => (rQ (h2 d hd)).1
 refine ⟨a1.length + 1, ?_⟩; exact NW _ a0 h0 a2 a3 a5 a6 a7 a8 a9 a10 a1 [] (a1.length + 1) a4 a11 (by omega) (by simpa using h1) h2 ⟨h7, h8⟩ (by omega) (by omega) (by omega)
theorem HR : ER 48 (mkE N48.en N48.ex f48) := an ai T43.right (fun m => [GL (vO m m)]) (t := t48) (by kernel_rfl) (fun m => (aF (OT m m) aB)) (fun m a => by kernel_rfl) fun (a0, a1, a2, a3, a4, a5, a6, a7, a8, a9, a10, a11) hc => My a0 a1 a2 a3 a4 a5 a6 a7 a8 a9 a10 a11 hc
def T48 : Tb Tryz.prog LQ TE := T43.add 48 _ HR
def tu (parts bh has : Int) : Int := max (mdV bh parts 10000 0 - has) 0
def eD (d : Dat) : Dat := .r [.n (d.i 0), .n (bc d), .n (d.i 5)]
theorem M7 (n b p h : Int) : 0 <= mdV n b p h /\ mdV n b p h <= 1152921504606846976 := by
 unfold mdV
 split
 · rename_i hk; simp only [nF, decide_eq_true_eq] at hk; have : 0 <= n * b / p := Int.ediv_nonneg (Int.mul_nonneg hk.1 (by omega)) (by omega); refine ⟨?_, by omega⟩; unfold mdQ
   split <;> omega
 · omega
theorem yg {l : List Dat} (h1 : l.length <= 1000) (h2 : ∀ d ∈ l, cJ d = true) : 0 <= al 1 l /\ al 1 l <= 1099511627776000 := by
 have := ou 1 1099511627776 l fun d hd => oj (h2 d hd)
 omega
def N46 : aD := ⟨T48.tab, 46, ⟨[.ptr 0 0 0, .agg [.int .i64, .int .i64, .int .i64, .int .i64]], bs 0, 9⟩, ⟨[.agg [.int .i64, .int .i64, .int .i64, .int .i64, .buf 9 3]], bs 0 ++ [.ag (sI 3)], 9⟩, []⟩
abbrev De : Type := Int × Int × au × av × aj × List Dat × List Dat × List Dat × List Dat × List Dat × List Dat × List Dat × Int × Int × Int × Int × Int × Int × Int × Int × List Dat × List Dat
def xK (m : Nat) (k : De -> Option (List Un)) : De -> Option (List Un) := fun (a0, a1, a2, a3, a4, a5, a6, a7, a8, a9, a10, a11, a12, a13, a14, a15, a16, a17, a18, a19, a20, a21) =>
 bif decide (a1 < a0) then
 chk (inb a1 a11.length) <|
 chk (decide (a1.toNat < a11.length)) <|
 lt (ae a11 a1.toNat : Dat) fun d8 =>
 chk (fits (a21.length + 1) 24) <|
 k (a0, (w64 (a1 + 1)), a2, a3, a4, a5, a6, a7, a8, a9, a10, a11, a12, a13, a14, a15, a16, a17, a18, a19, a20, (a21 ++ ([.r [.n (d8.i 0), .n (w64 (w64 ((d8.i 1) - w64 ((d8.i 3) - (d8.i 4))) - (d8.i 6))), .n (d8.i 5)]])))
 else
 some ([.i a16, .i a17, .i a18, .i a19] ++ Uns.enc (a2 : au) ++ Uns.enc (a3 : av) ++ Uns.enc (a4 : aj) ++ [.d a5, .d a6, .d a7, .d a8, .d a9, .d a10, .d a11, .d a21])
def uy (m : Nat) : Nat -> De -> Option (List Un) := bf (xK m)
theorem tj (m : Nat) (n : Nat) : uy m (n + 1) = xK m (uy m n) := rfl
def Hs (F : De -> Option (List Un)) : aQ := ⟨[.lp [0, 1, 0, 1, 1, 1], .blk 0, .code [1, 1, 1, 1]], ⟨frm 78 [(4, .ptr 9 0 0), (9, .ptr 10 0 0), (57, .buf 8 7), (58, .int .i64), (59, .int .i64)], bs 0 ++ [.cells [.int .i64, .int .i64, .int .i64, .int .i64, .buf 11 3], .cells [.int .i64, .int .i64, .int .i64, .int .i64, .buf 12 3], .ag (sI 3), .ag (sI 3)], 9⟩, onU F⟩
theorem OS (m : Nat) : ∀ n, HO N46 (Hs (uy m n)) := ax ai T48.right (fun k => [Hs k]) (fun k h => (aF h aB)) fun k a => by kernel_rfl
def t46 (m : Nat) : Int × Int × Int × Int × au × av × aj × List Dat × List Dat × List Dat × List Dat × List Dat × List Dat × List Dat -> Option (List Un) := fun (a0, a1, a2, a3, a4, a5, a6, a7, a8, a9, a10, a11, a12, a13) =>
 chk (decide (0 <= 0) && (decide (a13.length <= 1000) && a13.all aI)) <|
 lt ((w64 ((w64 (a0 + a3)) + a2)) : Int) fun x1 =>
 chk (decide (0 < ([.r [.r a12]] : List Dat).length) && (decide (((ae ([.r [.r a12]] : List Dat) 0).d 0).length <= 1000) && ((ae ([.r [.r a12]] : List Dat) 0).d 0).all cJ)) <|
 lt ((w64 (a6.rin - a6.bg)) : Int) fun x4 =>
 lt ((mdV (al 1 ((ae ([.r [.r a12]] : List Dat) 0).d 0)) a5.target 10000 0) : Int) fun x5 =>
 uy m m ((a13.length : Int), 0, a4, a5, a6, a7, a8, a9, a10, a11, a12, a13, 0, 0, 0, 0, a6.fee, a6.out, (if (bj bc a13) < x1 then (bj bc a13) else x1), (if (w64 (x5 - x4)) < 0 then 0 else (w64 (x5 - x4))), [], [])
theorem Pu (m : Nat) (xa : au) (xb : av) (xn : aj) (x1 x2 x3 x4 x5 x6 z0 : List Dat) (z1 z2 z3 z4 w1 w2 w3 w4 : Int) : ∀ (rest pre : List Dat) (n : Nat), rest.length < n -> (pre ++ rest).length <= 1000 -> (∀ d ∈ rest, aI d = true) ->
 uy m n (((pre ++ rest).length : Int), (pre.length : Int), xa, xb, xn, x1, x2, x3, x4, x5, x6, pre ++ rest, z1, z2, z3, z4, w1, w2, w3, w4, z0, pre.map eD) =
  some ([.i w1, .i w2, .i w3, .i w4] ++ Uns.enc xa ++ Uns.enc xb ++ Uns.enc xn ++ [.d x1, .d x2, .d x3, .d x4, .d x5, .d x6, .d (pre ++ rest), .d ((pre ++ rest).map eD)]) := by
 intro rest
 induction rest with
 | nil =>
  intro pre n hn hl hg; obtain ⟨n, rfl⟩ := ak n (by simp at hn; omega); rw [tj]; unfold xK; dsimp only; simp [aC]
 | cons x rest ih =>
  intro pre n hn hl hg; obtain ⟨n, rfl⟩ := ak n (by simp at hn; omega); simp only [List.length_cons, List.length_append] at hn hl; have e := Gv (hg x (by simp)); have := ih (pre ++ [x]) n (by omega) (by simp; omega) (fun d hd => hg d (by simp [hd])); rw [List.map_append, show [x].map eD = [.r [.n (x.i 0), .n (bc x), .n (x.i 5)]] from rfl] at this; rw [tj]; unfold xK; dsimp only; simp only [LNi, ao, lt_eq, e]; simp (disch := omega) only [TRa, TRi, aa, LNl, LNi, Int.cast_ofNat_Int, ao]; simp only [LNl, LNi, Int.cast_ofNat_Int] at this ⊢; exact this
def f46 : Int × Int × Int × Int × au × av × aj × List Dat × List Dat × List Dat × List Dat × List Dat × List Dat × List Dat -> Bool × List Un := fun (a0, a1, a2, a3, a4, a5, a6, a7, a8, a9, a10, a11, a12, a13) => (decide (((0 <= a0 /\ a0 <= 1125899906842624) /\ (0 <= a2 /\ a2 <= 1125899906842624) /\ (0 <= a3 /\ a3 <= 1125899906842624)) /\ (0 <= a6.bg /\ a6.bg <= a6.rin /\ a6.rin <= 1152921504606846976)) && ((decide (a12.length <= 1000) && a12.all cJ) && (decide (a13.length <= 1000) && a13.all aI)), [.i (a6.fee), .i (a6.out), .i (min (a0 + a3 + a2) (bj bc a13)), .i (tu a5.target (al 1 a12) (a6.rin - a6.bg))] ++ Uns.enc ((a4) : au) ++ Uns.enc ((a5) : av) ++ Uns.enc ((a6) : aj) ++ [.d (a7), .d (a8), .d (a9), .d (a10), .d (a11), .d (a12), .d (a13), .d (a13.map eD)])
theorem Mq (a0 : Int) (a1 : Int) (a2 : Int) (a3 : Int) (a4 : au) (a5 : av) (a6 : aj) (a7 : List Dat) (a8 : List Dat) (a9 : List Dat) (a10 : List Dat) (a11 : List Dat) (a12 : List Dat) (a13 : List Dat) (hc : (decide (((0 <= a0 /\ a0 <= 1125899906842624) /\ (0 <= a2 /\ a2 <= 1125899906842624) /\ (0 <= a3 /\ a3 <= 1125899906842624)) /\ (0 <= a6.bg /\ a6.bg <= a6.rin /\ a6.rin <= 1152921504606846976)) && ((decide (a12.length <= 1000) && a12.all cJ) && (decide (a13.length <= 1000) && a13.all aI))) = true) : ∃ m, t46 m (a0, a1, a2, a3, a4, a5, a6, a7, a8, a9, a10, a11, a12, a13) = some ([.i (a6.fee), .i (a6.out), .i (min (a0 + a3 + a2) (bj bc a13)), .i (tu a5.target (al 1 a12) (a6.rin - a6.bg))] ++ Uns.enc ((a4) : au) ++ Uns.enc ((a5) : av) ++ Uns.enc ((a6) : aj) ++ [.d (a7), .d (a8), .d (a9), .d (a10), .d (a11), .d (a12), .d (a13), .d (a13.map eD)]) := by
 simp only [Bool.and_eq_true, decide_eq_true_eq, List.all_eq_true] at hc; obtain ⟨⟨⟨h1, h2, h3⟩, h4, h5, h6⟩, ⟨h7, h8⟩, h9, h10⟩ := hc; have hg : dm a13 := ⟨h9, h10⟩
 have hb := yg h7 h8; have hs := (fJ a13 h10).1; have hm := M7 (al 1 a12) a5.target 10000 0; have hlb : (decide (a12.length <= 1000) && a12.all cJ) = true := by rw [Bool.and_eq_true, List.all_eq_true]; exact ⟨decide_eq_true h7, h8⟩
 refine ⟨a13.length + 1, ?_⟩; unfold t46 tu; dsimp only [lt]; refine cF (by rw [dZ hg]; rfl) ?_
 refine cF (Bool.and_eq_true_iff.2 ⟨rfl, hlb⟩) ?_
 change uy _ _ (_, _, _, _, _, _, _, _, _, _, _, _, _, _, _, _, _, _, (if bj bc a13 < w64 (w64 (a0 + a3) + a2) then bj bc a13 else w64 (w64 (a0 + a3) + a2)), (if w64 (mdV (al 1 a12) a5.target 10000 0 - w64 (a6.rin - a6.bg)) < 0 then 0 else w64 (mdV (al 1 a12) a5.target 10000 0 - w64 (a6.rin - a6.bg))), _, _) = _; rw [aa (n := a0 + a3) (by omega) (by omega), aa (n := a0 + a3 + a2) (by omega) (by omega), aa (n := a6.rin - a6.bg) (by omega) (by omega), aa (n := mdV _ _ _ _ - _) (by omega) (by omega)]; rw [show (if bj bc a13 < a0 + a3 + a2 then bj bc a13 else a0 + a3 + a2) = min (a0 + a3 + a2) (bj bc a13) by omega, show ∀ z : Int, (if z < 0 then 0 else z) = max z 0 from fun z => by omega]; exact Pu _ a4 a5 a6 a7 a8 a9 a10 a11 a12 _ _ _ _ _ _ _ _ _ a13 [] (a13.length + 1) (by omega) (by simpa using h9) h10
theorem Kc : ER 46 (mkE N46.en N46.ex f46) := an ai T48.right (fun m => [Hs (uy m m)]) (t := t46) (by kernel_rfl) (fun m => (aF (OS m m) aB)) (fun m a => by kernel_rfl) fun (a0, a1, a2, a3, a4, a5, a6, a7, a8, a9, a10, a11, a12, a13) hc => Mq a0 a1 a2 a3 a4 a5 a6 a7 a8 a9 a10 a11 a12 a13 hc
def T46 : Tb Tryz.prog LQ TE := T48.add 46 _ Kc
theorem tL : ∀ (k : Nat) (n : Int), bV n k ++ [n + k] = bV n (k + 1)
 | 0, n => by simp [bV]
 | k + 1, n => by
  have := tL k (n + 1); simp only [bV, List.cons_append, Int.natCast_add, Int.cast_ofNat_Int] at this ⊢; rw [<- this, show n + 1 + (k : Int) = n + ((k : Int) + 1) by omega]
theorem uT (u p l r : Int) : 0 <= cA u p l r /\ cA u p l r <= max u 0 /\ cA u p l r <= max (u - p) 0 /\ cA u p l r <= max (l - r) 0 := by unfold cA; omega
def N49 : aD := ⟨T46.tab, 49, ⟨[.ptr 0 0 0, .agg [.int .i64, .int .i64, .int .i64, .int .i64]], bs 0, 0⟩, ⟨[], bs 0, 0⟩, []⟩
abbrev DE : Type := Int × Int × Int × au × av × aj × List Dat × List Dat × List Dat × List Dat × List Dat × List Dat × List Dat × List Int
def y4 (m : Nat) (k : DE -> Option (List Un)) : DE -> Option (List Un) := fun (a0, a1, a2, a3, a4, a5, a6, a7, a8, a9, a10, a11, a12, a13) =>
 bif decide (a2 < a1) then
 chk (inb a2 a12.length) <|
 chk (fits (a13.length + ([(a2.toNat : Int)]).length) 8) <|
 k (a0, a1, (w64 (a2 + 1)), a3, a4, a5, a6, a7, a8, a9, a10, a11, a12, (a13 ++ ([(a2.toNat : Int)])))
 else
 chk (decide (0 < ([.r [.r a11]] : List Dat).length) && (decide (((ae ([.r [.r a11]] : List Dat) 0).d 0).length <= 1000) && ((ae ([.r [.r a11]] : List Dat) 0).d 0).all cJ)) <|
 lt ((al 1 ((ae ([.r [.r a11]] : List Dat) 0).d 0)) : Int) fun x1 =>
 chk (decide ((-1152921504606846976 <= a0 /\ a0 <= 1152921504606846976) /\ (-1152921504606846976 <= x1 /\ x1 <= 1152921504606846976) /\ (-1152921504606846976 <= a5.aJ /\ a5.aJ <= 1152921504606846976) /\ (-1152921504606846976 <= a5.aW /\ a5.aW <= 1152921504606846976))) <|
 chk (decide ((cA a0 x1 a5.aJ a5.aW) <= 1152921504606846976) && ((decide (a13 = bV 0 a12.length)) && (decide (a12.length <= 1000) && a12.all aI))) <|
 some (Uns.enc (a3 : au) ++ Uns.enc (a4 : av) ++ Uns.enc (a5 : aj) ++ [.d a6, .d a7, .d a8, .d a9, .d a10, .d a11, .d (fc (cA a0 x1 a5.aJ a5.aW) a12)])
def v8 (m : Nat) : Nat -> DE -> Option (List Un) := bf (y4 m)
theorem tS (m : Nat) (n : Nat) : v8 m (n + 1) = y4 m (v8 m n) := rfl
def Hw (F : DE -> Option (List Un)) : aQ := ⟨[.lp [0, 1, 0, 1, 1, 1, 1, 1], .blk 0, .code [1, 1, 1, 1, 1, 1]], ⟨frm 70 [(0, .ptr 0 0 0), (7, .int .i64), (8, .buf 9 1), (39, .int .i64), (40, .int .i64)], bs 0 ++ [.dj 8 7 0], 0⟩, onU F⟩
theorem OX (m : Nat) : ∀ n, HO N49 (Hw (v8 m n)) := ax ai T46.right (fun k => [Hw k]) (fun k h => (aF h aB)) fun k a => by kernel_rfl
def t49 (m : Nat) : Int × Int × Int × Int × au × av × aj × List Dat × List Dat × List Dat × List Dat × List Dat × List Dat × List Dat -> Option (List Un) := fun (a0, a1, a2, a3, a4, a5, a6, a7, a8, a9, a10, a11, a12, a13) =>
 chk (decide (0 <= 0) && (decide (a13.length <= 1000) && a13.all aI)) <|
 v8 m m ((bj unD a13), (a13.length : Int), 0, a4, a5, ({ a6 with aJ := (w64 (a6.aJ + a2)), aW := (w64 (a6.aW + a3)) } : aj), a7, a8, a9, a10, a11, a12, a13, [])
theorem PU (m : Nat) (u : Int) (xa : au) (xb : av) (y : aj) (x1 x2 x3 x4 x5 x6 x7 : List Dat) (hu : 0 <= u /\ u <= 1099511627776000) (h1 : 0 <= y.aJ /\ y.aJ <= 1152921504606846976) (h2 : 0 <= y.aW /\ y.aW <= 1152921504606846976) (h3 : (decide (x6.length <= 1000) && x6.all cJ) = true) (hb : 0 <= al 1 x6 /\ al 1 x6 <= 1099511627776000) (hg : dm x7) : ∀ (k i n : Nat), i + k = x7.length -> k < n ->
 v8 m n (u, (x7.length : Int), (i : Int), xa, xb, y, x1, x2, x3, x4, x5, x6, x7, bV 0 i) = some (Uns.enc xa ++ Uns.enc xb ++ Uns.enc y ++ [.d x1, .d x2, .d x3, .d x4, .d x5, .d x6, .d (fc (cA u (al 1 x6) y.aJ y.aW) x7)]) := by
 intro k
 induction k with
 | zero =>
  intro i n hi hn; obtain ⟨n, rfl⟩ := ak n (by omega); have ht := uT u (al 1 x6) y.aJ y.aW; have hgb := dZ hg; obtain rfl : i = x7.length := by omega
  rw [tS]; unfold y4; dsimp only; rw [aC (by omega)]; dsimp only [lt]; refine cF (Bool.and_eq_true_iff.2 ⟨rfl, h3⟩) ?_
  change chk (decide ((-1152921504606846976 <= u /\ u <= 1152921504606846976) /\ (-1152921504606846976 <= al 1 x6 /\ al 1 x6 <= 1152921504606846976) /\ (-1152921504606846976 <= y.aJ /\ y.aJ <= 1152921504606846976) /\ (-1152921504606846976 <= y.aW /\ y.aW <= 1152921504606846976))) (chk (decide (cA u (al 1 x6) y.aJ y.aW <= 1152921504606846976) && (decide (bV 0 x7.length = bV 0 x7.length) && (decide (x7.length <= 1000) && x7.all aI))) _) = _; rw [aN (by omega)]; exact cF (by rw [Bool.and_eq_true, Bool.and_eq_true]; exact ⟨@decide_eq_true _ _ (by omega), @decide_eq_true _ _ rfl, hgb⟩) rfl
 | succ k ih =>
  intro i n hi hn; obtain ⟨n, rfl⟩ := ak n (by omega); have hg1 := hg.1; have hL := fw i 0; have := ih (i + 1) n (by omega) (by omega); rw [<- tL i 0] at this; rw [tS]; unfold y4; dsimp only; simp (disch := omega) only [TRa, TRi, aa, LNl, LNi, Int.cast_ofNat_Int, hL]; simp only [LNl, LNi, Int.cast_ofNat_Int] at this ⊢; exact this
def f49 : Int × Int × Int × Int × au × av × aj × List Dat × List Dat × List Dat × List Dat × List Dat × List Dat × List Dat -> Bool × List Un := fun (a0, a1, a2, a3, a4, a5, a6, a7, a8, a9, a10, a11, a12, a13) => (decide (((0 <= a0 /\ a0 <= 1125899906842624) /\ (0 <= a2 /\ a2 <= 1125899906842624) /\ (0 <= a3 /\ a3 <= 1125899906842624)) /\ (0 <= a6.aJ /\ a6.aJ <= 1125899906842624) /\ (0 <= a6.aW /\ a6.aW <= 1125899906842624)) && ((decide (a12.length <= 1000) && a12.all cJ) && (decide (a13.length <= 1000) && a13.all aI)), Uns.enc ((a4) : au) ++ Uns.enc ((a5) : av) ++ Uns.enc (({ a6 with aJ := a6.aJ + a2, aW := a6.aW + a3 }) : aj) ++ [.d (a7), .d (a8), .d (a9), .d (a10), .d (a11), .d (a12), .d (fc (cA (bj unD a13) (al 1 a12) (a6.aJ + a2) (a6.aW + a3)) a13)])
theorem Of (a0 : Int) (a1 : Int) (a2 : Int) (a3 : Int) (a4 : au) (a5 : av) (a6 : aj) (a7 : List Dat) (a8 : List Dat) (a9 : List Dat) (a10 : List Dat) (a11 : List Dat) (a12 : List Dat) (a13 : List Dat) (hc : (decide (((0 <= a0 /\ a0 <= 1125899906842624) /\ (0 <= a2 /\ a2 <= 1125899906842624) /\ (0 <= a3 /\ a3 <= 1125899906842624)) /\ (0 <= a6.aJ /\ a6.aJ <= 1125899906842624) /\ (0 <= a6.aW /\ a6.aW <= 1125899906842624)) && ((decide (a12.length <= 1000) && a12.all cJ) && (decide (a13.length <= 1000) && a13.all aI))) = true) : ∃ m, t49 m (a0, a1, a2, a3, a4, a5, a6, a7, a8, a9, a10, a11, a12, a13) = some (Uns.enc ((a4) : au) ++ Uns.enc ((a5) : av) ++ Uns.enc (({ a6 with aJ := a6.aJ + a2, aW := a6.aW + a3 }) : aj) ++ [.d (a7), .d (a8), .d (a9), .d (a10), .d (a11), .d (a12), .d (fc (cA (bj unD a13) (al 1 a12) (a6.aJ + a2) (a6.aW + a3)) a13)]) := by
 simp only [Bool.and_eq_true, decide_eq_true_eq, List.all_eq_true] at hc; obtain ⟨⟨⟨h1, h2, h3⟩, h4, h5⟩, ⟨h7, h8⟩, h9, h10⟩ := hc; have hg : dm a13 := ⟨h9, h10⟩
 have hb := yg h7 h8; have hs := (fJ a13 h10).2.2.2.1; refine ⟨a13.length + 1, ?_⟩; unfold t49; dsimp only; refine cF (by rw [dZ hg]; rfl) ?_
 rw [aa (n := a6.aJ + a2) (by omega) (by omega), aa (n := a6.aW + a3) (by omega) (by omega)]; exact PU _ _ a4 a5 { a6 with aJ := a6.aJ + a2, aW := a6.aW + a3 } a7 a8 a9 a10 a11 a12 a13 (by omega) (by simp only; omega) (by simp only; omega) (by rw [Bool.and_eq_true, List.all_eq_true]; exact ⟨decide_eq_true h7, h8⟩) hb hg a13.length 0 (a13.length + 1) (by omega) (by omega)
theorem Ky : ER 49 (mkE N49.en N49.ex f49) := an ai T46.right (fun m => [Hw (v8 m m)]) (t := t49) (by kernel_rfl) (fun m => (aF (OX m m) aB)) (fun m a => by kernel_rfl) fun (a0, a1, a2, a3, a4, a5, a6, a7, a8, a9, a10, a11, a12, a13) hc => Of a0 a1 a2 a3 a4 a5 a6 a7 a8 a9 a10 a11 a12 a13 hc
def T49 : Tb Tryz.prog LQ TE := T46.add 49 _ Ky
def qW (d : Dat) : Dat := .r [.n (bc d), .n (d.i 5), .n (d.i 6)]
def N53 : aD := ⟨T49.tab, 53, ⟨[.agg [.bool, .int .i64, .int .i64, .int .i64, .int .i64, .int .i64, .int .i64, .int .i64, .int .i64, .int .i64, .int .i64, .buf 9 4, .int .i64, .int .i64, .int .i64, .int .i64, .int .i64, .dy, .int .i64], .np 0 0 0], bs 0 ++ [.ag (sI 4)], 10⟩, ⟨[.agg [.bool, .int .i64, .int .i64, .int .i64, .int .i64, .int .i64, .int .i64, .int .i64, .int .i64, .int .i64, .int .i64, .buf 9 4, .int .i64, .int .i64, .int .i64, .int .i64, .int .i64, .buf 10 3, .int .i64]], bs 0 ++ [.ag (sI 4), .ag (sI 3)], 10⟩, []⟩
abbrev Df : Type := Int × Int × au × av × aj × List Dat × List Dat × List Dat × List Dat × List Dat × List Dat × List Dat × List Dat × gL × fy × Int × gL × fy × Int × List Dat × List Dat × List Dat
def yv (m : Nat) (k : Df -> Option (List Un)) : Df -> Option (List Un) := fun (a0, a1, a2, a3, a4, a5, a6, a7, a8, a9, a10, a11, a12, a13, a14, a15, a16, a17, a18, a19, a20, a21) =>
 bif decide (a1 < a0) then
 chk (inb a1 a11.length) <|
 chk (decide (a1.toNat < a11.length)) <|
 lt (ae a11 a1.toNat : Dat) fun d3 =>
 chk (fits (a19.length + 1) 24) <|
 k (a0, (w64 (a1 + 1)), a2, a3, a4, a5, a6, a7, a8, a9, a10, a11, a12, a13, a14, a15, a16, a17, a18, (a19 ++ ([.r [.n (w64 (w64 ((d3.i 1) - w64 ((d3.i 3) - (d3.i 4))) - (d3.i 6))), .n (d3.i 5), .n (d3.i 6)]])), a20, a21)
 else
 some (Uns.enc (a13 : gL) ++ Uns.enc (a14 : fy) ++ [.i a15] ++ Uns.enc (a2 : au) ++ Uns.enc (a3 : av) ++ Uns.enc (a4 : aj) ++ [.d a5, .d a6, .d a7, .d a8, .d a9, .d a10, .d a11, .d a12, .d a19])
def wA (m : Nat) : Nat -> Df -> Option (List Un) := bf (yv m)
theorem uH (m : Nat) (n : Nat) : wA m (n + 1) = yv m (wA m n) := rfl
def FZ (F : Df -> Option (List Un)) : aQ := ⟨[.lp [0, 1, 0, 1, 1], .blk 0, .code [1, 1, 1]], ⟨frm 58 [(2, .ptr 10 0 0), (4, .ptr 11 0 0), (38, .buf 8 7), (39, .int .i64), (40, .int .i64)], bs 0 ++ [.ag (sI 4), .cells [.bool, .int .i64, .int .i64, .int .i64, .int .i64, .int .i64, .int .i64, .int .i64, .int .i64, .int .i64, .int .i64, .buf 9 4, .int .i64, .int .i64, .int .i64, .int .i64, .int .i64, .buf 12 3, .int .i64], .cells [.bool, .int .i64, .int .i64, .int .i64, .int .i64, .int .i64, .int .i64, .int .i64, .int .i64, .int .i64, .int .i64, .buf 13 4, .int .i64, .int .i64, .int .i64, .int .i64, .int .i64, .buf 14 3, .int .i64], .ag (sI 3), .ag (sI 4), .ag (sI 3)], 10⟩, onU F⟩
theorem PM (m : Nat) : ∀ n, HO N53 (FZ (wA m n)) := ax ai T49.right (fun k => [FZ k]) (fun k h => (aF h aB)) fun k a => by kernel_rfl
def t53 (m : Nat) : gL × fy × Int × Int × au × av × aj × List Dat × List Dat × List Dat × List Dat × List Dat × List Dat × List Dat × List Dat -> Option (List Un) := fun (a0, a1, a2, a3, a4, a5, a6, a7, a8, a9, a10, a11, a12, a13, a14) =>
 chk (decide (0 <= a3)) <|
 chk (decide (0 < ([.r [.r a12]] : List Dat).length) && (decide (((ae ([.r [.r a12]] : List Dat) 0).d 0).length <= 1000) && ((ae ([.r [.r a12]] : List Dat) 0).d 0).all cJ)) <|
 chk (decide (0 <= a3)) <|
 chk (decide (0 <= a3)) <|
 chk (decide (0 <= a3)) <|
 chk (decide (0 <= a3)) <|
 chk (decide (0 <= a3)) <|
 wA m m ((a13.length : Int), 0, a4, a5, a6, a7, a8, a9, a10, a11, a12, a13, a14, a0, (⟨a1.fB, (al 1 ((ae ([.r [.r a12]] : List Dat) 0).d 0)), (w64 (a6.rin - a6.bg)), a6.out, a6.fee⟩ : fy), a6.mode, (⟨false, 0, 0, 0, 0, 0, 0, 0, 0, 0, 0⟩ : gL), (⟨0, 0, 0, 0, 0⟩ : fy), 0, [], [], [])
theorem J0 (m : Nat) (xa : au) (xb : av) (xn : aj) (x1 x2 x3 x4 x5 x6 py : List Dat) (ra za : gL) (rb zb : fy) (nx zx : Int) (z1 z2 : List Dat) : ∀ (rest pre : List Dat) (n : Nat), rest.length < n -> (pre ++ rest).length <= 1000 -> (∀ d ∈ rest, aI d = true) ->
 wA m n (((pre ++ rest).length : Int), (pre.length : Int), xa, xb, xn, x1, x2, x3, x4, x5, x6, pre ++ rest, py, ra, rb, nx, za, zb, zx, pre.map qW, z1, z2) =
  some (Uns.enc ra ++ Uns.enc rb ++ [.i nx] ++ Uns.enc xa ++ Uns.enc xb ++ Uns.enc xn ++ [.d x1, .d x2, .d x3, .d x4, .d x5, .d x6, .d (pre ++ rest), .d py, .d ((pre ++ rest).map qW)]) := by
 intro rest
 induction rest with
 | nil =>
  intro pre n hn hl hg; obtain ⟨n, rfl⟩ := ak n (by simp at hn; omega); rw [uH]; unfold yv; dsimp only; simp [aC]
 | cons x rest ih =>
  intro pre n hn hl hg; obtain ⟨n, rfl⟩ := ak n (by simp at hn; omega); simp only [List.length_cons, List.length_append] at hn hl; have e := Gv (hg x (by simp)); have := ih (pre ++ [x]) n (by omega) (by simp; omega) (fun d hd => hg d (by simp [hd])); rw [List.map_append, show [x].map qW = [.r [.n (bc x), .n (x.i 5), .n (x.i 6)]] from rfl] at this; rw [uH]; unfold yv; dsimp only; simp only [LNi, ao, lt_eq, e]; simp (disch := omega) only [TRa, TRi, aa, LNl, LNi, Int.cast_ofNat_Int, ao]; simp only [LNl, LNi, Int.cast_ofNat_Int] at this ⊢; exact this
def f53 : gL × fy × Int × Int × au × av × aj × List Dat × List Dat × List Dat × List Dat × List Dat × List Dat × List Dat × List Dat -> Bool × List Un := fun (a0, a1, a2, a3, a4, a5, a6, a7, a8, a9, a10, a11, a12, a13, a14) => (decide (0 <= a3) && (decide (0 <= a6.bg /\ a6.bg <= a6.rin /\ a6.rin <= 1152921504606846976) && ((decide (a12.length <= 1000) && a12.all cJ) && (decide (a13.length <= 1000) && a13.all aI))), Uns.enc ((a0) : gL) ++ Uns.enc (((⟨a1.fB, al 1 a12, a6.rin - a6.bg, a6.out, a6.fee⟩ : fy)) : fy) ++ [.i (a6.mode)] ++ Uns.enc ((a4) : au) ++ Uns.enc ((a5) : av) ++ Uns.enc ((a6) : aj) ++ [.d (a7), .d (a8), .d (a9), .d (a10), .d (a11), .d (a12), .d (a13), .d (a14), .d (a13.map qW)])
theorem Nj (a0 : gL) (a1 : fy) (a2 : Int) (a3 : Int) (a4 : au) (a5 : av) (a6 : aj) (a7 : List Dat) (a8 : List Dat) (a9 : List Dat) (a10 : List Dat) (a11 : List Dat) (a12 : List Dat) (a13 : List Dat) (a14 : List Dat) (hc : (decide (0 <= a3) && (decide (0 <= a6.bg /\ a6.bg <= a6.rin /\ a6.rin <= 1152921504606846976) && ((decide (a12.length <= 1000) && a12.all cJ) && (decide (a13.length <= 1000) && a13.all aI)))) = true) : ∃ m, t53 m (a0, a1, a2, a3, a4, a5, a6, a7, a8, a9, a10, a11, a12, a13, a14) = some (Uns.enc ((a0) : gL) ++ Uns.enc (((⟨a1.fB, al 1 a12, a6.rin - a6.bg, a6.out, a6.fee⟩ : fy)) : fy) ++ [.i (a6.mode)] ++ Uns.enc ((a4) : au) ++ Uns.enc ((a5) : av) ++ Uns.enc ((a6) : aj) ++ [.d (a7), .d (a8), .d (a9), .d (a10), .d (a11), .d (a12), .d (a13), .d (a14), .d (a13.map qW)]) := by
 simp only [Bool.and_eq_true, decide_eq_true_eq, List.all_eq_true] at hc; obtain ⟨h0, ⟨h4, h5, h6⟩, ⟨h7, h8⟩, h9, h10⟩ := hc; have hb := yg h7 h8; have hlb : (decide (a12.length <= 1000) && a12.all cJ) = true := by rw [Bool.and_eq_true, List.all_eq_true]; exact ⟨decide_eq_true h7, h8⟩
 refine ⟨a13.length + 1, ?_⟩; unfold t53; dsimp only [lt]; simp only [aN h0]; refine cF (Bool.and_eq_true_iff.2 ⟨rfl, hlb⟩) ?_
 rw [aa (n := a6.rin - a6.bg) (by omega) (by omega)]; exact J0 _ a4 a5 a6 a7 a8 a9 a10 a11 a12 a14 a0 _ _ _ _ _ _ _ a13 [] (a13.length + 1) (by omega) (by simpa using h9) h10
theorem I0 : ER 53 (mkE N53.en N53.ex f53) := an ai T49.right (fun m => [FZ (wA m m)]) (t := t53) (by kernel_rfl) (fun m => (aF (PM m m) aB)) (fun m a => by kernel_rfl) fun (a0, a1, a2, a3, a4, a5, a6, a7, a8, a9, a10, a11, a12, a13, a14) hc => Nj a0 a1 a2 a3 a4 a5 a6 a7 a8 a9 a10 a11 a12 a13 a14 hc
def T53 : Tb Tryz.prog LQ TE := T49.add 53 _ I0
def gf : List Dat -> List Dat
 | [] => []
 | d :: l => (if 0 < d.i 1 then [.r [.n (d.i 0), .n 0, .n (d.i 1), .n 0, .n 0, .n 0, .n (bI false)]] else []) ++ gf l
def N87 : aD := ⟨T53.tab, 87, ⟨[.np 0 0 0], bs 0, 0⟩, ⟨[.agg [.int .i64, .int .i64, .int .i64, .int .i64]], [.cells [.int .i64, .int .i64, .int .i64, .buf 1 2, .buf 2 3, .int .i64, .int .i64, .int .i64, .int .i64, .int .i64, .int .i64, .int .i64, .int .i64, .int .i64, .int .i64, .buf 3 2, .buf 4 2, .buf 5 2, .ptr 6 0 0, .buf 8 7, .int .i64, .int .i64, .int .i64, .int .i64, .int .i64, .int .i64, .int .i64, .int .i64, .int .i64, .bool], .ag (sI 2), .ag (sI 3), .ag (sI 2), .ag (sI 2), .ag (sI 2), .cells [.buf 9 5], .gone, .ag (sI 7), .ag (sB 4)], 0⟩, []⟩
abbrev Db : Type := Int × Int × Int × au × av × aj × List Dat × List Dat × List Dat × List Dat × List Dat × List Dat × Int × Int × Int × Int × List Dat × List Dat × List Dat
def yj (m : Nat) (k : Db -> Option (List Un)) : Db -> Option (List Un) := fun (a0, a1, a2, a3, a4, a5, a6, a7, a8, a9, a10, a11, a12, a13, a14, a15, a16, a17, a18) =>
 bif decide (a2 < a1) then
 chk (inb a2 a17.length) <|
 chk (decide (a2.toNat < a17.length)) <|
 lt (ae a17 a2.toNat : Dat) fun d2 =>
 bif decide ((d2.i 1) > 0) then
 chk (fits (a16.length + 1) 56) <|
 k (a0, a1, (w64 (a2 + 1)), a3, a4, a5, a6, a7, a8, a9, a10, a11, a12, a13, a14, a15, (a16 ++ ([.r [.n (d2.i 0), .n 0, .n (d2.i 1), .n 0, .n 0, .n 0, .n (bI false)]])), a17, a18)
 else
 k (a0, a1, (w64 (a2 + 1)), a3, a4, a5, a6, a7, a8, a9, a10, a11, a12, a13, a14, a15, a16, a17, a18)
 else
 chk (decide (0 <= a0)) <|
 chk (decide (a18.length < 1000000)) <|
 some ([.i ((az a16 a18).p), .i ((az a16 a18).q), .i ((az a16 a18).l), .i ((az a16 a18).r)] ++ Uns.enc (a3 : au) ++ Uns.enc (a4 : av) ++ Uns.enc (a5 : aj) ++ [.d a6, .d a7, .d a8, .d a9, .d a10, .d a11, .d ((az a16 a18).bh)])
def vD (m : Nat) : Nat -> Db -> Option (List Un) := bf (yj m)
theorem uX (m : Nat) (n : Nat) : vD m (n + 1) = yj m (vD m n) := rfl
def Fp (F : Db -> Option (List Un)) : aQ := ⟨[.lp [0, 1, 0, 1, 1], .blk 0, .code [1, 1, 1]], ⟨frm 43 [(0, .np 0 0 0), (2, .ptr 9 0 0), (3, .buf 10 7), (12, .buf 11 5), (13, .int .i64), (14, .int .i64)], [.cells [.int .i64, .int .i64, .int .i64, .buf 1 2, .buf 2 3, .int .i64, .int .i64, .int .i64, .int .i64, .int .i64, .int .i64, .int .i64, .int .i64, .int .i64, .int .i64, .buf 3 2, .buf 4 2, .buf 5 2, .ptr 6 0 0, .buf 8 7, .int .i64, .int .i64, .int .i64, .int .i64, .int .i64, .int .i64, .int .i64, .int .i64, .int .i64, .bool], .ag (sI 2), .ag (sI 3), .ag (sI 2), .ag (sI 2), .ag (sI 2), .cells [.buf 12 5], .gone, .ag (sI 7), .cells [.int .i64, .int .i64, .int .i64, .int .i64], .ag (sB 6), .ag (sB 4), .ag (sB 4)], 0⟩, onU F⟩
theorem Pe (m : Nat) : ∀ n, HO N87 (Fp (vD m n)) := ax ai T53.right (fun k => [Fp k]) (fun k h => (aF h aB)) fun k a => by kernel_rfl
def t87 (m : Nat) : Int × au × av × aj × List Dat × List Dat × List Dat × List Dat × List Dat × List Dat × List Dat -> Option (List Un) := fun (a0, a1, a2, a3, a4, a5, a6, a7, a8, a9, a10) =>
 chk (decide (0 <= a0)) <|
 chk (decide (0 < ([.r [.r a9]] : List Dat).length) && decide (((ae ([.r [.r a9]] : List Dat) 0).d 0).length < 1000000)) <|
 lt (((ae ([.r [.r a9]] : List Dat) 0).d 0) : List Dat) fun l1 =>
 vD m m (a0, (l1.length : Int), 0, a1, a2, a3, a4, a5, a6, a7, a8, a10, 0, 0, 0, 0, [], l1, a9)
theorem M4 (m : Nat) (p0 : Int) (hp0 : 0 <= p0) (xa : au) (xb : av) (xn : aj) (x1 x2 x3 x4 x5 x6 pl : List Dat) (hpl : pl.length < 1000000) (z1 z2 z3 z4 : Int) : ∀ (rest pre acc : List Dat) (n : Nat), rest.length < n -> (pre ++ rest).length < 1000000 -> acc.length <= pre.length ->
 vD m n (p0, ((pre ++ rest).length : Int), (pre.length : Int), xa, xb, xn, x1, x2, x3, x4, x5, x6, z1, z2, z3, z4, acc, pre ++ rest, pl) =
  some ([.i (az (acc ++ gf rest) pl).p, .i (az (acc ++ gf rest) pl).q, .i (az (acc ++ gf rest) pl).l, .i (az (acc ++ gf rest) pl).r] ++ Uns.enc xa ++ Uns.enc xb ++ Uns.enc xn ++ [.d x1, .d x2, .d x3, .d x4, .d x5, .d x6, .d (az (acc ++ gf rest) pl).bh]) := by
 intro rest
 induction rest with
 | nil =>
  intro pre acc n hn hl ha; obtain ⟨n, rfl⟩ := ak n (by simp at hn; omega); rw [uX]; unfold yj; dsimp only; rw [aC (by simp), aN hp0, aN hpl, gf, List.append_nil]
 | cons x rest ih =>
  intro pre acc n hn hl ha; obtain ⟨n, rfl⟩ := ak n (by simp at hn; omega); simp only [List.length_cons, List.length_append] at hn hl; have := fun acc h => ih (pre ++ [x]) acc n (by omega) (by simp; omega) h
  unfold gf; rw [uX]; unfold yj; dsimp only
  by_cases h1 : x.i 1 > 0
  · have := this (acc ++ [.r [.n (x.i 0), .n 0, .n (x.i 1), .n 0, .n 0, .n 0, .n (bI false)]]) (by simp; omega); rw [if_pos h1, <- List.append_assoc]; simp (disch := omega) only [TRa, aa, LNi, Int.cast_ofNat_Int, ao, List.length_append, List.length_cons, List.length_nil]; simp only [List.length_append, List.length_cons, List.length_nil, List.append_assoc, List.cons_append, List.nil_append, LNi, Int.cast_ofNat_Int] at this ⊢; exact this
  · have := this acc (by simp; omega); rw [if_neg h1, List.nil_append]; simp (disch := omega) only [TRa, TRi, aa, LNl, LNi, Int.cast_ofNat_Int, ao]; simp only [LNl, LNi, Int.cast_ofNat_Int] at this ⊢; exact this
def f87 : Int × au × av × aj × List Dat × List Dat × List Dat × List Dat × List Dat × List Dat × List Dat -> Bool × List Un := fun (a0, a1, a2, a3, a4, a5, a6, a7, a8, a9, a10) => (decide (0 <= a0) && decide (a9.length < 1000000), [.i ((az (gf a9) a9).p), .i ((az (gf a9) a9).q), .i ((az (gf a9) a9).l), .i ((az (gf a9) a9).r)] ++ Uns.enc ((a1) : au) ++ Uns.enc ((a2) : av) ++ Uns.enc ((a3) : aj) ++ [.d (a4), .d (a5), .d (a6), .d (a7), .d (a8), .d (a10), .d ((az (gf a9) a9).bh)])
theorem L6 (a0 : Int) (a1 : au) (a2 : av) (a3 : aj) (a4 : List Dat) (a5 : List Dat) (a6 : List Dat) (a7 : List Dat) (a8 : List Dat) (a9 : List Dat) (a10 : List Dat) (hc : (decide (0 <= a0) && decide (a9.length < 1000000)) = true) : ∃ m, t87 m (a0, a1, a2, a3, a4, a5, a6, a7, a8, a9, a10) = some ([.i ((az (gf a9) a9).p), .i ((az (gf a9) a9).q), .i ((az (gf a9) a9).l), .i ((az (gf a9) a9).r)] ++ Uns.enc ((a1) : au) ++ Uns.enc ((a2) : av) ++ Uns.enc ((a3) : aj) ++ [.d (a4), .d (a5), .d (a6), .d (a7), .d (a8), .d (a10), .d ((az (gf a9) a9).bh)]) := by
 simp only [Bool.and_eq_true, decide_eq_true_eq] at hc; obtain ⟨h0, h⟩ := hc; refine ⟨a9.length + 1, ?_⟩; unfold t87; dsimp only [lt]; refine cF (decide_eq_true h0) ?_
 refine cF (Bool.and_eq_true_iff.2 ⟨rfl, decide_eq_true h⟩) ?_
 exact M4 _ a0 h0 a1 a2 a3 a4 a5 a6 a7 a8 a10 a9 h _ _ _ _ a9 [] [] (a9.length + 1) (by omega) (by simpa using h) (by simp)
theorem Jb : ER 87 (mkE N87.en N87.ex f87) := an ai T53.right (fun m => [Fp (vD m m)]) (t := t87) (by kernel_rfl) (fun m => (aF (Pe m m) aB)) (fun m a => by kernel_rfl) fun (a0, a1, a2, a3, a4, a5, a6, a7, a8, a9, a10) hc => L6 a0 a1 a2 a3 a4 a5 a6 a7 a8 a9 a10 hc
def T87 : Tb Tryz.prog LQ TE := T53.add 87 _ Jb
def Nm (d : Dat) : Dat := .r [.n (d.i 0), .n (d.i 1), .n (d.i 2), .n (d.i 3)]
def vP : List Dat -> List Dat
 | [] => []
 | d :: l => (if 0 < d.i 3 then [Nm d] else []) ++ vP l
def Gp : Int -> List Dat -> List Dat
 | _, [] => []
 | i, d :: c => .r [.n 0, .n 3, .n i, .n (d.i 5)] :: .r [.n 0, .n 7, .n i, .n (bc d)] :: Gp (i + 1) c
def PW (fee out : Int) (c : List Dat) : List Dat := vP (.r [.n 0, .n 1, .n (-1), .n fee] :: .r [.n 0, .n 2, .n (-1), .n out] :: Gp 0 c)
def N85 : aD := ⟨T87.tab, 85, ⟨[.np 0 0 0], bs 0, 9⟩, ⟨[.buf 9 4], bs 0 ++ [.ag (sI 4)], 9⟩, []⟩
abbrev Dh : Type := Int × Int × au × av × aj × List Dat × List Dat × List Dat × List Dat × List Dat × List Dat × List Dat × List Dat × List Dat
abbrev Dn : Type := Int × Int × au × av × aj × List Dat × List Dat × List Dat × List Dat × List Dat × List Dat × List Dat × List Dat
def y6 (m : Nat) (k : Dh -> Option (List Un)) : Dh -> Option (List Un) := fun (a0, a1, a2, a3, a4, a5, a6, a7, a8, a9, a10, a11, a12, a13) =>
 bif decide (a1 < a0) then
 chk (inb a1 a13.length) <|
 chk (decide (a1.toNat < a13.length)) <|
 lt (ae a13 a1.toNat : Dat) fun d4 =>
 bif decide ((d4.i 3) > 0) then
 chk (fits (a12.length + 1) 32) <|
 k (a0, (w64 (a1 + 1)), a2, a3, a4, a5, a6, a7, a8, a9, a10, a11, (a12 ++ ([.r [.n (d4.i 0), .n (d4.i 1), .n (d4.i 2), .n (d4.i 3)]])), a13)
 else
 k (a0, (w64 (a1 + 1)), a2, a3, a4, a5, a6, a7, a8, a9, a10, a11, a12, a13)
 else
 some (Uns.enc (a2 : au) ++ Uns.enc (a3 : av) ++ Uns.enc (a4 : aj) ++ [.d a5, .d a6, .d a7, .d a8, .d a9, .d a10, .d a11, .d a12])
def vY (m : Nat) : Nat -> Dh -> Option (List Un) := bf (y6 m)
theorem sw (m : Nat) (n : Nat) : vY m (n + 1) = y6 m (vY m n) := rfl
def Hp (F : Dh -> Option (List Un)) : aQ := ⟨[.lp [0, 1, 0, 1, 1, 1, 1], .blk 2, .code [1, 1, 1, 1, 1]], ⟨frm 57 [(6, .buf 9 4), (42, .buf 10 4), (43, .int .i64), (44, .int .i64)], bs 0 ++ [.ag (sI 4), .ag (sI 4)], 9⟩, onU F⟩
def yV (m : Nat) (k : Dn -> Option (List Un)) : Dn -> Option (List Un) := fun (a0, a1, a2, a3, a4, a5, a6, a7, a8, a9, a10, a11, a12) =>
 bif decide (a1 < a0) then
 chk (inb a1 a11.length) <|
 chk (decide (a1.toNat < a11.length)) <|
 lt (ae a11 a1.toNat : Dat) fun d1 =>
 chk (fits (a12.length + 2) 32) <|
 k (a0, (w64 (a1 + 1)), a2, a3, a4, a5, a6, a7, a8, a9, a10, a11, (a12 ++ ([.r [.n 0, .n 3, .n a1, .n (d1.i 5)], .r [.n 0, .n 7, .n a1, .n (w64 (w64 ((d1.i 1) - w64 ((d1.i 3) - (d1.i 4))) - (d1.i 6)))]])))
 else
 vY m m ((a12.length : Int), 0, a2, a3, a4, a5, a6, a7, a8, a9, a10, a11, [], a12)
def vS (m : Nat) : Nat -> Dn -> Option (List Un) := bf (yV m)
theorem tZ (m : Nat) (n : Nat) : vS m (n + 1) = yV m (vS m n) := rfl
def G9 (F : Dn -> Option (List Un)) : aQ := ⟨[.lp [0, 1, 0, 1, 1], .blk 0, .code [1, 1, 1]], ⟨frm 57 [(3, .buf 9 4), (23, .buf 8 7), (24, .int .i64), (25, .int .i64)], bs 0 ++ [.ag (sI 4)], 9⟩, onU F⟩
theorem Pj (m : Nat) : ∀ n, HO N85 (Hp (vY m n)) := ax ai T87.right (fun k => [Hp k]) (fun k h => (aF h aB)) fun k a => by kernel_rfl
theorem Po (m : Nat) : ∀ n, HO N85 (G9 (vS m n)) := ax ai T87.right (fun k => [G9 k, Hp (vY m m)]) (fun k h => (aF h (aF (Pj m m) aB))) fun k a => by kernel_rfl
def t85 (m : Nat) : Int × au × av × aj × List Dat × List Dat × List Dat × List Dat × List Dat × List Dat × List Dat -> Option (List Un) := fun (a0, a1, a2, a3, a4, a5, a6, a7, a8, a9, a10) =>
 chk (decide (0 <= a0)) <|
 chk (decide (0 <= a0)) <|
 chk (decide (0 <= a0)) <|
 vS m m ((a10.length : Int), 0, a1, a2, a3, a4, a5, a6, a7, a8, a9, a10, ([.r [.n 0, .n 1, .n (-1), .n a3.fee], .r [.n 0, .n 2, .n (-1), .n a3.out]] : List Dat))
section
variable (m : Nat) (xa : au) (xb : av) (xn : aj) (x1 x2 x3 x4 x5 x6 x7 : List Dat)
theorem OQ : ∀ (rest pre acc : List Dat) (n : Nat), rest.length < n -> (pre ++ rest).length <= 3000 -> acc.length <= pre.length ->
 vY m n (((pre ++ rest).length : Int), (pre.length : Int), xa, xb, xn, x1, x2, x3, x4, x5, x6, x7, acc, pre ++ rest) = some (Uns.enc xa ++ Uns.enc xb ++ Uns.enc xn ++ [.d x1, .d x2, .d x3, .d x4, .d x5, .d x6, .d x7, .d (acc ++ vP rest)]) := by
 intro rest
 induction rest with
 | nil =>
  intro pre acc n hn hl ha; obtain ⟨n, rfl⟩ := ak n (by simp at hn; omega); rw [sw]; unfold y6; dsimp only; rw [aC (by simp), vP, List.append_nil]
 | cons x rest ih =>
  intro pre acc n hn hl ha; obtain ⟨n, rfl⟩ := ak n (by simp at hn; omega); simp only [List.length_cons, List.length_append] at hn hl; have := fun acc h => ih (pre ++ [x]) acc n (by omega) (by simp; omega) h
  unfold vP; rw [sw]; unfold y6; dsimp only
  by_cases h1 : x.i 3 > 0
  · have := this (acc ++ [Nm x]) (by simp; omega); unfold Nm at this ⊢; rw [if_pos h1, <- List.append_assoc]; simp (disch := omega) only [TRa, aa, LNi, Int.cast_ofNat_Int, ao, List.length_append, List.length_cons, List.length_nil]; simp only [List.length_append, List.length_cons, List.length_nil, List.append_assoc, List.cons_append, List.nil_append, LNi, Int.cast_ofNat_Int] at this ⊢; exact this
  · have := this acc (by simp; omega); rw [if_neg h1, List.nil_append]; simp (disch := omega) only [TRa, TRi, aa, LNl, LNi, Int.cast_ofNat_Int, ao]; simp only [LNl, LNi, Int.cast_ofNat_Int] at this ⊢; exact this
theorem O2 (hm : 3000 < m) : ∀ (rest pre acc : List Dat) (n : Nat), rest.length < n -> (pre ++ rest).length <= 1000 -> (∀ d ∈ rest, aI d = true) -> acc.length = 2 + 2 * pre.length ->
 vS m n (((pre ++ rest).length : Int), (pre.length : Int), xa, xb, xn, x1, x2, x3, x4, x5, x6, pre ++ rest, acc) = some (Uns.enc xa ++ Uns.enc xb ++ Uns.enc xn ++ [.d x1, .d x2, .d x3, .d x4, .d x5, .d x6, .d (pre ++ rest), .d (vP (acc ++ Gp pre.length rest))]) := by
 intro rest
 induction rest with
 | nil =>
  intro pre acc n hn hl hg ha; obtain ⟨n, rfl⟩ := ak n (by simp at hn; omega); simp only [List.append_nil] at hl; rw [tZ]; unfold yV; dsimp only; rw [aC (by simp)]; refine (OQ m xa xb xn x1 x2 x3 x4 x5 x6 (pre ++ []) acc [] [] m (by omega) (by simp; omega) (by simp)).trans ?_
  simp only [Gp, List.append_nil, List.nil_append]
 | cons x rest ih =>
  intro pre acc n hn hl hg ha; obtain ⟨n, rfl⟩ := ak n (by simp at hn; omega); simp only [List.length_cons, List.length_append] at hn hl; have e := Gv (hg x (by simp)); have := ih (pre ++ [x]) (acc ++ [.r [.n 0, .n 3, .n (pre.length : Int), .n (x.i 5)], .r [.n 0, .n 7, .n (pre.length : Int), .n (bc x)]]) n (by omega) (by simp; omega) (fun d hd => hg d (by simp [hd])) (by simp; omega); unfold Gp; rw [tZ]; unfold yV; dsimp only; simp only [LNi, ao, lt_eq, e]; simp (disch := omega) only [TRa, TRi, aa, LNl, LNi, Int.cast_ofNat_Int, ao]; simp only [LNl, LNi, Int.cast_ofNat_Int] at this ⊢; exact this
end
def f85 : Int × au × av × aj × List Dat × List Dat × List Dat × List Dat × List Dat × List Dat × List Dat -> Bool × List Un := fun (a0, a1, a2, a3, a4, a5, a6, a7, a8, a9, a10) => (decide (0 <= a0) && (decide (a10.length <= 1000) && a10.all aI), Uns.enc ((a1) : au) ++ Uns.enc ((a2) : av) ++ Uns.enc ((a3) : aj) ++ [.d (a4), .d (a5), .d (a6), .d (a7), .d (a8), .d (a9), .d (a10), .d (PW a3.fee a3.out a10)])
theorem LD (a0 : Int) (a1 : au) (a2 : av) (a3 : aj) (a4 : List Dat) (a5 : List Dat) (a6 : List Dat) (a7 : List Dat) (a8 : List Dat) (a9 : List Dat) (a10 : List Dat) (hc : (decide (0 <= a0) && (decide (a10.length <= 1000) && a10.all aI)) = true) : ∃ m, t85 m (a0, a1, a2, a3, a4, a5, a6, a7, a8, a9, a10) = some (Uns.enc ((a1) : au) ++ Uns.enc ((a2) : av) ++ Uns.enc ((a3) : aj) ++ [.d (a4), .d (a5), .d (a6), .d (a7), .d (a8), .d (a9), .d (a10), .d (PW a3.fee a3.out a10)]) := by
 simp only [Bool.and_eq_true, decide_eq_true_eq, List.all_eq_true] at hc; refine ⟨3001 + a10.length, ?_⟩; unfold t85; dsimp only; simp only [aN hc.1]; exact O2 _ a1 a2 a3 a4 a5 a6 a7 a8 a9 (by omega) a10 [] _ _ (by omega) (by simpa using hc.2.1) hc.2.2 rfl
theorem Ik : ER 85 (mkE N85.en N85.ex f85) := an ai T87.right (fun m => [G9 (vS m m)]) (t := t85) (by kernel_rfl) (fun m => (aF (Po m m) aB)) (fun m a => by kernel_rfl) fun (a0, a1, a2, a3, a4, a5, a6, a7, a8, a9, a10) hc => LD a0 a1 a2 a3 a4 a5 a6 a7 a8 a9 a10 hc
def T85 : Tb Tryz.prog LQ TE := T87.add 85 _ Ik
def Ke (a b p : Int) : Bool := decide (0 <= a /\ a <= 1099511627776 /\ 0 <= b /\ b <= 1099511627776 /\ 0 <= p /\ p <= 100000)
def bF (a b p : Int) : Bool := Ke a b p && decide (b * p <= a * 10000)
def bU (a b p : Int) : Bool := Ke a b p && decide (a * 10000 <= b * p)
def Om : aD := ⟨T85.tab, 110, ⟨[.int .i64, .int .i64, .int .i64], [], 0⟩, ⟨[.bool], [], 0⟩, []⟩
def t110 (m : Nat) : Int × Int × Int -> Option (List Un) := fun (a0, a1, a2) =>
 bif decide (a0 >= 0) then
 bif (decide (a0 <= 1099511627776)) then
 bif decide (a1 >= 0) then
 bif (decide (a1 <= 1099511627776)) then
 bif decide (a2 >= 0) then
 bif decide (a2 <= 100000) then
 some ([.b (decide ((w64 (a0 * 10000)) >= (w64 (a1 * a2))))])
 else
 some ([.b false])
 else
 some ([.b false])
 else
 some ([.b false])
 else
 some ([.b false])
 else
 some ([.b false])
 else
 some ([.b false])
def f110 : Int × Int × Int -> Bool × List Un := fun (a0, a1, a2) => (true, [.b (bF a0 a1 a2)])
theorem Jf (a0 : Int) (a1 : Int) (a2 : Int) : ∃ m, t110 m (a0, a1, a2) = some ([.b (bF a0 a1 a2)]) := by
 unfold t110 bF Ke; dsimp only [ge_iff_le]
 by_cases h : 0 <= a0 /\ a0 <= 1099511627776 /\ 0 <= a1 /\ a1 <= 1099511627776 /\ 0 <= a2 /\ a2 <= 100000
 · obtain ⟨h1, h2, h3, h4, h5, h6⟩ := h; have hm := Int.mul_le_mul h4 h6 h5 (show (0 : Int) <= 1099511627776 by omega); have hm0 := Int.mul_nonneg h3 h5; refine ⟨0, ?_⟩; rw [decide_eq_true (show 0 <= a0 /\ a0 <= 1099511627776 /\ 0 <= a1 /\ a1 <= 1099511627776 /\ 0 <= a2 /\ a2 <= 100000 from ⟨h1, h2, h3, h4, h5, h6⟩)]; simp (disch := omega) only [TRa, aa, Bool.true_and]
 · refine ⟨0, ?_⟩; rw [decide_eq_false h]
   by_cases h1 : 0 <= a0
   · by_cases h2 : a0 <= 1099511627776
     · by_cases h3 : 0 <= a1
       · by_cases h4 : a1 <= 1099511627776
         · by_cases h5 : 0 <= a2
           · simp [h1, h2, h3, h4, h5, show ¬ a2 <= 100000 by omega]
           · simp [h1, h2, h3, h4, h5]
         · simp [h1, h2, h3, h4]
       · simp [h1, h2, h3]
     · simp [h1, h2]
   · simp [h1]
theorem FD : ER 110 (mkE Om.en Om.ex f110) := an ai T85.right (fun m => []) (t := t110) (by kernel_rfl) (fun m => aB) (fun m a => by kernel_rfl) fun (a0, a1, a2) hc => Jf a0 a1 a2
def Lq : Tb Tryz.prog LQ TE := T85.add 110 _ FD
def OR : aD := ⟨Lq.tab, 111, ⟨[.int .i64, .int .i64, .int .i64], [], 0⟩, ⟨[.bool], [], 0⟩, []⟩
def t111 (m : Nat) : Int × Int × Int -> Option (List Un) := fun (a0, a1, a2) =>
 bif decide (a0 >= 0) then
 bif (decide (a0 <= 1099511627776)) then
 bif decide (a1 >= 0) then
 bif (decide (a1 <= 1099511627776)) then
 bif decide (a2 >= 0) then
 bif decide (a2 <= 100000) then
 some ([.b (decide ((w64 (a0 * 10000)) <= (w64 (a1 * a2))))])
 else
 some ([.b false])
 else
 some ([.b false])
 else
 some ([.b false])
 else
 some ([.b false])
 else
 some ([.b false])
 else
 some ([.b false])
def f111 : Int × Int × Int -> Bool × List Un := fun (a0, a1, a2) => (true, [.b (bU a0 a1 a2)])
theorem IJ (a0 : Int) (a1 : Int) (a2 : Int) : ∃ m, t111 m (a0, a1, a2) = some ([.b (bU a0 a1 a2)]) := by
 unfold t111 bU Ke; dsimp only [ge_iff_le]
 by_cases h : 0 <= a0 /\ a0 <= 1099511627776 /\ 0 <= a1 /\ a1 <= 1099511627776 /\ 0 <= a2 /\ a2 <= 100000
 · obtain ⟨h1, h2, h3, h4, h5, h6⟩ := h; have hm := Int.mul_le_mul h4 h6 h5 (show (0 : Int) <= 1099511627776 by omega); have hm0 := Int.mul_nonneg h3 h5; refine ⟨0, ?_⟩; rw [decide_eq_true (show 0 <= a0 /\ a0 <= 1099511627776 /\ 0 <= a1 /\ a1 <= 1099511627776 /\ 0 <= a2 /\ a2 <= 100000 from ⟨h1, h2, h3, h4, h5, h6⟩)]; simp (disch := omega) only [TRa, aa, Bool.true_and]
 · refine ⟨0, ?_⟩; rw [decide_eq_false h]
   by_cases h1 : 0 <= a0
   · by_cases h2 : a0 <= 1099511627776
     · by_cases h3 : 0 <= a1
       · by_cases h4 : a1 <= 1099511627776
         · by_cases h5 : 0 <= a2
           · simp [h1, h2, h3, h4, h5, show ¬ a2 <= 100000 by omega]
           · simp [h1, h2, h3, h4, h5]
         · simp [h1, h2, h3, h4]
       · simp [h1, h2, h3]
     · simp [h1, h2]
   · simp [h1]
theorem Hq : ER 111 (mkE OR.en OR.ex f111) := an ai Lq.right (fun m => []) (t := t111) (by kernel_rfl) (fun m => aB) (fun m a => by kernel_rfl) fun (a0, a1, a2) hc => IJ a0 a1 a2
def MM : Tb Tryz.prog LQ TE := Lq.add 111 _ Hq
def N51 : aD := ⟨MM.tab, 51, ⟨[.agg [.int .i64, .int .i64, .int .i64, .int .i64, .int .i64], .agg [.int .i64, .int .i64, .int .i64, .int .i64, .int .i64, .int .i64, .int .i64]], [], 0⟩, ⟨[.agg [.bool, .bool, .bool, .bool]], [], 0⟩, []⟩
def t51 (m : Nat) : Int × Int × Int × Int × Int × Int × Int × Int × Int × Int × Int × Int -> Option (List Un) := fun (a0, a1, a2, a3, a4, a5, a6, a7, a8, a9, a10, a11) =>
 bif a0 == 0 then
 bif a1 == 0 then
 bif a2 == 0 then
 bif a3 == 0 then
 some ([.b true, .b true, .b true, .b true])
 else
 some ([.b true, .b true, .b true, .b (bU a11 a6 a3)])
 else
 bif a3 == 0 then
 some ([.b true, .b true, .b (bU a10 a5 a2), .b true])
 else
 some ([.b true, .b true, .b (bU a10 a5 a2), .b (bU a11 a6 a3)])
 else
 bif a2 == 0 then
 bif a3 == 0 then
 some ([.b true, .b (bF a8 a9 a1), .b true, .b true])
 else
 some ([.b true, .b (bF a8 a9 a1), .b true, .b (bU a11 a6 a3)])
 else
 bif a3 == 0 then
 some ([.b true, .b (bF a8 a9 a1), .b (bU a10 a5 a2), .b true])
 else
 some ([.b true, .b (bF a8 a9 a1), .b (bU a10 a5 a2), .b (bU a11 a6 a3)])
 else
 bif a1 == 0 then
 bif a2 == 0 then
 bif a3 == 0 then
 some ([.b (bF a5 a7 a0), .b true, .b true, .b true])
 else
 some ([.b (bF a5 a7 a0), .b true, .b true, .b (bU a11 a6 a3)])
 else
 bif a3 == 0 then
 some ([.b (bF a5 a7 a0), .b true, .b (bU a10 a5 a2), .b true])
 else
 some ([.b (bF a5 a7 a0), .b true, .b (bU a10 a5 a2), .b (bU a11 a6 a3)])
 else
 bif a2 == 0 then
 bif a3 == 0 then
 some ([.b (bF a5 a7 a0), .b (bF a8 a9 a1), .b true, .b true])
 else
 some ([.b (bF a5 a7 a0), .b (bF a8 a9 a1), .b true, .b (bU a11 a6 a3)])
 else
 bif a3 == 0 then
 some ([.b (bF a5 a7 a0), .b (bF a8 a9 a1), .b (bU a10 a5 a2), .b true])
 else
 some ([.b (bF a5 a7 a0), .b (bF a8 a9 a1), .b (bU a10 a5 a2), .b (bU a11 a6 a3)])
def f51 : Int × Int × Int × Int × Int × Int × Int × Int × Int × Int × Int × Int -> Bool × List Un := fun (a0, a1, a2, a3, a4, a5, a6, a7, a8, a9, a10, a11) => (true, [.b ((a0 == 0 || bF a5 a7 a0)), .b ((a1 == 0 || bF a8 a9 a1)), .b ((a2 == 0 || bU a10 a5 a2)), .b ((a3 == 0 || bU a11 a6 a3))])
theorem Mo (a0 : Int) (a1 : Int) (a2 : Int) (a3 : Int) (a4 : Int) (a5 : Int) (a6 : Int) (a7 : Int) (a8 : Int) (a9 : Int) (a10 : Int) (a11 : Int) : ∃ m, t51 m (a0, a1, a2, a3, a4, a5, a6, a7, a8, a9, a10, a11) = some ([.b ((a0 == 0 || bF a5 a7 a0)), .b ((a1 == 0 || bF a8 a9 a1)), .b ((a2 == 0 || bU a10 a5 a2)), .b ((a3 == 0 || bU a11 a6 a3))]) := by
 refine ⟨0, ?_⟩; unfold t51; dsimp only; cases a0 == 0 <;> cases a1 == 0 <;> cases a2 == 0 <;> cases a3 == 0 <;> rfl
theorem K8 : ER 51 (mkE N51.en N51.ex f51) := an ai MM.right (fun m => []) (t := t51) (by kernel_rfl) (fun m => aB) (fun m a => by kernel_rfl) fun (a0, a1, a2, a3, a4, a5, a6, a7, a8, a9, a10, a11) hc => Mo a0 a1 a2 a3 a4 a5 a6 a7 a8 a9 a10 a11
def T51 : Tb Tryz.prog LQ TE := MM.add 51 _ K8
def N86 : aD := ⟨T51.tab, 86, ⟨[.agg [.int .i64, .int .i64, .int .i64, .int .i64, .int .i64], .agg [.int .i64, .int .i64, .int .i64, .int .i64, .int .i64, .int .i64, .int .i64]], [], 0⟩, ⟨[.bool], [], 0⟩, []⟩
def t86 (m : Nat) : Int × Int × Int × Int × Int × Int × Int × Int × Int × Int × Int × Int -> Option (List Un) := fun (a0, a1, a2, a3, a4, a5, a6, a7, a8, a9, a10, a11) =>
 bif a4 != 0 then
 some ([.b (bU a5 a6 a4)])
 else
 some ([.b false])
def f86 : Int × Int × Int × Int × Int × Int × Int × Int × Int × Int × Int × Int -> Bool × List Un := fun (a0, a1, a2, a3, a4, a5, a6, a7, a8, a9, a10, a11) => (true, [.b ((a4 != 0 && bU a5 a6 a4))])
theorem Lt (a0 : Int) (a1 : Int) (a2 : Int) (a3 : Int) (a4 : Int) (a5 : Int) (a6 : Int) (a7 : Int) (a8 : Int) (a9 : Int) (a10 : Int) (a11 : Int) : ∃ m, t86 m (a0, a1, a2, a3, a4, a5, a6, a7, a8, a9, a10, a11) = some ([.b ((a4 != 0 && bU a5 a6 a4))]) := by
 refine ⟨0, ?_⟩; unfold t86; dsimp only; cases a4 != 0 <;> rfl
theorem JF : ER 86 (mkE N86.en N86.ex f86) := an ai T51.right (fun m => []) (t := t86) (by kernel_rfl) (fun m => aB) (fun m a => by kernel_rfl) fun (a0, a1, a2, a3, a4, a5, a6, a7, a8, a9, a10, a11) hc => Lt a0 a1 a2 a3 a4 a5 a6 a7 a8 a9 a10 a11
def T86 : Tb Tryz.prog LQ TE := T51.add 86 _ JF
def eP (need has : Int) : Int := max (min (max need 0) has) 0
def BB (need has may : Int) : Int := max (min (max need 0 - eP need has) may) 0
def N44 : aD := ⟨T86.tab, 44, ⟨[.int .i64, .np 0 0 20, .int .i64, .int .i64], bs 0, 0⟩, ⟨[.int .i64, .int .i64], bs 0, 0⟩, []⟩
def t44 (m : Nat) : Int × Int × Int × Int × au × av × aj × List Dat × List Dat × List Dat × List Dat × List Dat × List Dat × List Dat -> Option (List Un) := fun (a0, a1, a2, a3, a4, a5, a6, a7, a8, a9, a10, a11, a12, a13) =>
 lt ((if a0 < 0 then 0 else a0) : Int) fun x1 =>
 bif (!((decide (a1 < 0)) && true)) then
 chk (decide (0 <= a1)) <|
 lt ((w64 (a6.rin - a6.bg)) : Int) fun x3 =>
 lt ((if x3 < x1 then x3 else x1) : Int) fun x4 =>
 lt ((if x4 < 0 then 0 else x4) : Int) fun x5 =>
 chk (decide (0 <= a1)) <|
 chk (decide (0 <= a1)) <|
 lt ((if (w64 (a3 - a2)) < (w64 (x1 - x5)) then (w64 (a3 - a2)) else (w64 (x1 - x5))) : Int) fun x6 =>
 some ([.i x5, .i (if x6 < 0 then 0 else x6)] ++ Uns.enc (a4 : au) ++ Uns.enc (a5 : av) ++ Uns.enc (({ a6 with bg := (w64 (a6.bg + x5)) } : aj) : aj) ++ [.d a7, .d a8, .d a9, .d a10, .d a11, .d a12, .d a13])
 else
 lt ((if (w64 (a3 - a2)) < (w64 (x1 - 0)) then (w64 (a3 - a2)) else (w64 (x1 - 0))) : Int) fun x8 =>
 some ([.i 0, .i (if x8 < 0 then 0 else x8)] ++ Uns.enc (a4 : au) ++ Uns.enc (a5 : av) ++ Uns.enc (a6 : aj) ++ [.d a7, .d a8, .d a9, .d a10, .d a11, .d a12, .d a13])
def f44 : Int × Int × Int × Int × au × av × aj × List Dat × List Dat × List Dat × List Dat × List Dat × List Dat × List Dat -> Bool × List Un := fun (a0, a1, a2, a3, a4, a5, a6, a7, a8, a9, a10, a11, a12, a13) => (decide (0 <= a1) && decide ((-1152921504606846976 <= a0 /\ a0 <= 1152921504606846976) /\ ((0 : Int) <= a6.bg /\ a6.bg <= a6.rin /\ a6.rin <= (1152921504606846976 : Int)) /\ (0 <= a2 /\ a2 <= 1152921504606846976) /\ (0 <= a3 /\ a3 <= 1152921504606846976)), [.i (eP a0 (a6.rin - a6.bg)), .i (BB a0 (a6.rin - a6.bg) (a3 - a2))] ++ Uns.enc ((a4) : au) ++ Uns.enc ((a5) : av) ++ Uns.enc (({ a6 with bg := a6.bg + eP a0 (a6.rin - a6.bg) }) : aj) ++ [.d (a7), .d (a8), .d (a9), .d (a10), .d (a11), .d (a12), .d (a13)])
theorem NJ (a0 : Int) (a1 : Int) (a2 : Int) (a3 : Int) (a4 : au) (a5 : av) (a6 : aj) (a7 : List Dat) (a8 : List Dat) (a9 : List Dat) (a10 : List Dat) (a11 : List Dat) (a12 : List Dat) (a13 : List Dat) (hc : (decide (0 <= a1) && decide ((-1152921504606846976 <= a0 /\ a0 <= 1152921504606846976) /\ ((0 : Int) <= a6.bg /\ a6.bg <= a6.rin /\ a6.rin <= (1152921504606846976 : Int)) /\ (0 <= a2 /\ a2 <= 1152921504606846976) /\ (0 <= a3 /\ a3 <= 1152921504606846976))) = true) : ∃ m, t44 m (a0, a1, a2, a3, a4, a5, a6, a7, a8, a9, a10, a11, a12, a13) = some ([.i (eP a0 (a6.rin - a6.bg)), .i (BB a0 (a6.rin - a6.bg) (a3 - a2))] ++ Uns.enc ((a4) : au) ++ Uns.enc ((a5) : av) ++ Uns.enc (({ a6 with bg := a6.bg + eP a0 (a6.rin - a6.bg) }) : aj) ++ [.d (a7), .d (a8), .d (a9), .d (a10), .d (a11), .d (a12), .d (a13)]) := by
 simp only [Bool.and_eq_true, decide_eq_true_eq] at hc; obtain ⟨h0, ⟨h1, h2⟩, ⟨h3, h4, h5⟩, ⟨h6, h7⟩, h8, h9⟩ := hc; refine ⟨0, ?_⟩; unfold t44; dsimp only; simp only [Bool.and_true, lt_eq, decide_eq_false (show ¬ a1 < 0 by omega), Bool.not_false, cond_true, decide_eq_true h0, gZ]; rw [aa (n := a6.rin - a6.bg) (by omega) (by omega), aa (n := a3 - a2) (by omega) (by omega)]; have e : (if (if a6.rin - a6.bg < (if a0 < 0 then 0 else a0) then a6.rin - a6.bg else (if a0 < 0 then 0 else a0)) < 0 then 0 else (if a6.rin - a6.bg < (if a0 < 0 then 0 else a0) then a6.rin - a6.bg else (if a0 < 0 then 0 else a0))) = eP a0 (a6.rin - a6.bg) := by unfold eP; omega
 have hd : 0 <= eP a0 (a6.rin - a6.bg) /\ eP a0 (a6.rin - a6.bg) <= 1152921504606846976 /\ eP a0 (a6.rin - a6.bg) <= max a0 0 /\ eP a0 (a6.rin - a6.bg) <= a6.rin - a6.bg := by unfold eP; omega
 rw [e, show (if a0 < 0 then 0 else a0) = max a0 0 by omega, aa (n := max a0 0 - _) (by omega) (by omega), aa (n := a6.bg + _) (by omega) (by omega)]; rw [show (if (if a3 - a2 < max a0 0 - eP a0 (a6.rin - a6.bg) then a3 - a2 else max a0 0 - eP a0 (a6.rin - a6.bg)) < 0 then 0 else (if a3 - a2 < max a0 0 - eP a0 (a6.rin - a6.bg) then a3 - a2 else max a0 0 - eP a0 (a6.rin - a6.bg))) = BB a0 (a6.rin - a6.bg) (a3 - a2) by unfold BB; omega]
theorem Ji : ER 44 (mkE N44.en N44.ex f44) := an ai T86.right (fun m => []) (t := t44) (by kernel_rfl) (fun m => aB) (fun m a => by kernel_rfl) fun (a0, a1, a2, a3, a4, a5, a6, a7, a8, a9, a10, a11, a12, a13) hc => NJ a0 a1 a2 a3 a4 a5 a6 a7 a8 a9 a10 a11 a12 a13 hc
def T44 : Tb Tryz.prog LQ TE := T86.add 44 _ Ji
def eS (d : bk) (m : Int) : List Dat := if m = 0 then d.s0 else if m = 1 then d.s1 else if m = 2 then d.s2 else []
def N47 : aD := ⟨T44.tab, 47, ⟨[.agg [.int .i64, .int .i64, .int .i64, .ag (sI 2), .ag (sI 3), .int .i64, .int .i64, .int .i64, .int .i64, .int .i64, .int .i64, .int .i64, .int .i64, .int .i64, .int .i64, .ag (sI 2), .ag (sI 2), .ag (sI 2)], .agg [.int .i64, .int .i64]], [], 0⟩, ⟨[.buf 0 2], [.ag (sI 2)], 0⟩, []⟩
def t47 (m : Nat) : bk × Int × Int -> Option (List Un) := fun (a0, a1, a2) =>
 bif decide (a1 < 0) then
 some ([.d ([])])
 else
 bif decide (a1 >= 3) then
 some ([.d ([])])
 else
 chk (inb a1 3) <|
 chk (decide (a1.toNat < 3)) <|
 chk (decide ((List.getD [a0.s0, a0.s1, a0.s2] a1.toNat []).length < 1000000)) <|
 some ([.d (List.getD [a0.s0, a0.s1, a0.s2] a1.toNat [])])
def f47 : bk × Int × Int -> Bool × List Un := fun (a0, a1, a2) => (decide (a0.s0.length < 1000000 /\ a0.s1.length < 1000000 /\ a0.s2.length < 1000000), [.d (eS a0 a1)])
theorem NU (a0 : bk) (a1 : Int) (a2 : Int) (hc : (decide (a0.s0.length < 1000000 /\ a0.s1.length < 1000000 /\ a0.s2.length < 1000000)) = true) : ∃ m, t47 m (a0, a1, a2) = some ([.d (eS a0 a1)]) := by
 obtain ⟨h1, h2, h3⟩ := of_decide_eq_true hc; refine ⟨0, ?_⟩; unfold t47 eS; dsimp only
 by_cases c0 : a1 < 0
 · rw [bT c0, if_neg (by omega), if_neg (by omega), if_neg (by omega)]
 by_cases c3 : a1 >= 3
 · rw [aC c0, bT c3, if_neg (by omega), if_neg (by omega), if_neg (by omega)]
 rw [aC c0, aC c3, iu (by omega) (by omega), aN (by omega)]; obtain rfl | rfl | rfl : a1 = 0 \/ a1 = 1 \/ a1 = 2 := by omega
 · exact (aN h1).trans rfl
 · exact (aN h2).trans rfl
 · exact (aN h3).trans rfl
theorem IF : ER 47 (mkE N47.en N47.ex f47) := an ai T44.right (fun m => []) (t := t47) (by kernel_rfl) (fun m => aB) (fun m a => by kernel_rfl) fun (a0, a1, a2) hc => NU a0 a1 a2 hc
def T47 : Tb Tryz.prog LQ TE := T44.add 47 _ IF
end
end Go.Proofs.YtdbkoeefnodejaaGreat
namespace Go.Proofs.YtdbkoeefnodejaaGreat
noncomputable section
open Go Go.Proofs.YtdbkoeefnodejaaGreat.Ev
set_option maxRecDepth 20000
def jl (d : Dat) : Prop := 0 <= d.i 1 /\ 0 <= d.i 2 /\ d.i 1 + d.i 2 <= 1099511627776 /\ (0 <= d.i 3 /\ d.i 3 <= 12) /\ (d.b 4 = true -> d.i 1 = 0) /\ (d.b 4 = false -> d.i 2 = 0)
theorem zH {p q r s l : Int} (h : mM p q r s l = true) : (0 <= p /\ p <= 1099511627776) /\ (0 <= q /\ q <= 1099511627776) /\ (0 <= r /\ r <= 1099511627776) /\ (0 <= s /\ s <= 1099511627776) /\ 0 <= l /\ l <= 12 := by
 simp only [mM, Bool.and_eq_true, decide_eq_true_eq] at h; omega
theorem FL {x d : Dat} (hx : jl x) (hl : mM (d.i 1) (d.i 2) (d.i 3) (d.i 4) (d.i 5) = true) (hm : Eo x d = true) : jl (ml x d) /\ (ml x d).i 1 = x.i 1 - (d.i 1 + d.i 2) - gz (x.i 1) (d.i 1) (d.i 2) (d.b 6) /\ (ml x d).i 2 = x.i 2 + gz (x.i 1) (d.i 1) (d.i 2) (d.b 6) - d.i 4 /\
 0 <= gz (x.i 1) (d.i 1) (d.i 2) (d.b 6) /\ d.i 1 + d.i 2 + gz (x.i 1) (d.i 1) (d.i 2) (d.b 6) <= x.i 1 /\ d.i 4 <= x.i 2 + gz (x.i 1) (d.i 1) (d.i 2) (d.b 6) := by
 obtain ⟨x1, x2, x3, x4, x5, x6⟩ := hx; have l := zH hl; have e1 : (ml x d).i 1 = sC (x.i 1) (d.i 1) (d.i 2) (d.b 6) := rfl; have e2 : (ml x d).i 2 = nw (x.i 1) (x.i 2) (d.i 1) (d.i 2) (d.i 4) (d.b 6) := rfl; have e3 : (ml x d).i 3 = nf (x.i 1) (x.b 4) (d.i 1) (d.i 2) (d.i 5) (d.b 6) := rfl; have e4 : (ml x d).b 4 = (d.b 6 || x.b 4) := QA _; unfold jl; rw [e1, e2, e3, e4]; unfold Eo BI at hm; unfold sC nw nf gz; generalize d.i 1 = p at *
 generalize d.i 2 = q at *
 generalize d.i 3 = r at *
 generalize d.i 4 = s at *
 generalize d.i 5 = t at *
 generalize x.i 1 = b at *
 generalize x.i 2 = o at *
 clear e1 e2 e3 e4 hl; cases hb : x.b 4
 · have := x6 hb; simp only [hb, cond_false, show w64 (b - p) = b - p from aa (by omega) (by omega), show w64 (b - p - q) = b - p - q from aa (by omega) (by omega)] at hm; simp only [show w64 (p + q) = p + q from aa (by omega) (by omega), show w64 (b - (p + q)) = b - (p + q) from aa (by omega) (by omega)]
   by_cases hn : b - p - q < 0
   · rw [decide_eq_true hn] at hm; cases hm
   rw [decide_eq_false hn, cond_false] at hm; cases hd : d.b 6
   · simp only [hd, cond_false, beq_iff_eq] at hm; subst hm; simp only [cond_false, Bool.or_self, Int.sub_zero, Int.add_zero, show w64 o = o from aa (by omega) (by omega)]; have hz : 0 <= (bif b - (p + q) == 0 then 0 else t) /\ (bif b - (p + q) == 0 then 0 else t) <= 12 := by cases (b - (p + q) == 0) <;> simp only [cond_true, cond_false] <;> omega
     and_intros <;> first | trivial | omega | (intro h; cases h; done) | (intro _; omega)
   · simp only [hd, cond_true, show w64 (o + (b - p - q)) = o + (b - p - q) from aa (by omega) (by omega)] at hm; have hr : s <= o + (b - p - q) := by
      by_cases hs : s <= o + (b - p - q)
      · exact hs
      · rw [decide_eq_false hs, cond_false, beq_iff_eq] at hm; omega
     simp only [cond_true, Bool.or_false, show w64 (o + (b - (p + q))) = o + (b - (p + q)) from aa (by omega) (by omega), show w64 (o + (b - (p + q)) - s) = o + (b - (p + q)) - s from aa (by omega) (by omega)]
     and_intros <;> first | trivial | omega | (intro h; cases h; done) | (intro _; omega)
 · have := x5 hb; subst this; rw [hb] at hm; simp only [cond_true, Bool.and_eq_true, beq_iff_eq, Bool.not_eq_true', decide_eq_true_eq] at hm; obtain ⟨rfl, rfl, h3, h4, h5, h6⟩ := hm; rw [h5]; simp only [cond_true, cond_false, Bool.false_or, show w64 0 = 0 by decide, Int.sub_zero, Int.add_zero, show w64 (o - s) = o - s from aa (by omega) (by omega)]
   and_intros <;> first | trivial | omega | (intro h; cases h; done) | (intro _; omega)
theorem nZ {β : Type} (f : Dat -> β) (y : Dat) : ∀ (l : List Dat) (j : Nat), j < l.length -> f y = f (ae l j) -> (l.set j y).map f = l.map f
 | [], j, h, _ => by simp at h
 | d :: l, 0, _, h => by simp only [List.set_cons_zero, List.map_cons, h]; rfl
 | d :: l, j + 1, h, hy => by simp only [List.set_cons_succ, List.map_cons, nZ f y l j (by simpa using h) hy]
theorem fi {l : List Dat} (h : ∀ d ∈ l, jl d) : 0 <= al 1 l /\ 0 <= al 2 l := ⟨eB 1 l fun d hd => (h d hd).1, eB 2 l fun d hd => (h d hd).2.1⟩
theorem wM : ∀ (t l : List Dat) (last p q s r : Int) (x : Fv), (∀ d ∈ l, jl d) -> uM last t = true -> jz l p q s r t = some x -> al 1 l + al 2 l <= 1099511627776 -> (0 <= p /\ p + al 1 l <= 4398046511104) -> (0 <= s /\ s + al 1 l <= 4398046511104) -> (0 <= r /\ r + al 1 l + al 2 l <= 4398046511104) -> (0 <= q /\ q + 1099511627776 * t.length <= 1125899906842624) ->
 (∀ d ∈ x.bh, jl d) /\ x.bh.map (fun d => d.i 0) = l.map (fun d => d.i 0) /\ al 1 x.bh = al 1 l - (x.p - p) - (x.l - s) /\ al 2 x.bh = al 2 l + (x.l - s) - (x.r - r) /\ p <= x.p /\ s <= x.l /\ r <= x.r /\ (q <= x.q /\ x.q <= q + 1099511627776 * t.length) /\ x.e = 0
 | [], l, last, p, q, s, r, x, hl, ht, h, b1, b2, b3, b4, b5 => by
  simp only [jz, Option.some.injEq] at h; subst h; exact ⟨hl, rfl, by simp, by simp, by simp, by simp, by simp, by simp, rfl⟩
 | d :: t, l, last, p, q, s, r, x, hl, ht, h, b1, b2, b3, b4, b5 => by
  simp only [uM] at ht
  split at ht
  · cases ht
  · split at ht
    · rename_i hT; unfold jz at h
      split at h
      · cases h
      · rename_i hi
        split at h
        · rename_i hm; rcases yI (d.i 0) l 0 with hj | ⟨hj1, hj2⟩
          · omega
          · have hj : (ff (d.i 0) 0 l).toNat < l.length := by omega
            generalize (ff (d.i 0) 0 l).toNat = j at *
            obtain ⟨r1, r2, r3, r4, r5, r6⟩ := FL (hl _ (sV hj)) hT hm; have lt := zH hT; have s1 := mn 1 (ml (ae l j) d) l j hj; have s2 := mn 2 (ml (ae l j) d) l j hj; have hl' := CI (p := jl) (j := j) hl r1; obtain ⟨n1, n2⟩ := fi hl; obtain ⟨n3, n4⟩ := fi hl'; rw [r2] at s1; rw [r3] at s2; simp only [List.length_cons, Int.natCast_add, Int.cast_ofNat_Int] at b5; generalize gz ((ae l j).i 1) (d.i 1) (d.i 2) (d.b 6) = z at *
            rw [show w64 (d.i 1 + d.i 2) = d.i 1 + d.i 2 from aa (by omega) (by omega), show w64 (p + (d.i 1 + d.i 2)) = p + (d.i 1 + d.i 2) from aa (by omega) (by omega), show w64 (q + d.i 3) = q + d.i 3 from aa (by omega) (by omega), show w64 (s + z) = s + z from aa (by omega) (by omega), show w64 (r + d.i 4) = r + d.i 4 from aa (by omega) (by omega)] at h; obtain ⟨c1, c2, c3, c4, c5, c6, c7, c8, c9⟩ := wM t _ _ _ _ _ _ x hl' ht h (by omega) (by omega) (by omega) (by omega) (by omega); refine ⟨c1, c2.trans (nZ _ _ _ _ hj rfl), by omega, by omega, by omega, by omega, by omega, ?_, c9⟩; simp only [List.length_cons, Int.natCast_add, Int.cast_ofNat_Int]; omega
        · cases h
    · cases ht
theorem Ep {t l : List Dat} (hl : ∀ d ∈ l, jl d) (b : al 1 l + al 2 l <= 1099511627776) (he : (az t l).e = 0) :
 (∀ d ∈ (az t l).bh, jl d) /\ (az t l).bh.map (fun d => d.i 0) = l.map (fun d => d.i 0) /\ al 1 (az t l).bh = al 1 l - (az t l).p - (az t l).l /\ al 2 (az t l).bh = al 2 l + (az t l).l - (az t l).r /\
 0 <= (az t l).p /\ 0 <= (az t l).l /\ 0 <= (az t l).r /\ 0 <= (az t l).q /\ (az t l).q <= 70368744177664 := by
 unfold az at he ⊢
 split at he
 · rename_i ht; rw [if_pos ht]; simp only [pX, Bool.and_eq_true, decide_eq_true_eq] at ht; cases hx : jz l 0 0 0 0 t with
   | none => rw [hx] at he; cases he
   | some x =>
    obtain ⟨n1, n2⟩ := fi hl; obtain ⟨c1, c2, c3, c4, c5, c6, c7, c8, c9⟩ := wM t l 0 0 0 0 0 x hl ht.2 hx b (by omega) (by omega) (by omega) (by omega); simp only [Option.getD_some]; exact ⟨c1, c2, by omega, by omega, c5, c6, c7, c8.1, by omega⟩
 · cases he
theorem jg (f : Dat -> Bool) : ∀ l : List Dat, (∀ d ∈ l, 0 <= d.i 3) -> 0 <= aU f l
 | [], _ => Int.le_refl 0
 | d :: l, h => by
  have := h d (by simp); have := jg f l fun x hx => h x (by simp [hx])
  simp only [aU]; cases f d <;> simp only [cond_true, cond_false] <;> omega
def ry (d e : Dat) (b s : Int) : Prop := e.i 0 = d.i 0 /\ e.i 1 = d.i 1 /\ e.i 2 = d.i 2 /\ e.i 3 = d.i 3 + b /\ e.i 4 = d.i 4 /\ e.i 5 = d.i 5 - s /\ e.i 6 = d.i 6
def amt (f : Dat -> Bool) (d : Dat) : Int := bif f d then d.i 3 else 0
theorem dT (f : Dat -> Bool) (d : Dat) (l : List Dat) : aU f (d :: l) = amt f d + aU f l := rfl
theorem Gs {n : aj} {x : Dat} {c : List Dat} (h3 : 0 <= x.i 3) (hk : (x.i 1 = 1 \/ x.i 1 = 2 \/ x.i 1 = 6) \/ (0 <= x.i 2 /\ x.i 2 < (c.length : Int))) (hb : ∀ i, i < c.length -> amt (toB i) x <= bc (ae c i) /\ amt (toI i) x <= (ae c i).i 5) :
 ig n x = { n with fee := n.fee - amt kF x, out := n.out - amt kR x, rin := n.rin + amt kT x } /\ ∀ i, i < c.length -> ry (ae c i) (ae (jQ c x) i) (amt (toB i) x) (amt (toI i) x) := by
 have zero : ∀ i, kI x = false -> kB x = false -> ry (ae c i) (ae c i) (amt (toB i) x) (amt (toI i) x) := fun i h1 h2 => by
  simp only [amt, toB, toI, h1, h2, Bool.false_and, cond_false]; exact ⟨rfl, rfl, rfl, by omega, rfl, by omega, rfl⟩
 unfold ig jQ
 by_cases h1 : x.i 1 = 1
 · have a1 : kF x = true := by simp [kF, h1]
   have a2 : kR x = false := by simp [kR, h1]
   have a3 : kT x = false := by simp [kT, h1]
   have a4 : kI x = false := by simp [kI, h1]
   have a5 : kB x = false := by simp [kB, a1]
   rw [if_pos h1, if_pos h1]; refine ⟨?_, fun i hi => zero i a4 a5⟩; simp only [amt, a1, a2, a3, cond_true, cond_false, Int.sub_zero, Int.add_zero]
 rw [if_neg h1, if_neg h1]; have a1 : kF x = false := k8 h1
 by_cases h2 : x.i 1 = 2
 · have a2 : kR x = true := by simp [kR, h2]
   have a3 : kT x = false := by simp [kT, h2]
   have a4 : kI x = false := by simp [kI, h2]
   have a5 : kB x = false := by simp [kB, a2]
   rw [if_pos h2, if_pos h2]; refine ⟨?_, fun i hi => zero i a4 a5⟩; simp only [amt, a1, a2, a3, cond_true, cond_false, Int.sub_zero, Int.add_zero]
 rw [if_neg h2, if_neg h2]; have a2 : kR x = false := k8 h2
 by_cases h6 : x.i 1 = 6
 · have a3 : kT x = true := by simp [kT, h6]
   have a4 : kI x = false := by simp [kI, h6]
   have a5 : kB x = false := by simp [kB, a3]
   rw [if_pos h6, if_pos h6]; refine ⟨?_, fun i hi => zero i a4 a5⟩; simp only [amt, a1, a2, a3, cond_true, cond_false, Int.sub_zero, Int.add_zero]
 rw [if_neg h6, if_neg h6]; have a3 : kT x = false := k8 h6; refine ⟨by simp only [amt, a1, a2, a3, cond_false, Int.sub_zero, Int.add_zero], fun i hi => ?_⟩; have hj : (x.i 2).toNat < c.length := by omega
 have hx2 : x.i 2 = ((x.i 2).toNat : Int) := by omega
 generalize (x.i 2).toNat = j at *
 have hbj := hb j hj
 by_cases h3' : x.i 1 = 3
 · have a4 : kI x = true := by simp [kI, h3']
   have a5 : kB x = false := by simp [kB, a4]
   rw [if_pos h3']; simp only [amt, toB, toI, a4, a5, Bool.false_and, Bool.true_and, cond_false, hx2] at hbj ⊢
   by_cases hij : i = j
   · subst hij; rw [beq_self_eq_true, cond_true] at hbj ⊢; rw [tP hj]; refine ⟨rfl, rfl, rfl, by simp only [mw, eL]; omega, rfl, ?_, rfl⟩; simp only [mw, nd, Aa]; omega
   · rw [show ((j : Int) == (i : Int)) = false from k8 (by omega), cond_false, lJ hij]; exact ⟨rfl, rfl, rfl, by omega, rfl, by omega, rfl⟩
 · have a4 : kI x = false := k8 h3'; have a5 : kB x = true := by simp [kB, a1, a2, a3, a4]
   rw [if_neg h3']; simp only [amt, toB, toI, a4, a5, Bool.false_and, Bool.true_and, cond_false, hx2] at hbj ⊢
   by_cases hij : i = j
   · subst hij; rw [beq_self_eq_true, cond_true] at hbj ⊢; rw [tP hj]; refine ⟨rfl, rfl, rfl, ?_, rfl, by simp only [rh, nd]; omega, rfl⟩; simp only [rh, eL, l7]; omega
   · rw [show ((j : Int) == (i : Int)) = false from k8 (by omega), cond_false, lJ hij]; exact ⟨rfl, rfl, rfl, by omega, rfl, by omega, rfl⟩
theorem vW : ∀ (p : List Dat) (n : aj) (c : List Dat), (∀ d ∈ p, 0 <= d.i 3) -> (∀ d ∈ p, (d.i 1 = 1 \/ d.i 1 = 2 \/ d.i 1 = 6) \/ (0 <= d.i 2 /\ d.i 2 < (c.length : Int))) -> (∀ i, i < c.length -> aU (toB i) p <= bc (ae c i) /\ aU (toI i) p <= (ae c i).i 5) ->
 (cK p n c).1 = { n with fee := n.fee - aU kF p, out := n.out - aU kR p, rin := n.rin + aU kT p } /\ (cK p n c).2.length = c.length /\ ∀ i, i < c.length -> ry (ae c i) (ae (cK p n c).2 i) (aU (toB i) p) (aU (toI i) p)
 | [], n, c, _, _, _ => by
  refine ⟨by simp [cK, aU], rfl, fun i hi => ⟨rfl, rfl, rfl, ?_, rfl, ?_, rfl⟩⟩ <;> simp [cK, aU]
 | x :: p, n, c, h0, hk, hb => by
  have n0 := fun f => jg f p fun d hd => h0 d (List.mem_cons_of_mem _ hd)
  have hx0 := h0 x (by simp); have m0 : ∀ f, 0 <= amt f x := fun f => by unfold amt; cases f x <;> simp only [cond_true, cond_false] <;> omega
  obtain ⟨o1, o2⟩ := Gs (n := n) hx0 (hk x (by simp)) fun i hi => by
   have := hb i hi; rw [dT, dT] at this; have := n0 (toB i); have := n0 (toI i); omega
  have hl := wR c x; obtain ⟨i1, i2, i3⟩ := vW p (ig n x) (jQ c x) (fun d hd => h0 d (List.mem_cons_of_mem _ hd)) (fun d hd => by rw [hl]; exact hk d (List.mem_cons_of_mem _ hd)) fun i hi => by
   rw [hl] at hi; have := hb i hi; rw [dT, dT] at this; obtain ⟨_, e1, _, e3, e4, e5, e6⟩ := o2 i hi; unfold bc at this ⊢; omega
  refine ⟨?_, i2.trans hl, fun i hi => ?_⟩
  · show (cK p (ig n x) (jQ c x)).1 = _; rw [i1, o1]; simp only [dT, Int.sub_sub, Int.add_assoc]
  · obtain ⟨e0, e1, e2, e3, e4, e5, e6⟩ := o2 i hi; obtain ⟨f0, f1, f2, f3, f4, f5, f6⟩ := i3 i (by rw [hl]; exact hi); rw [dT, dT]; exact ⟨f0.trans e0, f1.trans e1, f2.trans e2, by show (ae (cK p (ig n x) (jQ c x)).2 i).i 3 = _; omega, f4.trans e4, by show (ae (cK p (ig n x) (jQ c x)).2 i).i 5 = _; omega, f6.trans e6⟩
def fC (d e : Dat) : Prop := e.i 0 = d.i 0 /\ e.i 1 = d.i 1 /\ e.i 2 = d.i 2 /\ e.i 3 = d.i 3 /\ e.i 4 = d.i 4 /\ e.i 5 = d.i 5
theorem fC.refl (d : Dat) : fC d d := ⟨rfl, rfl, rfl, rfl, rfl, rfl⟩
theorem fC.trans {a b c : Dat} (h : fC a b) (k : fC b c) : fC a c := ⟨k.1.trans h.1, k.2.1.trans h.2.1, k.2.2.1.trans h.2.2.1, k.2.2.2.1.trans h.2.2.2.1, k.2.2.2.2.1.trans h.2.2.2.2.1, k.2.2.2.2.2.trans h.2.2.2.2.2⟩
structure eg (c c' : List Dat) : Prop where
 len : c'.length = c.length
 row : ∀ i, i < c.length -> fC (ae c i) (ae c' i)
theorem eg.refl (c : List Dat) : eg c c := ⟨rfl, fun _ _ => .refl _⟩
theorem eg.trans {a b c : List Dat} (h : eg a b) (k : eg b c) : eg a c := ⟨k.len.trans h.len, fun i hi => (h.row i hi).trans (k.row i (by rw [h.len]; exact hi))⟩
theorem eg.set {c : List Dat} {j : Nat} {y : Dat} (hj : j < c.length) (h : fC (ae c j) y) : eg c (c.set j y) := ⟨List.length_set, fun i hi => by
 by_cases e : i = j
 · subst e; rw [tP hj]; exact h
 · rw [lJ e]; exact .refl _⟩
theorem zw (w : Int) (d : Dat) : fC d (dw w d) := ⟨rfl, rfl, rfl, rfl, rfl, rfl⟩
theorem BE (w : Int) (d : Dat) : fC d (fu w d) := ⟨rfl, rfl, rfl, rfl, rfl, rfl⟩
theorem vH (f : Dat -> Int) : ∀ c : List Dat, (∀ d ∈ c, f d = 0) -> bj f c = 0
 | [], _ => rfl
 | d :: c, h => by simp only [bj, h d (by simp), vH f c fun x hx => h x (by simp [hx])]; rfl
theorem vA (j : Nat) : ∀ c : List Dat, (∀ d ∈ c, d.i j = 0) -> al j c = 0
 | [], _ => rfl
 | d :: c, h => by simp only [al, h d (by simp), vA j c fun x hx => h x (by simp [hx])]; rfl
theorem Jz {c : List Dat} {j : Nat} {y : Dat} (hj : j < c.length) (h : fC (ae c j) y) : bj unD (c.set j y) = bj unD c := by
 obtain ⟨_, h1, _, h3, h4, _⟩ := h; rw [zT _ _ _ _ hj]; unfold unD; omega
theorem Dq (t : Int) : ∀ (k : Nat) (c : List Dat), dm c -> vb t c < k -> dm (rg k t c) /\ eg c (rg k t c) /\ (al 6 c <= t -> al 6 (rg k t c) = min t (bj unD c)) /\ (t <= al 6 c -> rg k t c = c)
 | 0, c, _, h => by omega
 | k + 1, c, hg, h => by
  have hu := fJ c hg.2; unfold rg
  by_cases hs : al 6 c < t
  · rw [if_pos hs]
    by_cases hj : fa c c.length 0 (-1) < 0
    · rw [if_pos hj]; refine ⟨hg, .refl c, fun _ => ?_, fun _ => rfl⟩; have h0 := ((rV c c.length 0 (-1) (by omega) (.inl (by omega))).1 hj).2; have : bj bc c = 0 := vH _ _ fun d hd => by
       obtain ⟨i, hi, rfl⟩ := oy hd; have := h0 i (by omega) hi; have := (EB (cd hi hg.2)).1; omega
      omega
    · rw [if_neg hj]; obtain ⟨a1, a2, a3, a4⟩ := Lo hg hs (by omega); have hw := zw (t - al 6 c) (ae c (fa c c.length 0 (-1)).toNat); have hun := Jz a1 hw; have has := eg.set a1 hw; generalize c.set (fa c c.length 0 (-1)).toNat (dw (t - al 6 c) (ae c (fa c c.length 0 (-1)).toNat)) = c' at *
      obtain ⟨b1, b2, b3, b4⟩ := Dq t k c' a2 (by omega); exact ⟨b1, has.trans b2, fun _ => by rw [b3 a4, hun], fun _ => by omega⟩
  · rw [if_neg hs]; exact ⟨hg, .refl c, fun _ => by omega, fun _ => rfl⟩
theorem Dv (t : Int) (h0 : 0 <= t) : ∀ (k : Nat) (c : List Dat), dm c -> sE t c < k -> dm (pa k t c) /\ eg c (pa k t c) /\ (t <= al 6 c -> al 6 (pa k t c) = t) /\ (al 6 c <= t -> pa k t c = c)
 | 0, c, _, h => by omega
 | k + 1, c, hg, h => by
  have hu := fJ c hg.2; unfold pa
  by_cases hs : t < al 6 c
  · rw [if_pos hs]
    by_cases hj : fb c c.length 0 (-1) < 0
    · have h0 := ((rD c c.length 0 (-1) (by omega) (.inl (by omega))).1 hj).2; have : al 6 c = 0 := vA _ _ fun d hd => by
       obtain ⟨i, hi, rfl⟩ := oy hd; have := h0 i (by omega) hi; have := (bQ (cd hi hg.2)).2.2.2.2.1; omega
      omega
    · rw [if_neg hj]; obtain ⟨a1, a2, a3, a4⟩ := Li hg hs (by omega); have has := eg.set a1 (BE (al 6 c - t) (ae c (fb c c.length 0 (-1)).toNat)); generalize c.set (fb c c.length 0 (-1)).toNat (fu (al 6 c - t) (ae c (fb c c.length 0 (-1)).toNat)) = c' at *
      obtain ⟨b1, b2, b3, b4⟩ := Dv t h0 k c' a2 (by omega); exact ⟨b1, has.trans b2, fun _ => b3 a4, fun _ => by omega⟩
  · rw [if_neg hs]; exact ⟨hg, .refl c, fun _ => by omega, fun _ => rfl⟩
theorem Eg {t : Int} {c : List Dat} (hg : dm c) (h0 : 0 <= t) (h1 : t <= bj unD c) : dm (fc t c) /\ eg c (fc t c) /\ al 6 (fc t c) = t := by
 obtain ⟨a1, a2, a3, a4⟩ := Dq t (c.length + 2) c hg (zZ t c); unfold fc; rw [show max t 0 = t by omega]; obtain ⟨b1, b2, b3, b4⟩ := Dv t h0 (c.length + 2) (rg (c.length + 2) t c) a1 (by have := Aw t (rg (c.length + 2) t c); rwa [a2.len] at this); refine ⟨b1, a2.trans b2, ?_⟩
 by_cases hs : al 6 c <= t
 · have := a3 hs; rw [b4 (by omega)]; omega
 · rw [a4 (by omega)] at b3 ⊢; exact b3 (by omega)
structure O6 (d : bk) : Prop where
 year : 1 <= d.a.year /\ d.a.year <= 9000
 month : 1 <= d.a.month /\ d.a.month <= 12
 basis : 0 <= d.a.basis /\ d.a.basis <= 2
 fee : 0 <= d.b.fee /\ d.b.fee <= 5000
 bl : 0 <= d.b.bl /\ d.b.bl <= 1099511627776
 target : 0 <= d.b.target /\ d.b.target <= 10000
 advance : 0 <= d.b.advance /\ d.b.advance <= 1099511627776
 dR : 0 <= d.b.dR /\ d.b.dR <= 600
 oc : 0 <= d.b.oc /\ d.b.oc <= 100000
 ic : 0 <= d.b.ic /\ d.b.ic <= 100000
 late : 0 <= d.b.late /\ d.b.late <= 100000
 lq : 0 <= d.b.lq /\ d.b.lq <= 100000
 clean : 0 <= d.b.clean /\ d.b.clean <= 100000
 PY : ((bH d).getD (0, 0)).1 = al 1 d.aM
 bh : 0 <= al 1 d.aM /\ al 1 d.aM <= 1099511627776
 OM : 1 <= d.aM.length /\ d.aM.length <= 64
 FQ : ∀ x ∈ d.aM, 0 <= x.i 1 /\ x.i 1 <= 1099511627776
 ids : (d.aM.map fun x => x.i 0).Pairwise (· < ·)
 pos : ∀ x ∈ d.aM, 0 < x.i 0
 QC : 1 <= d.notes.length /\ d.notes.length <= 8
 note : ∀ x ∈ d.notes, (0 <= x.i 0 /\ x.i 0 <= 7) /\ (1 <= x.i 1 /\ x.i 1 <= 1099511627776) /\ (0 <= x.i 2 /\ x.i 2 <= 5000)
 sumn : al 1 d.notes <= al 1 d.aM
 s0 : cN d.s0 = true
 s1 : cN d.s1 = true
 s2 : cN d.s2 = true
theorem wk : ∀ (l : List Dat) (last all r : Int), 0 <= all -> fM last all l = some r -> r = all + al 1 l /\ (all <= 1099511627776 -> r <= 1099511627776) /\ (∀ x ∈ l, 0 <= x.i 1 /\ x.i 1 <= 1099511627776 /\ last < x.i 0) /\ (l.map fun x => x.i 0).Pairwise (· < ·)
 | [], last, all, r, h0, h => by
  simp only [fM, Option.some.injEq] at h; subst h; exact ⟨by simp [al], fun h => h, fun x hx => by simp at hx, List.Pairwise.nil⟩
 | d :: l, last, all, r, h0, h => by
  unfold fM at h
  split at h
  · cases h
  · rename_i hl
    split at h
    · rename_i hb; obtain ⟨h1, h2, h3, h4⟩ := wk l _ _ _ (by omega) h; refine ⟨by simp only [al]; omega, fun _ => h2 (by omega), fun x hx => ?_, ?_⟩
      · rcases List.mem_cons.1 hx with rfl | hx
        · omega
        · have := h3 x hx; omega
      · simp only [List.map_cons, List.pairwise_cons]; refine ⟨fun y hy => ?_, h4⟩; obtain ⟨x, hx, rfl⟩ := List.mem_map.1 hy; exact (h3 x hx).2.2
    · cases h
theorem vK (most : Int) (hm : most <= 1099511627776) : ∀ (l : List Dat) (all r : Int), 0 <= all -> iV most all l = some r -> r = all + al 1 l /\ (all <= most -> r <= most) /\ ∀ x ∈ l, (0 <= x.i 0 /\ x.i 0 <= 7) /\ (1 <= x.i 1 /\ x.i 1 <= 1099511627776) /\ (0 <= x.i 2 /\ x.i 2 <= 5000)
 | [], all, r, h0, h => by
  simp only [iV, Option.some.injEq] at h; subst h; exact ⟨by simp [al], fun h => h, fun x hx => by simp at hx⟩
 | d :: l, all, r, h0, h => by
  unfold iV at h
  split at h
  · rename_i hb; obtain ⟨h1, h2, h3⟩ := vK most hm l _ _ (by omega) h; refine ⟨by simp only [al]; omega, fun _ => h2 (by omega), fun x hx => ?_⟩; rcases List.mem_cons.1 hx with rfl | hx
    · omega
    · exact h3 x hx
  · cases h
theorem eu {d : bk} (h : (bH d).isSome = true) : O6 d := by
 unfold bH at h
 split at h
 · cases h
 · rename_i p hp
   split at h
   · cases h
   · rename_i n hn
     split at h
     · rename_i hc; have hs : bH d = some (p, n) := by unfold bH; simp only [hp, hn, if_pos hc]
       simp only [Bool.and_eq_true, kx, decide_eq_true_eq] at hc; obtain ⟨⟨t1, t2, t3, t4, t5, t6, t7, t8, t9, t10, t11, t12, t13⟩, s0, s1, s2⟩ := hc; unfold dN at hp
       split at hp
       · rename_i hl; obtain ⟨l1, l2, l3, l4⟩ := wk _ _ _ _ (by omega) hp; have l2 := l2 (by omega); unfold gu at hn
         split at hn
         · rename_i hnl; obtain ⟨n1, n2, n3⟩ := vK p (by omega) _ _ _ (by omega) hn; have h0 := eB 1 d.aM fun x hx => (l3 x hx).1
           have n2 := n2 (by omega); exact ⟨t6, t7, t8, t9, t10, t11, t12, t13, t1, t2, t3, t4, t5, by rw [hs]; show p = _; omega, by omega, hl, fun x hx => ⟨(l3 x hx).1, (l3 x hx).2.1⟩, l4, fun x hx => (l3 x hx).2.2, hnl, n3, by omega, s0, s1, s2⟩
         · cases hn
       · cases hp
     · cases h
def g9 (T : ab) : bk := ⟨T.a, T.aM, T.notes, T.b, T.s0, T.s1, T.s2⟩
structure ku (T : ab) : Prop where
 xy : (bH (g9 T)).isSome = true
 Pd : T.tr.map (fun d => (d.i 0, d.i 1, d.i 2)) = T.notes.map (fun d => (d.i 0, d.i 1, d.i 2))
 Jj : ∀ d ∈ T.tr, aI d = true /\ d.i 5 <= 1200000000000 * T.n.period
 ids : T.bh.map (fun d => d.i 0) = T.aM.map (fun d => d.i 0)
 FQ : ∀ d ∈ T.bh, jl d
 bal : al 1 T.bh + al 2 T.bh + T.n.aW <= al 1 T.aM
 lost : T.n.aJ - T.n.aW = al 2 T.bh
 E1 : 0 <= T.n.aW
 period : 0 <= T.n.period /\ T.n.period <= 600
 mode : 0 <= T.n.mode /\ T.n.mode <= 2
 aZ : 0 <= T.n.aZ /\ T.n.aZ <= T.n.period
 fee : 0 <= T.n.fee /\ T.n.fee <= 1200000000000 * T.n.period
 out : 0 <= T.n.out /\ T.n.out <= T.b.advance
 res : 0 <= T.n.bg /\ T.n.bg <= T.n.rin /\ T.n.rin <= 1200000000000 * (T.n.period + 1)
 down : al 6 T.tr <= al 2 T.bh
section
variable (T : ab) (l : List Dat)
def cP : Fv := az l T.bh
def fD : Int := cG T.a T.n.period (al 1 T.bh) T.b.fee
def jx : Int := bj (fun d => cG T.a T.n.period (bc d) (d.i 2)) T.tr
def cTr : List Dat := T.tr.map (dr T.a T.n.period)
def cIn : Int := (cP T l).p + (cP T l).q + (cP T l).r
def jn : Int := T.n.fee + fD T + al 5 (cTr T) - cIn T l
def cE : Int := eP (jn T l) (T.n.rin - T.n.bg)
def jI : Int := BB (jn T l) (T.n.rin - T.n.bg) (T.b.advance - T.n.out)
def cN1 : aj := { T.n with fee := T.n.fee + fD T, bg := T.n.bg + cE T l }
def cX : ba := ⟨cIn T l + cE T l + jI T l, T.n.fee + fD T, T.n.out, min ((cP T l).p + (cP T l).r + (cP T l).l) (bj bc (cTr T)), tu T.b.target (al 1 (cP T l).bh) (T.n.rin - (T.n.bg + cE T l))⟩
def bP : ba × List Dat × List Dat := dn 0 (eS (g9 T) T.n.mode) (cX T l) ((cTr T).map eD)
def cT : aj × List Dat := cK (bP T l).2.2 (cN1 T l) (cTr T)
def cN2 : aj := { (cT T l).1 with out := (cT T l).1.out + jI T l, aJ := (cT T l).1.aJ + (cP T l).l, aW := (cT T l).1.aW + (cP T l).r }
def ju : List Dat := fc (cA (bj unD (cT T l).2) (al 1 (cP T l).bh) (cN2 T l).aJ (cN2 T l).aW) (cT T l).2
def CO : Int × Int := du T.n.mode T.n.aZ T.b.dR (T.b.oc == 0 || bF (al 1 (cP T l).bh) (bj bc (ju T l)) T.b.oc) (T.b.ic == 0 || bF (min (cP T l).q 1099511627776) (min (jx T) 1099511627776) T.b.ic)
 (T.b.late == 0 || bU (cj 2 (cP T l).bh + cj 3 (cP T l).bh) (al 1 (cP T l).bh) T.b.late) (T.b.lq == 0 || bU ((cN2 T l).aJ - (cN2 T l).aW) (al 1 T.aM) T.b.lq)
def cN3 : aj := { cN2 T l with mode := (CO T l).1, aZ := (CO T l).2, period := T.n.period + 1 }
end
structure Bf where
 ra : gL
 rb : fy
 next : Int
 e : Int
 t : ab
 IA : List Dat
 notes : List Dat
def noR (e : Int) (T : ab) : Bf := ⟨⟨false, 0, 0, 0, 0, 0, 0, 0, 0, 0, 0⟩, ⟨0, 0, 0, 0, 0⟩, 0, e, T, [], []⟩
def xi (T : ab) (l : List Dat) : Bf :=
 ⟨⟨false, T.n.period + 1, T.n.mode, (cP T l).p, (cP T l).q, (cP T l).l, (cP T l).r, cE T l, jI T l, fD T, jx T⟩, ⟨(bP T l).1.ay, al 1 (cP T l).bh, (cN2 T l).rin - (cN2 T l).bg, (cN2 T l).out, (cN2 T l).fee⟩, (CO T l).1, 0,
  { T with n := cN3 T l, bh := (cP T l).bh, tr := ju T l }, (bP T l).2.2, (ju T l).map qW⟩
def aX (T : ab) (l : List Dat) : Bf := bif T.n.lO then noR 5 T else bif decide (T.n.period >= 600) then noR 4 T else bif (cP T l).e != 0 then noR (cP T l).e T else xi T l
theorem AL (f : Dat -> Dat) {l : List Dat} {i : Nat} (h : i < l.length) : ae (l.map f) i = f (ae l i) := by
 rw [mf (by simpa using h), mf h, List.getElem_map]
theorem zu (a : au) (p : Int) : ∀ l : List Dat, al 5 (l.map (dr a p)) = al 5 l + bj (fun d => cG a p (bc d) (d.i 2)) l /\ al 6 (l.map (dr a p)) = al 6 l /\ bj bc (l.map (dr a p)) = bj bc l
 | [] => ⟨rfl, rfl, rfl⟩
 | d :: l => by
  obtain ⟨h1, h2, h3⟩ := zu a p l; have e5 : (dr a p d).i 5 = d.i 5 + cG a p (bc d) (d.i 2) := rfl; have e6 : (dr a p d).i 6 = d.i 6 := rfl; have eb : bc (dr a p d) = bc d := rfl; simp only [List.map_cons, al, bj, h1, h2, h3, e5, e6, eb]
  and_intros <;> first | trivial | omega
theorem C9 (f : Dat -> Int) (b : Int) : ∀ l : List Dat, (∀ d ∈ l, 0 <= f d /\ f d <= b) -> 0 <= bj f l /\ bj f l <= b * l.length
 | [], _ => by simp [bj]
 | d :: l, h => by
  have h1 := h d (by simp); have h2 := C9 f b l fun x hx => h x (by simp [hx])
  simp only [bj, List.length_cons, Int.natCast_add, Int.mul_add]; omega
theorem G5 {n b : Int} (h1 : 0 <= n) (h2 : n <= 1099511627776) (h3 : 0 <= b) (h4 : b <= 10000) : mdV n b 10000 0 = n * b / 10000 /\ 0 <= mdV n b 10000 0 /\ mdV n b 10000 0 <= n := by
 have hm := Int.mul_le_mul_of_nonneg_left h4 h1; have hz := Int.mul_nonneg h1 h3; have i := PH (n := n) (b := b) (p := 10000) (h := 0) h1 (by omega) h3 (by omega) (by omega) (by omega) (by omega) (by omega) (by omega); rw [i.2.1, Mm]; omega
theorem iN {l : List Dat} (h : cN l = true) : 1 <= l.length /\ l.length <= 16 := by
 simp only [cN, Bool.and_eq_true, decide_eq_true_eq] at h; omega
theorem Ej {T : ab} {i : Nat} (hi : i < (cTr T).length) : ae ((cTr T).map eD) i = eD (ae (cTr T) i) := AL _ hi
section
variable {T : ab} {l : List Dat} (h : ku T) (hp : T.n.period < 600) (he : (cP T l).e = 0)
include h
theorem wB : T.tr.length = T.notes.length := by
 have := congrArg List.length h.Pd; simpa using this
theorem fo : T.tr.length <= 8 /\ 1 <= T.tr.length := by
 have := (eu h.xy).QC; rw [wB h]; exact ⟨this.2, this.1⟩
theorem zD : dm T.tr := ⟨by have := fo h; omega, fun d hd => (h.Jj d hd).1⟩
theorem ti : T.bh.length = T.aM.length /\ T.bh.length <= 64 := by
 have := congrArg List.length h.ids; have := (eu h.xy).OM; simp only [List.length_map, g9] at *
 omega
theorem jP : 0 <= al 1 T.bh /\ 0 <= al 2 T.bh /\ al 1 T.bh + al 2 T.bh + T.n.aW <= 1099511627776 := by
 have h1 := fi h.FQ; have h2 := (eu h.xy).bh.2; have h3 := h.bal; have : al 1 (g9 T).aM = al 1 T.aM := rfl; omega
theorem jT : (0 <= fD T /\ fD T <= 1200000000000) /\ dm (cTr T) /\ (∀ d ∈ cTr T, d.i 5 <= 1200000000000 * (T.n.period + 1)) /\ (jx T = al 5 (cTr T) - al 5 T.tr /\ 0 <= jx T /\ jx T <= 1200000000000 * T.tr.length) /\ bj bc (cTr T) = bj bc T.tr /\ al 6 (cTr T) = al 6 T.tr := by
 have D := eu h.xy; obtain ⟨b1, b2, b3⟩ := jP h; have r0 := h.E1; have hs : ∀ d ∈ T.tr, 0 <= cG T.a T.n.period (bc d) (d.i 2) /\ cG T.a T.n.period (bc d) (d.i 2) <= 1200000000000 := fun d hd =>
  nV _ D.year.1 D.year.2 D.month.1 D.month.2 h.period.1 (by have := h.period.2; omega) (EB (h.Jj d hd).1).1 (EB (h.Jj d hd).1).2
 obtain ⟨a1, a2, a3⟩ := zu T.a T.n.period T.tr; have sd := C9 (fun d => cG T.a T.n.period (bc d) (d.i 2)) 1200000000000 T.tr hs; have hsh : ∀ d ∈ cTr T, aI d = true /\ d.i 5 <= 1200000000000 * (T.n.period + 1) := fun d hd => by
  obtain ⟨x, hx, rfl⟩ := List.mem_map.1 hd; obtain ⟨g, g5⟩ := h.Jj x hx; have g' := bQ g; have := hs x hx; have := h.period; have e5 : (dr T.a T.n.period x).i 5 = x.i 5 + cG T.a T.n.period (bc x) (x.i 2) := rfl; refine ⟨decide_eq_true ?_, by omega⟩; rw [e5]; show (0 <= x.i 1 /\ x.i 1 <= 1099511627776 /\ 0 <= x.i 3 /\ x.i 4 = 0 /\ 0 <= x.i 6 /\ x.i 3 + x.i 6 <= x.i 1 /\ _); omega
 refine ⟨nV _ D.year.1 D.year.2 D.month.1 D.month.2 h.period.1 (by have := h.period.2; omega) b1 (by omega), ⟨by simp only [cTr, List.length_map]; have := fo h; omega, fun d hd => (hsh d hd).1⟩, fun d hd => (hsh d hd).2, ⟨?_, sd.1, sd.2⟩, a3, a2⟩; show bj _ T.tr = al 5 (T.tr.map (dr T.a T.n.period)) - al 5 T.tr; omega
theorem ov : (cTr T).length = T.tr.length := by simp [cTr]
include he
theorem rK : (∀ d ∈ (cP T l).bh, jl d) /\ (cP T l).bh.map (fun d => d.i 0) = T.bh.map (fun d => d.i 0) /\ al 1 (cP T l).bh = al 1 T.bh - (cP T l).p - (cP T l).l /\ al 2 (cP T l).bh = al 2 T.bh + (cP T l).l - (cP T l).r /\
 0 <= (cP T l).p /\ 0 <= (cP T l).l /\ 0 <= (cP T l).r /\ 0 <= (cP T l).q /\ (cP T l).q <= 70368744177664 := by
 have b := jP h; have r0 := h.E1; exact Ep h.FQ (by omega) he
theorem kL : (0 <= cIn T l /\ cIn T l <= 75000000000000) /\ (-1000000000000000 <= jn T l /\ jn T l <= 10000000000000000) /\ (0 <= cE T l /\ cE T l <= T.n.rin - T.n.bg /\ cE T l <= max (jn T l) 0) /\ (0 <= jI T l /\ jI T l <= T.b.advance - T.n.out) := by
 obtain ⟨p1, p2, p3, p4, p5, p6, p7, p8, p9⟩ := rK h he; obtain ⟨a1, a2, a3, a4, a5⟩ := jT h; have n1 := fi p1; have b := jP h; have r0 := h.E1; have hi : 0 <= cIn T l /\ cIn T l <= 75000000000000 := by unfold cIn; omega
 have s5 := (fJ (cTr T) a2.2).2.1; have hl := fo h; have f := h.fee; have p := h.period; have s5' : al 5 (cTr T) <= 1200000000000 * 601 * 8 := by
  have := ou 5 (1200000000000 * 601) (cTr T) fun d hd => ⟨(bQ (a2.2 d hd)).2.2.2.2.2.2.1, by have := a3 d hd; omega⟩
  have := ov h; omega
 have hn : -1000000000000000 <= jn T l /\ jn T l <= 10000000000000000 := by unfold jn; omega
 have r := h.res; have o := h.out; refine ⟨hi, hn, ?_, ?_⟩
 · unfold cE eP; omega
 · unfold jI BB; omega
theorem ze : mK (cX T l) = true /\ aP ((cTr T).map eD) = true /\ ((cX T l).room <= 1099511627776 /\ (cX T l).ay <= 800000000000000) := by
 obtain ⟨p1, p2, p3, p4, p5, p6, p7, p8, p9⟩ := rK h he; obtain ⟨a1, a2, a3, a4, a5⟩ := jT h; obtain ⟨c1, c2, c3, c4⟩ := kL h he; have n1 := fi p1; have b := jP h; have D := eu h.xy; have r := h.res; have o := h.out; have hpe := h.period; have f := h.fee; have r0 := h.E1; have sb := (fJ (cTr T) a2.2).1; have tg : 0 <= T.b.target /\ T.b.target <= 10000 := D.target; have ad : T.b.advance <= 1099511627776 := D.advance.2; have g := G5 (n := al 1 (cP T l).bh) (b := T.b.target) n1.1 (by omega) tg.1 tg.2; refine ⟨decide_eq_true ?_, uJ (by rw [List.length_map]; exact a2.1) fun d hd => ?_, ?_, ?_⟩
 · simp only [cX, tu]; omega
 · obtain ⟨x, hx, rfl⟩ := List.mem_map.1 hd; have g := bQ (a2.2 x hx); have gb := EB (a2.2 x hx); simp only [jt, eD, Bool.and_eq_true, dQ, gr]; clear p1 p2 p3 p4 p5 p6 p7 p8 p9 a1 a3 a4 a5 c1 c2 c3 c4 D r o f r0 sb tg ad b n1 hpe; exact ⟨rfl, decide_eq_true (by omega)⟩
 · simp only [cX, tu]; omega
 · simp only [cX]; omega
end
section
variable {T : ab} {l : List Dat} (h : ku T) (hp : T.n.period < 600) (he : (cP T l).e = 0)
include h
theorem qq : cN (eS (g9 T) T.n.mode) = true := by
 have D := eu h.xy; have m := h.mode; unfold eS
 by_cases m0 : T.n.mode = 0
 · rw [if_pos m0]; exact D.s0
 rw [if_neg m0]
 by_cases m1 : T.n.mode = 1
 · rw [if_pos m1]; exact D.s1
 rw [if_neg m1, if_pos (by omega)]; exact D.s2
include he
theorem pQ : Kept (cX T l) ((cTr T).map eD) (bP T l).2.2 (bP T l).1 (bP T l).2.1 /\ (∀ d ∈ (bP T l).2.2, Ht T.tr.length 0 (eS (g9 T) T.n.mode) d) /\ mK (bP T l).1 = true /\ aP (bP T l).2.1 = true /\ (bP T l).2.2.length <= 128000 := by
 obtain ⟨x1, x2, x3, x4⟩ := ze h he; have k := wC (eS (g9 T) T.n.mode) 0 (cX T l) _ x1 x2; have o := DU (eS (g9 T) T.n.mode) 0 (cX T l) _ x1 x2; have sl := iN (qq h); have e : ((cTr T).map eD).length = T.tr.length := by rw [List.length_map, ov h]
 rw [e] at k; exact ⟨k.1, k.2.1, o.1, o.2.1, by have := o.2.2.2; unfold bP; omega⟩
theorem m9 : (∀ d ∈ (bP T l).2.2, 1 <= d.i 3 /\ ((d.i 1 = 1 \/ d.i 1 = 2 \/ d.i 1 = 6) \/ (0 <= d.i 2 /\ d.i 2 < (T.tr.length : Int)))) /\ al 3 (bP T l).2.2 <= 800000000000000 /\
 (0 <= aU kF (bP T l).2.2 /\ aU kF (bP T l).2.2 <= T.n.fee + fD T) /\ (0 <= aU kR (bP T l).2.2 /\ aU kR (bP T l).2.2 <= T.n.out) /\ (0 <= aU kT (bP T l).2.2 /\ aU kT (bP T l).2.2 <= (cX T l).room) /\
 ∀ i, i < T.tr.length -> (0 <= aU (toB i) (bP T l).2.2 /\ aU (toB i) (bP T l).2.2 <= bc (ae (cTr T) i)) /\ (0 <= aU (toI i) (bP T l).2.2 /\ aU (toI i) (bP T l).2.2 <= (ae (cTr T) i).i 5) := by
 obtain ⟨k, p, g, c, _⟩ := pQ h he; obtain ⟨x1, x2, x3, x4⟩ := ze h he; have g := rX g; have hpp : ∀ d ∈ (bP T l).2.2, 1 <= d.i 3 /\ ((d.i 1 = 1 \/ d.i 1 = 2 \/ d.i 1 = 6) \/ (0 <= d.i 2 /\ d.i 2 < (T.tr.length : Int))) := fun d hd => by
  obtain ⟨_, _, h1, h2, h3, h4⟩ := p d hd; refine ⟨h2, ?_⟩; rw [<- h1] at h4
  by_cases hn : d.i 2 < 0
  · exact .inl (h4.1 hn)
  · exact .inr (by omega)
 have n0 := fun f => jg f (bP T l).2.2 fun d hd => by have := (hpp d hd).1; omega
 have kf := k.fee; have kr := k.bz; have kt := k.room; have kc := k.ay; have e1 : (cX T l).fee = T.n.fee + fD T := rfl; have e2 : (cX T l).bz = T.n.out := rfl; refine ⟨hpp, by omega, ⟨n0 _, by omega⟩, ⟨n0 _, by omega⟩, ⟨n0 _, by omega⟩, fun i hi => ?_⟩; have hl := ov h; have hr := k.row i (by rw [List.length_map]; omega); rw [Ej (by omega)] at hr; have hc := cf ((bC c).2 _ (sV (l := (bP T l).2.1) (j := i) (by rw [k.len, List.length_map]; omega))); rw [hr] at hc; have b1 : (eD (ae (cTr T) i)).i 1 = bc (ae (cTr T) i) := rfl; have b2 : (eD (ae (cTr T) i)).i 2 = (ae (cTr T) i).i 5 := rfl; simp only [dQ, gr, b1, b2] at hc; exact ⟨⟨n0 _, by omega⟩, ⟨n0 _, by omega⟩⟩
theorem iO : (cT T l).1 = { T.n with fee := T.n.fee + fD T - aU kF (bP T l).2.2, out := T.n.out - aU kR (bP T l).2.2, rin := T.n.rin + aU kT (bP T l).2.2, bg := T.n.bg + cE T l } /\ (cT T l).2.length = T.tr.length /\ dm (cT T l).2 /\
 (∀ i, i < T.tr.length -> ry (ae (cTr T) i) (ae (cT T l).2 i) (aU (toB i) (bP T l).2.2) (aU (toI i) (bP T l).2.2)) /\ vT (bP T l).2.2 (cN1 T l) (cTr T) = true := by
 obtain ⟨s1, s2, s3, s4, s5, s6⟩ := m9 h he; obtain ⟨k, p, g, c, pl⟩ := pQ h he; obtain ⟨a1, a2, a3, a4, a5⟩ := jT h; obtain ⟨c1, c2, c3, c4⟩ := kL h he; have hl := ov h; obtain ⟨d1, d2, d3⟩ := vW (bP T l).2.2 (cN1 T l) (cTr T) (fun d hd => by have := (s1 d hd).1; omega) (fun d hd => by rw [hl]; exact (s1 d hd).2) (fun i hi => by have := s6 i (by omega); omega); have f := h.fee; have o := h.out; have r := h.res; have hpe := h.period; have ad : T.b.advance <= 1099511627776 := (eu h.xy).advance.2; have hg : dm (cT T l).2 := by
  have hdl : (cT T l).2.length = (cTr T).length := d2; refine ⟨by have := a2.1; omega, fun d hd => ?_⟩; obtain ⟨i, hi, rfl⟩ := oy hd; obtain ⟨_, e1, _, e3, e4, e5, e6⟩ := d3 i (by omega); have := s6 i (by omega); have gi := bQ (cd (c := cTr T) (i := i) (by omega) a2.2); have e1' : (ae (cT T l).2 i).i 1 = (ae (cTr T) i).i 1 := e1; have e3' : (ae (cT T l).2 i).i 3 = (ae (cTr T) i).i 3 + aU (toB i) (bP T l).2.2 := e3; have e4' : (ae (cT T l).2 i).i 4 = (ae (cTr T) i).i 4 := e4; have e5' : (ae (cT T l).2 i).i 5 = (ae (cTr T) i).i 5 - aU (toI i) (bP T l).2.2 := e5; have e6' : (ae (cT T l).2 i).i 6 = (ae (cTr T) i).i 6 := e6; refine decide_eq_true ?_
  rw [e1', e3', e4', e5', e6']; unfold bc at this; omega
 refine ⟨d1, d2.trans hl, hg, fun i hi => d3 i (by omega), ?_⟩; simp only [vT, Bool.and_eq_true, decide_eq_true_eq, List.all_eq_true]; refine ⟨by omega, fun d hd => ?_, ⟨by omega, ?_⟩, a2⟩
 · have := s1 d hd; simp only [D3, Bool.and_eq_true, Bool.or_eq_true, decide_eq_true_eq, hl]; exact ⟨by omega, this.2⟩
 · simp only [cN1]; omega
theorem tq : cN2 T l = { T.n with fee := T.n.fee + fD T - aU kF (bP T l).2.2, out := T.n.out - aU kR (bP T l).2.2 + jI T l, rin := T.n.rin + aU kT (bP T l).2.2, bg := T.n.bg + cE T l, aJ := T.n.aJ + (cP T l).l, aW := T.n.aW + (cP T l).r } := by
 unfold cN2; rw [(iO h he).1]
theorem vQ : 0 <= cA (bj unD (cT T l).2) (al 1 (cP T l).bh) (cN2 T l).aJ (cN2 T l).aW /\ cA (bj unD (cT T l).2) (al 1 (cP T l).bh) (cN2 T l).aJ (cN2 T l).aW <= bj unD (cT T l).2 /\
 cA (bj unD (cT T l).2) (al 1 (cP T l).bh) (cN2 T l).aJ (cN2 T l).aW <= al 2 (cP T l).bh /\ (cN2 T l).aJ - (cN2 T l).aW = al 2 (cP T l).bh := by
 obtain ⟨p1, p2, p3, p4, p5, p6, p7, p8, p9⟩ := rK h he; have g := (iO h he).2.2.1; have u := (fJ _ g.2).2.2.2.1; have t := uT (bj unD (cT T l).2) (al 1 (cP T l).bh) (cN2 T l).aJ (cN2 T l).aW; have n1 := fi p1; have hl := h.lost; have e : (cN2 T l).aJ - (cN2 T l).aW = al 2 (cP T l).bh := by rw [tq h he]; simp only; omega
 omega
theorem o6 : dm (ju T l) /\ eg (cT T l).2 (ju T l) /\ al 6 (ju T l) = cA (bj unD (cT T l).2) (al 1 (cP T l).bh) (cN2 T l).aJ (cN2 T l).aW := by
 have t := vQ h he; exact Eg (iO h he).2.2.1 t.1 t.2.1
theorem EH : (ju T l).length = T.tr.length /\ ∀ i, i < T.tr.length -> (ae (ju T l) i).i 0 = (ae T.tr i).i 0 /\ (ae (ju T l) i).i 1 = (ae T.tr i).i 1 /\ (ae (ju T l) i).i 2 = (ae T.tr i).i 2 /\ (ae (ju T l) i).i 3 = (ae T.tr i).i 3 + aU (toB i) (bP T l).2.2 /\ (ae (ju T l) i).i 4 = (ae T.tr i).i 4 /\
 (ae (ju T l) i).i 5 = (ae T.tr i).i 5 + cG T.a T.n.period (bc (ae T.tr i)) ((ae T.tr i).i 2) - aU (toI i) (bP T l).2.2 /\ ae (cTr T) i = dr T.a T.n.period (ae T.tr i) := by
 obtain ⟨d1, d2, d3, d4, d5⟩ := iO h he; obtain ⟨g, s, _⟩ := o6 h he; refine ⟨s.len.trans d2, fun i hi => ?_⟩; obtain ⟨r0, r1, r2, r3, r4, r5⟩ := s.row i (by omega); obtain ⟨e0, e1, e2, e3, e4, e5, e6⟩ := d4 i hi; have hr : ae (cTr T) i = dr T.a T.n.period (ae T.tr i) := AL _ hi; rw [hr] at e0 e1 e2 e3 e4 e5; have q5 : (dr T.a T.n.period (ae T.tr i)).i 5 = (ae T.tr i).i 5 + cG T.a T.n.period (bc (ae T.tr i)) ((ae T.tr i).i 2) := rfl; rw [q5] at e5; exact ⟨r0.trans e0, r1.trans e1, r2.trans e2, r3.trans e3, r4.trans e4, r5.trans e5, hr⟩
include hp
end
end
end Go.Proofs.YtdbkoeefnodejaaGreat
namespace Go.Proofs.YtdbkoeefnodejaaGreat
noncomputable section
open Go Go.Proofs.YtdbkoeefnodejaaGreat.Ev
set_option maxRecDepth 20000
def oS (T : ab) : Bool := @decide (ku T) (Classical.propDecidable _)
theorem nz {T : ab} : oS T = true ↔ ku T := by unfold oS; simp
theorem DX {l : List Dat} (h : ∀ d ∈ l, jl d) (hl : l.length <= 1000) : (decide (l.length <= 1000) && l.all cJ) = true := by
 rw [Bool.and_eq_true, List.all_eq_true]; exact ⟨decide_eq_true hl, fun d hd => decide_eq_true (by have := h d hd; unfold jl at this; omega)⟩
theorem BH {T : ab} (h : ku T) : T.aM.length < 1000000 /\ T.notes.length < 1000000 /\ T.s0.length < 1000000 /\ T.s1.length < 1000000 /\ T.s2.length < 1000000 /\ T.bh.length < 1000000 /\ T.tr.length < 1000000 := by
 have D := eu h.xy; have h0 := iN D.s0; have h1 := iN D.s1; have h2 := iN D.s2; have h3 := ti h; have h4 := fo h; have h5 := wB h; have : (g9 T).aM = T.aM := rfl; have := D.OM; simp only [g9] at *
 omega
theorem AY {T : ab} (h : ku T) : (eS (g9 T) T.n.mode).length <= 16 := (iN (qq h)).2
def N13 : aD := ⟨T47.tab, 13, ⟨[.np 0 0 0, .ag (sB 6)], bs 0, 0⟩, ⟨[.agg [.bool, .int .i64, .int .i64, .int .i64, .int .i64, .int .i64, .int .i64, .int .i64, .int .i64, .int .i64, .int .i64, .buf 17 4, .int .i64, .int .i64, .int .i64, .int .i64, .int .i64, .buf 18 3, .int .i64], .int .i64], [.cells [.int .i64, .int .i64, .int .i64, .buf 9 2, .buf 10 3, .int .i64, .int .i64, .int .i64, .int .i64, .int .i64, .int .i64, .int .i64, .int .i64, .int .i64, .int .i64, .buf 11 2, .buf 12 2, .buf 13 2, .ptr 14 0 0, .buf 16 7, .int .i64, .int .i64, .int .i64, .int .i64, .int .i64, .int .i64, .int .i64, .int .i64, .int .i64, .bool], .gone, .gone, .gone, .gone, .gone, .gone, .gone, .gone, .ag (sI 2), .ag (sI 3), .ag (sI 2), .ag (sI 2), .ag (sI 2), .cells [.buf 15 5], .ag (sB 4), .ag (sI 7), .ag (sI 4), .ag (sI 3)], 0⟩, []⟩
def t13 (m : Nat) : Int × List Dat × au × av × aj × List Dat × List Dat × List Dat × List Dat × List Dat × List Dat × List Dat -> Option (List Un) := fun (a0, a1, a2, a3, a4, a5, a6, a7, a8, a9, a10, a11) =>
 chk (decide (0 <= a0)) <|
 bif a4.lO then
 some (Uns.enc ((⟨false, 0, 0, 0, 0, 0, 0, 0, 0, 0, 0⟩ : gL) : gL) ++ Uns.enc ((⟨0, 0, 0, 0, 0⟩ : fy) : fy) ++ [.i 0, .i 5] ++ Uns.enc (a2 : au) ++ Uns.enc (a3 : av) ++ Uns.enc (a4 : aj) ++ [.d a5, .d a6, .d a7, .d a8, .d a9, .d a10, .d a11, .d ([]), .d ([])])
 else
 chk (decide (0 <= a0)) <|
 bif (decide (a4.period >= 600)) then
 some (Uns.enc ((⟨false, 0, 0, 0, 0, 0, 0, 0, 0, 0, 0⟩ : gL) : gL) ++ Uns.enc ((⟨0, 0, 0, 0, 0⟩ : fy) : fy) ++ [.i 0, .i 4] ++ Uns.enc (a2 : au) ++ Uns.enc (a3 : av) ++ Uns.enc (a4 : aj) ++ [.d a5, .d a6, .d a7, .d a8, .d a9, .d a10, .d a11, .d ([]), .d ([])])
 else
 chk (decide (0 <= a0) && decide (a5.length < 1000000 /\ a6.length < 1000000 /\ a7.length < 1000000 /\ a8.length < 1000000 /\ a9.length < 1000000 /\ a10.length < 1000000 /\ a11.length < 1000000)) <|
 chk (decide (0 < ([.r [.r a10]] : List Dat).length) && (decide (((ae ([.r [.r a10]] : List Dat) 0).d 0).length <= 1000) && ((ae ([.r [.r a10]] : List Dat) 0).d 0).all cJ)) <|
 lt ((al 1 ((ae ([.r [.r a10]] : List Dat) 0).d 0)) : Int) fun x2 =>
 chk (decide (a10.length < 1000000)) <|
 bif (((az a1 a10).e) != 0) then
 some (Uns.enc ((⟨false, 0, 0, 0, 0, 0, 0, 0, 0, 0, 0⟩ : gL) : gL) ++ Uns.enc ((⟨0, 0, 0, 0, 0⟩ : fy) : fy) ++ [.i 0, .i ((az a1 a10).e)] ++ Uns.enc (a2 : au) ++ Uns.enc (a3 : av) ++ Uns.enc (a4 : aj) ++ [.d a5, .d a6, .d a7, .d a8, .d a9, .d a10, .d a11, .d ([]), .d ([])])
 else
 chk (decide ((1 <= a2.year /\ a2.year <= 9000 /\ 1 <= a2.month /\ a2.month <= 12) /\ (0 <= a4.period /\ a4.period <= 600) /\ (0 <= a4.fee /\ a4.fee <= 1125899906842624) /\ (0 <= x2 /\ x2 <= 1099511627776)) && (decide (a11.length <= 1000) && a11.all aI)) <|
 lt ((bj (fun d => cG a2 a4.period (bc d) (d.i 2)) a11) : Int) fun x4 =>
 lt (({ a4 with fee := a4.fee + cG a2 a4.period x2 a3.fee }) : aj) fun g5 =>
 chk (decide (0 <= 0) && (decide ((a11.map (dr a2 a4.period)).length <= 1000) && (a11.map (dr a2 a4.period)).all aI)) <|
 lt ((w64 (g5.fee + (al 5 (a11.map (dr a2 a4.period))))) : Int) fun x6 =>
 lt ((w64 ((w64 ((w64 ((w64 (((az a1 a10).p) + ((az a1 a10).q))) + ((az a1 a10).r))) + 0)) + 0)) : Int) fun x9 =>
 chk (decide (0 <= 0) && decide ((-1152921504606846976 <= (w64 (x6 - x9)) /\ (w64 (x6 - x9)) <= 1152921504606846976) /\ ((0 : Int) <= g5.bg /\ g5.bg <= g5.rin /\ g5.rin <= (1152921504606846976 : Int)) /\ (0 <= g5.out /\ g5.out <= 1152921504606846976) /\ (0 <= a3.advance /\ a3.advance <= 1152921504606846976))) <|
 lt ((eP (w64 (x6 - x9)) (g5.rin - g5.bg)) : Int) fun x10 =>
 lt ((BB (w64 (x6 - x9)) (g5.rin - g5.bg) (a3.advance - g5.out)) : Int) fun x11 =>
 lt (({ g5 with bg := g5.bg + eP (w64 (x6 - x9)) (g5.rin - g5.bg) }) : aj) fun g12 =>
 lt ((w64 ((w64 ((w64 ((w64 (((az a1 a10).p) + ((az a1 a10).q))) + ((az a1 a10).r))) + x10)) + x11)) : Int) fun x15 =>
 chk (decide (((0 <= ((az a1 a10).p) /\ ((az a1 a10).p) <= 1125899906842624) /\ (0 <= ((az a1 a10).l) /\ ((az a1 a10).l) <= 1125899906842624) /\ (0 <= ((az a1 a10).r) /\ ((az a1 a10).r) <= 1125899906842624)) /\ (0 <= g12.bg /\ g12.bg <= g12.rin /\ g12.rin <= 1152921504606846976)) && ((decide (((az a1 a10).bh).length <= 1000) && ((az a1 a10).bh).all cJ) && (decide ((a11.map (dr a2 a4.period)).length <= 1000) && (a11.map (dr a2 a4.period)).all aI))) <|
 lt ((min (((az a1 a10).p) + ((az a1 a10).r) + ((az a1 a10).l)) (bj bc (a11.map (dr a2 a4.period)))) : Int) fun x16 =>
 lt ((tu a3.target (al 1 ((az a1 a10).bh)) (g12.rin - g12.bg)) : Int) fun x17 =>
 chk (decide ((⟨a2, a5, a6, a3, a7, a8, a9⟩ : bk).s0.length < 1000000 /\ (⟨a2, a5, a6, a3, a7, a8, a9⟩ : bk).s1.length < 1000000 /\ (⟨a2, a5, a6, a3, a7, a8, a9⟩ : bk).s2.length < 1000000)) <|
 lt ((eS (⟨a2, a5, a6, a3, a7, a8, a9⟩ : bk) g12.mode) : List Dat) fun l18 =>
 chk (decide (l18.length <= 1000000) && (mK ⟨x15, g12.fee, g12.out, x16, x17⟩ && aP ((a11.map (dr a2 a4.period)).map eD))) <|
 lt (((dn 0 l18 ⟨x15, g12.fee, g12.out, x16, x17⟩ ((a11.map (dr a2 a4.period)).map eD)).2.2) : List Dat) fun l24 =>
 chk (decide (0 <= 0) && vT l24 g12 (a11.map (dr a2 a4.period))) <|
 lt (((cK l24 g12 (a11.map (dr a2 a4.period))).1).out : Int) fun x26 =>
 chk (decide (((0 <= ((az a1 a10).p) /\ ((az a1 a10).p) <= 1125899906842624) /\ (0 <= ((az a1 a10).l) /\ ((az a1 a10).l) <= 1125899906842624) /\ (0 <= ((az a1 a10).r) /\ ((az a1 a10).r) <= 1125899906842624)) /\ (0 <= ({ ((cK l24 g12 (a11.map (dr a2 a4.period))).1) with out := (w64 (x26 + x11)) } : aj).aJ /\ ({ ((cK l24 g12 (a11.map (dr a2 a4.period))).1) with out := (w64 (x26 + x11)) } : aj).aJ <= 1125899906842624) /\ (0 <= ({ ((cK l24 g12 (a11.map (dr a2 a4.period))).1) with out := (w64 (x26 + x11)) } : aj).aW /\ ({ ((cK l24 g12 (a11.map (dr a2 a4.period))).1) with out := (w64 (x26 + x11)) } : aj).aW <= 1125899906842624)) && ((decide (((az a1 a10).bh).length <= 1000) && ((az a1 a10).bh).all cJ) && (decide (((cK l24 g12 (a11.map (dr a2 a4.period))).2).length <= 1000) && ((cK l24 g12 (a11.map (dr a2 a4.period))).2).all aI))) <|
 lt (({ ({ ((cK l24 g12 (a11.map (dr a2 a4.period))).1) with out := (w64 (x26 + x11)) } : aj) with aJ := ({ ((cK l24 g12 (a11.map (dr a2 a4.period))).1) with out := (w64 (x26 + x11)) } : aj).aJ + ((az a1 a10).l), aW := ({ ((cK l24 g12 (a11.map (dr a2 a4.period))).1) with out := (w64 (x26 + x11)) } : aj).aW + ((az a1 a10).r) }) : aj) fun g27 =>
 lt ((fc (cA (bj unD ((cK l24 g12 (a11.map (dr a2 a4.period))).2)) (al 1 ((az a1 a10).bh)) (({ ((cK l24 g12 (a11.map (dr a2 a4.period))).1) with out := (w64 (x26 + x11)) } : aj).aJ + ((az a1 a10).l)) (({ ((cK l24 g12 (a11.map (dr a2 a4.period))).1) with out := (w64 (x26 + x11)) } : aj).aW + ((az a1 a10).r))) ((cK l24 g12 (a11.map (dr a2 a4.period))).2)) : List Dat) fun l28 =>
 chk (decide (0 <= 0) && ((decide (((az a1 a10).bh).length <= 1000) && ((az a1 a10).bh).all cJ) && (decide (l28.length <= 1000) && l28.all aI))) <|
 lt ((a3.oc == 0 || bF (al 1 ((az a1 a10).bh)) (bj bc l28) a3.oc) : Bool) fun x32 =>
 lt ((a3.ic == 0 || bF (min ((az a1 a10).q) 1099511627776) (min x4 1099511627776) a3.ic) : Bool) fun x33 =>
 lt ((a3.late == 0 || bU (cj 2 ((az a1 a10).bh) + cj 3 ((az a1 a10).bh)) (al 1 ((az a1 a10).bh)) a3.late) : Bool) fun x34 =>
 lt ((a3.lq == 0 || bU (w64 (g27.aJ - g27.aW)) (((bH (⟨a2, a5, a6, a3, a7, a8, a9⟩ : bk)).getD (0, 0)).1) a3.lq) : Bool) fun x35 =>
 chk (decide (0 <= g27.aZ /\ g27.aZ <= 1000000)) <|
 chk (decide (0 <= a0)) <|
 chk (decide (0 <= a0) && (decide (0 <= ({ g27 with mode := (du g27.mode g27.aZ a3.dR x32 x33 x34 x35).1, aZ := (du g27.mode g27.aZ a3.dR x32 x33 x34 x35).2, period := (w64 (g27.period + 1)) } : aj).bg /\ ({ g27 with mode := (du g27.mode g27.aZ a3.dR x32 x33 x34 x35).1, aZ := (du g27.mode g27.aZ a3.dR x32 x33 x34 x35).2, period := (w64 (g27.period + 1)) } : aj).bg <= ({ g27 with mode := (du g27.mode g27.aZ a3.dR x32 x33 x34 x35).1, aZ := (du g27.mode g27.aZ a3.dR x32 x33 x34 x35).2, period := (w64 (g27.period + 1)) } : aj).rin /\ ({ g27 with mode := (du g27.mode g27.aZ a3.dR x32 x33 x34 x35).1, aZ := (du g27.mode g27.aZ a3.dR x32 x33 x34 x35).2, period := (w64 (g27.period + 1)) } : aj).rin <= 1152921504606846976) && ((decide (((az a1 a10).bh).length <= 1000) && ((az a1 a10).bh).all cJ) && (decide (l28.length <= 1000) && l28.all aI)))) <|
 some (Uns.enc ((⟨false, (w64 (a4.period + 1)), a4.mode, (az a1 a10).p, (az a1 a10).q, (az a1 a10).l, (az a1 a10).r, x10, x11, (cG a2 a4.period x2 a3.fee), x4⟩ : gL) : gL) ++ Uns.enc ((⟨(⟨((dn 0 l18 ⟨x15, g12.fee, g12.out, x16, x17⟩ ((a11.map (dr a2 a4.period)).map eD)).1.ay), 0, 0, 0, 0⟩ : fy).fB, al 1 ((az a1 a10).bh), ({ g27 with mode := (du g27.mode g27.aZ a3.dR x32 x33 x34 x35).1, aZ := (du g27.mode g27.aZ a3.dR x32 x33 x34 x35).2, period := (w64 (g27.period + 1)) } : aj).rin - ({ g27 with mode := (du g27.mode g27.aZ a3.dR x32 x33 x34 x35).1, aZ := (du g27.mode g27.aZ a3.dR x32 x33 x34 x35).2, period := (w64 (g27.period + 1)) } : aj).bg, ({ g27 with mode := (du g27.mode g27.aZ a3.dR x32 x33 x34 x35).1, aZ := (du g27.mode g27.aZ a3.dR x32 x33 x34 x35).2, period := (w64 (g27.period + 1)) } : aj).out, ({ g27 with mode := (du g27.mode g27.aZ a3.dR x32 x33 x34 x35).1, aZ := (du g27.mode g27.aZ a3.dR x32 x33 x34 x35).2, period := (w64 (g27.period + 1)) } : aj).fee⟩ : fy) : fy) ++ [.i (({ g27 with mode := (du g27.mode g27.aZ a3.dR x32 x33 x34 x35).1, aZ := (du g27.mode g27.aZ a3.dR x32 x33 x34 x35).2, period := (w64 (g27.period + 1)) } : aj).mode), .i 0] ++ Uns.enc (a2 : au) ++ Uns.enc (a3 : av) ++ Uns.enc (({ g27 with mode := (du g27.mode g27.aZ a3.dR x32 x33 x34 x35).1, aZ := (du g27.mode g27.aZ a3.dR x32 x33 x34 x35).2, period := (w64 (g27.period + 1)) } : aj) : aj) ++ [.d a5, .d a6, .d a7, .d a8, .d a9, .d ((az a1 a10).bh), .d l28, .d l24, .d (l28.map qW)])
def f13 : Int × List Dat × au × av × aj × List Dat × List Dat × List Dat × List Dat × List Dat × List Dat × List Dat -> Bool × List Un := fun (a0, a1, a2, a3, a4, a5, a6, a7, a8, a9, a10, a11) => (decide (0 <= a0) && oS (⟨a2, a3, a4, a5, a6, a7, a8, a9, a10, a11⟩ : ab), Uns.enc (((aX (⟨a2, a3, a4, a5, a6, a7, a8, a9, a10, a11⟩ : ab) a1).ra) : gL) ++ Uns.enc (((aX (⟨a2, a3, a4, a5, a6, a7, a8, a9, a10, a11⟩ : ab) a1).rb) : fy) ++ [.i ((aX (⟨a2, a3, a4, a5, a6, a7, a8, a9, a10, a11⟩ : ab) a1).next), .i ((aX (⟨a2, a3, a4, a5, a6, a7, a8, a9, a10, a11⟩ : ab) a1).e)] ++ Uns.enc (((aX (⟨a2, a3, a4, a5, a6, a7, a8, a9, a10, a11⟩ : ab) a1).t.a) : au) ++ Uns.enc (((aX (⟨a2, a3, a4, a5, a6, a7, a8, a9, a10, a11⟩ : ab) a1).t.b) : av) ++ Uns.enc (((aX (⟨a2, a3, a4, a5, a6, a7, a8, a9, a10, a11⟩ : ab) a1).t.n) : aj) ++ [.d ((aX (⟨a2, a3, a4, a5, a6, a7, a8, a9, a10, a11⟩ : ab) a1).t.aM), .d ((aX (⟨a2, a3, a4, a5, a6, a7, a8, a9, a10, a11⟩ : ab) a1).t.notes), .d ((aX (⟨a2, a3, a4, a5, a6, a7, a8, a9, a10, a11⟩ : ab) a1).t.s0), .d ((aX (⟨a2, a3, a4, a5, a6, a7, a8, a9, a10, a11⟩ : ab) a1).t.s1), .d ((aX (⟨a2, a3, a4, a5, a6, a7, a8, a9, a10, a11⟩ : ab) a1).t.s2), .d ((aX (⟨a2, a3, a4, a5, a6, a7, a8, a9, a10, a11⟩ : ab) a1).t.bh), .d ((aX (⟨a2, a3, a4, a5, a6, a7, a8, a9, a10, a11⟩ : ab) a1).t.tr), .d ((aX (⟨a2, a3, a4, a5, a6, a7, a8, a9, a10, a11⟩ : ab) a1).IA), .d ((aX (⟨a2, a3, a4, a5, a6, a7, a8, a9, a10, a11⟩ : ab) a1).notes)])
set_option maxHeartbeats 4000000 in
theorem Ob (a0 : Int) (a1 : List Dat) (a2 : au) (a3 : av) (a4 : aj) (a5 : List Dat) (a6 : List Dat) (a7 : List Dat) (a8 : List Dat) (a9 : List Dat) (a10 : List Dat) (a11 : List Dat) (hc : (decide (0 <= a0) && oS (⟨a2, a3, a4, a5, a6, a7, a8, a9, a10, a11⟩ : ab)) = true) : ∃ m, t13 m (a0, a1, a2, a3, a4, a5, a6, a7, a8, a9, a10, a11) = some (Uns.enc (((aX (⟨a2, a3, a4, a5, a6, a7, a8, a9, a10, a11⟩ : ab) a1).ra) : gL) ++ Uns.enc (((aX (⟨a2, a3, a4, a5, a6, a7, a8, a9, a10, a11⟩ : ab) a1).rb) : fy) ++ [.i ((aX (⟨a2, a3, a4, a5, a6, a7, a8, a9, a10, a11⟩ : ab) a1).next), .i ((aX (⟨a2, a3, a4, a5, a6, a7, a8, a9, a10, a11⟩ : ab) a1).e)] ++ Uns.enc (((aX (⟨a2, a3, a4, a5, a6, a7, a8, a9, a10, a11⟩ : ab) a1).t.a) : au) ++ Uns.enc (((aX (⟨a2, a3, a4, a5, a6, a7, a8, a9, a10, a11⟩ : ab) a1).t.b) : av) ++ Uns.enc (((aX (⟨a2, a3, a4, a5, a6, a7, a8, a9, a10, a11⟩ : ab) a1).t.n) : aj) ++ [.d ((aX (⟨a2, a3, a4, a5, a6, a7, a8, a9, a10, a11⟩ : ab) a1).t.aM), .d ((aX (⟨a2, a3, a4, a5, a6, a7, a8, a9, a10, a11⟩ : ab) a1).t.notes), .d ((aX (⟨a2, a3, a4, a5, a6, a7, a8, a9, a10, a11⟩ : ab) a1).t.s0), .d ((aX (⟨a2, a3, a4, a5, a6, a7, a8, a9, a10, a11⟩ : ab) a1).t.s1), .d ((aX (⟨a2, a3, a4, a5, a6, a7, a8, a9, a10, a11⟩ : ab) a1).t.s2), .d ((aX (⟨a2, a3, a4, a5, a6, a7, a8, a9, a10, a11⟩ : ab) a1).t.bh), .d ((aX (⟨a2, a3, a4, a5, a6, a7, a8, a9, a10, a11⟩ : ab) a1).t.tr), .d ((aX (⟨a2, a3, a4, a5, a6, a7, a8, a9, a10, a11⟩ : ab) a1).IA), .d ((aX (⟨a2, a3, a4, a5, a6, a7, a8, a9, a10, a11⟩ : ab) a1).notes)]) := by
 have h0 := of_decide_eq_true (Bool.and_eq_true_iff.1 hc).1; have h := nz.1 (Bool.and_eq_true_iff.1 hc).2; clear hc; have hl := BH h; have hpl := ti h; have hts := fo h; have hpe : 0 <= a4.period /\ a4.period <= 600 := h.period; have hpa : 0 <= a4.aZ /\ a4.aZ <= a4.period := h.aZ; refine ⟨0, ?_⟩; unfold t13; cases ho : a4.lO with
 | true =>
  have hC : aX (⟨a2, a3, a4, a5, a6, a7, a8, a9, a10, a11⟩ : ab) a1 = noR 5 (⟨a2, a3, a4, a5, a6, a7, a8, a9, a10, a11⟩ : ab) := by unfold aX; rw [show ((⟨a2, a3, a4, a5, a6, a7, a8, a9, a10, a11⟩ : ab)).n.lO = true from ho]; rfl
  rw [hC]; dsimp only; exact cF (decide_eq_true h0) (P5 ho rfl)
 | false =>
 dsimp only; refine cF (decide_eq_true h0) (Ae ho (cF (decide_eq_true h0) ?_))
 by_cases hp : a4.period >= 600
 · have hC : aX (⟨a2, a3, a4, a5, a6, a7, a8, a9, a10, a11⟩ : ab) a1 = noR 4 (⟨a2, a3, a4, a5, a6, a7, a8, a9, a10, a11⟩ : ab) := by unfold aX; rw [show ((⟨a2, a3, a4, a5, a6, a7, a8, a9, a10, a11⟩ : ab)).n.lO = false from ho, nH, bT hp]
   rw [hC, bT hp]; rfl
 rw [aC hp]; refine cF (Bool.and_eq_true_iff.2 ⟨decide_eq_true h0, decide_eq_true hl⟩) ?_
 refine cF (Bool.and_eq_true_iff.2 ⟨rfl, DX (l := a10) h.FQ (Nat.le_trans hpl.2 (by decide))⟩) ?_
 refine jY fun x2 e2 => ?_
 obtain rfl : x2 = al 1 a10 := e2; refine cF (decide_eq_true hl.2.2.2.2.2.1) ?_
 by_cases he : (cP (⟨a2, a3, a4, a5, a6, a7, a8, a9, a10, a11⟩ : ab) a1).e = 0
 case neg =>
  have hC : aX (⟨a2, a3, a4, a5, a6, a7, a8, a9, a10, a11⟩ : ab) a1 = noR (cP (⟨a2, a3, a4, a5, a6, a7, a8, a9, a10, a11⟩ : ab) a1).e (⟨a2, a3, a4, a5, a6, a7, a8, a9, a10, a11⟩ : ab) := by unfold aX; rw [show ((⟨a2, a3, a4, a5, a6, a7, a8, a9, a10, a11⟩ : ab)).n.lO = false from ho, nH, aC hp, j5 he]
  rw [hC]; exact j5 he
 have hC : aX (⟨a2, a3, a4, a5, a6, a7, a8, a9, a10, a11⟩ : ab) a1 = xi (⟨a2, a3, a4, a5, a6, a7, a8, a9, a10, a11⟩ : ab) a1 := by unfold aX; rw [show ((⟨a2, a3, a4, a5, a6, a7, a8, a9, a10, a11⟩ : ab)).n.lO = false from ho, nH, aC hp, jf he]
 rw [hC]; refine Eq.trans (jf he) ?_
 have hp' : ((⟨a2, a3, a4, a5, a6, a7, a8, a9, a10, a11⟩ : ab)).n.period < 600 := by simp only; omega
 have D := eu h.xy; have b : 0 <= al 1 a10 /\ 0 <= al 2 a10 /\ al 1 a10 + al 2 a10 + a4.aW <= 1099511627776 := jP h; have r0 : 0 <= a4.aW := h.E1; have f : 0 <= a4.fee /\ a4.fee <= 1200000000000 * a4.period := h.fee; have o : 0 <= a4.out /\ a4.out <= a3.advance := h.out; have r : 0 <= a4.bg /\ a4.bg <= a4.rin /\ a4.rin <= 1200000000000 * (a4.period + 1) := h.res; have lo : a4.aJ - a4.aW = al 2 a10 := h.lost; obtain ⟨q1, q2, q3, q4, q5, q6, q7, q8, q9⟩ := rK h he; obtain ⟨c1, c2, c3, c4, c5⟩ := jT h; obtain ⟨m1, m2, m3, m4⟩ := kL h he; have m3 : 0 <= cE (⟨a2, a3, a4, a5, a6, a7, a8, a9, a10, a11⟩ : ab) a1 /\ cE (⟨a2, a3, a4, a5, a6, a7, a8, a9, a10, a11⟩ : ab) a1 <= a4.rin - a4.bg := ⟨m3.1, m3.2.1⟩
 have m4 : 0 <= jI (⟨a2, a3, a4, a5, a6, a7, a8, a9, a10, a11⟩ : ab) a1 /\ jI (⟨a2, a3, a4, a5, a6, a7, a8, a9, a10, a11⟩ : ab) a1 <= a3.advance - a4.out := m4; obtain ⟨x1, x2, x3, x4⟩ := ze h he; obtain ⟨d1, d2, d3, d4, d5⟩ := iO h he; obtain ⟨t1, t2, t3⟩ := o6 h he; have u2 := tq h he; have k := AY h; have ad : 0 <= a3.advance /\ a3.advance <= 1099511627776 := D.advance; have nq := fi q1; have hpa9 : a10.length <= 64 := hpl.2; have hqlen : (cP (⟨a2, a3, a4, a5, a6, a7, a8, a9, a10, a11⟩ : ab) a1).bh.length <= 1000 := by
  have hq : (cP (⟨a2, a3, a4, a5, a6, a7, a8, a9, a10, a11⟩ : ab) a1).bh.length = a10.length := by have := congrArg List.length q2; simpa using this
  omega
 have hpo := DX q1 hqlen; have s5 := (fJ _ c2.2).2.1; have st := m9 h he; have q3 : al 1 (cP (⟨a2, a3, a4, a5, a6, a7, a8, a9, a10, a11⟩ : ab) a1).bh = al 1 a10 - (cP (⟨a2, a3, a4, a5, a6, a7, a8, a9, a10, a11⟩ : ab) a1).p - (cP (⟨a2, a3, a4, a5, a6, a7, a8, a9, a10, a11⟩ : ab) a1).l := q3; have q4 : al 2 (cP (⟨a2, a3, a4, a5, a6, a7, a8, a9, a10, a11⟩ : ab) a1).bh = al 2 a10 + (cP (⟨a2, a3, a4, a5, a6, a7, a8, a9, a10, a11⟩ : ab) a1).l - (cP (⟨a2, a3, a4, a5, a6, a7, a8, a9, a10, a11⟩ : ab) a1).r := q4; have stT := st.2.2.2.2.1; have stR : 0 <= aU kR (bP (⟨a2, a3, a4, a5, a6, a7, a8, a9, a10, a11⟩ : ab) a1).2.2 /\ aU kR (bP (⟨a2, a3, a4, a5, a6, a7, a8, a9, a10, a11⟩ : ab) a1).2.2 <= a4.out := st.2.2.2.1; have s5l : al 5 (cTr (⟨a2, a3, a4, a5, a6, a7, a8, a9, a10, a11⟩ : ab)) <= 1125899906842624000 := by have := c2.1; omega
 refine cF (Bool.and_eq_true_iff.2 ⟨decide_eq_true ⟨⟨D.year.1, D.year.2, D.month.1, D.month.2⟩, hpe, ⟨f.1, by omega⟩, b.1, by omega⟩, dZ (zD h)⟩) ?_
 refine jY fun x3' e3 => ?_
 obtain rfl : x3' = jx (⟨a2, a3, a4, a5, a6, a7, a8, a9, a10, a11⟩ : ab) := e3; refine jY fun g4 e4 => ?_
 obtain rfl : g4 = { a4 with fee := a4.fee + fD (⟨a2, a3, a4, a5, a6, a7, a8, a9, a10, a11⟩ : ab) } := e4; refine cF (Bool.and_eq_true_iff.2 ⟨rfl, dZ c2⟩) ?_
 refine jY fun x5 e5 => ?_
 obtain rfl : x5 = a4.fee + fD (⟨a2, a3, a4, a5, a6, a7, a8, a9, a10, a11⟩ : ab) + al 5 (cTr (⟨a2, a3, a4, a5, a6, a7, a8, a9, a10, a11⟩ : ab)) := e5.trans (aa (n := a4.fee + fD (⟨a2, a3, a4, a5, a6, a7, a8, a9, a10, a11⟩ : ab) + al 5 (cTr (⟨a2, a3, a4, a5, a6, a7, a8, a9, a10, a11⟩ : ab))) (by omega) (by omega)); refine jY fun x8 e8 => ?_
 obtain rfl : x8 = cIn (⟨a2, a3, a4, a5, a6, a7, a8, a9, a10, a11⟩ : ab) a1 := e8.trans (by
  have i := m1; unfold cIn at i ⊢; rw [show w64 ((az a1 a10).p + (az a1 a10).q) = (cP (⟨a2, a3, a4, a5, a6, a7, a8, a9, a10, a11⟩ : ab) a1).p + (cP (⟨a2, a3, a4, a5, a6, a7, a8, a9, a10, a11⟩ : ab) a1).q from aa (by show _ <= (cP (⟨a2, a3, a4, a5, a6, a7, a8, a9, a10, a11⟩ : ab) a1).p + (cP (⟨a2, a3, a4, a5, a6, a7, a8, a9, a10, a11⟩ : ab) a1).q; omega) (by show (cP (⟨a2, a3, a4, a5, a6, a7, a8, a9, a10, a11⟩ : ab) a1).p + (cP (⟨a2, a3, a4, a5, a6, a7, a8, a9, a10, a11⟩ : ab) a1).q <= _; omega)]; rw [show w64 ((cP (⟨a2, a3, a4, a5, a6, a7, a8, a9, a10, a11⟩ : ab) a1).p + (cP (⟨a2, a3, a4, a5, a6, a7, a8, a9, a10, a11⟩ : ab) a1).q + (az a1 a10).r) = (cP (⟨a2, a3, a4, a5, a6, a7, a8, a9, a10, a11⟩ : ab) a1).p + (cP (⟨a2, a3, a4, a5, a6, a7, a8, a9, a10, a11⟩ : ab) a1).q + (cP (⟨a2, a3, a4, a5, a6, a7, a8, a9, a10, a11⟩ : ab) a1).r from aa (by show _ <= (cP (⟨a2, a3, a4, a5, a6, a7, a8, a9, a10, a11⟩ : ab) a1).p + (cP (⟨a2, a3, a4, a5, a6, a7, a8, a9, a10, a11⟩ : ab) a1).q + (cP (⟨a2, a3, a4, a5, a6, a7, a8, a9, a10, a11⟩ : ab) a1).r; omega) (by show (cP (⟨a2, a3, a4, a5, a6, a7, a8, a9, a10, a11⟩ : ab) a1).p + (cP (⟨a2, a3, a4, a5, a6, a7, a8, a9, a10, a11⟩ : ab) a1).q + (cP (⟨a2, a3, a4, a5, a6, a7, a8, a9, a10, a11⟩ : ab) a1).r <= _; omega)]; have w : w64 ((cP (⟨a2, a3, a4, a5, a6, a7, a8, a9, a10, a11⟩ : ab) a1).p + (cP (⟨a2, a3, a4, a5, a6, a7, a8, a9, a10, a11⟩ : ab) a1).q + (cP (⟨a2, a3, a4, a5, a6, a7, a8, a9, a10, a11⟩ : ab) a1).r) = (cP (⟨a2, a3, a4, a5, a6, a7, a8, a9, a10, a11⟩ : ab) a1).p + (cP (⟨a2, a3, a4, a5, a6, a7, a8, a9, a10, a11⟩ : ab) a1).q + (cP (⟨a2, a3, a4, a5, a6, a7, a8, a9, a10, a11⟩ : ab) a1).r := aa (by omega) (by omega); simp only [Int.add_zero, w])
 have en : w64 (a4.fee + fD (⟨a2, a3, a4, a5, a6, a7, a8, a9, a10, a11⟩ : ab) + al 5 (cTr (⟨a2, a3, a4, a5, a6, a7, a8, a9, a10, a11⟩ : ab)) - cIn (⟨a2, a3, a4, a5, a6, a7, a8, a9, a10, a11⟩ : ab) a1) = jn (⟨a2, a3, a4, a5, a6, a7, a8, a9, a10, a11⟩ : ab) a1 := aa (by show _ <= jn (⟨a2, a3, a4, a5, a6, a7, a8, a9, a10, a11⟩ : ab) a1; omega) (by show jn (⟨a2, a3, a4, a5, a6, a7, a8, a9, a10, a11⟩ : ab) a1 <= _; omega); rw [en]; refine cF (Bool.and_eq_true_iff.2 ⟨rfl, decide_eq_true ⟨by omega, ⟨r.1, r.2.1, by show a4.rin <= _; omega⟩, ⟨o.1, by show a4.out <= _; omega⟩, D.advance.1, by omega⟩⟩) ?_
 refine jY fun x9 e9 => ?_
 obtain rfl : x9 = cE (⟨a2, a3, a4, a5, a6, a7, a8, a9, a10, a11⟩ : ab) a1 := e9; refine jY fun x10 e10 => ?_
 obtain rfl : x10 = jI (⟨a2, a3, a4, a5, a6, a7, a8, a9, a10, a11⟩ : ab) a1 := e10; refine jY fun g11 e11 => ?_
 obtain rfl : g11 = cN1 (⟨a2, a3, a4, a5, a6, a7, a8, a9, a10, a11⟩ : ab) a1 := e11; refine jY fun x14 e14 => ?_
 obtain rfl : x14 = (cX (⟨a2, a3, a4, a5, a6, a7, a8, a9, a10, a11⟩ : ab) a1).ay := e14.trans (by
  have i := m1; have z : (cX (⟨a2, a3, a4, a5, a6, a7, a8, a9, a10, a11⟩ : ab) a1).ay = cIn (⟨a2, a3, a4, a5, a6, a7, a8, a9, a10, a11⟩ : ab) a1 + cE (⟨a2, a3, a4, a5, a6, a7, a8, a9, a10, a11⟩ : ab) a1 + jI (⟨a2, a3, a4, a5, a6, a7, a8, a9, a10, a11⟩ : ab) a1 := rfl; rw [z]; unfold cIn at i ⊢; rw [show w64 ((az a1 a10).p + (az a1 a10).q) = (cP (⟨a2, a3, a4, a5, a6, a7, a8, a9, a10, a11⟩ : ab) a1).p + (cP (⟨a2, a3, a4, a5, a6, a7, a8, a9, a10, a11⟩ : ab) a1).q from aa (by show _ <= (cP (⟨a2, a3, a4, a5, a6, a7, a8, a9, a10, a11⟩ : ab) a1).p + (cP (⟨a2, a3, a4, a5, a6, a7, a8, a9, a10, a11⟩ : ab) a1).q; omega) (by show (cP (⟨a2, a3, a4, a5, a6, a7, a8, a9, a10, a11⟩ : ab) a1).p + (cP (⟨a2, a3, a4, a5, a6, a7, a8, a9, a10, a11⟩ : ab) a1).q <= _; omega)]; rw [show w64 ((cP (⟨a2, a3, a4, a5, a6, a7, a8, a9, a10, a11⟩ : ab) a1).p + (cP (⟨a2, a3, a4, a5, a6, a7, a8, a9, a10, a11⟩ : ab) a1).q + (az a1 a10).r) = (cP (⟨a2, a3, a4, a5, a6, a7, a8, a9, a10, a11⟩ : ab) a1).p + (cP (⟨a2, a3, a4, a5, a6, a7, a8, a9, a10, a11⟩ : ab) a1).q + (cP (⟨a2, a3, a4, a5, a6, a7, a8, a9, a10, a11⟩ : ab) a1).r from aa (by show _ <= (cP (⟨a2, a3, a4, a5, a6, a7, a8, a9, a10, a11⟩ : ab) a1).p + (cP (⟨a2, a3, a4, a5, a6, a7, a8, a9, a10, a11⟩ : ab) a1).q + (cP (⟨a2, a3, a4, a5, a6, a7, a8, a9, a10, a11⟩ : ab) a1).r; omega) (by show (cP (⟨a2, a3, a4, a5, a6, a7, a8, a9, a10, a11⟩ : ab) a1).p + (cP (⟨a2, a3, a4, a5, a6, a7, a8, a9, a10, a11⟩ : ab) a1).q + (cP (⟨a2, a3, a4, a5, a6, a7, a8, a9, a10, a11⟩ : ab) a1).r <= _; omega)]; rw [aa (n := (cP (⟨a2, a3, a4, a5, a6, a7, a8, a9, a10, a11⟩ : ab) a1).p + (cP (⟨a2, a3, a4, a5, a6, a7, a8, a9, a10, a11⟩ : ab) a1).q + (cP (⟨a2, a3, a4, a5, a6, a7, a8, a9, a10, a11⟩ : ab) a1).r + cE (⟨a2, a3, a4, a5, a6, a7, a8, a9, a10, a11⟩ : ab) a1) (by omega) (by omega), aa (n := (cP (⟨a2, a3, a4, a5, a6, a7, a8, a9, a10, a11⟩ : ab) a1).p + (cP (⟨a2, a3, a4, a5, a6, a7, a8, a9, a10, a11⟩ : ab) a1).q + (cP (⟨a2, a3, a4, a5, a6, a7, a8, a9, a10, a11⟩ : ab) a1).r + cE (⟨a2, a3, a4, a5, a6, a7, a8, a9, a10, a11⟩ : ab) a1 + jI (⟨a2, a3, a4, a5, a6, a7, a8, a9, a10, a11⟩ : ab) a1) (by omega) (by omega)])
 have c1r : (0 <= (cN1 (⟨a2, a3, a4, a5, a6, a7, a8, a9, a10, a11⟩ : ab) a1).bg /\ (cN1 (⟨a2, a3, a4, a5, a6, a7, a8, a9, a10, a11⟩ : ab) a1).bg <= (cN1 (⟨a2, a3, a4, a5, a6, a7, a8, a9, a10, a11⟩ : ab) a1).rin /\ (cN1 (⟨a2, a3, a4, a5, a6, a7, a8, a9, a10, a11⟩ : ab) a1).rin <= 1152921504606846976) := by
  show 0 <= a4.bg + cE (⟨a2, a3, a4, a5, a6, a7, a8, a9, a10, a11⟩ : ab) a1 /\ a4.bg + cE (⟨a2, a3, a4, a5, a6, a7, a8, a9, a10, a11⟩ : ab) a1 <= a4.rin /\ a4.rin <= _; omega
 refine cF (Bool.and_eq_true_iff.2 ⟨decide_eq_true ⟨⟨⟨q5, by show (cP (⟨a2, a3, a4, a5, a6, a7, a8, a9, a10, a11⟩ : ab) a1).p <= _; omega⟩, ⟨q6, by show (cP (⟨a2, a3, a4, a5, a6, a7, a8, a9, a10, a11⟩ : ab) a1).l <= _; omega⟩, q7, by show (cP (⟨a2, a3, a4, a5, a6, a7, a8, a9, a10, a11⟩ : ab) a1).r <= _; omega⟩, c1r⟩, Bool.and_eq_true_iff.2 ⟨hpo, dZ c2⟩⟩) ?_
 refine jY fun x15 e15 => ?_
 obtain rfl : x15 = (cX (⟨a2, a3, a4, a5, a6, a7, a8, a9, a10, a11⟩ : ab) a1).aq := e15; refine jY fun x16 e16 => ?_
 obtain rfl : x16 = (cX (⟨a2, a3, a4, a5, a6, a7, a8, a9, a10, a11⟩ : ab) a1).room := e16; refine cF (decide_eq_true ⟨hl.2.2.1, hl.2.2.2.1, hl.2.2.2.2.1⟩) ?_
 refine jY fun l17 e17 => ?_
 obtain rfl : l17 = eS (g9 (⟨a2, a3, a4, a5, a6, a7, a8, a9, a10, a11⟩ : ab)) ((⟨a2, a3, a4, a5, a6, a7, a8, a9, a10, a11⟩ : ab)).n.mode := e17; refine cF (Bool.and_eq_true_iff.2 ⟨decide_eq_true (by omega), Bool.and_eq_true_iff.2 ⟨x1, x2⟩⟩) ?_
 refine jY fun l23 e23 => ?_
 obtain rfl : l23 = (bP (⟨a2, a3, a4, a5, a6, a7, a8, a9, a10, a11⟩ : ab) a1).2.2 := e23; refine cF d5 ?_
 refine jY fun x25 e25 => ?_
 obtain rfl : x25 = (cT (⟨a2, a3, a4, a5, a6, a7, a8, a9, a10, a11⟩ : ab) a1).1.out := e25; have eo : w64 ((cT (⟨a2, a3, a4, a5, a6, a7, a8, a9, a10, a11⟩ : ab) a1).1.out + jI (⟨a2, a3, a4, a5, a6, a7, a8, a9, a10, a11⟩ : ab) a1) = (cN2 (⟨a2, a3, a4, a5, a6, a7, a8, a9, a10, a11⟩ : ab) a1).out := by
  refine Eq.trans (aa ?_ ?_) rfl
  · rw [d1]; show _ <= a4.out - aU kR (bP (⟨a2, a3, a4, a5, a6, a7, a8, a9, a10, a11⟩ : ab) a1).2.2 + jI (⟨a2, a3, a4, a5, a6, a7, a8, a9, a10, a11⟩ : ab) a1; omega
  · rw [d1]; show a4.out - aU kR (bP (⟨a2, a3, a4, a5, a6, a7, a8, a9, a10, a11⟩ : ab) a1).2.2 + jI (⟨a2, a3, a4, a5, a6, a7, a8, a9, a10, a11⟩ : ab) a1 <= _; omega
 rw [eo]; refine cF (Bool.and_eq_true_iff.2 ⟨decide_eq_true ⟨⟨⟨q5, by show (cP (⟨a2, a3, a4, a5, a6, a7, a8, a9, a10, a11⟩ : ab) a1).p <= _; omega⟩, ⟨q6, by show (cP (⟨a2, a3, a4, a5, a6, a7, a8, a9, a10, a11⟩ : ab) a1).l <= _; omega⟩, q7, by show (cP (⟨a2, a3, a4, a5, a6, a7, a8, a9, a10, a11⟩ : ab) a1).r <= _; omega⟩, ⟨by show 0 <= (cT (⟨a2, a3, a4, a5, a6, a7, a8, a9, a10, a11⟩ : ab) a1).1.aJ; rw [d1]; show 0 <= a4.aJ; omega, by show (cT (⟨a2, a3, a4, a5, a6, a7, a8, a9, a10, a11⟩ : ab) a1).1.aJ <= _; rw [d1]; show a4.aJ <= _; omega⟩, by show 0 <= (cT (⟨a2, a3, a4, a5, a6, a7, a8, a9, a10, a11⟩ : ab) a1).1.aW; rw [d1]; exact r0, by show (cT (⟨a2, a3, a4, a5, a6, a7, a8, a9, a10, a11⟩ : ab) a1).1.aW <= _; rw [d1]; show a4.aW <= _; omega⟩, Bool.and_eq_true_iff.2 ⟨hpo, dZ d3⟩⟩) ?_
 refine jY fun g26 e26 => ?_
 obtain rfl : g26 = cN2 (⟨a2, a3, a4, a5, a6, a7, a8, a9, a10, a11⟩ : ab) a1 := e26; refine jY fun l27 e27 => ?_
 obtain rfl : l27 = ju (⟨a2, a3, a4, a5, a6, a7, a8, a9, a10, a11⟩ : ab) a1 := e27; refine cF (Bool.and_eq_true_iff.2 ⟨rfl, Bool.and_eq_true_iff.2 ⟨hpo, dZ t1⟩⟩) ?_
 refine jY fun x31 e31 => ?_
 refine jY fun x32 e32 => ?_
 refine jY fun x33 e33 => ?_
 refine jY fun x34 e34 => ?_
 have g4 := (vQ h he).2.2.2; have el : w64 ((cN2 (⟨a2, a3, a4, a5, a6, a7, a8, a9, a10, a11⟩ : ab) a1).aJ - (cN2 (⟨a2, a3, a4, a5, a6, a7, a8, a9, a10, a11⟩ : ab) a1).aW) = (cN2 (⟨a2, a3, a4, a5, a6, a7, a8, a9, a10, a11⟩ : ab) a1).aJ - (cN2 (⟨a2, a3, a4, a5, a6, a7, a8, a9, a10, a11⟩ : ab) a1).aW := aa (by omega) (by omega); rw [el, show ((bH (⟨a2, a5, a6, a3, a7, a8, a9⟩ : bk)).getD (0, 0)).1 = al 1 a5 from D.PY] at e34; have n2m : (cN2 (⟨a2, a3, a4, a5, a6, a7, a8, a9, a10, a11⟩ : ab) a1).mode = a4.mode /\ (cN2 (⟨a2, a3, a4, a5, a6, a7, a8, a9, a10, a11⟩ : ab) a1).aZ = a4.aZ /\ (cN2 (⟨a2, a3, a4, a5, a6, a7, a8, a9, a10, a11⟩ : ab) a1).period = a4.period := by rw [u2]; exact ⟨rfl, rfl, rfl⟩
 have ep : w64 ((cN2 (⟨a2, a3, a4, a5, a6, a7, a8, a9, a10, a11⟩ : ab) a1).period + 1) = a4.period + 1 := by rw [n2m.2.2]; exact aa (by omega) (by omega)
 have ex : du (cN2 (⟨a2, a3, a4, a5, a6, a7, a8, a9, a10, a11⟩ : ab) a1).mode (cN2 (⟨a2, a3, a4, a5, a6, a7, a8, a9, a10, a11⟩ : ab) a1).aZ a3.dR x31 x32 x33 x34 = CO (⟨a2, a3, a4, a5, a6, a7, a8, a9, a10, a11⟩ : ab) a1 := by rw [n2m.1, n2m.2.1, e31, e32, e33, e34]; rfl
 rw [ep, ex]; refine cF (decide_eq_true ?_) ?_
 · rw [n2m.2.1]; omega
 have c2r : (0 <= (cN2 (⟨a2, a3, a4, a5, a6, a7, a8, a9, a10, a11⟩ : ab) a1).bg /\ (cN2 (⟨a2, a3, a4, a5, a6, a7, a8, a9, a10, a11⟩ : ab) a1).bg <= (cN2 (⟨a2, a3, a4, a5, a6, a7, a8, a9, a10, a11⟩ : ab) a1).rin /\ (cN2 (⟨a2, a3, a4, a5, a6, a7, a8, a9, a10, a11⟩ : ab) a1).rin <= 1152921504606846976) := by
  rw [u2]; show 0 <= a4.bg + cE (⟨a2, a3, a4, a5, a6, a7, a8, a9, a10, a11⟩ : ab) a1 /\ a4.bg + cE (⟨a2, a3, a4, a5, a6, a7, a8, a9, a10, a11⟩ : ab) a1 <= a4.rin + aU kT (bP (⟨a2, a3, a4, a5, a6, a7, a8, a9, a10, a11⟩ : ab) a1).2.2 /\ a4.rin + aU kT (bP (⟨a2, a3, a4, a5, a6, a7, a8, a9, a10, a11⟩ : ab) a1).2.2 <= _; omega
 refine cF (decide_eq_true h0) ?_
 refine cF (Bool.and_eq_true_iff.2 ⟨decide_eq_true h0, Bool.and_eq_true_iff.2 ⟨decide_eq_true c2r, Bool.and_eq_true_iff.2 ⟨hpo, dZ t1⟩⟩⟩) ?_
 rw [show w64 (a4.period + 1) = a4.period + 1 from aa (by omega) (by omega)]; rfl
theorem Im : ER 13 (mkE N13.en N13.ex f13) := an ai T47.right (fun m => []) (t := t13) (by kernel_rfl) (fun m => aB) (fun m a => by kernel_rfl) fun (a0, a1, a2, a3, a4, a5, a6, a7, a8, a9, a10, a11) hc => Ob a0 a1 a2 a3 a4 a5 a6 a7 a8 a9 a10 a11 hc
def T13 : Tb Tryz.prog LQ TE := T47.add 13 _ Im
end
end Go.Proofs.YtdbkoeefnodejaaGreat
namespace Go.Proofs.YtdbkoeefnodejaaGreat
noncomputable section
open Go Go.Proofs.YtdbkoeefnodejaaGreat.Ev
set_option maxRecDepth 20000
theorem tn (d : Dat) : (gj d).i 0 = d.i 0 /\ (gj d).i 1 = d.i 1 /\ (gj d).i 2 = 0 /\ (gj d).i 3 = 0 /\ (gj d).b 4 = false := ⟨rfl, rfl, rfl, rfl, rfl⟩
theorem ph : ∀ l : List Dat, al 1 (l.map gj) = al 1 l /\ al 2 (l.map gj) = 0
 | [] => ⟨rfl, rfl⟩
 | d :: l => by
  obtain ⟨h1, h2⟩ := ph l; simp only [List.map_cons, al, h1, h2, (tn d).2.1, (tn d).2.2.1]; exact ⟨trivial, rfl⟩
theorem pN : ∀ l : List Dat, al 5 (l.map qR) = 0 /\ al 6 (l.map qR) = 0
 | [] => ⟨rfl, rfl⟩
 | d :: l => by
  obtain ⟨h1, h2⟩ := pN l; simp only [List.map_cons, al, h1, h2, qR, nd, m7]
  decide
theorem AM {d : bk} (h : (bH d).isSome = true) : ku (aA d) := by
 have D := eu h; obtain ⟨s1, s2⟩ := ph d.aM; obtain ⟨n5, n6⟩ := pN d.notes; refine ⟨h, ?_, fun x hx => ?_, ?_, fun x hx => ?_, ?_, ?_, Int.le_refl _, ?_, ?_, ?_, ?_, ?_, ?_, ?_⟩
 · simp only [aA, List.map_map]; rfl
 · obtain ⟨y, hy, rfl⟩ := List.mem_map.1 (show x ∈ d.notes.map qR from hx); have := D.note y hy; refine ⟨decide_eq_true ?_, ?_⟩
   · show (0 <= y.i 1 /\ y.i 1 <= 1099511627776 /\ (0 : Int) <= 0 /\ (0 : Int) = 0 /\ (0 : Int) <= 0 /\ (0 : Int) + 0 <= y.i 1 /\ (0 : Int) <= 0 /\ (0 : Int) <= 1125899906842624); omega
   · show (0 : Int) <= 1200000000000 * 0; omega
 · simp only [aA, List.map_map]; rfl
 · obtain ⟨y, hy, rfl⟩ := List.mem_map.1 (show x ∈ d.aM.map gj from hx); have := D.FQ y hy; obtain ⟨_, e1, e2, e3, e4⟩ := tn y; unfold jl; rw [e1, e2, e3, e4]
   and_intros <;> first | omega | (intro h; cases h; done) | (intro _; rfl)
 · show al 1 (d.aM.map gj) + al 2 (d.aM.map gj) + 0 <= al 1 d.aM; omega
 · show (0 : Int) - 0 = al 2 (d.aM.map gj); omega
 · show (0 : Int) <= 0 /\ (0 : Int) <= 600; omega
 · show (0 : Int) <= 0 /\ (0 : Int) <= 2; omega
 · show (0 : Int) <= 0 /\ (0 : Int) <= 0; omega
 · show (0 : Int) <= 0 /\ (0 : Int) <= 1200000000000 * 0; omega
 · exact ⟨Int.le_refl _, D.advance.1⟩
 · show (0 : Int) <= 0 /\ 0 <= d.b.bl /\ d.b.bl <= 1200000000000 * (0 + 1)
   have := D.bl; omega
 · show al 6 (d.notes.map qR) <= al 2 (d.aM.map gj); omega
theorem FG {d : bk} (h : (bH d).isSome = true) : dD d = aA d := by unfold dD; rw [if_pos h]
def eW : bk := ⟨⟨2024, 1, 0⟩, [.r [.n 1, .n 100]], [.r [.n 0, .n 100, .n 0]], ⟨0, 0, 0, 0, 0, 0, 0, 0, 0, 0⟩, [.r [.n 3, .n 0], .r [.n 7, .n 0]], [.r [.n 3, .n 0], .r [.n 7, .n 0]], [.r [.n 3, .n 0], .r [.n 7, .n 0]]⟩
theorem uR : (bH eW).isSome = true := by kernel_rfl
theorem E0 : dD eW = aA eW := FG uR
theorem Qe : ku (aA eW) := AM uR
def N12 : aD := ⟨T13.tab, 12, ⟨[], [], 0⟩, ⟨[.agg [.int .i64, .int .i64, .int .i64, .buf 0 2, .buf 1 3, .int .i64, .int .i64, .int .i64, .int .i64, .int .i64, .int .i64, .int .i64, .int .i64, .int .i64, .int .i64, .buf 2 2, .buf 3 2, .buf 4 2]], [.ag (sI 2), .ag (sI 3), .ag (sI 2), .ag (sI 2), .ag (sI 2)], 0⟩, []⟩
def t12 (m : Nat) : Unit -> Option (List Un) := fun _ =>
 some (Uns.enc ((⟨2024, 1, 0⟩ : au) : au) ++ Uns.enc ((⟨0, 0, 0, 0, 0, 0, 0, 0, 0, 0⟩ : av) : av) ++ [.d ([.r [.n 1, .n 100]] : List Dat), .d ([.r [.n 0, .n 100, .n 0]] : List Dat), .d ([.r [.n 3, .n 0], .r [.n 7, .n 0]] : List Dat), .d ([.r [.n 3, .n 0], .r [.n 7, .n 0]] : List Dat), .d ([.r [.n 3, .n 0], .r [.n 7, .n 0]] : List Dat)])
def f12 : Unit -> Bool × List Un := fun _ => (true, Uns.enc ((eW.a) : au) ++ Uns.enc ((eW.b) : av) ++ [.d (eW.aM), .d (eW.notes), .d (eW.s0), .d (eW.s1), .d (eW.s2)])
theorem Nr : ∃ m, t12 m () = some (Uns.enc ((eW.a) : au) ++ Uns.enc ((eW.b) : av) ++ [.d (eW.aM), .d (eW.notes), .d (eW.s0), .d (eW.s1), .d (eW.s2)]) := by
 exact ⟨0, rfl⟩
theorem J7 : ER 12 (mkE N12.en N12.ex f12) := an ai T13.right (fun m => []) (t := t12) (by kernel_rfl) (fun m => aB) (fun m a => by kernel_rfl) fun _ hc => Nr
def T12 : Tb Tryz.prog LQ TE := T13.add 12 _ J7
def N3 : aD := ⟨T12.tab, 3, ⟨[], [], 0⟩, ⟨[.bool], [], 0⟩, []⟩
def t3 (m : Nat) : Unit -> Option (List Un) := fun _ =>
 chk (decide (eW.aM.length < 1000000 /\ eW.notes.length < 1000000 /\ eW.s0.length < 1000000 /\ eW.s1.length < 1000000 /\ eW.s2.length < 1000000)) <|
 lt (((if (bH eW).isSome then 0 else -1) : Int) : Int) fun x1 =>
 bif ((decide (x1 < 0)) && true) then
 some ([.b false])
 else
 bif ((if (bH eW).isSome then 0 else 2) : Int) != 0 then
 some ([.b false])
 else
 chk (decide (0 <= x1) && oS (dD eW)) <|
 lt (((aX (dD eW) ([.r [.n 1, .n 40, .n 0, .n 0, .n 0, .n 0, .n (bI false)]] : List Dat)).ra) : gL) fun g4 =>
 lt (((aX (dD eW) ([.r [.n 1, .n 40, .n 0, .n 0, .n 0, .n 0, .n (bI false)]] : List Dat)).rb) : fy) fun g5 =>
 lt (((aX (dD eW) ([.r [.n 1, .n 40, .n 0, .n 0, .n 0, .n 0, .n (bI false)]] : List Dat)).IA) : List Dat) fun l18 =>
 lt (((aX (dD eW) ([.r [.n 1, .n 40, .n 0, .n 0, .n 0, .n 0, .n (bI false)]] : List Dat)).notes) : List Dat) fun l19 =>
 bif ((aX (dD eW) ([.r [.n 1, .n 40, .n 0, .n 0, .n 0, .n 0, .n (bI false)]] : List Dat)).e) == 0 then
 chk (decide (l18.length < 1099511627776)) <|
 bif (iM 4 l18 ([.r [.n 1, .n 7, .n 0, .n 40]] : List Dat)) then
 bif g5.fB == 0 then
 chk (decide (l19.length < 1099511627776)) <|
 bif (iM 3 l19 ([.r [.n 60, .n 0, .n 0]] : List Dat)) then
 bif g5.bh == 60 then
 bif (w64 ((w64 ((w64 ((w64 (g4.aq + g4.jM)) + g4.aW)) + g4.draw)) + g4.advance)) == 40 then
 chk (decide (l18.length <= 1000000) && l18.all AI) <|
 bif (w64 ((al 3 l18) + g5.fB)) == 40 then
 bif g4.period == 1 then
 some ([.b (g4.aq == 40)])
 else
 some ([.b false])
 else
 some ([.b false])
 else
 some ([.b false])
 else
 some ([.b false])
 else
 some ([.b false])
 else
 some ([.b false])
 else
 some ([.b false])
 else
 some ([.b false])
def f3 : Unit -> Bool × List Un := fun _ => (true, [.b (true)])
theorem OB : ∃ m, t3 m () = some ([.b (true)]) := by
 refine ⟨0, ?_⟩; unfold t3; dsimp only [lt]; refine cF (by kernel_rfl) ?_
 refine Ae (by kernel_rfl) (Ae (by kernel_rfl) (cF (Bool.and_eq_true_iff.2 ⟨by kernel_rfl, nz.2 (E0 ▸ Qe)⟩) ?_))
 kernel_rfl
theorem LG : ER 3 (mkE N3.en N3.ex f3) := an ai T12.right (fun m => []) (t := t3) (by kernel_rfl) (fun m => aB) (fun m a => by kernel_rfl) fun _ hc => OB
def T3 : Tb Tryz.prog LQ TE := T12.add 3 _ LG
def gn (f : Nat -> Int) : Nat -> Int
 | 0 => 0
 | n + 1 => gn f n + f n
theorem nD {f g : Nat -> Int} : ∀ n : Nat, (∀ i, i < n -> f i = g i) -> gn f n = gn g n
 | 0, _ => rfl
 | n + 1, h => by simp only [gn, nD n fun i hi => h i (by omega), h n (by omega)]
theorem zp (f g : Nat -> Int) : ∀ n : Nat, gn (fun i => f i + g i) n = gn f n + gn g n
 | 0 => rfl
 | n + 1 => by simp only [gn, zp f g n]; omega
theorem z5 (f g : Nat -> Int) : ∀ n : Nat, gn (fun i => f i - g i) n = gn f n - gn g n
 | 0 => rfl
 | n + 1 => by simp only [gn, z5 f g n]; omega
theorem pq : ∀ n : Nat, gn (fun _ => 0) n = 0
 | 0 => rfl
 | n + 1 => by simp only [gn, pq n]; rfl
theorem zX (x : Int) (t : Nat) : ∀ n : Nat, gn (fun i => if i = t then x else 0) n = if t < n then x else 0
 | 0 => by simp [gn]
 | n + 1 => by
  simp only [gn, zX x t n]
  by_cases h : t < n
  · rw [if_pos h, if_neg (by omega), if_pos (by omega)]; omega
  · by_cases h2 : n = t
    · rw [if_neg h, if_pos h2, if_pos (by omega)]; omega
    · rw [if_neg h, if_neg h2, if_neg (by omega)]; rfl
theorem wL (f : Nat -> Int) : ∀ n : Nat, gn f (n + 1) = f 0 + gn (fun i => f (i + 1)) n
 | 0 => by simp [gn]
 | n + 1 => by
  have := wL f n; simp only [gn] at this ⊢; omega
theorem o5 (f : Dat -> Int) : ∀ c : List Dat, bj f c = gn (fun i => f (ae c i)) c.length
 | [] => rfl
 | d :: c => by
  rw [List.length_cons, wL]; have := o5 f c; simp only [bj, this]; rfl
theorem uK (j : Nat) : ∀ c : List Dat, al j c = bj (fun d => d.i j) c
 | [] => rfl
 | d :: c => by simp only [al, bj, uK j c]
theorem sA (f : Dat -> Int) (g : Dat -> Dat) : ∀ c : List Dat, bj f (c.map g) = bj (fun d => f (g d)) c
 | [] => rfl
 | d :: c => by simp only [List.map_cons, bj, sA f g c]
theorem wH (g : Dat -> Bool) (n : Nat) : ∀ p : List Dat, (∀ d ∈ p, g d = true -> 0 <= d.i 2 /\ d.i 2 < (n : Int)) -> gn (fun i => aU (fun d => g d && d.i 2 == (i : Int)) p) n = aU g p
 | [], _ => pq n
 | d :: p, h => by
  have ih := wH g n p fun x hx => h x (by simp [hx])
  have e : gn (fun i => aU (fun d => g d && d.i 2 == (i : Int)) (d :: p)) n = gn (fun i => amt (fun d => g d && d.i 2 == (i : Int)) d + aU (fun d => g d && d.i 2 == (i : Int)) p) n := rfl; rw [e, zp, ih, dT]
  congr 1
  cases hg : g d
  · simp only [amt, hg, Bool.false_and, cond_false]; exact pq n
  · have := h d (by simp) hg; have e1 : amt g d = d.i 3 := by simp only [amt, hg, cond_true]
    rw [e1, <- show (if (d.i 2).toNat < n then d.i 3 else 0) = d.i 3 from if_pos (by omega), <- zX]; refine nD n fun i hi => ?_
    simp only [amt, hg, Bool.true_and]
    by_cases hi : i = (d.i 2).toNat
    · simp only [if_pos hi, C3 (show d.i 2 = (i : Int) by omega), cond_true]
    · simp only [if_neg hi, k8 (show d.i 2 ≠ (i : Int) by omega), cond_false]
theorem ke (k : cz) : (bH (ar k)).isSome = true := by rw [AV]; rfl
theorem EP (k : cz) : dD (ar k) = aA (ar k) := FG (ke k)
theorem KA (k : cz) : ku (aA (ar k)) := AM (ke k)
theorem GV {T : ab} {l : List Dat} (ho : T.n.lO = false) (hp : T.n.period < 600) (he : (cP T l).e = 0) : aX T l = xi T l := by
 unfold aX; rw [ho, nH, aC (by omega), jf he]
end
end Go.Proofs.YtdbkoeefnodejaaGreat
namespace Go.Proofs.YtdbkoeefnodejaaGreat
noncomputable section
open Go Go.Proofs.YtdbkoeefnodejaaGreat.Ev
set_option maxRecDepth 20000
def kX : List Par := [(true, [.int .i64, .int .i64, .int .i64, .int .i64, .int .i64, .int .i64, .int .i64, .int .i64, .int .i64, .int .i64, .int .i64, .int .i64, .int .i64, .ints .i64, .ints .i64, .ints .i64, .ints .i64, .ints .i64, .ints .i64, .ints .i64])]
def N5 : aD := ⟨T3.tab, 5, ⟨List.map Par.vp kX, [], 0⟩, ⟨[.bool], [], 0⟩, []⟩
abbrev J9 : Type := Int × Int × Int × Int × Int × Int × au × av × gL × fy × Int × List Dat × List Dat × List Dat × List Dat × List Dat × List Dat × List Dat
abbrev HZ : Type := Int × Int × Int × Int × au × av × gL × fy × Int × List Dat × List Dat × List Dat × List Dat × List Dat × List Dat × List Dat
def te (m : Nat) (k : J9 -> Option (List Un)) : J9 -> Option (List Un) := fun (a0, a1, a2, a3, a4, a5, a6, a7, a8, a9, a10, a11, a12, a13, a14, a15, a16, a17) =>
 bif decide (a5 < a4) then
 chk (inb a5 a11.length) <|
 chk (decide (a5.toNat < a11.length)) <|
 lt (ae a11 a5.toNat : Dat) fun d21 =>
 bif (d21.i 1) == 1 then
 bif (d21.i 1) == 3 then
 k (a0, a1, (w64 (a2 + (d21.i 3))), (w64 (a3 + (d21.i 3))), a4, (w64 (a5 + 1)), a6, a7, a8, a9, a10, a11, a12, a13, a14, a15, a16, a17)
 else
 k (a0, a1, (w64 (a2 + (d21.i 3))), a3, a4, (w64 (a5 + 1)), a6, a7, a8, a9, a10, a11, a12, a13, a14, a15, a16, a17)
 else
 bif (d21.i 1) == 3 then
 k (a0, a1, a2, (w64 (a3 + (d21.i 3))), a4, (w64 (a5 + 1)), a6, a7, a8, a9, a10, a11, a12, a13, a14, a15, a16, a17)
 else
 k (a0, a1, a2, a3, a4, (w64 (a5 + 1)), a6, a7, a8, a9, a10, a11, a12, a13, a14, a15, a16, a17)
 else
 bif a0 == 0 then
 bif (w64 ((w64 ((w64 ((w64 (a8.aq + a8.jM)) + a8.aW)) + a8.draw)) + a8.advance)) == (w64 (a8.draw + a8.advance)) then
 bif a8.draw == (if a7.bl < (w64 (a8.fee + a8.due)) then a7.bl else (w64 (a8.fee + a8.due))) then
 lt ((w64 ((w64 (a8.fee + a8.due)) - a8.draw)) : Int) fun x27 =>
 bif a8.advance == (if a7.advance < x27 then a7.advance else x27) then
 bif a9.bh == (((bH (⟨a6, a12, a13, a7, a14, a15, a16⟩ : bk)).getD (0, 0)).1) then
 bif ((a8.aq == 0) && ((a8.jM == 0) && ((a8.aJ == 0) && ((a8.aW == 0) && true)))) then
 bif (a1 == (w64 (a8.due - a3))) then
 bif (a9.Ko == (w64 (a8.fee - a2))) then
 some ([.b true])
 else
 some ([.b false])
 else
 some ([.b false])
 else
 some ([.b false])
 else
 some ([.b false])
 else
 some ([.b false])
 else
 some ([.b false])
 else
 some ([.b false])
 else
 some ([.b false])
def qX (m : Nat) : Nat -> J9 -> Option (List Un) := bf (te m)
theorem wG (m : Nat) (n : Nat) : qX m (n + 1) = te m (qX m n) := rfl
def Mt (F : J9 -> Option (List Un)) : aQ := ⟨[.lp [0, 1, 0, 1, 1, 1, 1, 1, 1, 1, 1], .blk 2, .code [1, 1, 1, 1, 1, 1, 1, 1, 1]], ⟨frm 146 [(3, .ptr 0 0 0), (6, .ptr 1 0 0), (7, .int .i64), (8, .int .i64), (11, .int .i64), (12, .int .i64), (54, .buf 2 4), (55, .int .i64), (56, .int .i64)], [.cells [.int .i64, .int .i64, .int .i64, .buf 3 2, .buf 4 3, .int .i64, .int .i64, .int .i64, .int .i64, .int .i64, .int .i64, .int .i64, .int .i64, .int .i64, .int .i64, .buf 5 2, .buf 6 2, .buf 7 2], .cells [.bool, .int .i64, .int .i64, .int .i64, .int .i64, .int .i64, .int .i64, .int .i64, .int .i64, .int .i64, .int .i64, .buf 2 4, .int .i64, .int .i64, .int .i64, .int .i64, .int .i64, .buf 8 3, .int .i64], .ag (sI 4), .ag (sI 2), .ag (sI 3), .ag (sI 2), .ag (sI 2), .ag (sI 2), .ag (sI 3)], 0⟩, onU F⟩
def Dl (m : Nat) (k : HZ -> Option (List Un)) : HZ -> Option (List Un) := fun (a0, a1, a2, a3, a4, a5, a6, a7, a8, a9, a10, a11, a12, a13, a14, a15) =>
 bif decide (a3 < a2) then
 chk (inb a3 a9.length) <|
 chk (decide (a3.toNat < a9.length)) <|
 k (a0, (w64 (a1 + ((ae a9 a3.toNat).i 1))), a2, (w64 (a3 + 1)), a4, a5, a6, a7, a8, a9, a10, a11, a12, a13, a14, a15)
 else
 qX m m (a0, a1, 0, 0, (a15.length : Int), 0, a4, a5, a6, a7, a8, a15, a10, a11, a12, a13, a14, a9)
def Bt (m : Nat) : Nat -> HZ -> Option (List Un) := bf (Dl m)
theorem wO (m : Nat) (n : Nat) : Bt m (n + 1) = Dl m (Bt m n) := rfl
def JJ (F : HZ -> Option (List Un)) : aQ := ⟨[.lp [0, 1, 0, 1, 1, 1, 1, 1, 1], .blk 0, .code [1, 1, 1, 1, 1, 1, 1]], ⟨frm 146 [(3, .ptr 0 0 0), (6, .ptr 1 0 0), (7, .int .i64), (8, .int .i64), (42, .buf 2 3), (43, .int .i64), (44, .int .i64)], [.cells [.int .i64, .int .i64, .int .i64, .buf 3 2, .buf 4 3, .int .i64, .int .i64, .int .i64, .int .i64, .int .i64, .int .i64, .int .i64, .int .i64, .int .i64, .int .i64, .buf 5 2, .buf 6 2, .buf 7 2], .cells [.bool, .int .i64, .int .i64, .int .i64, .int .i64, .int .i64, .int .i64, .int .i64, .int .i64, .int .i64, .int .i64, .buf 8 4, .int .i64, .int .i64, .int .i64, .int .i64, .int .i64, .buf 2 3, .int .i64], .ag (sI 3), .ag (sI 2), .ag (sI 3), .ag (sI 2), .ag (sI 2), .ag (sI 2), .ag (sI 4)], 0⟩, onU F⟩
theorem QB (m : Nat) : ∀ n, HO N5 (Mt (qX m n)) := ax ai T3.right (fun k => [Mt k]) (fun k h => (aF h aB)) fun k a => by kernel_rfl
theorem QG (m : Nat) : ∀ n, HO N5 (JJ (Bt m n)) := ax ai T3.right (fun k => [JJ k, Mt (qX m m)]) (fun k h => (aF h (aF (QB m m) aB))) fun k a => by kernel_rfl
def t5 (m : Nat) : cz -> Option (List Un) := fun a0 =>
 chk (decide (a0.notes.length <= 140737488355328)) <|
 chk (decide ((ar a0).aM.length < 1000000 /\ (ar a0).notes.length < 1000000 /\ (ar a0).s0.length < 1000000 /\ (ar a0).s1.length < 1000000 /\ (ar a0).s2.length < 1000000)) <|
 lt (((if (bH (ar a0)).isSome then 0 else -1) : Int) : Int) fun x1 =>
 bif ((decide (x1 < 0)) && true) then
 some ([.b false])
 else
 bif ((if (bH (ar a0)).isSome then 0 else 2) : Int) != 0 then
 some ([.b false])
 else
 chk (decide (0 <= x1)) <|
 chk (decide (0 <= x1) && oS (dD (ar a0))) <|
 lt (((aX (dD (ar a0)) ([] : List Dat)).notes) : List Dat) fun l19 =>
 Bt m m (((aX (dD (ar a0)) ([] : List Dat)).e), 0, (l19.length : Int), 0, ((ar a0).a), ((ar a0).b), ((aX (dD (ar a0)) ([] : List Dat)).ra), ((aX (dD (ar a0)) ([] : List Dat)).rb), ((aX (dD (ar a0)) ([] : List Dat)).next), l19, (ar a0).aM, (ar a0).notes, (ar a0).s0, (ar a0).s1, (ar a0).s2, ((aX (dD (ar a0)) ([] : List Dat)).IA))
section
variable (m : Nat) (e : Int) (xa : au) (xb : av) (ra : gL) (rb : fy) (nx : Int) (x1 x2 x3 x4 x5 : List Dat)
theorem NY (py : List Dat) : ∀ (rest pre : List Dat) (n : Nat) (s : Int), rest.length < n -> (pre ++ rest).length <= 1000 -> (∀ d ∈ rest, 0 <= d.i 1 /\ d.i 1 <= 1125899906842624) -> 0 <= s -> s <= 1125899906842624 * pre.length ->
 Bt m n (e, s, ((pre ++ rest).length : Int), (pre.length : Int), xa, xb, ra, rb, nx, pre ++ rest, x1, x2, x3, x4, x5, py) = qX m m (e, s + al 1 rest, 0, 0, (py.length : Int), 0, xa, xb, ra, rb, nx, py, x1, x2, x3, x4, x5, pre ++ rest) := by
 intro rest
 induction rest with
 | nil =>
  intro pre n s hn hl hg s0 s1; obtain ⟨n, rfl⟩ := ak n (by simp at hn; omega); rw [wO]; unfold Dl; dsimp only; simp [aC, al]
 | cons x rest ih =>
  intro pre n s hn hl hg s0 s1; obtain ⟨n, rfl⟩ := ak n (by simp at hn; omega); simp only [List.length_cons, List.length_append] at hn hl; have hx := hg x (by simp); rw [wO]; unfold Dl; dsimp only; have := ih (pre ++ [x]) n (s + x.i 1) (by omega) (by simp; omega) (fun d hd => hg d (by simp [hd])) (by omega) (by simp; omega); simp only [al] at this ⊢; simp (disch := omega) only [TRa, TRi, aa, LNl, LNi, Int.cast_ofNat_Int, ao]; simp only [LNl, LNi, Int.cast_ofNat_Int] at this ⊢; exact this
theorem Ls (s : Int) (nt : List Dat) : ∀ (rest pre : List Dat) (n : Nat) (f t : Int), rest.length < n -> (pre ++ rest).length <= 1000000 -> (∀ d ∈ rest, 0 <= d.i 3) -> 0 <= f -> 0 <= t -> f + al 3 rest <= 1152921504606846976 -> t + al 3 rest <= 1152921504606846976 ->
 qX m n (e, s, f, t, ((pre ++ rest).length : Int), (pre.length : Int), xa, xb, ra, rb, nx, pre ++ rest, x1, x2, x3, x4, x5, nt) = qX m 1 (e, s, f + aU kF rest, t + aU kI rest, ((pre ++ rest).length : Int), ((pre ++ rest).length : Int), xa, xb, ra, rb, nx, pre ++ rest, x1, x2, x3, x4, x5, nt) := by
 intro rest
 induction rest with
 | nil =>
  intro pre n f t hn hl hg f0 t0 f1 t1; obtain ⟨n, rfl⟩ := ak n (by simp at hn; omega); simp only [List.append_nil, aU, Int.add_zero]; rw [wG, show qX m 1 = te m (qX m 0) from rfl]; unfold te; dsimp only; rw [aC (by omega), aC (by omega)]
 | cons x rest ih =>
  intro pre n f t hn hl hg f0 t0 f1 t1; obtain ⟨n, rfl⟩ := ak n (by simp at hn; omega); simp only [List.length_cons, List.length_append] at hn hl; have hx := hg x (by simp); have hs := eB 3 rest fun d hd => hg d (by simp [hd])
  simp only [al] at f1 t1; have K := fun f t f0 t0 f1 t1 => ih (pre ++ [x]) n f t (by omega) (by simp; omega) (fun d hd => hg d (by simp [hd])) f0 t0 f1 t1
  simp only [List.append_assoc, List.cons_append, List.nil_append] at K; rw [dT, dT]; rw [wG]
  conv => lhs; unfold te
  dsimp only; have hl2 : (pre ++ x :: rest).length = pre.length + (rest.length + 1) := by simp
  have hl3 : (pre ++ [x]).length = pre.length + 1 := by simp
  rw [hl2, hl3] at K; rw [hl2]; rw [bT (by omega), iu (by omega) (by omega), aN (by simp), aa (n := (pre.length : Int) + 1) (by omega) (by omega)]; simp only [lt_eq, Int.toNat_natCast, ao]; unfold amt
  by_cases h1 : x.i 1 = 1
  · have a1 : kF x = true := by simp [kF, h1]
    have a2 : kI x = false := by simp [kI, h1]
    rw [a1, a2, cond_true, cond_false, dL h1, ek (by omega), aa (by omega) (by omega)]; refine (K (f + x.i 3) t (by omega) t0 (by omega) (by omega)).trans ?_
    rw [Int.add_assoc, Int.zero_add]
  · have a1 : kF x = false := k8 h1; rw [a1, cond_false, ek h1]
    by_cases h3 : x.i 1 = 3
    · have a2 : kI x = true := by simp [kI, h3]
      rw [a2, cond_true, dL h3, aa (by omega) (by omega)]; refine (K f (t + x.i 3) f0 (by omega) (by omega) (by omega)).trans ?_
      rw [Int.add_assoc, Int.zero_add]
    · have a2 : kI x = false := k8 h3; rw [a2, cond_false, ek h3]; refine (K f t f0 t0 (by omega) (by omega)).trans ?_
      rw [Int.zero_add, Int.zero_add]
end
set_option maxHeartbeats 4000000 in
theorem O9 (b0 : Int) (wb0 : (Lit.int .i64 b0).wf = true) (b1 : Int) (wb1 : (Lit.int .i64 b1).wf = true) (b2 : Int) (wb2 : (Lit.int .i64 b2).wf = true) (b3 : Int) (wb3 : (Lit.int .i64 b3).wf = true) (b4 : Int) (wb4 : (Lit.int .i64 b4).wf = true) (b5 : Int) (wb5 : (Lit.int .i64 b5).wf = true) (b6 : Int) (wb6 : (Lit.int .i64 b6).wf = true) (b7 : Int) (wb7 : (Lit.int .i64 b7).wf = true) (b8 : Int) (wb8 : (Lit.int .i64 b8).wf = true) (b9 : Int) (wb9 : (Lit.int .i64 b9).wf = true) (b10 : Int) (wb10 : (Lit.int .i64 b10).wf = true) (b11 : Int) (wb11 : (Lit.int .i64 b11).wf = true) (b12 : Int) (wb12 : (Lit.int .i64 b12).wf = true) (b13 : List Int) (wb13 : b13.length <= 140737488355328 /\ ∀ x ∈ b13, (Lit.int .i64 x).wf = true) (b14 : List Int) (wb14 : b14.length <= 140737488355328 /\ ∀ x ∈ b14, (Lit.int .i64 x).wf = true) (b15 : List Int) (wb15 : b15.length <= 140737488355328 /\ ∀ x ∈ b15, (Lit.int .i64 x).wf = true) (b16 : List Int) (wb16 : b16.length <= 140737488355328 /\ ∀ x ∈ b16, (Lit.int .i64 x).wf = true) (b17 : List Int) (wb17 : b17.length <= 140737488355328 /\ ∀ x ∈ b17, (Lit.int .i64 x).wf = true) (b18 : List Int) (wb18 : b18.length <= 140737488355328 /\ ∀ x ∈ b18, (Lit.int .i64 x).wf = true) (b19 : List Int) (wb19 : b19.length <= 140737488355328 /\ ∀ x ∈ b19, (Lit.int .i64 x).wf = true) : ∃ m, t5 m ((⟨(⟨b0, b1, b2⟩ : au), (⟨b3, b4, b5, b6, b7, b8, b9, b10, b11, b12⟩ : av), b13, b14, b15, b16, b17, b18, b19⟩ : cz)) = some [.b true] := by
 have hn : (⟨⟨b0, b1, b2⟩, ⟨b3, b4, b5, b6, b7, b8, b9, b10, b11, b12⟩, b13, b14, b15, b16, b17, b18, b19⟩ : cz).notes.length <= 140737488355328 := wb14.1; generalize (⟨⟨b0, b1, b2⟩, ⟨b3, b4, b5, b6, b7, b8, b9, b10, b11, b12⟩, b13, b14, b15, b16, b17, b18, b19⟩ : cz) = k at hn; have h := KA k; have D := eu (ke k); have hT : dD (ar k) = aA (ar k) := EP k; have hP : cP (aA (ar k)) [] = ⟨0, 0, 0, 0, 0, (aA (ar k)).bh⟩ := rfl; have he : (cP (aA (ar k)) []).e = 0 := by rw [hP]
 have hC := GV (T := aA (ar k)) (l := []) rfl (by show (0 : Int) < 600; omega) he; obtain ⟨s1, s2, s3, s4, s5, s6⟩ := m9 h he; obtain ⟨r1, r2⟩ := EH h he; obtain ⟨c1, c2, c3, c4, c5⟩ := jT h; obtain ⟨m1, m2, m3, m4⟩ := kL h he; obtain ⟨g1, g2, g3⟩ := o6 h he; have u2 := tq h he; have pl := (pQ h he).2.2.2.2; have hts := fo h; have h5 : al 5 (aA (ar k)).tr = 0 := (pN _).1; have hpool : al 1 (aA (ar k)).bh = al 1 (ar k).aM := (ph _).1; refine ⟨131000, ?_⟩; unfold t5; dsimp only [lt]; rw [aN hn, aN (zP k), ke k, if_pos rfl, if_pos rfl]; refine Ae rfl (Ae rfl (cF rfl (cF (Bool.and_eq_true_iff.2 ⟨rfl, nz.2 (by rw [hT]; exact h)⟩) ?_))); rw [hT, hC]; have gs := (fJ _ g1.2).2.1; have hno : ∀ d ∈ (ju (aA (ar k)) []).map qW, 0 <= d.i 1 /\ d.i 1 <= 1125899906842624 := fun d hd => by
  obtain ⟨x, hx, rfl⟩ := List.mem_map.1 hd; have := bQ (g1.2 x hx); show 0 <= x.i 5 /\ x.i 5 <= _; omega
 have hp3 : ∀ d ∈ (bP (aA (ar k)) []).2.2, 0 <= d.i 3 := fun d hd => by have := (s1 d hd).1; omega
 refine (NY 131000 _ _ _ _ _ _ _ _ _ _ _ (bP (aA (ar k)) []).2.2 ((ju (aA (ar k)) []).map qW) [] 131000 0 (by simp; omega) (by simp; omega) hno (by omega) (by simp)).trans ?_
 refine (Ls 131000 _ _ _ _ _ _ _ _ _ _ _ _ _ (bP (aA (ar k)) []).2.2 [] 131000 0 0 (by omega) (by simp; omega) hp3 (by omega) (by omega) (by omega) (by omega)).trans ?_
 rw [show qX 131000 1 = te 131000 (qX 131000 0) from rfl]; unfold te; dsimp only; rw [aC (by omega)]; have hsh : al 1 ((ju (aA (ar k)) []).map qW) = jx (aA (ar k)) - aU kI (bP (aA (ar k)) []).2.2 := by
  rw [uK, sA, o5, r1]; have e : ∀ i, i < (aA (ar k)).tr.length -> (qW (ae (ju (aA (ar k)) []) i)).i 1 = (ae (cTr (aA (ar k))) i).i 5 - aU (toI i) (bP (aA (ar k)) []).2.2 := fun i hi => by
   obtain ⟨_, _, _, _, _, q5, q6⟩ := r2 i hi; rw [q6]; show (ae (ju (aA (ar k)) []) i).i 5 = _; rw [q5]; rfl
  rw [nD _ e, z5]; have e1 : gn (fun i => (ae (cTr (aA (ar k))) i).i 5) (aA (ar k)).tr.length = al 5 (cTr (aA (ar k))) := by rw [uK, o5, ov h]
  have e2 : gn (fun i => aU (toI i) (bP (aA (ar k)) []).2.2) (aA (ar k)).tr.length = aU kI (bP (aA (ar k)) []).2.2 := wH kI _ _ fun d hd hk => by
   have := (s1 d hd).2; have : d.i 1 = 3 := by simpa [kI] using hk
   omega
  omega
 dsimp only [xi]; simp only [hP, Int.zero_add]; have hin : cIn (aA (ar k)) [] = 0 := by unfold cIn; rw [hP]; rfl
 have hneed : jn (aA (ar k)) [] = fD (aA (ar k)) + jx (aA (ar k)) := by
  unfold jn; rw [hin]; show (0 : Int) + _ + _ - 0 = _; omega
 have hd : cE (aA (ar k)) [] = min (fD (aA (ar k)) + jx (aA (ar k))) (ar k).b.bl := by
  unfold cE eP; rw [hneed]; show max (min (max _ 0) ((ar k).b.bl - 0)) 0 = _; have := D.bl; omega
 have ha : jI (aA (ar k)) [] = min (fD (aA (ar k)) + jx (aA (ar k)) - cE (aA (ar k)) []) (ar k).b.advance := by
  have e : jI (aA (ar k)) [] = max (min (max (jn (aA (ar k)) []) 0 - cE (aA (ar k)) []) ((ar k).b.advance - 0)) 0 := rfl; rw [e, hneed]; have := D.advance; omega
 have hf : (cN2 (aA (ar k)) []).fee = fD (aA (ar k)) - aU kF (bP (aA (ar k)) []).2.2 := by
  rw [u2]; show (0 : Int) + _ - _ = _; omega
 have hfw : aU kF (bP (aA (ar k)) []).2.2 <= 0 + fD (aA (ar k)) := s3.2; have hr := D.bl; have had := D.advance; have hDs : ((bH (ar k)).getD (0, 0)).1 = al 1 (ar k).aM := D.PY; rw [show ((⟨(ar k).a, (ar k).aM, (ar k).notes, (ar k).b, (ar k).s0, (ar k).s1, (ar k).s2⟩ : bk)) = ar k from rfl, hDs, hpool, hsh, hf]; have hw2 : 0 <= jx (aA (ar k)) - aU kI (bP (aA (ar k)) []).2.2 := by
  rw [<- hsh, uK, sA]; have : bj (fun d => (qW d).i 1) (ju (aA (ar k)) []) = al 5 (ju (aA (ar k)) []) := by rw [uK]; rfl
  omega
 have hw3 : 0 <= aU kI (bP (aA (ar k)) []).2.2 := jg _ _ hp3; simp only [show w64 0 = (0 : Int) by decide, Int.add_zero, Int.zero_add, lt_eq, beq_self_eq_true, Bool.and_self, xN]; simp only [show w64 (fD (aA (ar k)) + jx (aA (ar k))) = fD (aA (ar k)) + jx (aA (ar k)) from aa (by omega) (by omega), show w64 (cE (aA (ar k)) []) = cE (aA (ar k)) [] from aa (by omega) (by omega), show w64 (cE (aA (ar k)) [] + jI (aA (ar k)) []) = cE (aA (ar k)) [] + jI (aA (ar k)) [] from aa (by omega) (by omega), show w64 (fD (aA (ar k)) + jx (aA (ar k)) - cE (aA (ar k)) []) = fD (aA (ar k)) + jx (aA (ar k)) - cE (aA (ar k)) [] from aa (by omega) (by omega), show w64 (jx (aA (ar k)) - aU kI (bP (aA (ar k)) []).2.2) = jx (aA (ar k)) - aU kI (bP (aA (ar k)) []).2.2 from aa (by omega) (by omega), show w64 (fD (aA (ar k)) - aU kF (bP (aA (ar k)) []).2.2) = fD (aA (ar k)) - aU kF (bP (aA (ar k)) []).2.2 from aa (by omega) (by omega)]; simp only [beq_self_eq_true, xN]; rw [dL (show cE (aA (ar k)) [] = if (ar k).b.bl < fD (aA (ar k)) + jx (aA (ar k)) then (ar k).b.bl else fD (aA (ar k)) + jx (aA (ar k)) by omega), dL (show jI (aA (ar k)) [] = if (ar k).b.advance < fD (aA (ar k)) + jx (aA (ar k)) - cE (aA (ar k)) [] then (ar k).b.advance else fD (aA (ar k)) + jx (aA (ar k)) - cE (aA (ar k)) [] by omega)]
set_option maxRecDepth 20000 in
theorem nC {HH : Type} {enc : TypeId × Value -> HH} {w : World} {base : Nat} {vs : List Value} {ds : List (DataW HH)} {ps : List MemPlace} (hsh : w.ShapedOpen Tryz.prog)
 (hd : DataW.TrodAll enc Tryz.prog w 0 (fun _ => true) true Tryz.f5.params.toList vs ds ps) {us' : List TypeId} {gs : List (DataW HH)} (hz : (DataW.weightsEach Tryz.prog (Tryz.f5.params.toList ++ us') (ds ++ gs)).all (· <= reachBytes) = true) (hval : ∀ (j : Nat) t v, Tryz.f5.params.toList[j]? = some t -> vs[j]? = some v -> Value.okWide Tryz.prog w .any base t v) :
 Calls Tryz.prog 5 vs.toArray w fun e w' => e = .returned (.bool true) /\ RowKit.Below w.heap.size w w' :=
 FO Seat.mix Seat.names Hr (pars := kX) (by kernel_rfl) (fun us h => by
  change WfU [.int .i64, .int .i64, .int .i64, .int .i64, .int .i64, .int .i64, .int .i64, .int .i64, .int .i64, .int .i64, .int .i64, .int .i64, .int .i64, .ints .i64, .ints .i64, .ints .i64, .ints .i64, .ints .i64, .ints .i64, .ints .i64] us at h; obtain ⟨b0, u, rfl, wb0, h⟩ := fH h; obtain ⟨b1, u, rfl, wb1, h⟩ := fH h; obtain ⟨b2, u, rfl, wb2, h⟩ := fH h; obtain ⟨b3, u, rfl, wb3, h⟩ := fH h; obtain ⟨b4, u, rfl, wb4, h⟩ := fH h; obtain ⟨b5, u, rfl, wb5, h⟩ := fH h; obtain ⟨b6, u, rfl, wb6, h⟩ := fH h; obtain ⟨b7, u, rfl, wb7, h⟩ := fH h; obtain ⟨b8, u, rfl, wb8, h⟩ := fH h; obtain ⟨b9, u, rfl, wb9, h⟩ := fH h; obtain ⟨b10, u, rfl, wb10, h⟩ := fH h; obtain ⟨b11, u, rfl, wb11, h⟩ := fH h; obtain ⟨b12, u, rfl, wb12, h⟩ := fH h; obtain ⟨b13, u, rfl, wb13, h⟩ := je h; obtain ⟨b14, u, rfl, wb14, h⟩ := je h; obtain ⟨b15, u, rfl, wb15, h⟩ := je h; obtain ⟨b16, u, rfl, wb16, h⟩ := je h; obtain ⟨b17, u, rfl, wb17, h⟩ := je h; obtain ⟨b18, u, rfl, wb18, h⟩ := je h; obtain ⟨b19, u, rfl, wb19, h⟩ := je h; obtain rfl := Hh h; obtain ⟨m, hm⟩ := O9 b0 wb0 b1 wb1 b2 wb2 b3 wb3 b4 wb4 b5 wb5 b6 wb6 b7 wb7 b8 wb8 b9 wb9 b10 wb10 b11 wb11 b12 wb12 b13 wb13 b14 wb14 b15 wb15 b16 wb16 b17 wb17 b18 wb18 b19 wb19; have G : N5.CE Tryz.prog LQ KN (Uns.enc ((⟨(⟨b0, b1, b2⟩ : au), (⟨b3, b4, b5, b6, b7, b8, b9, b10, b11, b12⟩ : av), b13, b14, b15, b16, b17, b18, b19⟩ : cz))) ([JJ (Bt m m)]) = t5 m ((⟨(⟨b0, b1, b2⟩ : au), (⟨b3, b4, b5, b6, b7, b8, b9, b10, b11, b12⟩ : av), b13, b14, b15, b16, b17, b18, b19⟩ : cz)) := by kernel_rfl
  exact N5.Ll ai T3.right (W := [JJ (Bt m m)]) (by kernel_rfl) (by kernel_rfl) (by kernel_rfl) (aF (QG m m) aB) (G.trans hm)) hsh hd hz hval
end
end Go.Proofs.YtdbkoeefnodejaaGreat
