/- Part of a proof: FlowPlain, Loss, Closing, ClosePlain, Close, Runs, Lines, Lost. Conditions: none. -/
import Derived.Test.YtdbkoeefnodejaaGreatQ5
set_option linter.unusedVariables false
set_option linter.unusedSimpArgs false
set_option linter.unnecessarySimpa false
set_option linter.unusedSectionVars false
namespace Go.Proofs.YtdbkoeefnodejaaGreat
noncomputable section
open Go Go.Proofs.YtdbkoeefnodejaaGreat.Ev
set_option maxRecDepth 20000
def bn (f : Dat -> Bool) : List Dat -> Int
 | [] => 0
 | d :: l => (bif f d then d.i 3 else 0) + bn f l
theorem iF (f : Dat -> Bool) : ∀ a b : List Dat, bn f (a ++ b) = bn f a + bn f b
 | [], b => by simp [bn]
 | d :: a, b => by simp only [List.cons_append, bn, iF f a b]; omega
theorem fL (f : Dat -> Bool) : ∀ l : List Dat, (∀ d ∈ l, f d = false) -> bn f l = 0
 | [], _ => rfl
 | d :: l, h => by simp only [bn, h d (by simp), fL f l (fun x hx => h x (by simp [hx])), cond_false]; rfl
theorem Bf (f : Dat -> Bool) : ∀ l : List Dat, (∀ d ∈ l, f d = true) -> bn f l = ak 3 l
 | [], _ => rfl
 | d :: l, h => by simp only [bn, ak, h d (by simp), Bf f l (fun x hx => h x (by simp [hx])), cond_true]
theorem pW {f g : Dat -> Bool} : ∀ l : List Dat, (∀ d ∈ l, f d = g d) -> bn f l = bn g l
 | [], _ => rfl
 | d :: l, h => by simp only [bn, h d (by simp), pW l (fun x hx => h x (by simp [hx]))]
def kF (d : Dat) : Bool := d.i 1 == 1
def kR (d : Dat) : Bool := d.i 1 == 2
def kT (d : Dat) : Bool := d.i 1 == 6
def kI (d : Dat) : Bool := d.i 1 == 3
def kB (d : Dat) : Bool := !kF d && !kR d && !kT d && !kI d
def kP (d : Dat) : Bool := kB d && d.i 1 != 7
def toI (i : Nat) (d : Dat) : Bool := kI d && d.i 2 == (i : Int)
def toB (i : Nat) (d : Dat) : Bool := kB d && d.i 2 == (i : Int)
theorem lg (a k : Int) : ∀ (xs : List Int) (i : Int), ∀ d ∈ bL a k i xs, d.i 0 = a /\ d.i 1 = k /\ (i <= d.i 2 /\ d.i 2 < i + xs.length) /\ 1 <= d.i 3 /\ d.i 3 = xs.getD (d.i 2 - i).toNat 0
 | [], i, d, h => by simp [bL] at h
 | x :: xs, i, d, h => by
  simp only [bL, List.mem_append] at h; rcases h with h | h
  · by_cases hx : 0 < x
    · rw [if_pos hx] at h; rw [List.mem_singleton.1 h]; refine ⟨rfl, rfl, ?_, ?_, ?_⟩
      · simp only [gT, List.length_cons, Int.natCast_add]; omega
      · simp only [fh]; omega
      · simp only [gT, fh, Int.sub_self, Int.toNat_zero, List.getD_cons_zero]
    · rw [if_neg hx] at h; cases h
  · obtain ⟨h1, h2, h3, h4, h5⟩ := lg a k xs (i + 1) d h; simp only [List.length_cons, Int.natCast_add]; refine ⟨h1, h2, by omega, h4, ?_⟩; rw [show (d.i 2 - i).toNat = (d.i 2 - (i + 1)).toNat + 1 by omega, List.getD_cons_succ]; exact h5
theorem xN (a k : Int) : ∀ (xs : List Int) (i : Int) (j : Nat), (∀ x ∈ xs, 0 <= x) -> bn (fun d => d.i 2 == i + j) (bL a k i xs) = xs.getD j 0
 | [], i, j, _ => by simp [bL, bn]
 | x :: xs, i, j, h => by
  have h0 := h x (by simp); simp only [bL, iF]; cases j with
  | zero =>
   have e : bn (fun d => d.i 2 == i + ((0 : Nat) : Int)) (bL a k (i + 1) xs) = 0 := fL _ _ fun d hd => by
    have := lg a k xs (i + 1) d hd; simp only [beq_eq_false_iff_ne]; omega
   rw [e, List.getD_cons_zero]
   by_cases hx : 0 < x
   · rw [if_pos hx]; simp [bn, gT, fh]
   · rw [if_neg hx]; simp only [bn]; omega
  | succ j =>
   have := xN a k xs (i + 1) j fun y hy => h y (by simp [hy])
   rw [show i + 1 + (j : Int) = i + ((j + 1 : Nat) : Int) by omega] at this; rw [this, List.getD_cons_succ]
   by_cases hx : 0 < x
   · rw [if_pos hx]; simp only [bn, gT]; rw [show (i == i + ((j + 1 : Nat) : Int)) = false by simp only [beq_eq_false_iff_ne]; omega]; simp
   · rw [if_neg hx]; simp [bn]
structure Kept (x : bm) (c ps : List Dat) (x' : bm) (c' : List Dat) : Prop where
 aA : x'.aA = x.aA - ak 3 ps
 fee : x'.fee = x.fee - bn kF ps
 bM : x'.bM = x.bM - bn kR ps
 room : x'.room = x.room - bn kT ps
 pri : x'.av = x.av - bn kP ps
 len : c'.length = c.length
 row : ∀ i, i < c.length -> af c' i = .r [.n ((af c i).i 0), .n ((af c i).i 1 - bn (toB i) ps), .n ((af c i).i 2 - bn (toI i) ps)]
theorem Kept.refl {x : bm} {c : List Dat} (h : ∀ d ∈ c, lK 3 d = true) : Kept x c [] x c := by
 refine ⟨by simp [ak], by simp [bn], by simp [bn], by simp [bn], by simp [bn], rfl, fun i hi => ?_⟩; simp only [bn, Int.sub_zero]; exact Cy (h _ (m8 hi))
theorem Kept.trans {x x' x'' : bm} {c c' c'' ps qs : List Dat} (a : Kept x c ps x' c') (b : Kept x' c' qs x'' c'') : Kept x c (ps ++ qs) x'' c'' := by
 refine ⟨?_, ?_, ?_, ?_, ?_, b.len.trans a.len, fun i hi => ?_⟩
 · rw [b.aA, a.aA, uL]; omega
 · rw [b.fee, a.fee, iF]; omega
 · rw [b.bM, a.bM, iF]; omega
 · rw [b.room, a.room, iF]; omega
 · rw [b.pri, a.pri, iF]; omega
 · rw [b.row i (by rw [a.len]; exact hi), a.row i hi, iF, iF]; simp only [I8, ek, gT]; rw [show (af c i).i 1 - bn (toB i) ps - bn (toB i) qs = (af c i).i 1 - (bn (toB i) ps + bn (toB i) qs) by omega, show (af c i).i 2 - bn (toI i) ps - bn (toI i) qs = (af c i).i 2 - (bn (toI i) ps + bn (toI i) qs) by omega]
theorem Kept.shares {c : List Dat} (sel : Dat -> Bool) (n : Int) (h : aV c = true) (x : bm) (a : Int) {j : Nat} {kd : Int} (hk : (j = 2 /\ kd = 3) \/ (j = 1 /\ (kd = 4 \/ kd = 5 \/ kd = 7))) :
 Kept x c (bL a kd 0 (az sel j n c)) { x with aA := x.aA - (az sel j n c).sum, av := if kd = 4 \/ kd = 5 then x.av - (az sel j n c).sum else x.av } (bQ j (az sel j n c) c) := by
 have hj : j = 1 \/ j = 2 := by omega
 obtain ⟨l1, l2, l3⟩ := dX sel hj n h; obtain ⟨h1, h2⟩ := bP h; have hm := C5 sel hj n h; have hp := lg a kd (az sel j n c) 0; have hs := uA a kd (az sel j n c) 0 hm; have hat := fun i => xN a kd (az sel j n c) 0 i hm
 have kk : ∀ d ∈ bL a kd 0 (az sel j n c), kF d = false /\ kR d = false /\ kT d = false /\ kI d = (kd == 3) /\ kB d = !(kd == 3) := fun d hd => by
  have := (hp d hd).2.1; simp only [kB, kF, kR, kT, kI, this]; rcases hk with ⟨_, rfl⟩ | ⟨_, rfl | rfl | rfl⟩ <;> decide
 refine ⟨by rw [hs], ?_, ?_, ?_, ?_, lS j _ c l1, fun i hi => ?_⟩
 · rw [fL kF _ fun d hd => (kk d hd).1]; simp
 · rw [fL kR _ fun d hd => (kk d hd).2.1]; simp
 · rw [fL kT _ fun d hd => (kk d hd).2.2.1]; simp
 · by_cases h45 : kd = 4 \/ kd = 5
   · simp only [if_pos h45]; rw [Bf kP _ fun d hd => by
      have := (kk d hd).2.2.2.2; have h6 := (hp d hd).2.1; simp only [kP, this, h6]; rcases h45 with rfl | rfl <;> rfl, hs]
   · simp only [if_neg h45]; rw [fL kP _ fun d hd => by
      have := (kk d hd).2.2.2.2; have h6 := (hp d hd).2.1; simp only [kP, this, h6]; rcases hk with ⟨_, rfl⟩ | ⟨_, rfl | rfl | rfl⟩
      · rfl
      · exact absurd (.inl rfl) h45
      · exact absurd (.inr rfl) h45
      · rfl]
     simp
 · rw [mw j _ c i l1 hi]; have e2 := hat i; simp only [Int.zero_add] at e2; rcases hk with ⟨rfl, rfl⟩ | ⟨rfl, hk⟩
   · have a1 : bn (toB i) (bL a 3 0 (az sel 2 n c)) = 0 := fL _ _ fun d hd => by simp only [toB, (kk d hd).2.2.2.2]; rfl
     have a2 : bn (toI i) (bL a 3 0 (az sel 2 n c)) = (az sel 2 n c).getD i 0 := by
      rw [<- e2]; exact pW _ fun d hd => by simp only [toI, (kk d hd).2.2.2.1]; rfl
     rw [a1, a2]; simp only [cn, show ¬ (2 : Nat) = 1 by decide, if_false, Int.sub_zero]
   · have k3 : (kd == 3) = false := by rcases hk with rfl | rfl | rfl <;> rfl
     have a1 : bn (toI i) (bL a kd 0 (az sel 1 n c)) = 0 := fL _ _ fun d hd => by simp only [toI, (kk d hd).2.2.2.1, k3]; rfl
     have a2 : bn (toB i) (bL a kd 0 (az sel 1 n c)) = (az sel 1 n c).getD i 0 := by
      rw [<- e2]; exact pW _ fun d hd => by simp only [toB, (kk d hd).2.2.2.2, k3]; rfl
     rw [a1, a2]; simp only [cn, if_true, Int.sub_zero]
theorem Kept.nu {a kd : Int} (hk : kd = 4 \/ kd = 7) : ∀ (k : Nat) (r n : Int) (x : bm) (c : List Dat), aV c = true ->
 Kept x c (bx a kd k r n c).2.1 { x with aA := x.aA - (bx a kd k r n c).2.2, av := if kd = 4 then x.av - (bx a kd k r n c).2.2 else x.av } (bx a kd k r n c).1
 | 0, r, n, x, c, h => by
  have := Kept.refl (x := x) fun d hd => (cv ((bP h).2 d hd)).1
  simp only [bx, Int.sub_zero, ite_self]; exact this
 | k + 1, r, n, x, c, h => by
  obtain ⟨g1, g2⟩ := oU (aM r) (j := 1) (.inl rfl) n h; have a1 := Kept.shares (aM r) n h x a (j := 1) (kd := kd) (.inr ⟨rfl, by omega⟩); have a2 := Kept.nu (a := a) hk k (r + 1) (n - (az (aM r) 1 n c).sum) { x with aA := x.aA - (az (aM r) 1 n c).sum, av := if kd = 4 \/ kd = 5 then x.av - (az (aM r) 1 n c).sum else x.av } _ g1; have := a1.trans a2; simp only [bx]; have e : (if kd = 4 \/ kd = 5 then x.av - (az (aM r) 1 n c).sum else x.av) = if kd = 4 then x.av - (az (aM r) 1 n c).sum else x.av := by
   rcases hk with rfl | rfl <;> simp
  simp only [e] at this; generalize (bx a kd k (r + 1) (n - (az (aM r) 1 n c).sum) (bQ 1 (az (aM r) 1 n c) c)).2.2 = y at *
  by_cases h4 : kd = 4
  · simp only [if_pos h4, Int.sub_sub] at this ⊢; exact this
  · simp only [if_neg h4, Int.sub_sub] at this ⊢; exact this
def B4 (n : Nat) (a kd : Int) (d : Dat) : Prop := d.i 0 = a /\ d.i 1 = kd /\ 1 <= d.i 3 /\ (-1 <= d.i 2 /\ d.i 2 < n) /\ (d.i 2 < 0 ↔ (kd = 1 \/ kd = 2 \/ kd = 6))
theorem qy {a kd : Int} {xs : List Int} {n : Nat} (hl : xs.length = n) (hk : ¬ (kd = 1 \/ kd = 2 \/ kd = 6)) : ∀ d ∈ bL a kd 0 xs, B4 n a kd d := fun d hd => by
 obtain ⟨h1, h2, h3, h4, h5⟩ := lg a kd xs 0 d hd; exact ⟨h1, h2, h4, by omega, by omega⟩
theorem og {a kd : Int} (hk : ¬ (kd = 1 \/ kd = 2 \/ kd = 6)) : ∀ (k : Nat) (r n : Int) (c : List Dat), aV c = true -> ∀ d ∈ (bx a kd k r n c).2.1, B4 c.length a kd d
 | 0, r, n, c, h, d, hd => by simp [bx] at hd
 | k + 1, r, n, c, h, d, hd => by
  obtain ⟨g1, g2⟩ := oU (aM r) (j := 1) (.inl rfl) n h; obtain ⟨l1, l2, l3⟩ := dX (aM r) (j := 1) (.inl rfl) n h; simp only [bx] at hd; rcases List.mem_append.1 hd with hd | hd
  · exact qy l1 hk d hd
  · have := og hk k (r + 1) _ _ g1 d hd
    rwa [g2] at this
theorem mQ {x : bm} {c : List Dat} (h : aV c = true) (a kd n : Int) (h0 : 0 <= n) (hk : kd = 1 \/ kd = 2 \/ kd = 6) :
 Kept x c (jZ a kd n) { x with aA := x.aA - n, fee := if kd = 1 then x.fee - n else x.fee, bM := if kd = 2 then x.bM - n else x.bM, room := if kd = 6 then x.room - n else x.room } c /\ ∀ d ∈ jZ a kd n, B4 c.length a kd d := by
 have hr : ∀ d ∈ c, lK 3 d = true := fun d hd => (cv ((bP h).2 d hd)).1
 unfold jZ
 by_cases hn : 0 < n
 · rw [if_pos hn]; refine ⟨⟨by simp [ak, fh], ?_, ?_, ?_, ?_, rfl, fun i hi => ?_⟩, fun d hd => ?_⟩
   · simp only [bn, kF, ek, fh]; rcases hk with rfl | rfl | rfl <;> simp
   · simp only [bn, kR, ek, fh]; rcases hk with rfl | rfl | rfl <;> simp
   · simp only [bn, kT, ek, fh]; rcases hk with rfl | rfl | rfl <;> simp
   · simp only [bn, kP, kB, kF, kR, kT, kI, ek, fh]; rcases hk with rfl | rfl | rfl <;> simp
   · have a1 : bn (toB i) [Dat.r [.n a, .n kd, .n (-1), .n n]] = 0 := by simp only [bn, toB, kB, kF, kR, kT, kI, ek, gT]; rcases hk with rfl | rfl | rfl <;> simp
     have a2 : bn (toI i) [Dat.r [.n a, .n kd, .n (-1), .n n]] = 0 := by simp only [bn, toI, kI, ek, gT]; rcases hk with rfl | rfl | rfl <;> simp
     rw [a1, a2, Int.sub_zero, Int.sub_zero]; exact Cy (hr _ (m8 hi))
   · rw [List.mem_singleton.1 hd]; refine ⟨rfl, rfl, ?_, ?_, ?_⟩
     · show (1 : Int) <= n; exact hn
     · exact ⟨Int.le_refl (-1), by show (-1 : Int) < (c.length : Int); omega⟩
     · show (-1 : Int) < 0 ↔ _; exact ⟨fun _ => hk, fun _ => by decide⟩
 · rw [if_neg hn]; obtain rfl : n = 0 := by omega
   simp only [Int.sub_zero, ite_self]; exact ⟨Kept.refl hr, fun d hd => by cases hd⟩
theorem DI (a kd rk : Int) {x : bm} {c : List Dat} (hx : ns x = true) (h : aV c = true) : Kept x c (dw a kd rk x c).2.2 (dw a kd rk x c).1 (dw a kd rk x c).2.1 /\ ∀ d ∈ (dw a kd rk x c).2.2, B4 c.length a kd d := by
 have hx' := px hx; have s1 := fun sel j hj n => (dX (c := c) sel (j := j) hj n h).1
 unfold dw
 by_cases k1 : kd = 1
 · rw [if_pos k1]; have := mQ (x := x) h a kd (min x.fee x.aA) (by omega) (.inl k1); subst k1; exact this
 rw [if_neg k1]
 by_cases k2 : kd = 2
 · rw [if_pos k2]; have := mQ (x := x) h a kd (min x.bM x.aA) (by omega) (.inr (.inl k2)); subst k2; exact this
 rw [if_neg k2]
 by_cases k6 : kd = 6
 · rw [if_pos k6]; have := mQ (x := x) h a kd (min x.room x.aA) (by omega) (.inr (.inr k6)); subst k6; exact this
 rw [if_neg k6]; have hk : ¬ (kd = 1 \/ kd = 2 \/ kd = 6) := by omega
 by_cases k3 : kd = 3
 · rw [if_pos k3]; have := Kept.shares (aM rk) x.aA h x a (j := 2) (kd := kd) (.inl ⟨rfl, k3⟩); rw [if_neg (by omega)] at this; exact ⟨this, qy (s1 (aM rk) 2 (.inr rfl) x.aA) hk⟩
 rw [if_neg k3]
 by_cases k4 : kd = 4
 · rw [if_pos k4]; have := Kept.nu (a := a) (kd := kd) (.inl k4) 8 0 (min x.av x.aA) x c h; simp only [if_pos k4] at this; have hp := og (a := a) hk 8 0 (min x.av x.aA) c h; generalize bx a kd 8 0 (min x.av x.aA) c = y at *
   exact ⟨this, hp⟩
 rw [if_neg k4]
 by_cases k5 : kd = 5
 · rw [if_pos k5]; have := Kept.shares (fun _ => true) (min x.av x.aA) h x a (j := 1) (kd := kd) (.inr ⟨rfl, by omega⟩); rw [if_pos (by omega)] at this; exact ⟨this, qy (s1 (fun _ => true) 1 (.inl rfl) _) hk⟩
 rw [if_neg k5]
 by_cases k7 : kd = 7
 · rw [if_pos k7]; have := Kept.nu (a := a) (kd := kd) (.inr k7) 8 0 x.aA x c h; simp only [if_neg k4] at this; have hp := og (a := a) hk 8 0 x.aA c h; generalize bx a kd 8 0 x.aA c = y at *
   exact ⟨this, hp⟩
 rw [if_neg k7]; exact ⟨Kept.refl fun d hd => (cv ((bP h).2 d hd)).1, fun d hd => by cases hd⟩
def D2 (n : Nat) (a : Int) (l : List Dat) (d : Dat) : Prop := (a <= d.i 0 /\ d.i 0 < a + l.length) /\ B4 n (d.i 0) (af l (d.i 0 - a).toNat |>.i 0) d
theorem xt : ∀ (l : List Dat) (a : Int) (x : bm) (c : List Dat), ns x = true -> aV c = true -> Kept x c (dI a l x c).2.2 (dI a l x c).1 (dI a l x c).2.1 /\ (∀ d ∈ (dI a l x c).2.2, D2 c.length a l d) /\ (dI a l x c).2.2.Pairwise fun d e => d.i 0 <= e.i 0
 | [], a, x, c, hx, h => ⟨Kept.refl fun d hd => (cv ((bP h).2 d hd)).1, fun d hd => by simp [dI] at hd, List.Pairwise.nil⟩
 | s :: l, a, x, c, hx, h => by
  obtain ⟨h1, h2, h3, h4⟩ := tI a (s.i 0) (s.i 1) hx h; obtain ⟨k1, k2⟩ := DI a (s.i 0) (s.i 1) hx h; obtain ⟨i1, i2, i3⟩ := xt l (a + 1) _ _ h1 h2; simp only [dI]; refine ⟨k1.trans i1, fun d hd => ?_, ?_⟩
  · rcases List.mem_append.1 hd with hd | hd
    · obtain ⟨g0, g1, g2, g3, g4⟩ := k2 d hd; refine ⟨by rw [g0, List.length_cons]; omega, ?_⟩; rw [g0, Int.sub_self]; exact ⟨g0, g1, g2, g3, g4⟩
    · obtain ⟨g0, g1⟩ := i2 d hd; rw [h3] at g1; refine ⟨by rw [List.length_cons]; omega, ?_⟩; rw [show (d.i 0 - a).toNat = (d.i 0 - (a + 1)).toNat + 1 by omega]; exact g1
  · rw [List.pairwise_append]; refine ⟨?_, i3, fun d hd e he => ?_⟩
    · refine List.Pairwise.imp_of_mem (R := fun _ _ => True) (fun {d e} hd he _ => ?_) (List.pairwise_of_forall fun _ _ => trivial); rw [(k2 d hd).1, (k2 e he).1]; exact Int.le_refl _
    · have := (k2 d hd).1; have := (i2 e he).1; omega
end
end Go.Proofs.YtdbkoeefnodejaaGreat
namespace Go.Proofs.YtdbkoeefnodejaaGreat
noncomputable section
open Go Go.Proofs.YtdbkoeefnodejaaGreat.Ev
set_option maxRecDepth 20000
def cJ (u p l r : Int) : Int := min (min (max (u - p) 0) (max (l - r) 0)) (max u 0)
def RG : aF := ⟨T45.tab, 108, ⟨[.int .i64, .int .i64, .int .i64, .int .i64], [], 0⟩, ⟨[.int .i64], [], 0⟩, []⟩
def t108 (m : Nat) : Int × Int × Int × Int -> Option (List Un) := fun (a0, a1, a2, a3) =>
 lt ((if (w64 (a0 - a1)) < 0 then 0 else (w64 (a0 - a1))) : Int) fun x1 =>
 lt ((if (w64 (a2 - a3)) < 0 then 0 else (w64 (a2 - a3))) : Int) fun x2 =>
 lt ((if a0 < 0 then 0 else a0) : Int) fun x3 =>
 some ([.i (if x3 < (if x2 < x1 then x2 else x1) then x3 else (if x2 < x1 then x2 else x1))])
def f108 : Int × Int × Int × Int -> Bool × List Un := fun (a0, a1, a2, a3) => (decide ((-1152921504606846976 <= a0 /\ a0 <= 1152921504606846976) /\ (-1152921504606846976 <= a1 /\ a1 <= 1152921504606846976) /\ (-1152921504606846976 <= a2 /\ a2 <= 1152921504606846976) /\ (-1152921504606846976 <= a3 /\ a3 <= 1152921504606846976)), [.i (cJ a0 a1 a2 a3)])
theorem LU (a0 : Int) (a1 : Int) (a2 : Int) (a3 : Int) (hc : (decide ((-1152921504606846976 <= a0 /\ a0 <= 1152921504606846976) /\ (-1152921504606846976 <= a1 /\ a1 <= 1152921504606846976) /\ (-1152921504606846976 <= a2 /\ a2 <= 1152921504606846976) /\ (-1152921504606846976 <= a3 /\ a3 <= 1152921504606846976))) = true) : ∃ m, t108 m (a0, a1, a2, a3) = some ([.i (cJ a0 a1 a2 a3)]) := by
 have h := of_decide_eq_true hc; refine ⟨0, ?_⟩; unfold t108 cJ; simp only [lt_eq]; rw [aa (n := a0 - a1) (by omega) (by omega), aa (n := a2 - a3) (by omega) (by omega)]
 congr 3
 omega
theorem Hf : ER 108 (mkE RG.en RG.ex f108) := ar ag T45.right (fun m => []) (t := t108) (by kernel_rfl) (fun m => aE) (fun m a => by kernel_rfl) fun (a0, a1, a2, a3) hc => LU a0 a1 a2 a3 hc
def L5 : Tb Tryz.prog LQ TE := T45.add 108 _ Hf
def cm (n : Int) : Nat -> List Int
 | 0 => []
 | k + 1 => n :: cm (n + 1) k
theorem fU : ∀ (k : Nat) (n : Int), (cm n k).length = k
 | 0, _ => rfl
 | k + 1, n => by simp [cm, fU k]
theorem xS : ∀ (k j : Nat) (n : Int), j < k -> (cm n k).getD j 0 = n + j
 | 0, j, n, h => by omega
 | k + 1, 0, n, h => by simp [cm]
 | k + 1, j + 1, n, h => by
  simp only [cm, List.getD_cons_succ, xS k j (n + 1) (by omega)]; omega
theorem yE {c : List Dat} {i : Nat} (h : i < c.length) : (cm 0 c.length).getD i 0 = (i : Int) := by rw [xS _ _ _ h]; omega
theorem bW {c : List Dat} {i : Nat} (h : i < c.length) (hg : ∀ d ∈ c, aO d = true) : aO (af c i) = true := hg _ (oL h)
theorem Jc {d : Dat} (h : aO d = true) : w64 (w64 (d.i 1 - w64 (d.i 3 - d.i 4)) - d.i 6) = bc d := by
 have := bY h; rw [aa (n := d.i 3 - d.i 4) (by omega) (by omega), aa (n := d.i 1 - _) (by omega) (by omega), aa (by omega) (by omega)]; rfl
theorem qA (j : Nat) : ∀ (c : List Dat) (i : Nat), i < c.length -> ak j (c.drop i) = (af c i).i j + ak j (c.drop (i + 1))
 | [], i, h => by simp at h
 | d :: c, 0, _ => by simp [ak, af]
 | d :: c, i + 1, h => by
  have := qA j c i (by simpa using h); simpa [af] using this
def Ow : aF := ⟨L5.tab, 144, ⟨[.buf 0 1], [.dD 1 7 0, .ae (sI 7)], 2⟩, ⟨[.int .i64], [.dD 1 7 0, .ae (sI 7)], 2⟩, []⟩
abbrev zf : Type := Int × Int × Int × List Int × List Dat
def sV (m : Nat) (k : zf -> Option (List Un)) : zf -> Option (List Un) := fun (a0, a1, a2, a3, a4) =>
 bif decide (a2 < a1) then
 chk (inb a2 a3.length) <|
 chk (decide (a2.toNat < a3.length)) <|
 bif (!((decide ((a3.getD a2.toNat 0) < 0)) && true)) then
 chk (decide (0 <= (a3.getD a2.toNat 0))) <|
 chk (decide ((a3.getD a2.toNat 0).toNat < a4.length)) <|
 k ((w64 (a0 + ((af a4 ((a3.getD a2.toNat 0).toNat)).i 6))), a1, (w64 (a2 + 1)), a3, a4)
 else
 k (a0, a1, (w64 (a2 + 1)), a3, a4)
 else
 some ([.i a0, .l a3, .d a4])
def qo (m : Nat) : Nat -> zf -> Option (List Un) := bj (sV m)
theorem rz (m : Nat) (n : Nat) : qo m (n + 1) = sV m (qo m n) := rfl
def DT (F : zf -> Option (List Un)) : aR := ⟨[.lp [0, 1, 0, 1, 1], .blk 0, .code [1, 1, 1]], ⟨frm 22 [(3, .int .i64), (6, .buf 0 1), (7, .int .i64), (8, .int .i64)], [.dD 1 7 0, .ae (sI 7)], 2⟩, onU F⟩
theorem PA (m : Nat) : ∀ n, HO Ow (DT (qo m n)) := au ag L5.right (fun k => [DT k]) (fun k h => (aH h aE)) fun k a => by kernel_rfl
def t144 (m : Nat) : List Int × List Dat -> Option (List Un) := fun (a0, a1) =>
 qo m m (0, (a0.length : Int), 0, a0, a1)
theorem OU (m : Nat) (c : List Dat) (hl : c.length <= 1000) (hg : ∀ d ∈ c, aO d = true) : ∀ (k i n : Nat) (s : Int), i + k = c.length -> k < n -> 0 <= s -> s <= 1099511627776 * i ->
 qo m n (s, (c.length : Int), (i : Int), cm 0 c.length, c) = some [.i (s + ak 6 (c.drop i)), .l (cm 0 c.length), .d c] := by
 intro k
 induction k with
 | zero =>
  intro i n s hi hn s0 s1; obtain ⟨n, rfl⟩ := al n (by omega); rw [rz]; unfold sV; dsimp only; rw [aw (by omega), List.drop_eq_nil_of_le (by omega)]; simp [ak]
 | succ k ih =>
  intro i n s hi hn s0 s1; obtain ⟨n, rfl⟩ := al n (by omega); have hk := yE (c := c) (i := i) (by omega); have hL := fU c.length 0; have hx := bY (bW (i := i) (by omega) hg); have := ih (i + 1) n (s + (af c i).i 6) (by omega) (by omega) (by omega) (by omega); rw [qA 6 c i (by omega), <- Int.add_assoc]; rw [rz]; unfold sV; dsimp only; simp only [Int.toNat_natCast, hk, hL, Bool.and_true, decide_true]; simp (disch := omega) only [TRa, TRi, aa, LNl, LNi, Int.cast_ofNat_Int]; simp only [LNl, LNi, Int.cast_ofNat_Int] at this ⊢; exact this
def f144 : List Int × List Dat -> Bool × List Un := fun (a0, a1) => ((decide (a0 = cm 0 a1.length)) && (decide (a1.length <= 1000) && a1.all aO), [.i (ak 6 a1), .l (a0), .d (a1)])
theorem JL (a0 : List Int) (a1 : List Dat) (hc : ((decide (a0 = cm 0 a1.length)) && (decide (a1.length <= 1000) && a1.all aO)) = true) : ∃ m, t144 m (a0, a1) = some ([.i (ak 6 a1), .l (a0), .d (a1)]) := by
 simp only [Bool.and_eq_true, decide_eq_true_eq, List.all_eq_true] at hc; obtain ⟨rfl, h1, h2⟩ := hc; refine ⟨a1.length + 1, ?_⟩; unfold t144; dsimp only; rw [fU]; exact (OU _ a1 h1 h2 a1.length 0 _ 0 (by omega) (by omega) (by omega) (by simp)).trans (by simp only [Int.zero_add, List.drop_zero])
theorem GQ : ER 144 (mkE Ow.en Ow.ex f144) := ar ag L5.right (fun m => [DT (qo m m)]) (t := t144) (by kernel_rfl) (fun m => (aH (PA m m) aE)) (fun m a => by kernel_rfl) fun (a0, a1) hc => JL a0 a1 hc
def JX : Tb Tryz.prog LQ TE := L5.add 144 _ GQ
def fD (c : List Dat) : Nat -> Nat -> Int -> Int
 | 0, _, o => o
 | k + 1, i, o => fD c k (i + 1) (if 0 < bc (af c i) /\ (o < 0 \/ (af c o.toNat).i 0 <= (af c i).i 0) then (i : Int) else o)
theorem yD (c : List Dat) : ∀ (k i : Nat) (o : Int), i + k = c.length -> -1 <= o -> o < c.length -> -1 <= fD c k i o /\ fD c k i o < c.length
 | 0, _, o, _, h1, h2 => ⟨h1, h2⟩
 | k + 1, i, o, h, h1, h2 => by
  unfold fD
  split
  · exact yD c k (i + 1) _ (by omega) (by omega) (by omega)
  · exact yD c k (i + 1) _ (by omega) (by omega) (by omega)
def PF : aF := ⟨JX.tab, 145, ⟨[.buf 0 1], [.dD 1 7 0, .ae (sI 7)], 2⟩, ⟨[.np 1 7 0], [.dD 1 7 0, .ae (sI 7)], 2⟩, []⟩
abbrev yN : Type := Int × Int × Int × List Int × List Dat
def ta (m : Nat) (k : yN -> Option (List Un)) : yN -> Option (List Un) := fun (a0, a1, a2, a3, a4) =>
 bif decide (a2 < a1) then
 chk (inb a2 a3.length) <|
 chk (decide (a2.toNat < a3.length)) <|
 bif (!((decide ((a3.getD a2.toNat 0) < 0)) && true)) then
 chk (decide (0 <= (a3.getD a2.toNat 0))) <|
 chk (decide ((a3.getD a2.toNat 0).toNat < a4.length)) <|
 lt (af a4 ((a3.getD a2.toNat 0).toNat) : Dat) fun d2 =>
 bif decide ((w64 (w64 ((d2.i 1) - w64 ((d2.i 3) - (d2.i 4))) - (d2.i 6))) > 0) then
 bif ((decide (a0 < 0)) && true) then
 k ((a3.getD a2.toNat 0), a1, (w64 (a2 + 1)), a3, a4)
 else
 chk (decide (0 <= (a3.getD a2.toNat 0))) <|
 chk (decide ((a3.getD a2.toNat 0).toNat < a4.length)) <|
 chk (decide (0 <= a0)) <|
 chk (decide (a0.toNat < a4.length)) <|
 bif (decide (((af a4 ((a3.getD a2.toNat 0).toNat)).i 0) >= ((af a4 a0.toNat).i 0))) then
 k ((a3.getD a2.toNat 0), a1, (w64 (a2 + 1)), a3, a4)
 else
 k (a0, a1, (w64 (a2 + 1)), a3, a4)
 else
 k (a0, a1, (w64 (a2 + 1)), a3, a4)
 else
 k (a0, a1, (w64 (a2 + 1)), a3, a4)
 else
 some ([.i a0, .l a3, .d a4])
def qb (m : Nat) : Nat -> yN -> Option (List Un) := bj (ta m)
theorem rL (m : Nat) (n : Nat) : qb m (n + 1) = ta m (qb m n) := rfl
def CO (F : yN -> Option (List Un)) : aR := ⟨[.lp [0, 1, 0, 1, 1], .blk 0, .code [1, 1, 1]], ⟨frm 41 [(3, .np 1 7 0), (6, .buf 0 1), (7, .int .i64), (8, .int .i64)], [.dD 1 7 0, .ae (sI 7)], 2⟩, onU F⟩
theorem Oz (m : Nat) : ∀ n, HO PF (CO (qb m n)) := au ag JX.right (fun k => [CO k]) (fun k h => (aH h aE)) fun k a => by kernel_rfl
def t145 (m : Nat) : List Int × List Dat -> Option (List Un) := fun (a0, a1) =>
 qb m m ((-1), (a0.length : Int), 0, a0, a1)
theorem RC (m : Nat) (c : List Dat) (hl : c.length <= 1000) (hg : ∀ d ∈ c, aO d = true) : ∀ (k i n : Nat) (o : Int), i + k = c.length -> k < n -> -1 <= o -> o < c.length ->
 qb m n (o, (c.length : Int), (i : Int), cm 0 c.length, c) = some [.i (fD c k i o), .l (cm 0 c.length), .d c] := by
 intro k
 induction k with
 | zero =>
  intro i n o hi hn o0 o1; obtain ⟨n, rfl⟩ := al n (by omega); rw [rL]; unfold ta; dsimp only; rw [aw (by omega)]; rfl
 | succ k ih =>
  intro i n o hi hn o0 o1; obtain ⟨n, rfl⟩ := al n (by omega); have hk := yE (c := c) (i := i) (by omega); have hL := fU c.length 0; have hx := bY (bW (i := i) (by omega) hg); have ia := ih (i + 1) n (i : Int) (by omega) (by omega) (by omega) (by omega); have ib := ih (i + 1) n o (by omega) (by omega) (by omega) (by omega); rw [rL]; unfold ta; dsimp only; unfold fD; have e := Jc (bW (c := c) (i := i) (by omega) hg); simp only [lt_eq, Int.toNat_natCast, hk, hL, Bool.and_true, decide_true, e, ge_iff_le, gt_iff_lt]
  by_cases h1 : 0 < bc (af c i)
  · by_cases h2 : o < 0
    · have hc : 0 < bc (af c i) /\ (o < 0 \/ (af c o.toNat).i 0 <= (af c i).i 0) := ⟨h1, .inl h2⟩
      rw [if_pos hc]; simp (disch := omega) only [TRa, TRi, aa, LNl, LNi, Int.cast_ofNat_Int]; simp only [Int.natCast_add, Int.cast_ofNat_Int] at ia ib ⊢; exact ia
    · by_cases h3 : (af c o.toNat).i 0 <= (af c i).i 0
      · have hc : 0 < bc (af c i) /\ (o < 0 \/ (af c o.toNat).i 0 <= (af c i).i 0) := ⟨h1, .inr h3⟩
        rw [if_pos hc]; simp (disch := omega) only [TRa, TRi, aa, LNl, LNi, Int.cast_ofNat_Int]; simp only [Int.natCast_add, Int.cast_ofNat_Int] at ia ib ⊢; exact ia
      · have hc : ¬ (0 < bc (af c i) /\ (o < 0 \/ (af c o.toNat).i 0 <= (af c i).i 0)) := fun h => h.2.elim h2 h3
        rw [if_neg hc]; simp (disch := omega) only [TRa, TRi, aa, LNl, LNi, Int.cast_ofNat_Int]; simp only [Int.natCast_add, Int.cast_ofNat_Int] at ia ib ⊢; exact ib
  · have hc : ¬ (0 < bc (af c i) /\ (o < 0 \/ (af c o.toNat).i 0 <= (af c i).i 0)) := fun h => h1 h.1
    rw [if_neg hc]; simp (disch := omega) only [TRa, TRi, aa, LNl, LNi, Int.cast_ofNat_Int]; simp only [Int.natCast_add, Int.cast_ofNat_Int] at ia ib ⊢; exact ib
def f145 : List Int × List Dat -> Bool × List Un := fun (a0, a1) => ((decide (a0 = cm 0 a1.length)) && (decide (a1.length <= 1000) && a1.all aO), [.i (fD a1 a1.length 0 (-1)), .l (a0), .d (a1)])
theorem Mx (a0 : List Int) (a1 : List Dat) (hc : ((decide (a0 = cm 0 a1.length)) && (decide (a1.length <= 1000) && a1.all aO)) = true) : ∃ m, t145 m (a0, a1) = some ([.i (fD a1 a1.length 0 (-1)), .l (a0), .d (a1)]) := by
 simp only [Bool.and_eq_true, decide_eq_true_eq, List.all_eq_true] at hc; obtain ⟨rfl, h1, h2⟩ := hc; refine ⟨a1.length + 1, ?_⟩; unfold t145; dsimp only; rw [fU]; exact RC _ a1 h1 h2 a1.length 0 _ (-1) (by omega) (by omega) (by omega) (by omega)
theorem HG : ER 145 (mkE PF.en PF.ex f145) := ar ag JX.right (fun m => [CO (qb m m)]) (t := t145) (by kernel_rfl) (fun m => (aH (Oz m m) aE)) (fun m a => by kernel_rfl) fun (a0, a1) hc => Mx a0 a1 hc
def Md : Tb Tryz.prog LQ TE := JX.add 145 _ HG
def fC (c : List Dat) : Nat -> Nat -> Int -> Int
 | 0, _, o => o
 | k + 1, i, o => fC c k (i + 1) (if 0 < (af c i).i 6 /\ (o < 0 \/ (af c i).i 0 < (af c o.toNat).i 0) then (i : Int) else o)
theorem Av (c : List Dat) : ∀ (k i : Nat) (o : Int), i + k = c.length -> -1 <= o -> o < c.length -> -1 <= fC c k i o /\ fC c k i o < c.length
 | 0, _, o, _, h1, h2 => ⟨h1, h2⟩
 | k + 1, i, o, h, h1, h2 => by
  unfold fC
  split
  · exact Av c k (i + 1) _ (by omega) (by omega) (by omega)
  · exact Av c k (i + 1) _ (by omega) (by omega) (by omega)
def PL : aF := ⟨Md.tab, 147, ⟨[.buf 0 1], [.dD 1 7 0, .ae (sI 7)], 2⟩, ⟨[.np 1 7 0], [.dD 1 7 0, .ae (sI 7)], 2⟩, []⟩
abbrev Ap : Type := Int × Int × Int × List Int × List Dat
def sq (m : Nat) (k : Ap -> Option (List Un)) : Ap -> Option (List Un) := fun (a0, a1, a2, a3, a4) =>
 bif decide (a2 < a1) then
 chk (inb a2 a3.length) <|
 chk (decide (a2.toNat < a3.length)) <|
 bif (!((decide ((a3.getD a2.toNat 0) < 0)) && true)) then
 chk (decide (0 <= (a3.getD a2.toNat 0))) <|
 chk (decide ((a3.getD a2.toNat 0).toNat < a4.length)) <|
 bif decide (((af a4 ((a3.getD a2.toNat 0).toNat)).i 6) > 0) then
 bif ((decide (a0 < 0)) && true) then
 k ((a3.getD a2.toNat 0), a1, (w64 (a2 + 1)), a3, a4)
 else
 chk (decide (0 <= (a3.getD a2.toNat 0))) <|
 chk (decide ((a3.getD a2.toNat 0).toNat < a4.length)) <|
 chk (decide (0 <= a0)) <|
 chk (decide (a0.toNat < a4.length)) <|
 bif (decide (((af a4 ((a3.getD a2.toNat 0).toNat)).i 0) < ((af a4 a0.toNat).i 0))) then
 k ((a3.getD a2.toNat 0), a1, (w64 (a2 + 1)), a3, a4)
 else
 k (a0, a1, (w64 (a2 + 1)), a3, a4)
 else
 k (a0, a1, (w64 (a2 + 1)), a3, a4)
 else
 k (a0, a1, (w64 (a2 + 1)), a3, a4)
 else
 some ([.i a0, .l a3, .d a4])
def qt (m : Nat) : Nat -> Ap -> Option (List Un) := bj (sq m)
theorem rN (m : Nat) (n : Nat) : qt m (n + 1) = sq m (qt m n) := rfl
def CV (F : Ap -> Option (List Un)) : aR := ⟨[.lp [0, 1, 0, 1, 1], .blk 0, .code [1, 1, 1]], ⟨frm 41 [(3, .np 1 7 0), (6, .buf 0 1), (7, .int .i64), (8, .int .i64)], [.dD 1 7 0, .ae (sI 7)], 2⟩, onU F⟩
theorem Ol (m : Nat) : ∀ n, HO PL (CV (qt m n)) := au ag Md.right (fun k => [CV k]) (fun k h => (aH h aE)) fun k a => by kernel_rfl
def t147 (m : Nat) : List Int × List Dat -> Option (List Un) := fun (a0, a1) =>
 qt m m ((-1), (a0.length : Int), 0, a0, a1)
theorem Qk (m : Nat) (c : List Dat) (hl : c.length <= 1000) (hg : ∀ d ∈ c, aO d = true) : ∀ (k i n : Nat) (o : Int), i + k = c.length -> k < n -> -1 <= o -> o < c.length ->
 qt m n (o, (c.length : Int), (i : Int), cm 0 c.length, c) = some [.i (fC c k i o), .l (cm 0 c.length), .d c] := by
 intro k
 induction k with
 | zero =>
  intro i n o hi hn o0 o1; obtain ⟨n, rfl⟩ := al n (by omega); rw [rN]; unfold sq; dsimp only; rw [aw (by omega)]; rfl
 | succ k ih =>
  intro i n o hi hn o0 o1; obtain ⟨n, rfl⟩ := al n (by omega); have hk := yE (c := c) (i := i) (by omega); have hL := fU c.length 0; have hx := bY (bW (i := i) (by omega) hg); have ia := ih (i + 1) n (i : Int) (by omega) (by omega) (by omega) (by omega); have ib := ih (i + 1) n o (by omega) (by omega) (by omega) (by omega); rw [rN]; unfold sq; dsimp only; unfold fC; have e := Jc (bW (c := c) (i := i) (by omega) hg); simp only [lt_eq, Int.toNat_natCast, hk, hL, Bool.and_true, decide_true, e, ge_iff_le, gt_iff_lt]
  by_cases h1 : 0 < (af c i).i 6
  · by_cases h2 : o < 0
    · have hc : 0 < (af c i).i 6 /\ (o < 0 \/ (af c i).i 0 < (af c o.toNat).i 0) := ⟨h1, .inl h2⟩
      rw [if_pos hc]; simp (disch := omega) only [TRa, TRi, aa, LNl, LNi, Int.cast_ofNat_Int]; simp only [Int.natCast_add, Int.cast_ofNat_Int] at ia ib ⊢; exact ia
    · by_cases h3 : (af c i).i 0 < (af c o.toNat).i 0
      · have hc : 0 < (af c i).i 6 /\ (o < 0 \/ (af c i).i 0 < (af c o.toNat).i 0) := ⟨h1, .inr h3⟩
        rw [if_pos hc]; simp (disch := omega) only [TRa, TRi, aa, LNl, LNi, Int.cast_ofNat_Int]; simp only [Int.natCast_add, Int.cast_ofNat_Int] at ia ib ⊢; exact ia
      · have hc : ¬ (0 < (af c i).i 6 /\ (o < 0 \/ (af c i).i 0 < (af c o.toNat).i 0)) := fun h => h.2.elim h2 h3
        rw [if_neg hc]; simp (disch := omega) only [TRa, TRi, aa, LNl, LNi, Int.cast_ofNat_Int]; simp only [Int.natCast_add, Int.cast_ofNat_Int] at ia ib ⊢; exact ib
  · have hc : ¬ (0 < (af c i).i 6 /\ (o < 0 \/ (af c i).i 0 < (af c o.toNat).i 0)) := fun h => h1 h.1
    rw [if_neg hc]; simp (disch := omega) only [TRa, TRi, aa, LNl, LNi, Int.cast_ofNat_Int]; simp only [Int.natCast_add, Int.cast_ofNat_Int] at ia ib ⊢; exact ib
def f147 : List Int × List Dat -> Bool × List Un := fun (a0, a1) => ((decide (a0 = cm 0 a1.length)) && (decide (a1.length <= 1000) && a1.all aO), [.i (fC a1 a1.length 0 (-1)), .l (a0), .d (a1)])
theorem MS (a0 : List Int) (a1 : List Dat) (hc : ((decide (a0 = cm 0 a1.length)) && (decide (a1.length <= 1000) && a1.all aO)) = true) : ∃ m, t147 m (a0, a1) = some ([.i (fC a1 a1.length 0 (-1)), .l (a0), .d (a1)]) := by
 simp only [Bool.and_eq_true, decide_eq_true_eq, List.all_eq_true] at hc; obtain ⟨rfl, h1, h2⟩ := hc; refine ⟨a1.length + 1, ?_⟩; unfold t147; dsimp only; rw [fU]; exact Qk _ a1 h1 h2 a1.length 0 _ (-1) (by omega) (by omega) (by omega) (by omega)
theorem H9 : ER 147 (mkE PL.en PL.ex f147) := ar ag Md.right (fun m => [CV (qt m m)]) (t := t147) (by kernel_rfl) (fun m => (aH (Ol m m) aE)) (fun m a => by kernel_rfl) fun (a0, a1) hc => MS a0 a1 hc
def Ij : Tb Tryz.prog LQ TE := Md.add 147 _ H9
theorem my (i : Nat) (y : Dat) : ∀ (l : List Dat) (j : Nat), j < l.length -> ak i (l.set j y) = ak i l - (af l j).i i + y.i i
 | [], j, h => by simp at h
 | d :: l, 0, h => by simp only [List.set_cons_zero, ak, af, List.getD_cons_zero]; omega
 | d :: l, j + 1, h => by
  have := my i y l j (by simpa using h); simp only [af] at this; simp only [List.set_cons_succ, ak, af, List.getD_cons_succ, this]; omega
theorem uf {l : List Dat} {j : Nat} {y : Dat} (h : j < l.length) : af (l.set j y) j = y := by
 unfold af; rw [List.getD_eq_getElem?_getD, List.getElem?_set_self h]; rfl
theorem mP {l : List Dat} {j i : Nat} {y : Dat} (h : i ≠ j) : af (l.set j y) i = af l i := by
 unfold af; rw [List.getD_eq_getElem?_getD, List.getD_eq_getElem?_getD, List.getElem?_set_ne (by omega)]
def zK (p : Dat -> Prop) [DecidablePred p] : List Dat -> Nat
 | [] => 0
 | d :: l => (if p d then 1 else 0) + zK p l
theorem zB (p : Dat -> Prop) [DecidablePred p] : ∀ l : List Dat, zK p l <= l.length
 | [] => Nat.le_refl _
 | d :: l => by have := zB p l; simp only [zK, List.length_cons]; split <;> omega
theorem vN (p : Dat -> Prop) [DecidablePred p] (y : Dat) (hy : ¬ p y) : ∀ (l : List Dat) (j : Nat), j < l.length -> p (af l j) -> zK p (l.set j y) + 1 = zK p l
 | [], j, h, _ => by simp at h
 | d :: l, 0, h, hp => by
  have hp : p d := hp; simp only [List.set_cons_zero, zK, if_neg hy, if_pos hp]; omega
 | d :: l, j + 1, h, hp => by
  have := vN p y hy l j (by simpa using h) hp; simp only [List.set_cons_succ, zK]; omega
def dG (c : List Dat) : Prop := c.length <= 1000 /\ ∀ d ∈ c, aO d = true
theorem eB {c : List Dat} (h : dG c) : (decide (c.length <= 1000) && c.all aO) = true := by
 rw [Bool.and_eq_true, List.all_eq_true]; exact ⟨decide_eq_true h.1, h.2⟩
theorem m7 {c : List Dat} {j : Nat} {y : Dat} (h : dG c) (hy : aO y = true) : dG (c.set j y) := ⟨by rw [List.length_set]; exact h.1, Ft h.2 hy⟩
theorem sG (c : List Dat) : ∀ (k i : Nat) (o : Int), i + k = c.length -> (o < 0 \/ 0 < bc (af c o.toNat)) -> (fD c k i o < 0 -> o < 0 /\ ∀ j, i <= j -> j < c.length -> bc (af c j) <= 0) /\ (0 <= fD c k i o -> 0 < bc (af c (fD c k i o).toNat))
 | 0, i, o, h, ho => ⟨fun h1 => ⟨h1, fun j h2 h3 => by omega⟩, fun h1 => by simp only [fD] at h1 ⊢; omega⟩
 | k + 1, i, o, h, ho => by
  unfold fD
  split
  · rename_i hc; obtain ⟨a, b⟩ := sG c k (i + 1) (i : Int) (by omega) (.inr (by rw [Int.toNat_natCast]; exact hc.1)); exact ⟨fun h1 => by have := (a h1).1; omega, b⟩
  · rename_i hc; obtain ⟨a, b⟩ := sG c k (i + 1) o (by omega) ho; refine ⟨fun h1 => ⟨(a h1).1, fun j h2 h3 => ?_⟩, b⟩
    by_cases hj : j = i
    · subst hj; have := (a h1).1; omega
    · exact (a h1).2 j (by omega) h3
theorem sD (c : List Dat) : ∀ (k i : Nat) (o : Int), i + k = c.length -> (o < 0 \/ 0 < (af c o.toNat).i 6) -> (fC c k i o < 0 -> o < 0 /\ ∀ j, i <= j -> j < c.length -> (af c j).i 6 <= 0) /\ (0 <= fC c k i o -> 0 < (af c (fC c k i o).toNat).i 6)
 | 0, i, o, h, ho => ⟨fun h1 => ⟨h1, fun j h2 h3 => by omega⟩, fun h1 => by simp only [fC] at h1 ⊢; omega⟩
 | k + 1, i, o, h, ho => by
  unfold fC
  split
  · rename_i hc; obtain ⟨a, b⟩ := sD c k (i + 1) (i : Int) (by omega) (.inr (by rw [Int.toNat_natCast]; exact hc.1)); exact ⟨fun h1 => by have := (a h1).1; omega, b⟩
  · rename_i hc; obtain ⟨a, b⟩ := sD c k (i + 1) o (by omega) ho; refine ⟨fun h1 => ⟨(a h1).1, fun j h2 h3 => ?_⟩, b⟩
    by_cases hj : j = i
    · subst hj; have := (a h1).1; omega
    · exact (a h1).2 j (by omega) h3
def sh : Nat -> Int -> List Dat -> List Dat
 | 0, _, c => c
 | k + 1, t, c => if ak 6 c < t then (if fD c c.length 0 (-1) < 0 then c else sh k t (c.set (fD c c.length 0 (-1)).toNat (dM (t - ak 6 c) (af c (fD c c.length 0 (-1)).toNat)))) else c
def pK : Nat -> Int -> List Dat -> List Dat
 | 0, _, c => c
 | k + 1, t, c => if t < ak 6 c then (if fC c c.length 0 (-1) < 0 then c else pK k t (c.set (fC c c.length 0 (-1)).toNat (fQ (ak 6 c - t) (af c (fC c c.length 0 (-1)).toNat)))) else c
def fG (t : Int) (c : List Dat) : List Dat := pK (c.length + 2) (max t 0) (sh (c.length + 2) (max t 0) c)
theorem Is (w : Int) (d : Dat) : (dM w d).i 6 = d.i 6 + mT w d /\ bc (dM w d) = bc d - mT w d := by
 simp only [dM, bc, ek, fh, uS, nG]; exact ⟨trivial, by omega⟩
theorem Kq (w : Int) (d : Dat) : (fQ w d).i 6 = d.i 6 - md w d := by
 simp only [fQ, nG]
def uB (t : Int) (c : List Dat) : Nat := if ak 6 c < t then zK (fun d => 0 < bc d) c + 1 else 0
def tp (t : Int) (c : List Dat) : Nat := if t < ak 6 c then zK (fun d => 0 < d.i 6) c + 1 else 0
theorem M4 {t : Int} {c : List Dat} (hg : dG c) (hs : ak 6 c < t) (hj : 0 <= fD c c.length 0 (-1)) :
 (fD c c.length 0 (-1)).toNat < c.length /\ dG (c.set (fD c c.length 0 (-1)).toNat (dM (t - ak 6 c) (af c (fD c c.length 0 (-1)).toNat))) /\ uB t (c.set (fD c c.length 0 (-1)).toNat (dM (t - ak 6 c) (af c (fD c c.length 0 (-1)).toNat))) < uB t c /\
 ak 6 (c.set (fD c c.length 0 (-1)).toNat (dM (t - ak 6 c) (af c (fD c c.length 0 (-1)).toNat))) <= t := by
 have h1 := yD c c.length 0 (-1) (by omega) (by omega) (by omega); have h2 := (sG c c.length 0 (-1) (by omega) (.inl (by omega))).2 hj; generalize fD c c.length 0 (-1) = o at *
 have h3 : o.toNat < c.length := by omega
 have hn := bW h3 hg.2; have e6 := Is (t - ak 6 c) (af c o.toNat); have es := my 6 (dM (t - ak 6 c) (af c o.toNat)) c o.toNat h3; have hp : mT (t - ak 6 c) (af c o.toNat) = min (t - ak 6 c) (bc (af c o.toNat)) := by unfold mT; omega
 refine ⟨h3, m7 hg (Cd _ hn), ?_, by omega⟩; unfold uB; rw [if_pos hs]
 split
 · rename_i hlt; have := vN (fun d => 0 < bc d) (dM (t - ak 6 c) (af c o.toNat)) (by show ¬ 0 < bc _; omega) c o.toNat h3 h2; omega
 · omega
theorem M3 {t : Int} {c : List Dat} (hg : dG c) (hs : t < ak 6 c) (hj : 0 <= fC c c.length 0 (-1)) :
 (fC c c.length 0 (-1)).toNat < c.length /\ dG (c.set (fC c c.length 0 (-1)).toNat (fQ (ak 6 c - t) (af c (fC c c.length 0 (-1)).toNat))) /\ tp t (c.set (fC c c.length 0 (-1)).toNat (fQ (ak 6 c - t) (af c (fC c c.length 0 (-1)).toNat))) < tp t c /\
 t <= ak 6 (c.set (fC c c.length 0 (-1)).toNat (fQ (ak 6 c - t) (af c (fC c c.length 0 (-1)).toNat))) := by
 have h1 := Av c c.length 0 (-1) (by omega) (by omega) (by omega); have h2 := (sD c c.length 0 (-1) (by omega) (.inl (by omega))).2 hj; generalize fC c c.length 0 (-1) = o at *
 have h3 : o.toNat < c.length := by omega
 have hn := bW h3 hg.2; have e6 := Kq (ak 6 c - t) (af c o.toNat); have es := my 6 (fQ (ak 6 c - t) (af c o.toNat)) c o.toNat h3; have hp : md (ak 6 c - t) (af c o.toNat) = min (ak 6 c - t) ((af c o.toNat).i 6) := by unfold md; omega
 refine ⟨h3, m7 hg (Dx _ hn), ?_, by omega⟩; unfold tp; rw [if_pos hs]
 split
 · rename_i hlt; have := vN (fun d => 0 < d.i 6) (fQ (ak 6 c - t) (af c o.toNat)) (by show ¬ 0 < (fQ _ _).i 6; omega) c o.toNat h3 h2; omega
 · omega
theorem BY (t : Int) (c : List Dat) : uB t c < c.length + 2 := by
 have := zB (fun d => 0 < bc d) c; unfold uB; split <;> omega
theorem BI (t : Int) (c : List Dat) : tp t c < c.length + 2 := by
 have := zB (fun d => 0 < d.i 6) c; unfold tp; split <;> omega
theorem Bj {c : List Dat} (hg : dG c) : 0 <= ak 6 c /\ ak 6 c <= 1125899906842624000 := by
 have := (gn c hg.2).2.2.1; have := hg.1; omega
def L3 : aF := ⟨Ij.tab, 107, ⟨[.int .i64, .buf 0 1], [.dD 1 7 0, .ae (sI 7)], 0⟩, ⟨[.int .i64], [.dD 1 7 0, .ae (sI 7)], 0⟩, []⟩
abbrev yW : Type := Int × Int × List Int × List Dat
abbrev Ag : Type := Int × Int × List Int × List Dat
def zH (m : Nat) (k : yW -> Option (List Un)) : yW -> Option (List Un) := fun (a0, a1, a2, a3) =>
 bif decide (a1 > a0) then
 chk ((decide (a2 = cm 0 a3.length)) && (decide (a3.length <= 1000) && a3.all aO)) <|
 lt ((fC a3 a3.length 0 (-1)) : Int) fun x6 =>
 bif ((decide (x6 < 0)) && true) then
 some ([.i a1, .l a2, .d a3])
 else
 chk (decide (0 <= x6 /\ x6.toNat < a3.length) && aO (af a3 x6.toNat)) <|
 lt ((a3.set x6.toNat (fQ (w64 (a1 - a0)) (af a3 x6.toNat))) : List Dat) fun l9 =>
 chk ((decide (a2 = cm 0 l9.length)) && (decide (l9.length <= 1000) && l9.all aO)) <|
 k (a0, (ak 6 l9), a2, l9)
 else
 chk ((decide (a2 = cm 0 a3.length)) && (decide (a3.length <= 1000) && a3.all aO)) <|
 some ([.i (ak 6 a3), .l a2, .d a3])
def qN (m : Nat) : Nat -> yW -> Option (List Un) := bj (zH m)
theorem Bb (m : Nat) (n : Nat) : qN m (n + 1) = zH m (qN m n) := rfl
def Da (F : yW -> Option (List Un)) : aR := ⟨[.lp [0, 1, 0, 1, 1, 1], .blk 2, .code [1, 1, 1, 1]], ⟨frm 47 [(0, .int .i64), (1, .buf 0 1), (7, .int .i64)], [.dD 1 7 0, .ae (sI 7)], 0⟩, onU F⟩
def AK (m : Nat) (k : Ag -> Option (List Un)) : Ag -> Option (List Un) := fun (a0, a1, a2, a3) =>
 bif decide (a1 < a0) then
 chk ((decide (a2 = cm 0 a3.length)) && (decide (a3.length <= 1000) && a3.all aO)) <|
 lt ((fD a3 a3.length 0 (-1)) : Int) fun x2 =>
 bif ((decide (x2 < 0)) && true) then
 some ([.i a1, .l a2, .d a3])
 else
 chk (decide (0 <= x2 /\ x2.toNat < a3.length) && aO (af a3 x2.toNat)) <|
 lt ((a3.set x2.toNat (dM (w64 (a0 - a1)) (af a3 x2.toNat))) : List Dat) fun l5 =>
 chk ((decide (a2 = cm 0 l5.length)) && (decide (l5.length <= 1000) && l5.all aO)) <|
 k (a0, (ak 6 l5), a2, l5)
 else
 chk ((decide (a2 = cm 0 a3.length)) && (decide (a3.length <= 1000) && a3.all aO)) <|
 qN m m (a0, (ak 6 a3), a2, a3)
def qM (m : Nat) : Nat -> Ag -> Option (List Un) := bj (AK m)
theorem B7 (m : Nat) (n : Nat) : qM m (n + 1) = AK m (qM m n) := rfl
def Dg (F : Ag -> Option (List Un)) : aR := ⟨[.lp [0, 1, 0, 1, 1], .blk 0, .code [1, 1, 1]], ⟨frm 47 [(0, .int .i64), (1, .buf 0 1), (5, .int .i64)], [.dD 1 7 0, .ae (sI 7)], 0⟩, onU F⟩
theorem OW (m : Nat) : ∀ n, HO L3 (Da (qN m n)) := au ag Ij.right (fun k => [Da k]) (fun k h => (aH h aE)) fun k a => by kernel_rfl
theorem Nd (m : Nat) : ∀ n, HO L3 (Dg (qM m n)) := au ag Ij.right (fun k => [Dg k, Da (qN m m)]) (fun k h => (aH h (aH (OW m m) aE))) fun k a => by kernel_rfl
def t107 (m : Nat) : Int × List Int × List Dat -> Option (List Un) := fun (a0, a1, a2) =>
 chk ((decide (a1 = cm 0 a2.length)) && (decide (a2.length <= 1000) && a2.all aO)) <|
 qM m m ((if a0 < 0 then 0 else a0), (ak 6 a2), a1, a2)
theorem Q0 (m : Nat) (t : Int) (h0 : 0 <= t) (h1 : t <= 1152921504606846976) : ∀ (k n : Nat) (c : List Dat), tp t c < k -> k <= n -> dG c ->
 qN m n (t, ak 6 c, cm 0 c.length, c) = some [.i (ak 6 (pK k t c)), .l (cm 0 c.length), .d (pK k t c)] := by
 intro k
 induction k with
 | zero => intro n c h; omega
 | succ k ih =>
  intro n c hm hn hg; obtain ⟨n, rfl⟩ := al n (by omega); have hgb := eB hg; have hb := Bj hg; unfold pK; rw [Bb]; unfold zH; dsimp only; simp only [hgb, Bool.and_true, decide_true, gt_iff_lt]
  by_cases hs : t < ak 6 c
  · rw [if_pos hs, ba hs, iI]
    by_cases hj : fC c c.length 0 (-1) < 0
    · rw [if_pos hj]; simp only [lt_eq]; rw [ba hj]
    · rw [if_neg hj]; obtain ⟨a1, a2, a3, a4⟩ := M3 hg hs (by omega); have a5 := eB a2; have := ih n _ (by omega) (by omega) a2; rw [List.length_set] at this; simp only [lt_eq]; have hnr := bW a1 hg.2; rw [aw hj, aa (n := ak 6 c - t) (by omega) (by omega), hnr, Bool.and_true, aG ⟨by omega, a1⟩, a5, List.length_set, decide_eq_true rfl, Bool.true_and, iI]; exact this
  · rw [if_neg hs, aw hs, iI]
theorem Q2 (m : Nat) (t : Int) (h0 : 0 <= t) (h1 : t <= 1152921504606846976) : ∀ (k n : Nat) (c : List Dat), uB t c < k -> k <= n -> c.length + 2 <= m -> dG c ->
 qM m n (t, ak 6 c, cm 0 c.length, c) = some [.i (ak 6 (pK (c.length + 2) t (sh k t c))), .l (cm 0 c.length), .d (pK (c.length + 2) t (sh k t c))] := by
 intro k
 induction k with
 | zero => intro n c h; omega
 | succ k ih =>
  intro n c hm hn hml hg; obtain ⟨n, rfl⟩ := al n (by omega); have hgb := eB hg; have hb := Bj hg; unfold sh; rw [B7]; unfold AK; dsimp only; simp only [hgb, Bool.and_true, decide_true]
  by_cases hs : ak 6 c < t
  · rw [if_pos hs, ba hs, iI]
    by_cases hj : fD c c.length 0 (-1) < 0
    · rw [if_pos hj]; simp only [lt_eq]; rw [ba hj, pK, if_neg (by omega)]
    · rw [if_neg hj]; obtain ⟨a1, a2, a3, a4⟩ := M4 hg hs (by omega); have a5 := eB a2; have := ih n _ (by omega) (by omega) (by rw [List.length_set]; exact hml) a2; rw [List.length_set] at this; simp only [lt_eq]; have hnr := bW a1 hg.2; rw [aw hj, aa (n := t - ak 6 c) (by omega) (by omega), hnr, Bool.and_true, aG ⟨by omega, a1⟩, a5, List.length_set, decide_eq_true rfl, Bool.true_and, iI]; exact this
  · rw [if_neg hs, aw hs, iI]; exact Q0 m t h0 h1 (c.length + 2) m c (BI t c) hml hg
def f107 : Int × List Int × List Dat -> Bool × List Un := fun (a0, a1, a2) => (decide (a0 <= 1152921504606846976) && ((decide (a1 = cm 0 a2.length)) && (decide (a2.length <= 1000) && a2.all aO)), [.i (ak 6 (fG a0 a2)), .l (a1), .d (fG a0 a2)])
theorem J0 (a0 : Int) (a1 : List Int) (a2 : List Dat) (hc : (decide (a0 <= 1152921504606846976) && ((decide (a1 = cm 0 a2.length)) && (decide (a2.length <= 1000) && a2.all aO))) = true) : ∃ m, t107 m (a0, a1, a2) = some ([.i (ak 6 (fG a0 a2)), .l (a1), .d (fG a0 a2)]) := by
 simp only [Bool.and_eq_true, decide_eq_true_eq, List.all_eq_true] at hc; obtain ⟨h0, rfl, h1, h2⟩ := hc; have hg : dG a2 := ⟨h1, h2⟩
 refine ⟨a2.length + 2, ?_⟩; unfold t107 fG; dsimp only; rw [eB hg, decide_eq_true rfl, lC, Bool.true_and, iI]; exact Q2 _ (max a0 0) (by omega) (by omega) (a2.length + 2) _ a2 (BY _ _) (by omega) (by omega) hg
theorem Hh : ER 107 (mkE L3.en L3.ex f107) := ar ag Ij.right (fun m => [Dg (qM m m)]) (t := t107) (by kernel_rfl) (fun m => (aH (Nd m m) aE)) (fun m a => by kernel_rfl) fun (a0, a1, a2) hc => J0 a0 a1 a2 hc
def MK : Tb Tryz.prog LQ TE := Ij.add 107 _ Hh
end
end Go.Proofs.YtdbkoeefnodejaaGreat
namespace Go.Proofs.YtdbkoeefnodejaaGreat
noncomputable section
open Go Go.Proofs.YtdbkoeefnodejaaGreat.Ev
set_option maxRecDepth 20000
@[ext] structure fW where
 call : Bool
 period : Int
 mode : Int
 av : Int
 me : Int
 aK : Int
 aT : Int
 draw : Int
 advance : Int
 fee : Int
 due : Int
instance : Uns fW := Uns.via (B := Bool × Int × Int × Int × Int × Int × Int × Int × Int × Int × Int) (fun x => (x.call, x.period, x.mode, x.av, x.me, x.aK, x.aT, x.draw, x.advance, x.fee, x.due)) (fun x => match x with | (call, period, mode, av, me, aK, aT, draw, advance, fee, due) => ⟨call, period, mode, av, me, aK, aT, draw, advance, fee, due⟩) (fun _ => rfl)
@[ext] structure fc where
 dL : Int
 aI : Int
 bs : Int
 out : Int
 Po : Int
instance : Uns fc := Uns.via (B := Int × Int × Int × Int × Int) (fun x => (x.dL, x.aI, x.bs, x.out, x.Po)) (fun x => match x with | (dL, aI, bs, out, Po) => ⟨dL, aI, bs, out, Po⟩) (fun _ => rfl)
def cN (a : an) (p bal r : Int) : Int := BD bal r a.basis (ff a.year a.month 1 p) (fi a.year a.month 1 p) (gA a.year a.month 1 p) (ff a.year a.month 1 (p + 1)) (fi a.year a.month 1 (p + 1)) (gA a.year a.month 1 (p + 1))
theorem r8 {y m p : Int} (h1 : 1 <= y) (h2 : y <= 9000) (h3 : 1 <= m) (h4 : m <= 12) (h5 : 0 <= p) (h6 : p <= 700) : 1 <= ff y m 1 p /\ ff y m 1 p <= 9999 /\ 1 <= fi y m 1 p /\ fi y m 1 p <= 12 /\ gA y m 1 p = 1 /\ bU (ff y m 1 p) (fi y m 1 p) (gA y m 1 p) = true /\ 12 * ff y m 1 p + fi y m 1 p = 12 * y + m + p := by
 have l1 := mN (y := y) (m := m) h1 (by omega) h3 h4; have hs : gj y m 1 p = true := by
  unfold gj; rw [show bU y m 1 = true from di.2 ⟨by omega, by omega⟩]; simp only [Bool.true_and, decide_eq_true_eq]; omega
 unfold ff fi gA; rw [hs, if_pos rfl, if_pos rfl, if_pos rfl]; have l2 := mN (y := (12 * y + m - 1 + p) / 12) (m := (12 * y + m - 1 + p) % 12 + 1) (by omega) (by omega) (by omega) (by omega); have hd : min 1 (cK ((12 * y + m - 1 + p) / 12) ((12 * y + m - 1 + p) % 12 + 1)) = 1 := by omega
 rw [hd]; exact ⟨by omega, by omega, by omega, by omega, rfl, di.2 ⟨by omega, by omega⟩, by omega⟩
theorem A8 {b y m y' m' : Int} (h1 : 1 <= y) (h2 : y <= 9999) (h3 : 1 <= m) (h4 : m <= 12) (h5 : 12 * y' + m' = 12 * y + m + 1) (h6 : 1 <= m') (h7 : m' <= 12) (r1 : bU y m 1 = true) (r2 : bU y' m' 1 = true) : 0 <= js b y m 1 y' m' 1 /\ js b y m 1 y' m' 1 <= 731 := by
 have n1 := pT r1; have n2 := pT r2; have a1 := nL h1; have a2 := nL (y := y + 1) (by omega); have q1 := oP y; have q2 := oP (y + 1); unfold js
 split
 · split
   · unfold com; rw [if_neg (by omega)]; omega
   · split
     · rename_i h _ _; have hy : y' = y \/ y' = y + 1 := by omega
       rcases hy with rfl | rfl <;> omega
     · omega
 · omega
theorem F9 {n b : Int} (p : Int) (hp : p = 3600000 \/ p = 3650000) (h1 : 0 <= n) (h2 : n <= 1099511627776) (h3 : 0 <= b) (h4 : b <= 3655000) : 0 <= mdV n b p 2 /\ mdV n b p 2 <= 1200000000000 := by
 unfold mdV
 split
 · have hm := Int.mul_le_mul_of_nonneg_left h4 h1; have hz := Int.mul_nonneg h1 h3; have e := Int.mul_ediv_add_emod (n * b) p; have r0 := Int.emod_nonneg (n * b) (show p ≠ 0 by omega); have d0 : 0 <= n * b / p := Int.ediv_nonneg hz (by omega); have d1 : n * b / p <= 1117000000000 := by
    have : n * b < 4018800800000000001 := by omega
    rcases hp with rfl | rfl <;> omega
   unfold mdQ
   split <;> omega
 · omega
theorem pC {a : an} {p bal : Int} (r : Int) (h1 : 1 <= a.year) (h2 : a.year <= 9000) (h3 : 1 <= a.month) (h4 : a.month <= 12) (h5 : 0 <= p) (h6 : p <= 650) (b0 : 0 <= bal) (b1 : bal <= 1099511627776) : 0 <= cN a p bal r /\ cN a p bal r <= 1200000000000 := by
 obtain ⟨s1, s2, s3, s4, s5, s6, s7⟩ := r8 h1 h2 h3 h4 h5 (by omega); obtain ⟨t1, t2, t3, t4, t5, t6, t7⟩ := r8 h1 h2 h3 h4 (show 0 <= p + 1 by omega) (by omega); unfold cN BD; rw [s5] at s6 ⊢; rw [t5] at t6 ⊢
 split
 · rename_i hr; have hd := A8 (b := a.basis) s1 s2 s3 s4 (by omega) t3 t4 s6 t6; have k0 := Int.mul_nonneg hr.1 hd.1; have k1 := Int.mul_le_mul hr.2 hd.2 hd.1 (show (0 : Int) <= 5000 by omega); exact F9 _ (by unfold tz; split <;> omega) b0 b1 k0 (by omega)
 · omega
def dB (a : an) (p : Int) (d : Dat) : Dat := zN (cN a p (bc d) (d.i 2)) d
theorem FG {d : Dat} (h : aO d = true) : 0 <= bc d /\ bc d <= 1099511627776 := by
 have := bY h; unfold bc; omega
def N43 : aF := ⟨MK.tab, 43, ⟨[.ptr 0 0 0, .int .i64], bw 0, 0⟩, ⟨[.int .i64, .int .i64], bw 0, 0⟩, []⟩
abbrev Fq : Type := Int × Int × Int × Int × an × aq × ai × List Dat × List Dat × List Dat × List Dat × List Dat × List Dat × List Dat × Int × Int × Int × Int × Int × Int
def Ae (m : Nat) (k : Fq -> Option (List Un)) : Fq -> Option (List Un) := fun (a0, a1, a2, a3, a4, a5, a6, a7, a8, a9, a10, a11, a12, a13, a14, a15, a16, a17, a18, a19) =>
 bif decide (a3 < a2) then
 chk (inb a3 a13.length) <|
 chk (decide (a3.toNat < a13.length)) <|
 lt (af a13 a3.toNat : Dat) fun d9 =>
 chk (decide (a3.toNat < a13.length)) <|
 lt ((BD (w64 (w64 ((d9.i 1) - w64 ((d9.i 3) - (d9.i 4))) - (d9.i 6))) ((af a13 a3.toNat).i 2) a4.basis a14 a15 a16 a17 a18 a19) : Int) fun x12 =>
 chk (decide (0 <= x12 /\ x12 <= 1125899906842624) && (decide (0 <= (a3.toNat : Int) /\ (a3.toNat : Int).toNat < a13.length) && aO (af a13 (a3.toNat : Int).toNat))) <|
 k (a0, (w64 (a1 + x12)), a2, (w64 (a3 + 1)), a4, a5, a6, a7, a8, a9, a10, a11, a12, (a13.set (a3.toNat : Int).toNat (zN x12 (af a13 (a3.toNat : Int).toNat))), a14, a15, a16, a17, a18, a19)
 else
 some ([.i a0, .i a1] ++ Uns.enc (a4 : an) ++ Uns.enc (a5 : aq) ++ Uns.enc (a6 : ai) ++ [.d a7, .d a8, .d a9, .d a10, .d a11, .d a12, .d a13])
def tW (m : Nat) : Nat -> Fq -> Option (List Un) := bj (Ae m)
theorem tO (m : Nat) (n : Nat) : tW m (n + 1) = Ae m (tW m n) := rfl
def G4 (F : Fq -> Option (List Un)) : aR := ⟨[.lp [0, 1, 0, 1, 1, 1, 1, 1], .blk 0, .code [1, 1, 1, 1, 1, 1]], ⟨frm 88 [(0, .ptr 0 0 0), (6, .ptr 9 0 0), (7, .ptr 10 0 0), (8, .int .i64), (10, .int .i64), (49, .int .i64), (50, .int .i64)], bw 0 ++ [.cells [.int .i64, .int .i64, .int .i64], .cells [.int .i64, .int .i64, .int .i64]], 0⟩, onU F⟩
theorem Q8 (m : Nat) : ∀ n, HO N43 (G4 (tW m n)) := au ag MK.right (fun k => [G4 k]) (fun k h => (aH h aE)) fun k a => by kernel_rfl
def t43 (m : Nat) : Int × an × aq × ai × List Dat × List Dat × List Dat × List Dat × List Dat × List Dat × List Dat -> Option (List Un) := fun (a0, a1, a2, a3, a4, a5, a6, a7, a8, a9, a10) =>
 lt ((ff a1.year a1.month 1 a3.period) : Int) fun x1 =>
 lt ((fi a1.year a1.month 1 a3.period) : Int) fun x2 =>
 lt ((gA a1.year a1.month 1 a3.period) : Int) fun x3 =>
 lt ((ff a1.year a1.month 1 (w64 (a3.period + 1))) : Int) fun x4 =>
 lt ((fi a1.year a1.month 1 (w64 (a3.period + 1))) : Int) fun x5 =>
 lt ((gA a1.year a1.month 1 (w64 (a3.period + 1))) : Int) fun x6 =>
 lt ((BD a0 a2.fee a1.basis x1 x2 x3 x4 x5 x6) : Int) fun x7 =>
 tW m m (x7, 0, (a10.length : Int), 0, a1, a2, ({ a3 with fee := (w64 (a3.fee + x7)) } : ai), a4, a5, a6, a7, a8, a9, a10, x1, x2, x3, x4, x5, x6)
theorem Ky (m : Nat) (fe : Int) (xa : an) (xb : aq) (xn : ai) (x1 x2 x3 x4 x5 x6 : List Dat) (p : Int) (hf : ∀ d, aO d = true -> 0 <= cN xa p (bc d) (d.i 2) /\ cN xa p (bc d) (d.i 2) <= 1200000000000) : ∀ (rest pre : List Dat) (n : Nat) (s : Int), rest.length < n -> (pre ++ rest).length <= 1000 -> (∀ d ∈ rest, aO d = true) -> 0 <= s -> s <= 1200000000000 * pre.length ->
 tW m n (fe, s, ((pre ++ rest).length : Int), (pre.length : Int), xa, xb, xn, x1, x2, x3, x4, x5, x6, pre ++ rest, ff xa.year xa.month 1 p, fi xa.year xa.month 1 p, gA xa.year xa.month 1 p, ff xa.year xa.month 1 (p + 1), fi xa.year xa.month 1 (p + 1), gA xa.year xa.month 1 (p + 1)) =
  some ([.i fe, .i (s + aW (fun d => cN xa p (bc d) (d.i 2)) rest)] ++ Uns.enc xa ++ Uns.enc xb ++ Uns.enc xn ++ [.d x1, .d x2, .d x3, .d x4, .d x5, .d x6, .d (pre ++ rest.map (dB xa p))]) := by
 intro rest
 induction rest with
 | nil =>
  intro pre n s hn hl hg s0 s1; obtain ⟨n, rfl⟩ := al n (by simp at hn; omega); rw [tO]; unfold Ae; dsimp only; simp [aw, aW]
 | cons x rest ih =>
  intro pre n s hn hl hg s0 s1; obtain ⟨n, rfl⟩ := al n (by simp at hn; omega); simp only [List.length_cons, List.length_append] at hn hl; have hx := bY (hg x (by simp)); have hb := hf x (hg x (by simp)); have hgx := hg x (by simp); have := ih (pre ++ [dB xa p x]) n (s + cN xa p (bc x) (x.i 2)) (by omega) (by simp; omega) (fun d hd => hg d (by simp [hd])) (by omega) (by simp; omega); have e : w64 (w64 (x.i 1 - w64 (x.i 3 - x.i 4)) - x.i 6) = bc x := by rw [aa (n := x.i 3 - x.i 4) (by omega) (by omega), aa (n := x.i 1 - _) (by omega) (by omega), aa (by omega) (by omega)]; rfl
  have e2 : ∀ z, BD z (x.i 2) xa.basis (ff xa.year xa.month 1 p) (fi xa.year xa.month 1 p) (gA xa.year xa.month 1 p) (ff xa.year xa.month 1 (p + 1)) (fi xa.year xa.month 1 (p + 1)) (gA xa.year xa.month 1 (p + 1)) = cN xa p z (x.i 2) := fun z => rfl
  rw [tO]; unfold Ae; dsimp only; simp only [aW, List.map_cons, LNi, ao, lt_eq, e, e2, hgx, Bool.and_true, tf]; rw [show zN (cN xa p (bc x) (x.i 2)) x = dB xa p x from rfl]; simp (disch := omega) only [TRa, TRi, aa, LNl, LNi, Int.cast_ofNat_Int, ao]; simp only [LNl, LNi, Int.cast_ofNat_Int] at this ⊢; exact this
def f43 : Int × an × aq × ai × List Dat × List Dat × List Dat × List Dat × List Dat × List Dat × List Dat -> Bool × List Un := fun (a0, a1, a2, a3, a4, a5, a6, a7, a8, a9, a10) => (decide ((1 <= a1.year /\ a1.year <= 9000 /\ 1 <= a1.month /\ a1.month <= 12) /\ (0 <= a3.period /\ a3.period <= 600) /\ (0 <= a3.fee /\ a3.fee <= 1125899906842624) /\ (0 <= a0 /\ a0 <= 1099511627776)) && (decide (a10.length <= 1000) && a10.all aO), [.i (cN a1 a3.period a0 a2.fee), .i (aW (fun d => cN a1 a3.period (bc d) (d.i 2)) a10)] ++ Uns.enc ((a1) : an) ++ Uns.enc ((a2) : aq) ++ Uns.enc (({ a3 with fee := a3.fee + cN a1 a3.period a0 a2.fee }) : ai) ++ [.d (a4), .d (a5), .d (a6), .d (a7), .d (a8), .d (a9), .d (a10.map (dB a1 a3.period))])
theorem Om (a0 : Int) (a1 : an) (a2 : aq) (a3 : ai) (a4 : List Dat) (a5 : List Dat) (a6 : List Dat) (a7 : List Dat) (a8 : List Dat) (a9 : List Dat) (a10 : List Dat) (hc : (decide ((1 <= a1.year /\ a1.year <= 9000 /\ 1 <= a1.month /\ a1.month <= 12) /\ (0 <= a3.period /\ a3.period <= 600) /\ (0 <= a3.fee /\ a3.fee <= 1125899906842624) /\ (0 <= a0 /\ a0 <= 1099511627776)) && (decide (a10.length <= 1000) && a10.all aO)) = true) : ∃ m, t43 m (a0, a1, a2, a3, a4, a5, a6, a7, a8, a9, a10) = some ([.i (cN a1 a3.period a0 a2.fee), .i (aW (fun d => cN a1 a3.period (bc d) (d.i 2)) a10)] ++ Uns.enc ((a1) : an) ++ Uns.enc ((a2) : aq) ++ Uns.enc (({ a3 with fee := a3.fee + cN a1 a3.period a0 a2.fee }) : ai) ++ [.d (a4), .d (a5), .d (a6), .d (a7), .d (a8), .d (a9), .d (a10.map (dB a1 a3.period))]) := by
 simp only [Bool.and_eq_true, decide_eq_true_eq, List.all_eq_true] at hc; obtain ⟨⟨⟨h1, h2, h3, h4⟩, ⟨h5, h6⟩, ⟨h7, h8⟩, h9, h10⟩, h11, h12⟩ := hc; have hs := pC a2.fee h1 h2 h3 h4 h5 (show a3.period <= 650 by omega) h9 h10; have hf : ∀ d, aO d = true -> 0 <= cN a1 a3.period (bc d) (d.i 2) /\ cN a1 a3.period (bc d) (d.i 2) <= 1200000000000 := fun d hd => pC _ h1 h2 h3 h4 h5 (by omega) (FG hd).1 (FG hd).2
 refine ⟨a10.length + 1, ?_⟩; unfold t43; dsimp only [lt]; rw [aa (n := a3.period + 1) (by omega) (by omega)]; refine (show tW _ _ (cN a1 a3.period a0 a2.fee, 0, (a10.length : Int), 0, a1, a2, { a3 with fee := w64 (a3.fee + cN a1 a3.period a0 a2.fee) }, a4, a5, a6, a7, a8, a9, a10, _, _, _, _, _, _) = _ from ?_); rw [aa (n := a3.fee + _) (by omega) (by omega)]; exact (Ky _ _ a1 a2 _ a4 a5 a6 a7 a8 a9 a3.period hf a10 [] (a10.length + 1) 0 (by omega) (by simpa using h11) h12 (by omega) (by simp)).trans (by simp only [Int.zero_add, List.nil_append])
theorem Ms : ER 43 (mkE N43.en N43.ex f43) := ar ag MK.right (fun m => [G4 (tW m m)]) (t := t43) (by kernel_rfl) (fun m => (aH (Q8 m m) aE)) (fun m a => by kernel_rfl) fun (a0, a1, a2, a3, a4, a5, a6, a7, a8, a9, a10) hc => Om a0 a1 a2 a3 a4 a5 a6 a7 a8 a9 a10 hc
def T43 : Tb Tryz.prog LQ TE := MK.add 43 _ Ms
def B8 (x : Int) (d : Dat) : Int := max (min x (d.i 5)) 0
def nj (x : Int) (d : Dat) : Dat := .r [.n (d.i 0), .n (d.i 1), .n (d.i 2), .n (d.i 3), .n (d.i 4), .n (d.i 5 - B8 x d), .n (d.i 6)]
def iN (n : ai) (p : Dat) : ai := if p.i 1 = 1 then { n with fee := n.fee - p.i 3 } else if p.i 1 = 2 then { n with out := n.out - p.i 3 } else if p.i 1 = 6 then { n with rin := n.rin + p.i 3 } else n
def kq (c : List Dat) (p : Dat) : List Dat := if p.i 1 = 1 then c else if p.i 1 = 2 then c else if p.i 1 = 6 then c else if p.i 1 = 3 then c.set (p.i 2).toNat (nj (p.i 3) (af c (p.i 2).toNat)) else c.set (p.i 2).toNat (si (p.i 3) (af c (p.i 2).toNat))
def cV : List Dat -> ai -> List Dat -> ai × List Dat
 | [], n, c => (n, c)
 | p :: l, n, c => cV l (iN n p) (kq c p)
def Gl (k : Nat) (p : Dat) : Bool := decide (0 <= p.i 3) && (decide (p.i 1 = 1 \/ p.i 1 = 2 \/ p.i 1 = 6) || decide (0 <= p.i 2 /\ p.i 2 < (k : Int)))
theorem th {k : Nat} {p : Dat} (h : Gl k p = true) : 0 <= p.i 3 /\ ((p.i 1 = 1 \/ p.i 1 = 2 \/ p.i 1 = 6) \/ (0 <= p.i 2 /\ p.i 2 < (k : Int))) := by
 simp only [Gl, Bool.and_eq_true, Bool.or_eq_true, decide_eq_true_eq] at h; exact h
def xO (l : List Dat) (n : ai) (c : List Dat) : Bool := decide (l.length <= 1000000) && (l.all (Gl c.length) && (decide (ak 3 l <= 144115188075855872 /\ (0 <= n.fee /\ n.fee <= 144115188075855872) /\ (0 <= n.out /\ n.out <= 144115188075855872) /\ (0 <= n.rin /\ n.rin <= 144115188075855872)) && (decide (c.length <= 1000) && c.all aO)))
theorem yo (c : List Dat) (p : Dat) : (kq c p).length = c.length := by
 unfold kq; repeat' split
 all_goals simp
theorem Aw {d : Dat} (x : Int) (h : aO d = true) : aO (nj x d) = true := by
 have := bY h; refine decide_eq_true ?_
 simp only [nj, B8, ek, fh, uS, ot, nG]; omega
theorem CY {c : List Dat} {p : Dat} (hp : Gl c.length p = true) (h : dG c) : dG (kq c p) := by
 have hp := th hp; unfold kq
 by_cases h1 : p.i 1 = 1
 · rw [if_pos h1]; exact h
 rw [if_neg h1]
 by_cases h2 : p.i 1 = 2
 · rw [if_pos h2]; exact h
 rw [if_neg h2]
 by_cases h3 : p.i 1 = 6
 · rw [if_pos h3]; exact h
 rw [if_neg h3]; have hj : (p.i 2).toNat < c.length := by omega
 split
 · exact m7 h (Aw _ (bW hj h.2))
 · exact m7 h (F4 _ (bW hj h.2))
def N48 : aF := ⟨T43.tab, 48, ⟨[.np 0 0 0, .ae (sI 4)], bw 0, 0⟩, ⟨[], bw 0, 0⟩, []⟩
abbrev E5 : Type := Int × List Dat × Int × Int × an × aq × ai × List Dat × List Dat × List Dat × List Dat × List Dat × List Dat × List Dat
def y6 (m : Nat) (k : E5 -> Option (List Un)) : E5 -> Option (List Un) := fun (a0, a1, a2, a3, a4, a5, a6, a7, a8, a9, a10, a11, a12, a13) =>
 bif decide (a3 < a2) then
 chk (inb a3 a1.length) <|
 chk (decide (a3.toNat < a1.length)) <|
 lt (af a1 a3.toNat : Dat) fun d1 =>
 bif (d1.i 1) == 1 then
 chk (decide (0 <= a0)) <|
 chk (decide (0 <= a0)) <|
 k (a0, a1, a2, (w64 (a3 + 1)), a4, a5, ({ a6 with fee := (w64 (a6.fee - (d1.i 3))) } : ai), a7, a8, a9, a10, a11, a12, a13)
 else
 bif (d1.i 1) == 2 then
 chk (decide (0 <= a0)) <|
 chk (decide (0 <= a0)) <|
 k (a0, a1, a2, (w64 (a3 + 1)), a4, a5, ({ a6 with out := (w64 (a6.out - (d1.i 3))) } : ai), a7, a8, a9, a10, a11, a12, a13)
 else
 bif (d1.i 1) == 6 then
 chk (decide (0 <= a0)) <|
 chk (decide (0 <= 0) && decide ((0 : Int) <= a6.rin /\ (0 : Int) <= (d1.i 3) /\ a6.rin + (d1.i 3) <= (1152921504606846976 : Int))) <|
 k (a0, a1, a2, (w64 (a3 + 1)), a4, a5, ({ a6 with rin := a6.rin + (d1.i 3) }), a7, a8, a9, a10, a11, a12, a13)
 else
 bif (d1.i 1) == 3 then
 chk (decide (0 <= a0)) <|
 chk (inb (d1.i 2) a13.length) <|
 chk (decide ((d1.i 2).toNat < a13.length)) <|
 lt (af a13 ((d1.i 2).toNat) : Dat) fun d5 =>
 lt ((if (d5.i 5) < (d1.i 3) then (d5.i 5) else (d1.i 3)) : Int) fun x6 =>
 chk (decide ((d1.i 2).toNat < a13.length)) <|
 chk (decide ((d1.i 2).toNat < a13.length)) <|
 lt (af a13 ((d1.i 2).toNat) : Dat) fun d9 =>
 k (a0, a1, a2, (w64 (a3 + 1)), a4, a5, a6, a7, a8, a9, a10, a11, a12, (List.set a13 ((d1.i 2).toNat) (.r [.n (d9.i 0), .n (d9.i 1), .n (d9.i 2), .n (d9.i 3), .n (d9.i 4), .n (w64 (((af a13 ((d1.i 2).toNat)).i 5) - (if x6 < 0 then 0 else x6))), .n (d9.i 6)])))
 else
 chk (decide (0 <= a0)) <|
 chk (inb (d1.i 2) a13.length) <|
 chk (decide (0 <= ((d1.i 2).toNat : Int) /\ ((d1.i 2).toNat : Int).toNat < a13.length) && aO (af a13 ((d1.i 2).toNat : Int).toNat)) <|
 k (a0, a1, a2, (w64 (a3 + 1)), a4, a5, a6, a7, a8, a9, a10, a11, a12, (a13.set ((d1.i 2).toNat : Int).toNat (si (d1.i 3) (af a13 ((d1.i 2).toNat : Int).toNat))))
 else
 some (Uns.enc (a4 : an) ++ Uns.enc (a5 : aq) ++ Uns.enc (a6 : ai) ++ [.d a7, .d a8, .d a9, .d a10, .d a11, .d a12, .d a13])
def xD (m : Nat) : Nat -> E5 -> Option (List Un) := bj (y6 m)
theorem uC (m : Nat) (n : Nat) : xD m (n + 1) = y6 m (xD m n) := rfl
def HZ (F : E5 -> Option (List Un)) : aR := ⟨[.lp [0, 1], .blk 0], ⟨frm 67 [(0, .np 0 0 0), (6, .ae (sI 4)), (7, .int .i64), (8, .int .i64)], bw 0, 0⟩, onU F⟩
theorem Ru (m : Nat) : ∀ n, HO N48 (HZ (xD m n)) := au ag T43.right (fun k => [HZ k]) (fun k h => (aH h aE)) fun k a => by kernel_rfl
def t48 (m : Nat) : Int × List Dat × an × aq × ai × List Dat × List Dat × List Dat × List Dat × List Dat × List Dat × List Dat -> Option (List Un) := fun (a0, a1, a2, a3, a4, a5, a6, a7, a8, a9, a10, a11) =>
 xD m m (a0, a1, (a1.length : Int), 0, a2, a3, a4, a5, a6, a7, a8, a9, a10, a11)
theorem PX (m : Nat) (p0 : Int) (hp0 : 0 <= p0) (xa : an) (xb : aq) (x1 x2 x3 x4 x5 x6 : List Dat) : ∀ (rest pre : List Dat) (n : Nat) (y : ai) (c : List Dat), rest.length < n -> (pre ++ rest).length <= 1000000 -> (∀ d ∈ rest, Gl c.length d = true) -> dG c ->
 (-288230376151711744 <= y.fee - ak 3 rest /\ y.fee <= 288230376151711744) -> (-288230376151711744 <= y.out - ak 3 rest /\ y.out <= 288230376151711744) -> (0 <= y.rin /\ y.rin + ak 3 rest <= 576460752303423488) ->
 xD m n (p0, pre ++ rest, ((pre ++ rest).length : Int), (pre.length : Int), xa, xb, y, x1, x2, x3, x4, x5, x6, c) = some (Uns.enc xa ++ Uns.enc xb ++ Uns.enc (cV rest y c).1 ++ [.d x1, .d x2, .d x3, .d x4, .d x5, .d x6, .d (cV rest y c).2]) := by
 intro rest
 induction rest with
 | nil =>
  intro pre n y c hn hl hp hg f1 f2 f3; obtain ⟨n, rfl⟩ := al n (by simp at hn; omega); rw [uC]; unfold y6; dsimp only; simp [aw, cV]
 | cons x rest ih =>
  intro pre n y c hn hl hp hg f1 f2 f3; obtain ⟨n, rfl⟩ := al n (by simp at hn; omega); simp only [List.length_cons, List.length_append] at hn hl; have hx := th (hp x (by simp)); have hr := fun d hd => hp d (List.mem_cons_of_mem _ hd)
  have hs := eQ 3 rest fun d hd => (th (hr d hd)).1
  have hT := CY (hp x (by simp)) hg; have hN : (-288230376151711744 <= (iN y x).fee - ak 3 rest /\ (iN y x).fee <= 288230376151711744) /\ (-288230376151711744 <= (iN y x).out - ak 3 rest /\ (iN y x).out <= 288230376151711744) /\ (0 <= (iN y x).rin /\ (iN y x).rin + ak 3 rest <= 576460752303423488) := by
   simp only [ak] at f1 f2 f3; unfold iN
   by_cases h1 : x.i 1 = 1
   · rw [if_pos h1]; simp only; omega
   rw [if_neg h1]
   by_cases h2 : x.i 1 = 2
   · rw [if_pos h2]; simp only; omega
   rw [if_neg h2]
   by_cases h3 : x.i 1 = 6
   · rw [if_pos h3]; simp only; omega
   rw [if_neg h3]; omega
  have := ih (pre ++ [x]) n (iN y x) (kq c x) (by omega) (by simp; omega) (by rw [yo]; exact hr) hT hN.1 hN.2.1 hN.2.2; simp only [ak] at f1 f2 f3; simp only [cV]; rw [uC]; unfold y6; dsimp only; unfold iN kq at this ⊢
  by_cases h1 : x.i 1 = 1
  · simp only [if_pos h1] at this ⊢; simp (disch := omega) only [TRa, TRi, aa, LNl, LNi, Int.cast_ofNat_Int, ao]; simp only [LNl, LNi, Int.cast_ofNat_Int] at this ⊢; exact this
  simp only [if_neg h1] at this ⊢
  by_cases h2 : x.i 1 = 2
  · simp only [if_pos h2] at this ⊢; simp (disch := omega) only [TRa, TRi, aa, LNl, LNi, Int.cast_ofNat_Int, ao]; simp only [LNl, LNi, Int.cast_ofNat_Int] at this ⊢; exact this
  simp only [if_neg h2] at this ⊢
  by_cases h6 : x.i 1 = 6
  · simp only [if_pos h6] at this ⊢; simp only [show decide ((0 : Nat) <= 0) = true from rfl, Bool.true_and]; simp (disch := omega) only [TRa, TRi, aa, LNl, LNi, Int.cast_ofNat_Int, ao]; simp only [LNl, LNi, Int.cast_ofNat_Int] at this ⊢; exact this
  simp only [if_neg h6] at this ⊢; have hj : (x.i 2).toNat < c.length := by omega
  have hd := bY (bW hj hg.2); have hd2 := bW hj hg.2; have hjn : (((x.i 2).toNat : Int)).toNat = (x.i 2).toNat := Int.toNat_natCast _
  by_cases h3 : x.i 1 = 3
  · simp only [if_pos h3] at this ⊢; have e : (if (if (af c (x.i 2).toNat).i 5 < x.i 3 then (af c (x.i 2).toNat).i 5 else x.i 3) < 0 then 0 else (if (af c (x.i 2).toNat).i 5 < x.i 3 then (af c (x.i 2).toNat).i 5 else x.i 3)) = B8 (x.i 3) (af c (x.i 2).toNat) := by unfold B8; omega
    have hv : 0 <= B8 (x.i 3) (af c (x.i 2).toNat) /\ B8 (x.i 3) (af c (x.i 2).toNat) <= (af c (x.i 2).toNat).i 5 := by unfold B8; omega
    simp (disch := omega) only [lt_eq, cy, aG, ba, cI, eM, LNl, LNi, Int.cast_ofNat_Int, ao, e]; rw [aa (n := (af c (x.i 2).toNat).i 5 - _) (by omega) (by omega), aa (by omega) (by omega)]; unfold nj at this; simp only [LNl, LNi, Int.cast_ofNat_Int] at this ⊢; exact this
  · simp only [if_neg h3] at this ⊢; simp (disch := omega) only [lt_eq, cy, aG, ba, cI, eM, LNl, LNi, Int.cast_ofNat_Int, ao, hd2, Bool.and_true]; rw [aa (by omega) (by omega)]; simp only [LNl, LNi, Int.cast_ofNat_Int] at this ⊢; exact this
def f48 : Int × List Dat × an × aq × ai × List Dat × List Dat × List Dat × List Dat × List Dat × List Dat × List Dat -> Bool × List Un := fun (a0, a1, a2, a3, a4, a5, a6, a7, a8, a9, a10, a11) => (decide (0 <= a0) && xO a1 a4 a11, Uns.enc ((a2) : an) ++ Uns.enc ((a3) : aq) ++ Uns.enc (((cV a1 a4 a11).1) : ai) ++ [.d (a5), .d (a6), .d (a7), .d (a8), .d (a9), .d (a10), .d ((cV a1 a4 a11).2)])
theorem PM (a0 : Int) (a1 : List Dat) (a2 : an) (a3 : aq) (a4 : ai) (a5 : List Dat) (a6 : List Dat) (a7 : List Dat) (a8 : List Dat) (a9 : List Dat) (a10 : List Dat) (a11 : List Dat) (hc : (decide (0 <= a0) && xO a1 a4 a11) = true) : ∃ m, t48 m (a0, a1, a2, a3, a4, a5, a6, a7, a8, a9, a10, a11) = some (Uns.enc ((a2) : an) ++ Uns.enc ((a3) : aq) ++ Uns.enc (((cV a1 a4 a11).1) : ai) ++ [.d (a5), .d (a6), .d (a7), .d (a8), .d (a9), .d (a10), .d ((cV a1 a4 a11).2)]) := by
 simp only [xO, Bool.and_eq_true, decide_eq_true_eq, List.all_eq_true] at hc; obtain ⟨h0, h1, h2, ⟨h3, h4, h5, h6⟩, h7, h8⟩ := hc; have hs := eQ 3 a1 fun d hd => (th (h2 d hd)).1
 refine ⟨a1.length + 1, ?_⟩; exact PX _ a0 h0 a2 a3 a5 a6 a7 a8 a9 a10 a1 [] (a1.length + 1) a4 a11 (by omega) (by simpa using h1) h2 ⟨h7, h8⟩ (by omega) (by omega) (by omega)
theorem Ld : ER 48 (mkE N48.en N48.ex f48) := ar ag T43.right (fun m => [HZ (xD m m)]) (t := t48) (by kernel_rfl) (fun m => (aH (Ru m m) aE)) (fun m a => by kernel_rfl) fun (a0, a1, a2, a3, a4, a5, a6, a7, a8, a9, a10, a11) hc => PM a0 a1 a2 a3 a4 a5 a6 a7 a8 a9 a10 a11 hc
def T48 : Tb Tryz.prog LQ TE := T43.add 48 _ Ld
def v8 (parts aI has : Int) : Int := max (mdV aI parts 10000 0 - has) 0
def eS (d : Dat) : Dat := .r [.n (d.i 0), .n (bc d), .n (d.i 5)]
theorem Nc (n b p h : Int) : 0 <= mdV n b p h /\ mdV n b p h <= 1152921504606846976 := by
 unfold mdV
 split
 · rename_i hk; simp only [ow, decide_eq_true_eq] at hk; have : 0 <= n * b / p := Int.ediv_nonneg (Int.mul_nonneg hk.1 (by omega)) (by omega); refine ⟨?_, by omega⟩; unfold mdQ
   split <;> omega
 · omega
theorem yA {l : List Dat} (h1 : l.length <= 1000) (h2 : ∀ d ∈ l, cU d = true) : 0 <= ak 1 l /\ ak 1 l <= 1099511627776000 := by
 have := mZ 1 1099511627776 l fun d hd => pq (h2 d hd)
 omega
def N46 : aF := ⟨T48.tab, 46, ⟨[.ptr 0 0 0, .agg [.int .i64, .int .i64, .int .i64, .int .i64]], bw 0, 9⟩, ⟨[.agg [.int .i64, .int .i64, .int .i64, .int .i64, .buf 9 3]], bw 0 ++ [.ae (sI 3)], 9⟩, []⟩
abbrev ES : Type := Int × Int × an × aq × ai × List Dat × List Dat × List Dat × List Dat × List Dat × List Dat × List Dat × Int × Int × Int × Int × Int × Int × Int × Int × List Dat × List Dat
def zi (m : Nat) (k : ES -> Option (List Un)) : ES -> Option (List Un) := fun (a0, a1, a2, a3, a4, a5, a6, a7, a8, a9, a10, a11, a12, a13, a14, a15, a16, a17, a18, a19, a20, a21) =>
 bif decide (a1 < a0) then
 chk (inb a1 a11.length) <|
 chk (decide (a1.toNat < a11.length)) <|
 lt (af a11 a1.toNat : Dat) fun d8 =>
 chk (fits (a21.length + 1) 24) <|
 k (a0, (w64 (a1 + 1)), a2, a3, a4, a5, a6, a7, a8, a9, a10, a11, a12, a13, a14, a15, a16, a17, a18, a19, a20, (a21 ++ ([.r [.n (d8.i 0), .n (w64 (w64 ((d8.i 1) - w64 ((d8.i 3) - (d8.i 4))) - (d8.i 6))), .n (d8.i 5)]])))
 else
 some ([.i a16, .i a17, .i a18, .i a19] ++ Uns.enc (a2 : an) ++ Uns.enc (a3 : aq) ++ Uns.enc (a4 : ai) ++ [.d a5, .d a6, .d a7, .d a8, .d a9, .d a10, .d a11, .d a21])
def uM (m : Nat) : Nat -> ES -> Option (List Un) := bj (zi m)
theorem uF (m : Nat) (n : Nat) : uM m (n + 1) = zi m (uM m n) := rfl
def Hi (F : ES -> Option (List Un)) : aR := ⟨[.lp [0, 1, 0, 1, 1, 1], .blk 0, .code [1, 1, 1, 1]], ⟨frm 78 [(4, .ptr 9 0 0), (9, .ptr 10 0 0), (57, .buf 8 7), (58, .int .i64), (59, .int .i64)], bw 0 ++ [.cells [.int .i64, .int .i64, .int .i64, .int .i64, .buf 11 3], .cells [.int .i64, .int .i64, .int .i64, .int .i64, .buf 12 3], .ae (sI 3), .ae (sI 3)], 9⟩, onU F⟩
theorem QT (m : Nat) : ∀ n, HO N46 (Hi (uM m n)) := au ag T48.right (fun k => [Hi k]) (fun k h => (aH h aE)) fun k a => by kernel_rfl
def t46 (m : Nat) : Int × Int × Int × Int × an × aq × ai × List Dat × List Dat × List Dat × List Dat × List Dat × List Dat × List Dat -> Option (List Un) := fun (a0, a1, a2, a3, a4, a5, a6, a7, a8, a9, a10, a11, a12, a13) =>
 chk (decide (0 <= 0) && (decide (a13.length <= 1000) && a13.all aO)) <|
 lt ((w64 ((w64 (a0 + a3)) + a2)) : Int) fun x1 =>
 chk (decide (0 < ([.r [.r a12]] : List Dat).length) && (decide (((af ([.r [.r a12]] : List Dat) 0).d 0).length <= 1000) && ((af ([.r [.r a12]] : List Dat) 0).d 0).all cU)) <|
 lt ((w64 (a6.rin - a6.bk)) : Int) fun x4 =>
 lt ((mdV (ak 1 ((af ([.r [.r a12]] : List Dat) 0).d 0)) a5.target 10000 0) : Int) fun x5 =>
 uM m m ((a13.length : Int), 0, a4, a5, a6, a7, a8, a9, a10, a11, a12, a13, 0, 0, 0, 0, a6.fee, a6.out, (if (aW bc a13) < x1 then (aW bc a13) else x1), (if (w64 (x5 - x4)) < 0 then 0 else (w64 (x5 - x4))), [], [])
theorem RJ (m : Nat) (xa : an) (xb : aq) (xn : ai) (x1 x2 x3 x4 x5 x6 z0 : List Dat) (z1 z2 z3 z4 w1 w2 w3 w4 : Int) : ∀ (rest pre : List Dat) (n : Nat), rest.length < n -> (pre ++ rest).length <= 1000 -> (∀ d ∈ rest, aO d = true) ->
 uM m n (((pre ++ rest).length : Int), (pre.length : Int), xa, xb, xn, x1, x2, x3, x4, x5, x6, pre ++ rest, z1, z2, z3, z4, w1, w2, w3, w4, z0, pre.map eS) =
  some ([.i w1, .i w2, .i w3, .i w4] ++ Uns.enc xa ++ Uns.enc xb ++ Uns.enc xn ++ [.d x1, .d x2, .d x3, .d x4, .d x5, .d x6, .d (pre ++ rest), .d ((pre ++ rest).map eS)]) := by
 intro rest
 induction rest with
 | nil =>
  intro pre n hn hl hg; obtain ⟨n, rfl⟩ := al n (by simp at hn; omega); rw [uF]; unfold zi; dsimp only; simp [aw]
 | cons x rest ih =>
  intro pre n hn hl hg; obtain ⟨n, rfl⟩ := al n (by simp at hn; omega); simp only [List.length_cons, List.length_append] at hn hl; have e := Jc (hg x (by simp)); have := ih (pre ++ [x]) n (by omega) (by simp; omega) (fun d hd => hg d (by simp [hd])); rw [List.map_append, show [x].map eS = [.r [.n (x.i 0), .n (bc x), .n (x.i 5)]] from rfl] at this; rw [uF]; unfold zi; dsimp only; simp only [LNi, ao, lt_eq, e]; simp (disch := omega) only [TRa, TRi, aa, LNl, LNi, Int.cast_ofNat_Int, ao]; simp only [LNl, LNi, Int.cast_ofNat_Int] at this ⊢; exact this
def f46 : Int × Int × Int × Int × an × aq × ai × List Dat × List Dat × List Dat × List Dat × List Dat × List Dat × List Dat -> Bool × List Un := fun (a0, a1, a2, a3, a4, a5, a6, a7, a8, a9, a10, a11, a12, a13) => (decide (((0 <= a0 /\ a0 <= 1125899906842624) /\ (0 <= a2 /\ a2 <= 1125899906842624) /\ (0 <= a3 /\ a3 <= 1125899906842624)) /\ (0 <= a6.bk /\ a6.bk <= a6.rin /\ a6.rin <= 1152921504606846976)) && ((decide (a12.length <= 1000) && a12.all cU) && (decide (a13.length <= 1000) && a13.all aO)), [.i (a6.fee), .i (a6.out), .i (min (a0 + a3 + a2) (aW bc a13)), .i (v8 a5.target (ak 1 a12) (a6.rin - a6.bk))] ++ Uns.enc ((a4) : an) ++ Uns.enc ((a5) : aq) ++ Uns.enc ((a6) : ai) ++ [.d (a7), .d (a8), .d (a9), .d (a10), .d (a11), .d (a12), .d (a13), .d (a13.map eS)])
theorem Nl (a0 : Int) (a1 : Int) (a2 : Int) (a3 : Int) (a4 : an) (a5 : aq) (a6 : ai) (a7 : List Dat) (a8 : List Dat) (a9 : List Dat) (a10 : List Dat) (a11 : List Dat) (a12 : List Dat) (a13 : List Dat) (hc : (decide (((0 <= a0 /\ a0 <= 1125899906842624) /\ (0 <= a2 /\ a2 <= 1125899906842624) /\ (0 <= a3 /\ a3 <= 1125899906842624)) /\ (0 <= a6.bk /\ a6.bk <= a6.rin /\ a6.rin <= 1152921504606846976)) && ((decide (a12.length <= 1000) && a12.all cU) && (decide (a13.length <= 1000) && a13.all aO))) = true) : ∃ m, t46 m (a0, a1, a2, a3, a4, a5, a6, a7, a8, a9, a10, a11, a12, a13) = some ([.i (a6.fee), .i (a6.out), .i (min (a0 + a3 + a2) (aW bc a13)), .i (v8 a5.target (ak 1 a12) (a6.rin - a6.bk))] ++ Uns.enc ((a4) : an) ++ Uns.enc ((a5) : aq) ++ Uns.enc ((a6) : ai) ++ [.d (a7), .d (a8), .d (a9), .d (a10), .d (a11), .d (a12), .d (a13), .d (a13.map eS)]) := by
 simp only [Bool.and_eq_true, decide_eq_true_eq, List.all_eq_true] at hc; obtain ⟨⟨⟨h1, h2, h3⟩, h4, h5, h6⟩, ⟨h7, h8⟩, h9, h10⟩ := hc; have hg : dG a13 := ⟨h9, h10⟩
 have hb := yA h7 h8; have hs := (gn a13 h10).1; have hm := Nc (ak 1 a12) a5.target 10000 0; have hlb : (decide (a12.length <= 1000) && a12.all cU) = true := by rw [Bool.and_eq_true, List.all_eq_true]; exact ⟨decide_eq_true h7, h8⟩
 refine ⟨a13.length + 1, ?_⟩; unfold t46 v8; dsimp only [lt]; refine bp (by rw [eB hg]; rfl) ?_
 refine bp (Bool.and_eq_true_iff.2 ⟨rfl, hlb⟩) ?_
 change uM _ _ (_, _, _, _, _, _, _, _, _, _, _, _, _, _, _, _, _, _, (if aW bc a13 < w64 (w64 (a0 + a3) + a2) then aW bc a13 else w64 (w64 (a0 + a3) + a2)), (if w64 (mdV (ak 1 a12) a5.target 10000 0 - w64 (a6.rin - a6.bk)) < 0 then 0 else w64 (mdV (ak 1 a12) a5.target 10000 0 - w64 (a6.rin - a6.bk))), _, _) = _; rw [aa (n := a0 + a3) (by omega) (by omega), aa (n := a0 + a3 + a2) (by omega) (by omega), aa (n := a6.rin - a6.bk) (by omega) (by omega), aa (n := mdV _ _ _ _ - _) (by omega) (by omega)]; rw [show (if aW bc a13 < a0 + a3 + a2 then aW bc a13 else a0 + a3 + a2) = min (a0 + a3 + a2) (aW bc a13) by omega, show ∀ z : Int, (if z < 0 then 0 else z) = max z 0 from fun z => by omega]; exact RJ _ a4 a5 a6 a7 a8 a9 a10 a11 a12 _ _ _ _ _ _ _ _ _ a13 [] (a13.length + 1) (by omega) (by simpa using h9) h10
theorem K0 : ER 46 (mkE N46.en N46.ex f46) := ar ag T48.right (fun m => [Hi (uM m m)]) (t := t46) (by kernel_rfl) (fun m => (aH (QT m m) aE)) (fun m a => by kernel_rfl) fun (a0, a1, a2, a3, a4, a5, a6, a7, a8, a9, a10, a11, a12, a13) hc => Nl a0 a1 a2 a3 a4 a5 a6 a7 a8 a9 a10 a11 a12 a13 hc
def T46 : Tb Tryz.prog LQ TE := T48.add 46 _ K0
theorem uz : ∀ (k : Nat) (n : Int), cm n k ++ [n + k] = cm n (k + 1)
 | 0, n => by simp [cm]
 | k + 1, n => by
  have := uz k (n + 1); simp only [cm, List.cons_append, Int.natCast_add, Int.cast_ofNat_Int] at this ⊢; rw [<- this, show n + 1 + (k : Int) = n + ((k : Int) + 1) by omega]
theorem vY (u p l r : Int) : 0 <= cJ u p l r /\ cJ u p l r <= max u 0 /\ cJ u p l r <= max (u - p) 0 /\ cJ u p l r <= max (l - r) 0 := by unfold cJ; omega
def N49 : aF := ⟨T46.tab, 49, ⟨[.ptr 0 0 0, .agg [.int .i64, .int .i64, .int .i64, .int .i64]], bw 0, 0⟩, ⟨[], bw 0, 0⟩, []⟩
abbrev Ee : Type := Int × Int × Int × an × aq × ai × List Dat × List Dat × List Dat × List Dat × List Dat × List Dat × List Dat × List Int
def Ad (m : Nat) (k : Ee -> Option (List Un)) : Ee -> Option (List Un) := fun (a0, a1, a2, a3, a4, a5, a6, a7, a8, a9, a10, a11, a12, a13) =>
 bif decide (a2 < a1) then
 chk (inb a2 a12.length) <|
 chk (fits (a13.length + ([(a2.toNat : Int)]).length) 8) <|
 k (a0, a1, (w64 (a2 + 1)), a3, a4, a5, a6, a7, a8, a9, a10, a11, a12, (a13 ++ ([(a2.toNat : Int)])))
 else
 chk (decide (0 < ([.r [.r a11]] : List Dat).length) && (decide (((af ([.r [.r a11]] : List Dat) 0).d 0).length <= 1000) && ((af ([.r [.r a11]] : List Dat) 0).d 0).all cU)) <|
 lt ((ak 1 ((af ([.r [.r a11]] : List Dat) 0).d 0)) : Int) fun x1 =>
 chk (decide ((-1152921504606846976 <= a0 /\ a0 <= 1152921504606846976) /\ (-1152921504606846976 <= x1 /\ x1 <= 1152921504606846976) /\ (-1152921504606846976 <= a5.aK /\ a5.aK <= 1152921504606846976) /\ (-1152921504606846976 <= a5.aT /\ a5.aT <= 1152921504606846976))) <|
 chk (decide ((cJ a0 x1 a5.aK a5.aT) <= 1152921504606846976) && ((decide (a13 = cm 0 a12.length)) && (decide (a12.length <= 1000) && a12.all aO))) <|
 some (Uns.enc (a3 : an) ++ Uns.enc (a4 : aq) ++ Uns.enc (a5 : ai) ++ [.d a6, .d a7, .d a8, .d a9, .d a10, .d a11, .d (fG (cJ a0 x1 a5.aK a5.aT) a12)])
def xp (m : Nat) : Nat -> Ee -> Option (List Un) := bj (Ad m)
theorem uv (m : Nat) (n : Nat) : xp m (n + 1) = Ad m (xp m n) := rfl
def Iq (F : Ee -> Option (List Un)) : aR := ⟨[.lp [0, 1, 0, 1, 1, 1, 1, 1], .blk 0, .code [1, 1, 1, 1, 1, 1]], ⟨frm 70 [(0, .ptr 0 0 0), (7, .int .i64), (8, .buf 9 1), (39, .int .i64), (40, .int .i64)], bw 0 ++ [.dD 8 7 0], 0⟩, onU F⟩
theorem QN (m : Nat) : ∀ n, HO N49 (Iq (xp m n)) := au ag T46.right (fun k => [Iq k]) (fun k h => (aH h aE)) fun k a => by kernel_rfl
def t49 (m : Nat) : Int × Int × Int × Int × an × aq × ai × List Dat × List Dat × List Dat × List Dat × List Dat × List Dat × List Dat -> Option (List Un) := fun (a0, a1, a2, a3, a4, a5, a6, a7, a8, a9, a10, a11, a12, a13) =>
 chk (decide (0 <= 0) && (decide (a13.length <= 1000) && a13.all aO)) <|
 xp m m ((aW unD a13), (a13.length : Int), 0, a4, a5, ({ a6 with aK := (w64 (a6.aK + a2)), aT := (w64 (a6.aT + a3)) } : ai), a7, a8, a9, a10, a11, a12, a13, [])
theorem QQ (m : Nat) (u : Int) (xa : an) (xb : aq) (y : ai) (x1 x2 x3 x4 x5 x6 x7 : List Dat) (hu : 0 <= u /\ u <= 1099511627776000) (h1 : 0 <= y.aK /\ y.aK <= 1152921504606846976) (h2 : 0 <= y.aT /\ y.aT <= 1152921504606846976) (h3 : (decide (x6.length <= 1000) && x6.all cU) = true) (hb : 0 <= ak 1 x6 /\ ak 1 x6 <= 1099511627776000) (hg : dG x7) : ∀ (k i n : Nat), i + k = x7.length -> k < n ->
 xp m n (u, (x7.length : Int), (i : Int), xa, xb, y, x1, x2, x3, x4, x5, x6, x7, cm 0 i) = some (Uns.enc xa ++ Uns.enc xb ++ Uns.enc y ++ [.d x1, .d x2, .d x3, .d x4, .d x5, .d x6, .d (fG (cJ u (ak 1 x6) y.aK y.aT) x7)]) := by
 intro k
 induction k with
 | zero =>
  intro i n hi hn; obtain ⟨n, rfl⟩ := al n (by omega); have ht := vY u (ak 1 x6) y.aK y.aT; have hgb := eB hg; obtain rfl : i = x7.length := by omega
  rw [uv]; unfold Ad; dsimp only; rw [aw (by omega)]; dsimp only [lt]; refine bp (Bool.and_eq_true_iff.2 ⟨rfl, h3⟩) ?_
  change chk (decide ((-1152921504606846976 <= u /\ u <= 1152921504606846976) /\ (-1152921504606846976 <= ak 1 x6 /\ ak 1 x6 <= 1152921504606846976) /\ (-1152921504606846976 <= y.aK /\ y.aK <= 1152921504606846976) /\ (-1152921504606846976 <= y.aT /\ y.aT <= 1152921504606846976))) (chk (decide (cJ u (ak 1 x6) y.aK y.aT <= 1152921504606846976) && (decide (cm 0 x7.length = cm 0 x7.length) && (decide (x7.length <= 1000) && x7.all aO))) _) = _; rw [aG (by omega)]; exact bp (by rw [Bool.and_eq_true, Bool.and_eq_true]; exact ⟨@decide_eq_true _ _ (by omega), @decide_eq_true _ _ rfl, hgb⟩) rfl
 | succ k ih =>
  intro i n hi hn; obtain ⟨n, rfl⟩ := al n (by omega); have hg1 := hg.1; have hL := fU i 0; have := ih (i + 1) n (by omega) (by omega); rw [<- uz i 0] at this; rw [uv]; unfold Ad; dsimp only; simp (disch := omega) only [TRa, TRi, aa, LNl, LNi, Int.cast_ofNat_Int, hL]; simp only [LNl, LNi, Int.cast_ofNat_Int] at this ⊢; exact this
def f49 : Int × Int × Int × Int × an × aq × ai × List Dat × List Dat × List Dat × List Dat × List Dat × List Dat × List Dat -> Bool × List Un := fun (a0, a1, a2, a3, a4, a5, a6, a7, a8, a9, a10, a11, a12, a13) => (decide (((0 <= a0 /\ a0 <= 1125899906842624) /\ (0 <= a2 /\ a2 <= 1125899906842624) /\ (0 <= a3 /\ a3 <= 1125899906842624)) /\ (0 <= a6.aK /\ a6.aK <= 1125899906842624) /\ (0 <= a6.aT /\ a6.aT <= 1125899906842624)) && ((decide (a12.length <= 1000) && a12.all cU) && (decide (a13.length <= 1000) && a13.all aO)), Uns.enc ((a4) : an) ++ Uns.enc ((a5) : aq) ++ Uns.enc (({ a6 with aK := a6.aK + a2, aT := a6.aT + a3 }) : ai) ++ [.d (a7), .d (a8), .d (a9), .d (a10), .d (a11), .d (a12), .d (fG (cJ (aW unD a13) (ak 1 a12) (a6.aK + a2) (a6.aT + a3)) a13)])
theorem Pp (a0 : Int) (a1 : Int) (a2 : Int) (a3 : Int) (a4 : an) (a5 : aq) (a6 : ai) (a7 : List Dat) (a8 : List Dat) (a9 : List Dat) (a10 : List Dat) (a11 : List Dat) (a12 : List Dat) (a13 : List Dat) (hc : (decide (((0 <= a0 /\ a0 <= 1125899906842624) /\ (0 <= a2 /\ a2 <= 1125899906842624) /\ (0 <= a3 /\ a3 <= 1125899906842624)) /\ (0 <= a6.aK /\ a6.aK <= 1125899906842624) /\ (0 <= a6.aT /\ a6.aT <= 1125899906842624)) && ((decide (a12.length <= 1000) && a12.all cU) && (decide (a13.length <= 1000) && a13.all aO))) = true) : ∃ m, t49 m (a0, a1, a2, a3, a4, a5, a6, a7, a8, a9, a10, a11, a12, a13) = some (Uns.enc ((a4) : an) ++ Uns.enc ((a5) : aq) ++ Uns.enc (({ a6 with aK := a6.aK + a2, aT := a6.aT + a3 }) : ai) ++ [.d (a7), .d (a8), .d (a9), .d (a10), .d (a11), .d (a12), .d (fG (cJ (aW unD a13) (ak 1 a12) (a6.aK + a2) (a6.aT + a3)) a13)]) := by
 simp only [Bool.and_eq_true, decide_eq_true_eq, List.all_eq_true] at hc; obtain ⟨⟨⟨h1, h2, h3⟩, h4, h5⟩, ⟨h7, h8⟩, h9, h10⟩ := hc; have hg : dG a13 := ⟨h9, h10⟩
 have hb := yA h7 h8; have hs := (gn a13 h10).2.2.2.1; refine ⟨a13.length + 1, ?_⟩; unfold t49; dsimp only; refine bp (by rw [eB hg]; rfl) ?_
 rw [aa (n := a6.aK + a2) (by omega) (by omega), aa (n := a6.aT + a3) (by omega) (by omega)]; exact QQ _ _ a4 a5 { a6 with aK := a6.aK + a2, aT := a6.aT + a3 } a7 a8 a9 a10 a11 a12 a13 (by omega) (by simp only; omega) (by simp only; omega) (by rw [Bool.and_eq_true, List.all_eq_true]; exact ⟨decide_eq_true h7, h8⟩) hb hg a13.length 0 (a13.length + 1) (by omega) (by omega)
theorem K2 : ER 49 (mkE N49.en N49.ex f49) := ar ag T46.right (fun m => [Iq (xp m m)]) (t := t49) (by kernel_rfl) (fun m => (aH (QN m m) aE)) (fun m a => by kernel_rfl) fun (a0, a1, a2, a3, a4, a5, a6, a7, a8, a9, a10, a11, a12, a13) hc => Pp a0 a1 a2 a3 a4 a5 a6 a7 a8 a9 a10 a11 a12 a13 hc
def T49 : Tb Tryz.prog LQ TE := T46.add 49 _ K2
def om (d : Dat) : Dat := .r [.n (bc d), .n (d.i 5), .n (d.i 6)]
def N53 : aF := ⟨T49.tab, 53, ⟨[.agg [.bool, .int .i64, .int .i64, .int .i64, .int .i64, .int .i64, .int .i64, .int .i64, .int .i64, .int .i64, .int .i64, .buf 9 4, .int .i64, .int .i64, .int .i64, .int .i64, .int .i64, .dP, .int .i64], .np 0 0 0], bw 0 ++ [.ae (sI 4)], 10⟩, ⟨[.agg [.bool, .int .i64, .int .i64, .int .i64, .int .i64, .int .i64, .int .i64, .int .i64, .int .i64, .int .i64, .int .i64, .buf 9 4, .int .i64, .int .i64, .int .i64, .int .i64, .int .i64, .buf 10 3, .int .i64]], bw 0 ++ [.ae (sI 4), .ae (sI 3)], 10⟩, []⟩
abbrev Ez : Type := Int × Int × an × aq × ai × List Dat × List Dat × List Dat × List Dat × List Dat × List Dat × List Dat × List Dat × fW × fc × Int × fW × fc × Int × List Dat × List Dat × List Dat
def zt (m : Nat) (k : Ez -> Option (List Un)) : Ez -> Option (List Un) := fun (a0, a1, a2, a3, a4, a5, a6, a7, a8, a9, a10, a11, a12, a13, a14, a15, a16, a17, a18, a19, a20, a21) =>
 bif decide (a1 < a0) then
 chk (inb a1 a11.length) <|
 chk (decide (a1.toNat < a11.length)) <|
 lt (af a11 a1.toNat : Dat) fun d3 =>
 chk (fits (a19.length + 1) 24) <|
 k (a0, (w64 (a1 + 1)), a2, a3, a4, a5, a6, a7, a8, a9, a10, a11, a12, a13, a14, a15, a16, a17, a18, (a19 ++ ([.r [.n (w64 (w64 ((d3.i 1) - w64 ((d3.i 3) - (d3.i 4))) - (d3.i 6))), .n (d3.i 5), .n (d3.i 6)]])), a20, a21)
 else
 some (Uns.enc (a13 : fW) ++ Uns.enc (a14 : fc) ++ [.i a15] ++ Uns.enc (a2 : an) ++ Uns.enc (a3 : aq) ++ Uns.enc (a4 : ai) ++ [.d a5, .d a6, .d a7, .d a8, .d a9, .d a10, .d a11, .d a12, .d a19])
def xq (m : Nat) : Nat -> Ez -> Option (List Un) := bj (zt m)
theorem vn (m : Nat) (n : Nat) : xq m (n + 1) = zt m (xq m n) := rfl
def I4 (F : Ez -> Option (List Un)) : aR := ⟨[.lp [0, 1, 0, 1, 1], .blk 0, .code [1, 1, 1]], ⟨frm 58 [(2, .ptr 10 0 0), (4, .ptr 11 0 0), (38, .buf 8 7), (39, .int .i64), (40, .int .i64)], bw 0 ++ [.ae (sI 4), .cells [.bool, .int .i64, .int .i64, .int .i64, .int .i64, .int .i64, .int .i64, .int .i64, .int .i64, .int .i64, .int .i64, .buf 9 4, .int .i64, .int .i64, .int .i64, .int .i64, .int .i64, .buf 12 3, .int .i64], .cells [.bool, .int .i64, .int .i64, .int .i64, .int .i64, .int .i64, .int .i64, .int .i64, .int .i64, .int .i64, .int .i64, .buf 13 4, .int .i64, .int .i64, .int .i64, .int .i64, .int .i64, .buf 14 3, .int .i64], .ae (sI 3), .ae (sI 4), .ae (sI 3)], 10⟩, onU F⟩
theorem Qu (m : Nat) : ∀ n, HO N53 (I4 (xq m n)) := au ag T49.right (fun k => [I4 k]) (fun k h => (aH h aE)) fun k a => by kernel_rfl
def t53 (m : Nat) : fW × fc × Int × Int × an × aq × ai × List Dat × List Dat × List Dat × List Dat × List Dat × List Dat × List Dat × List Dat -> Option (List Un) := fun (a0, a1, a2, a3, a4, a5, a6, a7, a8, a9, a10, a11, a12, a13, a14) =>
 chk (decide (0 <= a3)) <|
 chk (decide (0 < ([.r [.r a12]] : List Dat).length) && (decide (((af ([.r [.r a12]] : List Dat) 0).d 0).length <= 1000) && ((af ([.r [.r a12]] : List Dat) 0).d 0).all cU)) <|
 chk (decide (0 <= a3)) <|
 chk (decide (0 <= a3)) <|
 chk (decide (0 <= a3)) <|
 chk (decide (0 <= a3)) <|
 chk (decide (0 <= a3)) <|
 xq m m ((a13.length : Int), 0, a4, a5, a6, a7, a8, a9, a10, a11, a12, a13, a14, a0, (⟨a1.dL, (ak 1 ((af ([.r [.r a12]] : List Dat) 0).d 0)), (w64 (a6.rin - a6.bk)), a6.out, a6.fee⟩ : fc), a6.mode, (⟨false, 0, 0, 0, 0, 0, 0, 0, 0, 0, 0⟩ : fW), (⟨0, 0, 0, 0, 0⟩ : fc), 0, [], [], [])
theorem LI (m : Nat) (xa : an) (xb : aq) (xn : ai) (x1 x2 x3 x4 x5 x6 py : List Dat) (ra za : fW) (rb zb : fc) (nx zx : Int) (z1 z2 : List Dat) : ∀ (rest pre : List Dat) (n : Nat), rest.length < n -> (pre ++ rest).length <= 1000 -> (∀ d ∈ rest, aO d = true) ->
 xq m n (((pre ++ rest).length : Int), (pre.length : Int), xa, xb, xn, x1, x2, x3, x4, x5, x6, pre ++ rest, py, ra, rb, nx, za, zb, zx, pre.map om, z1, z2) =
  some (Uns.enc ra ++ Uns.enc rb ++ [.i nx] ++ Uns.enc xa ++ Uns.enc xb ++ Uns.enc xn ++ [.d x1, .d x2, .d x3, .d x4, .d x5, .d x6, .d (pre ++ rest), .d py, .d ((pre ++ rest).map om)]) := by
 intro rest
 induction rest with
 | nil =>
  intro pre n hn hl hg; obtain ⟨n, rfl⟩ := al n (by simp at hn; omega); rw [vn]; unfold zt; dsimp only; simp [aw]
 | cons x rest ih =>
  intro pre n hn hl hg; obtain ⟨n, rfl⟩ := al n (by simp at hn; omega); simp only [List.length_cons, List.length_append] at hn hl; have e := Jc (hg x (by simp)); have := ih (pre ++ [x]) n (by omega) (by simp; omega) (fun d hd => hg d (by simp [hd])); rw [List.map_append, show [x].map om = [.r [.n (bc x), .n (x.i 5), .n (x.i 6)]] from rfl] at this; rw [vn]; unfold zt; dsimp only; simp only [LNi, ao, lt_eq, e]; simp (disch := omega) only [TRa, TRi, aa, LNl, LNi, Int.cast_ofNat_Int, ao]; simp only [LNl, LNi, Int.cast_ofNat_Int] at this ⊢; exact this
def f53 : fW × fc × Int × Int × an × aq × ai × List Dat × List Dat × List Dat × List Dat × List Dat × List Dat × List Dat × List Dat -> Bool × List Un := fun (a0, a1, a2, a3, a4, a5, a6, a7, a8, a9, a10, a11, a12, a13, a14) => (decide (0 <= a3) && (decide (0 <= a6.bk /\ a6.bk <= a6.rin /\ a6.rin <= 1152921504606846976) && ((decide (a12.length <= 1000) && a12.all cU) && (decide (a13.length <= 1000) && a13.all aO))), Uns.enc ((a0) : fW) ++ Uns.enc (((⟨a1.dL, ak 1 a12, a6.rin - a6.bk, a6.out, a6.fee⟩ : fc)) : fc) ++ [.i (a6.mode)] ++ Uns.enc ((a4) : an) ++ Uns.enc ((a5) : aq) ++ Uns.enc ((a6) : ai) ++ [.d (a7), .d (a8), .d (a9), .d (a10), .d (a11), .d (a12), .d (a13), .d (a14), .d (a13.map om)])
theorem Ng (a0 : fW) (a1 : fc) (a2 : Int) (a3 : Int) (a4 : an) (a5 : aq) (a6 : ai) (a7 : List Dat) (a8 : List Dat) (a9 : List Dat) (a10 : List Dat) (a11 : List Dat) (a12 : List Dat) (a13 : List Dat) (a14 : List Dat) (hc : (decide (0 <= a3) && (decide (0 <= a6.bk /\ a6.bk <= a6.rin /\ a6.rin <= 1152921504606846976) && ((decide (a12.length <= 1000) && a12.all cU) && (decide (a13.length <= 1000) && a13.all aO)))) = true) : ∃ m, t53 m (a0, a1, a2, a3, a4, a5, a6, a7, a8, a9, a10, a11, a12, a13, a14) = some (Uns.enc ((a0) : fW) ++ Uns.enc (((⟨a1.dL, ak 1 a12, a6.rin - a6.bk, a6.out, a6.fee⟩ : fc)) : fc) ++ [.i (a6.mode)] ++ Uns.enc ((a4) : an) ++ Uns.enc ((a5) : aq) ++ Uns.enc ((a6) : ai) ++ [.d (a7), .d (a8), .d (a9), .d (a10), .d (a11), .d (a12), .d (a13), .d (a14), .d (a13.map om)]) := by
 simp only [Bool.and_eq_true, decide_eq_true_eq, List.all_eq_true] at hc; obtain ⟨h0, ⟨h4, h5, h6⟩, ⟨h7, h8⟩, h9, h10⟩ := hc; have hb := yA h7 h8; have hlb : (decide (a12.length <= 1000) && a12.all cU) = true := by rw [Bool.and_eq_true, List.all_eq_true]; exact ⟨decide_eq_true h7, h8⟩
 refine ⟨a13.length + 1, ?_⟩; unfold t53; dsimp only [lt]; simp only [aG h0]; refine bp (Bool.and_eq_true_iff.2 ⟨rfl, hlb⟩) ?_
 rw [aa (n := a6.rin - a6.bk) (by omega) (by omega)]; exact LI _ a4 a5 a6 a7 a8 a9 a10 a11 a12 a14 a0 _ _ _ _ _ _ _ a13 [] (a13.length + 1) (by omega) (by simpa using h9) h10
theorem Lh : ER 53 (mkE N53.en N53.ex f53) := ar ag T49.right (fun m => [I4 (xq m m)]) (t := t53) (by kernel_rfl) (fun m => (aH (Qu m m) aE)) (fun m a => by kernel_rfl) fun (a0, a1, a2, a3, a4, a5, a6, a7, a8, a9, a10, a11, a12, a13, a14) hc => Ng a0 a1 a2 a3 a4 a5 a6 a7 a8 a9 a10 a11 a12 a13 a14 hc
def T53 : Tb Tryz.prog LQ TE := T49.add 53 _ Lh
def gE : List Dat -> List Dat
 | [] => []
 | d :: l => (if 0 < d.i 1 then [.r [.n (d.i 0), .n 0, .n (d.i 1), .n 0, .n 0, .n 0, .n (bI false)]] else []) ++ gE l
def N87 : aF := ⟨T53.tab, 87, ⟨[.np 0 0 0], bw 0, 0⟩, ⟨[.agg [.int .i64, .int .i64, .int .i64, .int .i64]], [.cells [.int .i64, .int .i64, .int .i64, .buf 1 2, .buf 2 3, .int .i64, .int .i64, .int .i64, .int .i64, .int .i64, .int .i64, .int .i64, .int .i64, .int .i64, .int .i64, .buf 3 2, .buf 4 2, .buf 5 2, .ptr 6 0 0, .buf 8 7, .int .i64, .int .i64, .int .i64, .int .i64, .int .i64, .int .i64, .int .i64, .int .i64, .int .i64, .bool], .ae (sI 2), .ae (sI 3), .ae (sI 2), .ae (sI 2), .ae (sI 2), .cells [.buf 9 5], .gone, .ae (sI 7), .ae (sB 4)], 0⟩, []⟩
abbrev Ed : Type := Int × Int × Int × an × aq × ai × List Dat × List Dat × List Dat × List Dat × List Dat × List Dat × Int × Int × Int × Int × List Dat × List Dat × List Dat
def At (m : Nat) (k : Ed -> Option (List Un)) : Ed -> Option (List Un) := fun (a0, a1, a2, a3, a4, a5, a6, a7, a8, a9, a10, a11, a12, a13, a14, a15, a16, a17, a18) =>
 bif decide (a2 < a1) then
 chk (inb a2 a17.length) <|
 chk (decide (a2.toNat < a17.length)) <|
 lt (af a17 a2.toNat : Dat) fun d2 =>
 bif decide ((d2.i 1) > 0) then
 chk (fits (a16.length + 1) 56) <|
 k (a0, a1, (w64 (a2 + 1)), a3, a4, a5, a6, a7, a8, a9, a10, a11, a12, a13, a14, a15, (a16 ++ ([.r [.n (d2.i 0), .n 0, .n (d2.i 1), .n 0, .n 0, .n 0, .n (bI false)]])), a17, a18)
 else
 k (a0, a1, (w64 (a2 + 1)), a3, a4, a5, a6, a7, a8, a9, a10, a11, a12, a13, a14, a15, a16, a17, a18)
 else
 chk (decide (0 <= a0)) <|
 chk (decide (a18.length < 1000000)) <|
 some ([.i ((aB a16 a18).p), .i ((aB a16 a18).q), .i ((aB a16 a18).l), .i ((aB a16 a18).r)] ++ Uns.enc (a3 : an) ++ Uns.enc (a4 : aq) ++ Uns.enc (a5 : ai) ++ [.d a6, .d a7, .d a8, .d a9, .d a10, .d a11, .d ((aB a16 a18).aI)])
def xU (m : Nat) : Nat -> Ed -> Option (List Un) := bj (At m)
theorem wi (m : Nat) (n : Nat) : xU m (n + 1) = At m (xU m n) := rfl
def Ih (F : Ed -> Option (List Un)) : aR := ⟨[.lp [0, 1, 0, 1, 1], .blk 0, .code [1, 1, 1]], ⟨frm 43 [(0, .np 0 0 0), (2, .ptr 9 0 0), (3, .buf 10 7), (12, .buf 11 5), (13, .int .i64), (14, .int .i64)], [.cells [.int .i64, .int .i64, .int .i64, .buf 1 2, .buf 2 3, .int .i64, .int .i64, .int .i64, .int .i64, .int .i64, .int .i64, .int .i64, .int .i64, .int .i64, .int .i64, .buf 3 2, .buf 4 2, .buf 5 2, .ptr 6 0 0, .buf 8 7, .int .i64, .int .i64, .int .i64, .int .i64, .int .i64, .int .i64, .int .i64, .int .i64, .int .i64, .bool], .ae (sI 2), .ae (sI 3), .ae (sI 2), .ae (sI 2), .ae (sI 2), .cells [.buf 12 5], .gone, .ae (sI 7), .cells [.int .i64, .int .i64, .int .i64, .int .i64], .ae (sB 6), .ae (sB 4), .ae (sB 4)], 0⟩, onU F⟩
theorem Qn (m : Nat) : ∀ n, HO N87 (Ih (xU m n)) := au ag T53.right (fun k => [Ih k]) (fun k h => (aH h aE)) fun k a => by kernel_rfl
def t87 (m : Nat) : Int × an × aq × ai × List Dat × List Dat × List Dat × List Dat × List Dat × List Dat × List Dat -> Option (List Un) := fun (a0, a1, a2, a3, a4, a5, a6, a7, a8, a9, a10) =>
 chk (decide (0 <= a0)) <|
 chk (decide (0 < ([.r [.r a9]] : List Dat).length) && decide (((af ([.r [.r a9]] : List Dat) 0).d 0).length < 1000000)) <|
 lt (((af ([.r [.r a9]] : List Dat) 0).d 0) : List Dat) fun l1 =>
 xU m m (a0, (l1.length : Int), 0, a1, a2, a3, a4, a5, a6, a7, a8, a10, 0, 0, 0, 0, [], l1, a9)
theorem PH (m : Nat) (p0 : Int) (hp0 : 0 <= p0) (xa : an) (xb : aq) (xn : ai) (x1 x2 x3 x4 x5 x6 pl : List Dat) (hpl : pl.length < 1000000) (z1 z2 z3 z4 : Int) : ∀ (rest pre acc : List Dat) (n : Nat), rest.length < n -> (pre ++ rest).length < 1000000 -> acc.length <= pre.length ->
 xU m n (p0, ((pre ++ rest).length : Int), (pre.length : Int), xa, xb, xn, x1, x2, x3, x4, x5, x6, z1, z2, z3, z4, acc, pre ++ rest, pl) =
  some ([.i (aB (acc ++ gE rest) pl).p, .i (aB (acc ++ gE rest) pl).q, .i (aB (acc ++ gE rest) pl).l, .i (aB (acc ++ gE rest) pl).r] ++ Uns.enc xa ++ Uns.enc xb ++ Uns.enc xn ++ [.d x1, .d x2, .d x3, .d x4, .d x5, .d x6, .d (aB (acc ++ gE rest) pl).aI]) := by
 intro rest
 induction rest with
 | nil =>
  intro pre acc n hn hl ha; obtain ⟨n, rfl⟩ := al n (by simp at hn; omega); rw [wi]; unfold At; dsimp only; rw [aw (by simp), aG hp0, aG hpl, gE, List.append_nil]
 | cons x rest ih =>
  intro pre acc n hn hl ha; obtain ⟨n, rfl⟩ := al n (by simp at hn; omega); simp only [List.length_cons, List.length_append] at hn hl; have := fun acc h => ih (pre ++ [x]) acc n (by omega) (by simp; omega) h
  unfold gE; rw [wi]; unfold At; dsimp only
  by_cases h1 : x.i 1 > 0
  · have := this (acc ++ [.r [.n (x.i 0), .n 0, .n (x.i 1), .n 0, .n 0, .n 0, .n (bI false)]]) (by simp; omega); rw [if_pos h1, <- List.append_assoc]; simp (disch := omega) only [TRa, aa, LNi, Int.cast_ofNat_Int, ao, List.length_append, List.length_cons, List.length_nil]; simp only [List.length_append, List.length_cons, List.length_nil, List.append_assoc, List.cons_append, List.nil_append, LNi, Int.cast_ofNat_Int] at this ⊢; exact this
  · have := this acc (by simp; omega); rw [if_neg h1, List.nil_append]; simp (disch := omega) only [TRa, TRi, aa, LNl, LNi, Int.cast_ofNat_Int, ao]; simp only [LNl, LNi, Int.cast_ofNat_Int] at this ⊢; exact this
def f87 : Int × an × aq × ai × List Dat × List Dat × List Dat × List Dat × List Dat × List Dat × List Dat -> Bool × List Un := fun (a0, a1, a2, a3, a4, a5, a6, a7, a8, a9, a10) => (decide (0 <= a0) && decide (a9.length < 1000000), [.i ((aB (gE a9) a9).p), .i ((aB (gE a9) a9).q), .i ((aB (gE a9) a9).l), .i ((aB (gE a9) a9).r)] ++ Uns.enc ((a1) : an) ++ Uns.enc ((a2) : aq) ++ Uns.enc ((a3) : ai) ++ [.d (a4), .d (a5), .d (a6), .d (a7), .d (a8), .d (a10), .d ((aB (gE a9) a9).aI)])
theorem M7 (a0 : Int) (a1 : an) (a2 : aq) (a3 : ai) (a4 : List Dat) (a5 : List Dat) (a6 : List Dat) (a7 : List Dat) (a8 : List Dat) (a9 : List Dat) (a10 : List Dat) (hc : (decide (0 <= a0) && decide (a9.length < 1000000)) = true) : ∃ m, t87 m (a0, a1, a2, a3, a4, a5, a6, a7, a8, a9, a10) = some ([.i ((aB (gE a9) a9).p), .i ((aB (gE a9) a9).q), .i ((aB (gE a9) a9).l), .i ((aB (gE a9) a9).r)] ++ Uns.enc ((a1) : an) ++ Uns.enc ((a2) : aq) ++ Uns.enc ((a3) : ai) ++ [.d (a4), .d (a5), .d (a6), .d (a7), .d (a8), .d (a10), .d ((aB (gE a9) a9).aI)]) := by
 simp only [Bool.and_eq_true, decide_eq_true_eq] at hc; obtain ⟨h0, h⟩ := hc; refine ⟨a9.length + 1, ?_⟩; unfold t87; dsimp only [lt]; refine bp (decide_eq_true h0) ?_
 refine bp (Bool.and_eq_true_iff.2 ⟨rfl, decide_eq_true h⟩) ?_
 exact PH _ a0 h0 a1 a2 a3 a4 a5 a6 a7 a8 a10 a9 h _ _ _ _ a9 [] [] (a9.length + 1) (by omega) (by simpa using h) (by simp)
theorem JK : ER 87 (mkE N87.en N87.ex f87) := ar ag T53.right (fun m => [Ih (xU m m)]) (t := t87) (by kernel_rfl) (fun m => (aH (Qn m m) aE)) (fun m a => by kernel_rfl) fun (a0, a1, a2, a3, a4, a5, a6, a7, a8, a9, a10) hc => M7 a0 a1 a2 a3 a4 a5 a6 a7 a8 a9 a10 hc
def T87 : Tb Tryz.prog LQ TE := T53.add 87 _ JK
def Og (d : Dat) : Dat := .r [.n (d.i 0), .n (d.i 1), .n (d.i 2), .n (d.i 3)]
def wS : List Dat -> List Dat
 | [] => []
 | d :: l => (if 0 < d.i 3 then [Og d] else []) ++ wS l
def IS : Int -> List Dat -> List Dat
 | _, [] => []
 | i, d :: c => .r [.n 0, .n 3, .n i, .n (d.i 5)] :: .r [.n 0, .n 7, .n i, .n (bc d)] :: IS (i + 1) c
def RT (fee out : Int) (c : List Dat) : List Dat := wS (.r [.n 0, .n 1, .n (-1), .n fee] :: .r [.n 0, .n 2, .n (-1), .n out] :: IS 0 c)
def N85 : aF := ⟨T87.tab, 85, ⟨[.np 0 0 0], bw 0, 9⟩, ⟨[.buf 9 4], bw 0 ++ [.ae (sI 4)], 9⟩, []⟩
abbrev Fg : Type := Int × Int × an × aq × ai × List Dat × List Dat × List Dat × List Dat × List Dat × List Dat × List Dat × List Dat × List Dat
abbrev El : Type := Int × Int × an × aq × ai × List Dat × List Dat × List Dat × List Dat × List Dat × List Dat × List Dat × List Dat
def zA (m : Nat) (k : Fg -> Option (List Un)) : Fg -> Option (List Un) := fun (a0, a1, a2, a3, a4, a5, a6, a7, a8, a9, a10, a11, a12, a13) =>
 bif decide (a1 < a0) then
 chk (inb a1 a13.length) <|
 chk (decide (a1.toNat < a13.length)) <|
 lt (af a13 a1.toNat : Dat) fun d4 =>
 bif decide ((d4.i 3) > 0) then
 chk (fits (a12.length + 1) 32) <|
 k (a0, (w64 (a1 + 1)), a2, a3, a4, a5, a6, a7, a8, a9, a10, a11, (a12 ++ ([.r [.n (d4.i 0), .n (d4.i 1), .n (d4.i 2), .n (d4.i 3)]])), a13)
 else
 k (a0, (w64 (a1 + 1)), a2, a3, a4, a5, a6, a7, a8, a9, a10, a11, a12, a13)
 else
 some (Uns.enc (a2 : an) ++ Uns.enc (a3 : aq) ++ Uns.enc (a4 : ai) ++ [.d a5, .d a6, .d a7, .d a8, .d a9, .d a10, .d a11, .d a12])
def wY (m : Nat) : Nat -> Fg -> Option (List Un) := bj (zA m)
theorem uN (m : Nat) (n : Nat) : wY m (n + 1) = zA m (wY m n) := rfl
def IU (F : Fg -> Option (List Un)) : aR := ⟨[.lp [0, 1, 0, 1, 1, 1, 1], .blk 2, .code [1, 1, 1, 1, 1]], ⟨frm 57 [(6, .buf 9 4), (42, .buf 10 4), (43, .int .i64), (44, .int .i64)], bw 0 ++ [.ae (sI 4), .ae (sI 4)], 9⟩, onU F⟩
def zF (m : Nat) (k : El -> Option (List Un)) : El -> Option (List Un) := fun (a0, a1, a2, a3, a4, a5, a6, a7, a8, a9, a10, a11, a12) =>
 bif decide (a1 < a0) then
 chk (inb a1 a11.length) <|
 chk (decide (a1.toNat < a11.length)) <|
 lt (af a11 a1.toNat : Dat) fun d1 =>
 chk (fits (a12.length + 2) 32) <|
 k (a0, (w64 (a1 + 1)), a2, a3, a4, a5, a6, a7, a8, a9, a10, a11, (a12 ++ ([.r [.n 0, .n 3, .n a1, .n (d1.i 5)], .r [.n 0, .n 7, .n a1, .n (w64 (w64 ((d1.i 1) - w64 ((d1.i 3) - (d1.i 4))) - (d1.i 6)))]])))
 else
 wY m m ((a12.length : Int), 0, a2, a3, a4, a5, a6, a7, a8, a9, a10, a11, [], a12)
def xg (m : Nat) : Nat -> El -> Option (List Un) := bj (zF m)
theorem ux (m : Nat) (n : Nat) : xg m (n + 1) = zF m (xg m n) := rfl
def Il (F : El -> Option (List Un)) : aR := ⟨[.lp [0, 1, 0, 1, 1], .blk 0, .code [1, 1, 1]], ⟨frm 57 [(3, .buf 9 4), (23, .buf 8 7), (24, .int .i64), (25, .int .i64)], bw 0 ++ [.ae (sI 4)], 9⟩, onU F⟩
theorem Qw (m : Nat) : ∀ n, HO N85 (IU (wY m n)) := au ag T87.right (fun k => [IU k]) (fun k h => (aH h aE)) fun k a => by kernel_rfl
theorem Qy (m : Nat) : ∀ n, HO N85 (Il (xg m n)) := au ag T87.right (fun k => [Il k, IU (wY m m)]) (fun k h => (aH h (aH (Qw m m) aE))) fun k a => by kernel_rfl
def t85 (m : Nat) : Int × an × aq × ai × List Dat × List Dat × List Dat × List Dat × List Dat × List Dat × List Dat -> Option (List Un) := fun (a0, a1, a2, a3, a4, a5, a6, a7, a8, a9, a10) =>
 chk (decide (0 <= a0)) <|
 chk (decide (0 <= a0)) <|
 chk (decide (0 <= a0)) <|
 xg m m ((a10.length : Int), 0, a1, a2, a3, a4, a5, a6, a7, a8, a9, a10, ([.r [.n 0, .n 1, .n (-1), .n a3.fee], .r [.n 0, .n 2, .n (-1), .n a3.out]] : List Dat))
section
variable (m : Nat) (xa : an) (xb : aq) (xn : ai) (x1 x2 x3 x4 x5 x6 x7 : List Dat)
theorem RE : ∀ (rest pre acc : List Dat) (n : Nat), rest.length < n -> (pre ++ rest).length <= 3000 -> acc.length <= pre.length ->
 wY m n (((pre ++ rest).length : Int), (pre.length : Int), xa, xb, xn, x1, x2, x3, x4, x5, x6, x7, acc, pre ++ rest) = some (Uns.enc xa ++ Uns.enc xb ++ Uns.enc xn ++ [.d x1, .d x2, .d x3, .d x4, .d x5, .d x6, .d x7, .d (acc ++ wS rest)]) := by
 intro rest
 induction rest with
 | nil =>
  intro pre acc n hn hl ha; obtain ⟨n, rfl⟩ := al n (by simp at hn; omega); rw [uN]; unfold zA; dsimp only; rw [aw (by simp), wS, List.append_nil]
 | cons x rest ih =>
  intro pre acc n hn hl ha; obtain ⟨n, rfl⟩ := al n (by simp at hn; omega); simp only [List.length_cons, List.length_append] at hn hl; have := fun acc h => ih (pre ++ [x]) acc n (by omega) (by simp; omega) h
  unfold wS; rw [uN]; unfold zA; dsimp only
  by_cases h1 : x.i 3 > 0
  · have := this (acc ++ [Og x]) (by simp; omega); unfold Og at this ⊢; rw [if_pos h1, <- List.append_assoc]; simp (disch := omega) only [TRa, aa, LNi, Int.cast_ofNat_Int, ao, List.length_append, List.length_cons, List.length_nil]; simp only [List.length_append, List.length_cons, List.length_nil, List.append_assoc, List.cons_append, List.nil_append, LNi, Int.cast_ofNat_Int] at this ⊢; exact this
  · have := this acc (by simp; omega); rw [if_neg h1, List.nil_append]; simp (disch := omega) only [TRa, TRi, aa, LNl, LNi, Int.cast_ofNat_Int, ao]; simp only [LNl, LNi, Int.cast_ofNat_Int] at this ⊢; exact this
theorem Q4 (hm : 3000 < m) : ∀ (rest pre acc : List Dat) (n : Nat), rest.length < n -> (pre ++ rest).length <= 1000 -> (∀ d ∈ rest, aO d = true) -> acc.length = 2 + 2 * pre.length ->
 xg m n (((pre ++ rest).length : Int), (pre.length : Int), xa, xb, xn, x1, x2, x3, x4, x5, x6, pre ++ rest, acc) = some (Uns.enc xa ++ Uns.enc xb ++ Uns.enc xn ++ [.d x1, .d x2, .d x3, .d x4, .d x5, .d x6, .d (pre ++ rest), .d (wS (acc ++ IS pre.length rest))]) := by
 intro rest
 induction rest with
 | nil =>
  intro pre acc n hn hl hg ha; obtain ⟨n, rfl⟩ := al n (by simp at hn; omega); simp only [List.append_nil] at hl; rw [ux]; unfold zF; dsimp only; rw [aw (by simp)]; refine (RE m xa xb xn x1 x2 x3 x4 x5 x6 (pre ++ []) acc [] [] m (by omega) (by simp; omega) (by simp)).trans ?_
  simp only [IS, List.append_nil, List.nil_append]
 | cons x rest ih =>
  intro pre acc n hn hl hg ha; obtain ⟨n, rfl⟩ := al n (by simp at hn; omega); simp only [List.length_cons, List.length_append] at hn hl; have e := Jc (hg x (by simp)); have := ih (pre ++ [x]) (acc ++ [.r [.n 0, .n 3, .n (pre.length : Int), .n (x.i 5)], .r [.n 0, .n 7, .n (pre.length : Int), .n (bc x)]]) n (by omega) (by simp; omega) (fun d hd => hg d (by simp [hd])) (by simp; omega); unfold IS; rw [ux]; unfold zF; dsimp only; simp only [LNi, ao, lt_eq, e]; simp (disch := omega) only [TRa, TRi, aa, LNl, LNi, Int.cast_ofNat_Int, ao]; simp only [LNl, LNi, Int.cast_ofNat_Int] at this ⊢; exact this
end
def f85 : Int × an × aq × ai × List Dat × List Dat × List Dat × List Dat × List Dat × List Dat × List Dat -> Bool × List Un := fun (a0, a1, a2, a3, a4, a5, a6, a7, a8, a9, a10) => (decide (0 <= a0) && (decide (a10.length <= 1000) && a10.all aO), Uns.enc ((a1) : an) ++ Uns.enc ((a2) : aq) ++ Uns.enc ((a3) : ai) ++ [.d (a4), .d (a5), .d (a6), .d (a7), .d (a8), .d (a9), .d (a10), .d (RT a3.fee a3.out a10)])
theorem Na (a0 : Int) (a1 : an) (a2 : aq) (a3 : ai) (a4 : List Dat) (a5 : List Dat) (a6 : List Dat) (a7 : List Dat) (a8 : List Dat) (a9 : List Dat) (a10 : List Dat) (hc : (decide (0 <= a0) && (decide (a10.length <= 1000) && a10.all aO)) = true) : ∃ m, t85 m (a0, a1, a2, a3, a4, a5, a6, a7, a8, a9, a10) = some (Uns.enc ((a1) : an) ++ Uns.enc ((a2) : aq) ++ Uns.enc ((a3) : ai) ++ [.d (a4), .d (a5), .d (a6), .d (a7), .d (a8), .d (a9), .d (a10), .d (RT a3.fee a3.out a10)]) := by
 simp only [Bool.and_eq_true, decide_eq_true_eq, List.all_eq_true] at hc; refine ⟨3001 + a10.length, ?_⟩; unfold t85; dsimp only; simp only [aG hc.1]; exact Q4 _ a1 a2 a3 a4 a5 a6 a7 a8 a9 (by omega) a10 [] _ _ (by omega) (by simpa using hc.2.1) hc.2.2 rfl
theorem KQ : ER 85 (mkE N85.en N85.ex f85) := ar ag T87.right (fun m => [Il (xg m m)]) (t := t85) (by kernel_rfl) (fun m => (aH (Qy m m) aE)) (fun m a => by kernel_rfl) fun (a0, a1, a2, a3, a4, a5, a6, a7, a8, a9, a10) hc => Na a0 a1 a2 a3 a4 a5 a6 a7 a8 a9 a10 hc
def T85 : Tb Tryz.prog LQ TE := T87.add 85 _ KQ
def Ka (a b p : Int) : Bool := decide (0 <= a /\ a <= 1099511627776 /\ 0 <= b /\ b <= 1099511627776 /\ 0 <= p /\ p <= 100000)
def bK (a b p : Int) : Bool := Ka a b p && decide (b * p <= a * 10000)
def bZ (a b p : Int) : Bool := Ka a b p && decide (a * 10000 <= b * p)
def QI : aF := ⟨T85.tab, 110, ⟨[.int .i64, .int .i64, .int .i64], [], 0⟩, ⟨[.bool], [], 0⟩, []⟩
def t110 (m : Nat) : Int × Int × Int -> Option (List Un) := fun (a0, a1, a2) =>
 bif decide (a0 >= 0) then
 bif (decide (a0 <= 1099511627776)) then
 bif decide (a1 >= 0) then
 bif (decide (a1 <= 1099511627776)) then
 bif decide (a2 >= 0) then
 bif decide (a2 <= 100000) then
 some ([.b (decide ((w64 (a0 * 10000)) >= (w64 (a1 * a2))))])
 else
 some ([.b false])
 else
 some ([.b false])
 else
 some ([.b false])
 else
 some ([.b false])
 else
 some ([.b false])
 else
 some ([.b false])
def f110 : Int × Int × Int -> Bool × List Un := fun (a0, a1, a2) => (true, [.b (bK a0 a1 a2)])
theorem KU (a0 : Int) (a1 : Int) (a2 : Int) : ∃ m, t110 m (a0, a1, a2) = some ([.b (bK a0 a1 a2)]) := by
 unfold t110 bK Ka; dsimp only [ge_iff_le]
 by_cases h : 0 <= a0 /\ a0 <= 1099511627776 /\ 0 <= a1 /\ a1 <= 1099511627776 /\ 0 <= a2 /\ a2 <= 100000
 · obtain ⟨h1, h2, h3, h4, h5, h6⟩ := h; have hm := Int.mul_le_mul h4 h6 h5 (show (0 : Int) <= 1099511627776 by omega); have hm0 := Int.mul_nonneg h3 h5; refine ⟨0, ?_⟩; rw [decide_eq_true (show 0 <= a0 /\ a0 <= 1099511627776 /\ 0 <= a1 /\ a1 <= 1099511627776 /\ 0 <= a2 /\ a2 <= 100000 from ⟨h1, h2, h3, h4, h5, h6⟩)]; simp (disch := omega) only [TRa, aa, Bool.true_and]
 · refine ⟨0, ?_⟩; rw [decide_eq_false h]
   by_cases h1 : 0 <= a0
   · by_cases h2 : a0 <= 1099511627776
     · by_cases h3 : 0 <= a1
       · by_cases h4 : a1 <= 1099511627776
         · by_cases h5 : 0 <= a2
           · simp [h1, h2, h3, h4, h5, show ¬ a2 <= 100000 by omega]
           · simp [h1, h2, h3, h4, h5]
         · simp [h1, h2, h3, h4]
       · simp [h1, h2, h3]
     · simp [h1, h2]
   · simp [h1]
theorem I0 : ER 110 (mkE QI.en QI.ex f110) := ar ag T85.right (fun m => []) (t := t110) (by kernel_rfl) (fun m => aE) (fun m a => by kernel_rfl) fun (a0, a1, a2) hc => KU a0 a1 a2
def Py : Tb Tryz.prog LQ TE := T85.add 110 _ I0
def Rt : aF := ⟨Py.tab, 111, ⟨[.int .i64, .int .i64, .int .i64], [], 0⟩, ⟨[.bool], [], 0⟩, []⟩
def t111 (m : Nat) : Int × Int × Int -> Option (List Un) := fun (a0, a1, a2) =>
 bif decide (a0 >= 0) then
 bif (decide (a0 <= 1099511627776)) then
 bif decide (a1 >= 0) then
 bif (decide (a1 <= 1099511627776)) then
 bif decide (a2 >= 0) then
 bif decide (a2 <= 100000) then
 some ([.b (decide ((w64 (a0 * 10000)) <= (w64 (a1 * a2))))])
 else
 some ([.b false])
 else
 some ([.b false])
 else
 some ([.b false])
 else
 some ([.b false])
 else
 some ([.b false])
 else
 some ([.b false])
def f111 : Int × Int × Int -> Bool × List Un := fun (a0, a1, a2) => (true, [.b (bZ a0 a1 a2)])
theorem L9 (a0 : Int) (a1 : Int) (a2 : Int) : ∃ m, t111 m (a0, a1, a2) = some ([.b (bZ a0 a1 a2)]) := by
 unfold t111 bZ Ka; dsimp only [ge_iff_le]
 by_cases h : 0 <= a0 /\ a0 <= 1099511627776 /\ 0 <= a1 /\ a1 <= 1099511627776 /\ 0 <= a2 /\ a2 <= 100000
 · obtain ⟨h1, h2, h3, h4, h5, h6⟩ := h; have hm := Int.mul_le_mul h4 h6 h5 (show (0 : Int) <= 1099511627776 by omega); have hm0 := Int.mul_nonneg h3 h5; refine ⟨0, ?_⟩; rw [decide_eq_true (show 0 <= a0 /\ a0 <= 1099511627776 /\ 0 <= a1 /\ a1 <= 1099511627776 /\ 0 <= a2 /\ a2 <= 100000 from ⟨h1, h2, h3, h4, h5, h6⟩)]; simp (disch := omega) only [TRa, aa, Bool.true_and]
 · refine ⟨0, ?_⟩; rw [decide_eq_false h]
   by_cases h1 : 0 <= a0
   · by_cases h2 : a0 <= 1099511627776
     · by_cases h3 : 0 <= a1
       · by_cases h4 : a1 <= 1099511627776
         · by_cases h5 : 0 <= a2
           · simp [h1, h2, h3, h4, h5, show ¬ a2 <= 100000 by omega]
           · simp [h1, h2, h3, h4, h5]
         · simp [h1, h2, h3, h4]
       · simp [h1, h2, h3]
     · simp [h1, h2]
   · simp [h1]
theorem Hk : ER 111 (mkE Rt.en Rt.ex f111) := ar ag Py.right (fun m => []) (t := t111) (by kernel_rfl) (fun m => aE) (fun m a => by kernel_rfl) fun (a0, a1, a2) hc => L9 a0 a1 a2
def OZ : Tb Tryz.prog LQ TE := Py.add 111 _ Hk
def N51 : aF := ⟨OZ.tab, 51, ⟨[.agg [.int .i64, .int .i64, .int .i64, .int .i64, .int .i64], .agg [.int .i64, .int .i64, .int .i64, .int .i64, .int .i64, .int .i64, .int .i64]], [], 0⟩, ⟨[.agg [.bool, .bool, .bool, .bool]], [], 0⟩, []⟩
def t51 (m : Nat) : Int × Int × Int × Int × Int × Int × Int × Int × Int × Int × Int × Int -> Option (List Un) := fun (a0, a1, a2, a3, a4, a5, a6, a7, a8, a9, a10, a11) =>
 bif a0 == 0 then
 bif a1 == 0 then
 bif a2 == 0 then
 bif a3 == 0 then
 some ([.b true, .b true, .b true, .b true])
 else
 some ([.b true, .b true, .b true, .b (bZ a11 a6 a3)])
 else
 bif a3 == 0 then
 some ([.b true, .b true, .b (bZ a10 a5 a2), .b true])
 else
 some ([.b true, .b true, .b (bZ a10 a5 a2), .b (bZ a11 a6 a3)])
 else
 bif a2 == 0 then
 bif a3 == 0 then
 some ([.b true, .b (bK a8 a9 a1), .b true, .b true])
 else
 some ([.b true, .b (bK a8 a9 a1), .b true, .b (bZ a11 a6 a3)])
 else
 bif a3 == 0 then
 some ([.b true, .b (bK a8 a9 a1), .b (bZ a10 a5 a2), .b true])
 else
 some ([.b true, .b (bK a8 a9 a1), .b (bZ a10 a5 a2), .b (bZ a11 a6 a3)])
 else
 bif a1 == 0 then
 bif a2 == 0 then
 bif a3 == 0 then
 some ([.b (bK a5 a7 a0), .b true, .b true, .b true])
 else
 some ([.b (bK a5 a7 a0), .b true, .b true, .b (bZ a11 a6 a3)])
 else
 bif a3 == 0 then
 some ([.b (bK a5 a7 a0), .b true, .b (bZ a10 a5 a2), .b true])
 else
 some ([.b (bK a5 a7 a0), .b true, .b (bZ a10 a5 a2), .b (bZ a11 a6 a3)])
 else
 bif a2 == 0 then
 bif a3 == 0 then
 some ([.b (bK a5 a7 a0), .b (bK a8 a9 a1), .b true, .b true])
 else
 some ([.b (bK a5 a7 a0), .b (bK a8 a9 a1), .b true, .b (bZ a11 a6 a3)])
 else
 bif a3 == 0 then
 some ([.b (bK a5 a7 a0), .b (bK a8 a9 a1), .b (bZ a10 a5 a2), .b true])
 else
 some ([.b (bK a5 a7 a0), .b (bK a8 a9 a1), .b (bZ a10 a5 a2), .b (bZ a11 a6 a3)])
def f51 : Int × Int × Int × Int × Int × Int × Int × Int × Int × Int × Int × Int -> Bool × List Un := fun (a0, a1, a2, a3, a4, a5, a6, a7, a8, a9, a10, a11) => (true, [.b ((a0 == 0 || bK a5 a7 a0)), .b ((a1 == 0 || bK a8 a9 a1)), .b ((a2 == 0 || bZ a10 a5 a2)), .b ((a3 == 0 || bZ a11 a6 a3))])
theorem Oy (a0 : Int) (a1 : Int) (a2 : Int) (a3 : Int) (a4 : Int) (a5 : Int) (a6 : Int) (a7 : Int) (a8 : Int) (a9 : Int) (a10 : Int) (a11 : Int) : ∃ m, t51 m (a0, a1, a2, a3, a4, a5, a6, a7, a8, a9, a10, a11) = some ([.b ((a0 == 0 || bK a5 a7 a0)), .b ((a1 == 0 || bK a8 a9 a1)), .b ((a2 == 0 || bZ a10 a5 a2)), .b ((a3 == 0 || bZ a11 a6 a3))]) := by
 refine ⟨0, ?_⟩; unfold t51; dsimp only; cases a0 == 0 <;> cases a1 == 0 <;> cases a2 == 0 <;> cases a3 == 0 <;> rfl
theorem Mb : ER 51 (mkE N51.en N51.ex f51) := ar ag OZ.right (fun m => []) (t := t51) (by kernel_rfl) (fun m => aE) (fun m a => by kernel_rfl) fun (a0, a1, a2, a3, a4, a5, a6, a7, a8, a9, a10, a11) hc => Oy a0 a1 a2 a3 a4 a5 a6 a7 a8 a9 a10 a11
def T51 : Tb Tryz.prog LQ TE := OZ.add 51 _ Mb
def N86 : aF := ⟨T51.tab, 86, ⟨[.agg [.int .i64, .int .i64, .int .i64, .int .i64, .int .i64], .agg [.int .i64, .int .i64, .int .i64, .int .i64, .int .i64, .int .i64, .int .i64]], [], 0⟩, ⟨[.bool], [], 0⟩, []⟩
def t86 (m : Nat) : Int × Int × Int × Int × Int × Int × Int × Int × Int × Int × Int × Int -> Option (List Un) := fun (a0, a1, a2, a3, a4, a5, a6, a7, a8, a9, a10, a11) =>
 bif a4 != 0 then
 some ([.b (bZ a5 a6 a4)])
 else
 some ([.b false])
def f86 : Int × Int × Int × Int × Int × Int × Int × Int × Int × Int × Int × Int -> Bool × List Un := fun (a0, a1, a2, a3, a4, a5, a6, a7, a8, a9, a10, a11) => (true, [.b ((a4 != 0 && bZ a5 a6 a4))])
theorem OJ (a0 : Int) (a1 : Int) (a2 : Int) (a3 : Int) (a4 : Int) (a5 : Int) (a6 : Int) (a7 : Int) (a8 : Int) (a9 : Int) (a10 : Int) (a11 : Int) : ∃ m, t86 m (a0, a1, a2, a3, a4, a5, a6, a7, a8, a9, a10, a11) = some ([.b ((a4 != 0 && bZ a5 a6 a4))]) := by
 refine ⟨0, ?_⟩; unfold t86; dsimp only; cases a4 != 0 <;> rfl
theorem JI : ER 86 (mkE N86.en N86.ex f86) := ar ag T51.right (fun m => []) (t := t86) (by kernel_rfl) (fun m => aE) (fun m a => by kernel_rfl) fun (a0, a1, a2, a3, a4, a5, a6, a7, a8, a9, a10, a11) hc => OJ a0 a1 a2 a3 a4 a5 a6 a7 a8 a9 a10 a11
def T86 : Tb Tryz.prog LQ TE := T51.add 86 _ JI
def fR (need has : Int) : Int := max (min (max need 0) has) 0
def DP (need has may : Int) : Int := max (min (max need 0 - fR need has) may) 0
def N44 : aF := ⟨T86.tab, 44, ⟨[.int .i64, .np 0 0 20, .int .i64, .int .i64], bw 0, 0⟩, ⟨[.int .i64, .int .i64], bw 0, 0⟩, []⟩
def t44 (m : Nat) : Int × Int × Int × Int × an × aq × ai × List Dat × List Dat × List Dat × List Dat × List Dat × List Dat × List Dat -> Option (List Un) := fun (a0, a1, a2, a3, a4, a5, a6, a7, a8, a9, a10, a11, a12, a13) =>
 lt ((if a0 < 0 then 0 else a0) : Int) fun x1 =>
 bif (!((decide (a1 < 0)) && true)) then
 chk (decide (0 <= a1)) <|
 lt ((w64 (a6.rin - a6.bk)) : Int) fun x3 =>
 lt ((if x3 < x1 then x3 else x1) : Int) fun x4 =>
 lt ((if x4 < 0 then 0 else x4) : Int) fun x5 =>
 chk (decide (0 <= a1)) <|
 chk (decide (0 <= a1)) <|
 lt ((if (w64 (a3 - a2)) < (w64 (x1 - x5)) then (w64 (a3 - a2)) else (w64 (x1 - x5))) : Int) fun x6 =>
 some ([.i x5, .i (if x6 < 0 then 0 else x6)] ++ Uns.enc (a4 : an) ++ Uns.enc (a5 : aq) ++ Uns.enc (({ a6 with bk := (w64 (a6.bk + x5)) } : ai) : ai) ++ [.d a7, .d a8, .d a9, .d a10, .d a11, .d a12, .d a13])
 else
 lt ((if (w64 (a3 - a2)) < (w64 (x1 - 0)) then (w64 (a3 - a2)) else (w64 (x1 - 0))) : Int) fun x8 =>
 some ([.i 0, .i (if x8 < 0 then 0 else x8)] ++ Uns.enc (a4 : an) ++ Uns.enc (a5 : aq) ++ Uns.enc (a6 : ai) ++ [.d a7, .d a8, .d a9, .d a10, .d a11, .d a12, .d a13])
def f44 : Int × Int × Int × Int × an × aq × ai × List Dat × List Dat × List Dat × List Dat × List Dat × List Dat × List Dat -> Bool × List Un := fun (a0, a1, a2, a3, a4, a5, a6, a7, a8, a9, a10, a11, a12, a13) => (decide (0 <= a1) && decide ((-1152921504606846976 <= a0 /\ a0 <= 1152921504606846976) /\ ((0 : Int) <= a6.bk /\ a6.bk <= a6.rin /\ a6.rin <= (1152921504606846976 : Int)) /\ (0 <= a2 /\ a2 <= 1152921504606846976) /\ (0 <= a3 /\ a3 <= 1152921504606846976)), [.i (fR a0 (a6.rin - a6.bk)), .i (DP a0 (a6.rin - a6.bk) (a3 - a2))] ++ Uns.enc ((a4) : an) ++ Uns.enc ((a5) : aq) ++ Uns.enc (({ a6 with bk := a6.bk + fR a0 (a6.rin - a6.bk) }) : ai) ++ [.d (a7), .d (a8), .d (a9), .d (a10), .d (a11), .d (a12), .d (a13)])
theorem O9 (a0 : Int) (a1 : Int) (a2 : Int) (a3 : Int) (a4 : an) (a5 : aq) (a6 : ai) (a7 : List Dat) (a8 : List Dat) (a9 : List Dat) (a10 : List Dat) (a11 : List Dat) (a12 : List Dat) (a13 : List Dat) (hc : (decide (0 <= a1) && decide ((-1152921504606846976 <= a0 /\ a0 <= 1152921504606846976) /\ ((0 : Int) <= a6.bk /\ a6.bk <= a6.rin /\ a6.rin <= (1152921504606846976 : Int)) /\ (0 <= a2 /\ a2 <= 1152921504606846976) /\ (0 <= a3 /\ a3 <= 1152921504606846976))) = true) : ∃ m, t44 m (a0, a1, a2, a3, a4, a5, a6, a7, a8, a9, a10, a11, a12, a13) = some ([.i (fR a0 (a6.rin - a6.bk)), .i (DP a0 (a6.rin - a6.bk) (a3 - a2))] ++ Uns.enc ((a4) : an) ++ Uns.enc ((a5) : aq) ++ Uns.enc (({ a6 with bk := a6.bk + fR a0 (a6.rin - a6.bk) }) : ai) ++ [.d (a7), .d (a8), .d (a9), .d (a10), .d (a11), .d (a12), .d (a13)]) := by
 simp only [Bool.and_eq_true, decide_eq_true_eq] at hc; obtain ⟨h0, ⟨h1, h2⟩, ⟨h3, h4, h5⟩, ⟨h6, h7⟩, h8, h9⟩ := hc; refine ⟨0, ?_⟩; unfold t44; dsimp only; simp only [Bool.and_true, lt_eq, decide_eq_false (show ¬ a1 < 0 by omega), Bool.not_false, cond_true, decide_eq_true h0, iI]; rw [aa (n := a6.rin - a6.bk) (by omega) (by omega), aa (n := a3 - a2) (by omega) (by omega)]; have e : (if (if a6.rin - a6.bk < (if a0 < 0 then 0 else a0) then a6.rin - a6.bk else (if a0 < 0 then 0 else a0)) < 0 then 0 else (if a6.rin - a6.bk < (if a0 < 0 then 0 else a0) then a6.rin - a6.bk else (if a0 < 0 then 0 else a0))) = fR a0 (a6.rin - a6.bk) := by unfold fR; omega
 have hd : 0 <= fR a0 (a6.rin - a6.bk) /\ fR a0 (a6.rin - a6.bk) <= 1152921504606846976 /\ fR a0 (a6.rin - a6.bk) <= max a0 0 /\ fR a0 (a6.rin - a6.bk) <= a6.rin - a6.bk := by unfold fR; omega
 rw [e, show (if a0 < 0 then 0 else a0) = max a0 0 by omega, aa (n := max a0 0 - _) (by omega) (by omega), aa (n := a6.bk + _) (by omega) (by omega)]; rw [show (if (if a3 - a2 < max a0 0 - fR a0 (a6.rin - a6.bk) then a3 - a2 else max a0 0 - fR a0 (a6.rin - a6.bk)) < 0 then 0 else (if a3 - a2 < max a0 0 - fR a0 (a6.rin - a6.bk) then a3 - a2 else max a0 0 - fR a0 (a6.rin - a6.bk))) = DP a0 (a6.rin - a6.bk) (a3 - a2) by unfold DP; omega]
theorem L0 : ER 44 (mkE N44.en N44.ex f44) := ar ag T86.right (fun m => []) (t := t44) (by kernel_rfl) (fun m => aE) (fun m a => by kernel_rfl) fun (a0, a1, a2, a3, a4, a5, a6, a7, a8, a9, a10, a11, a12, a13) hc => O9 a0 a1 a2 a3 a4 a5 a6 a7 a8 a9 a10 a11 a12 a13 hc
def T44 : Tb Tryz.prog LQ TE := T86.add 44 _ L0
def eZ (d : br) (m : Int) : List Dat := if m = 0 then d.s0 else if m = 1 then d.s1 else if m = 2 then d.s2 else []
def N47 : aF := ⟨T44.tab, 47, ⟨[.agg [.int .i64, .int .i64, .int .i64, .ae (sI 2), .ae (sI 3), .int .i64, .int .i64, .int .i64, .int .i64, .int .i64, .int .i64, .int .i64, .int .i64, .int .i64, .int .i64, .ae (sI 2), .ae (sI 2), .ae (sI 2)], .agg [.int .i64, .int .i64]], [], 0⟩, ⟨[.buf 0 2], [.ae (sI 2)], 0⟩, []⟩
def t47 (m : Nat) : br × Int × Int -> Option (List Un) := fun (a0, a1, a2) =>
 bif decide (a1 < 0) then
 some ([.d ([])])
 else
 bif decide (a1 >= 3) then
 some ([.d ([])])
 else
 chk (inb a1 3) <|
 chk (decide (a1.toNat < 3)) <|
 chk (decide ((List.getD [a0.s0, a0.s1, a0.s2] a1.toNat []).length < 1000000)) <|
 some ([.d (List.getD [a0.s0, a0.s1, a0.s2] a1.toNat [])])
def f47 : br × Int × Int -> Bool × List Un := fun (a0, a1, a2) => (decide (a0.s0.length < 1000000 /\ a0.s1.length < 1000000 /\ a0.s2.length < 1000000), [.d (eZ a0 a1)])
theorem Ni (a0 : br) (a1 : Int) (a2 : Int) (hc : (decide (a0.s0.length < 1000000 /\ a0.s1.length < 1000000 /\ a0.s2.length < 1000000)) = true) : ∃ m, t47 m (a0, a1, a2) = some ([.d (eZ a0 a1)]) := by
 obtain ⟨h1, h2, h3⟩ := of_decide_eq_true hc; refine ⟨0, ?_⟩; unfold t47 eZ; dsimp only
 by_cases c0 : a1 < 0
 · rw [ba c0, if_neg (by omega), if_neg (by omega), if_neg (by omega)]
 by_cases c3 : a1 >= 3
 · rw [aw c0, ba c3, if_neg (by omega), if_neg (by omega), if_neg (by omega)]
 rw [aw c0, aw c3, cy (by omega) (by omega), aG (by omega)]; obtain rfl | rfl | rfl : a1 = 0 \/ a1 = 1 \/ a1 = 2 := by omega
 · exact (aG h1).trans rfl
 · exact (aG h2).trans rfl
 · exact (aG h3).trans rfl
theorem Kl : ER 47 (mkE N47.en N47.ex f47) := ar ag T44.right (fun m => []) (t := t47) (by kernel_rfl) (fun m => aE) (fun m a => by kernel_rfl) fun (a0, a1, a2) hc => Ni a0 a1 a2 hc
def T47 : Tb Tryz.prog LQ TE := T44.add 47 _ Kl
end
end Go.Proofs.YtdbkoeefnodejaaGreat
namespace Go.Proofs.YtdbkoeefnodejaaGreat
noncomputable section
open Go Go.Proofs.YtdbkoeefnodejaaGreat.Ev
set_option maxRecDepth 20000
def gu (d : Dat) : Prop := 0 <= d.i 1 /\ 0 <= d.i 2 /\ d.i 1 + d.i 2 <= 1099511627776 /\ (0 <= d.i 3 /\ d.i 3 <= 12) /\ (d.b 4 = true -> d.i 1 = 0) /\ (d.b 4 = false -> d.i 2 = 0)
theorem Cn {p q r s l : Int} (h : fV p q r s l = true) : (0 <= p /\ p <= 1099511627776) /\ (0 <= q /\ q <= 1099511627776) /\ (0 <= r /\ r <= 1099511627776) /\ (0 <= s /\ s <= 1099511627776) /\ 0 <= l /\ l <= 12 := by
 simp only [fV, Bool.and_eq_true, decide_eq_true_eq] at h; omega
theorem Hx {x d : Dat} (hx : gu x) (hl : fV (d.i 1) (d.i 2) (d.i 3) (d.i 4) (d.i 5) = true) (hm : wy x d = true) : gu (ke x d) /\ (ke x d).i 1 = x.i 1 - (d.i 1 + d.i 2) - fj (x.i 1) (d.i 1) (d.i 2) (d.b 6) /\ (ke x d).i 2 = x.i 2 + fj (x.i 1) (d.i 1) (d.i 2) (d.b 6) - d.i 4 /\
 0 <= fj (x.i 1) (d.i 1) (d.i 2) (d.b 6) /\ d.i 1 + d.i 2 + fj (x.i 1) (d.i 1) (d.i 2) (d.b 6) <= x.i 1 /\ d.i 4 <= x.i 2 + fj (x.i 1) (d.i 1) (d.i 2) (d.b 6) := by
 obtain ⟨x1, x2, x3, x4, x5, x6⟩ := hx; have l := Cn hl; have e1 : (ke x d).i 1 = tK (x.i 1) (d.i 1) (d.i 2) (d.b 6) := rfl; have e2 : (ke x d).i 2 = nH (x.i 1) (x.i 2) (d.i 1) (d.i 2) (d.i 4) (d.b 6) := rfl; have e3 : (ke x d).i 3 = nI (x.i 1) (x.b 4) (d.i 1) (d.i 2) (d.i 5) (d.b 6) := rfl; have e4 : (ke x d).b 4 = (d.b 6 || x.b 4) := FO _; unfold gu; rw [e1, e2, e3, e4]; unfold wy qp at hm; unfold tK nH nI fj; generalize d.i 1 = p at *
 generalize d.i 2 = q at *
 generalize d.i 3 = r at *
 generalize d.i 4 = s at *
 generalize d.i 5 = t at *
 generalize x.i 1 = b at *
 generalize x.i 2 = o at *
 clear e1 e2 e3 e4 hl; cases hb : x.b 4
 · have := x6 hb; simp only [hb, cond_false, show w64 (b - p) = b - p from aa (by omega) (by omega), show w64 (b - p - q) = b - p - q from aa (by omega) (by omega)] at hm; simp only [show w64 (p + q) = p + q from aa (by omega) (by omega), show w64 (b - (p + q)) = b - (p + q) from aa (by omega) (by omega)]
   by_cases hn : b - p - q < 0
   · rw [decide_eq_true hn] at hm; cases hm
   rw [decide_eq_false hn, cond_false] at hm; cases hd : d.b 6
   · simp only [hd, cond_false, beq_iff_eq] at hm; subst hm; simp only [cond_false, Bool.or_self, Int.sub_zero, Int.add_zero, show w64 o = o from aa (by omega) (by omega)]; have hz : 0 <= (bif b - (p + q) == 0 then 0 else t) /\ (bif b - (p + q) == 0 then 0 else t) <= 12 := by cases (b - (p + q) == 0) <;> simp only [cond_true, cond_false] <;> omega
     and_intros <;> first | trivial | omega | (intro h; cases h; done) | (intro _; omega)
   · simp only [hd, cond_true, show w64 (o + (b - p - q)) = o + (b - p - q) from aa (by omega) (by omega)] at hm; have hr : s <= o + (b - p - q) := by
      by_cases hs : s <= o + (b - p - q)
      · exact hs
      · rw [decide_eq_false hs, cond_false, beq_iff_eq] at hm; omega
     simp only [cond_true, Bool.or_false, show w64 (o + (b - (p + q))) = o + (b - (p + q)) from aa (by omega) (by omega), show w64 (o + (b - (p + q)) - s) = o + (b - (p + q)) - s from aa (by omega) (by omega)]
     and_intros <;> first | trivial | omega | (intro h; cases h; done) | (intro _; omega)
 · have := x5 hb; subst this; rw [hb] at hm; simp only [cond_true, Bool.and_eq_true, beq_iff_eq, Bool.not_eq_true', decide_eq_true_eq] at hm; obtain ⟨rfl, rfl, h3, h4, h5, h6⟩ := hm; rw [h5]; simp only [cond_true, cond_false, Bool.false_or, show w64 0 = 0 by decide, Int.sub_zero, Int.add_zero, show w64 (o - s) = o - s from aa (by omega) (by omega)]
   and_intros <;> first | trivial | omega | (intro h; cases h; done) | (intro _; omega)
theorem oz {β : Type} (f : Dat -> β) (y : Dat) : ∀ (l : List Dat) (j : Nat), j < l.length -> f y = f (af l j) -> (l.set j y).map f = l.map f
 | [], j, h, _ => by simp at h
 | d :: l, 0, _, h => by simp only [List.set_cons_zero, List.map_cons, h]; rfl
 | d :: l, j + 1, h, hy => by simp only [List.set_cons_succ, List.map_cons, oz f y l j (by simpa using h) hy]
theorem eX {l : List Dat} (h : ∀ d ∈ l, gu d) : 0 <= ak 1 l /\ 0 <= ak 2 l := ⟨eQ 1 l fun d hd => (h d hd).1, eQ 2 l fun d hd => (h d hd).2.1⟩
theorem xF : ∀ (t l : List Dat) (last p q s r : Int) (x : II), (∀ d ∈ l, gu d) -> ir last t = true -> eh l p q s r t = some x -> ak 1 l + ak 2 l <= 1099511627776 -> (0 <= p /\ p + ak 1 l <= 4398046511104) -> (0 <= s /\ s + ak 1 l <= 4398046511104) -> (0 <= r /\ r + ak 1 l + ak 2 l <= 4398046511104) -> (0 <= q /\ q + 1099511627776 * t.length <= 1125899906842624) ->
 (∀ d ∈ x.aI, gu d) /\ x.aI.map (fun d => d.i 0) = l.map (fun d => d.i 0) /\ ak 1 x.aI = ak 1 l - (x.p - p) - (x.l - s) /\ ak 2 x.aI = ak 2 l + (x.l - s) - (x.r - r) /\ p <= x.p /\ s <= x.l /\ r <= x.r /\ (q <= x.q /\ x.q <= q + 1099511627776 * t.length) /\ x.e = 0
 | [], l, last, p, q, s, r, x, hl, ht, h, b1, b2, b3, b4, b5 => by
  simp only [eh, Option.some.injEq] at h; subst h; exact ⟨hl, rfl, by simp, by simp, by simp, by simp, by simp, by simp, rfl⟩
 | d :: t, l, last, p, q, s, r, x, hl, ht, h, b1, b2, b3, b4, b5 => by
  simp only [ir] at ht
  split at ht
  · cases ht
  · split at ht
    · rename_i hT; unfold eh at h
      split at h
      · cases h
      · rename_i hi
        split at h
        · rename_i hm; rcases yt (d.i 0) l 0 with hj | ⟨hj1, hj2⟩
          · omega
          · have hj : (eO (d.i 0) 0 l).toNat < l.length := by omega
            generalize (eO (d.i 0) 0 l).toNat = j at *
            obtain ⟨r1, r2, r3, r4, r5, r6⟩ := Hx (hl _ (oL hj)) hT hm; have lt := Cn hT; have s1 := my 1 (ke (af l j) d) l j hj; have s2 := my 2 (ke (af l j) d) l j hj; have hl' := Ft (p := gu) (j := j) hl r1; obtain ⟨n1, n2⟩ := eX hl; obtain ⟨n3, n4⟩ := eX hl'; rw [r2] at s1; rw [r3] at s2; simp only [List.length_cons, Int.natCast_add, Int.cast_ofNat_Int] at b5; generalize fj ((af l j).i 1) (d.i 1) (d.i 2) (d.b 6) = z at *
            rw [show w64 (d.i 1 + d.i 2) = d.i 1 + d.i 2 from aa (by omega) (by omega), show w64 (p + (d.i 1 + d.i 2)) = p + (d.i 1 + d.i 2) from aa (by omega) (by omega), show w64 (q + d.i 3) = q + d.i 3 from aa (by omega) (by omega), show w64 (s + z) = s + z from aa (by omega) (by omega), show w64 (r + d.i 4) = r + d.i 4 from aa (by omega) (by omega)] at h; obtain ⟨c1, c2, c3, c4, c5, c6, c7, c8, c9⟩ := xF t _ _ _ _ _ _ x hl' ht h (by omega) (by omega) (by omega) (by omega) (by omega); refine ⟨c1, c2.trans (oz _ _ _ _ hj rfl), by omega, by omega, by omega, by omega, by omega, ?_, c9⟩; simp only [List.length_cons, Int.natCast_add, Int.cast_ofNat_Int]; omega
        · cases h
    · cases ht
theorem Gw {t l : List Dat} (hl : ∀ d ∈ l, gu d) (b : ak 1 l + ak 2 l <= 1099511627776) (he : (aB t l).e = 0) :
 (∀ d ∈ (aB t l).aI, gu d) /\ (aB t l).aI.map (fun d => d.i 0) = l.map (fun d => d.i 0) /\ ak 1 (aB t l).aI = ak 1 l - (aB t l).p - (aB t l).l /\ ak 2 (aB t l).aI = ak 2 l + (aB t l).l - (aB t l).r /\
 0 <= (aB t l).p /\ 0 <= (aB t l).l /\ 0 <= (aB t l).r /\ 0 <= (aB t l).q /\ (aB t l).q <= 70368744177664 := by
 unfold aB at he ⊢
 split at he
 · rename_i ht; rw [if_pos ht]; simp only [lQ, Bool.and_eq_true, decide_eq_true_eq] at ht; cases hx : eh l 0 0 0 0 t with
   | none => rw [hx] at he; cases he
   | some x =>
    obtain ⟨n1, n2⟩ := eX hl; obtain ⟨c1, c2, c3, c4, c5, c6, c7, c8, c9⟩ := xF t l 0 0 0 0 0 x hl ht.2 hx b (by omega) (by omega) (by omega) (by omega); simp only [Option.getD_some]; exact ⟨c1, c2, by omega, by omega, c5, c6, c7, c8.1, by omega⟩
 · cases he
theorem il (f : Dat -> Bool) : ∀ l : List Dat, (∀ d ∈ l, 0 <= d.i 3) -> 0 <= bn f l
 | [], _ => Int.le_refl 0
 | d :: l, h => by
  have := h d (by simp); have := il f l fun x hx => h x (by simp [hx])
  simp only [bn]; cases f d <;> simp only [cond_true, cond_false] <;> omega
def sr (d e : Dat) (b s : Int) : Prop := e.i 0 = d.i 0 /\ e.i 1 = d.i 1 /\ e.i 2 = d.i 2 /\ e.i 3 = d.i 3 + b /\ e.i 4 = d.i 4 /\ e.i 5 = d.i 5 - s /\ e.i 6 = d.i 6
def amt (f : Dat -> Bool) (d : Dat) : Int := bif f d then d.i 3 else 0
theorem de (f : Dat -> Bool) (d : Dat) (l : List Dat) : bn f (d :: l) = amt f d + bn f l := rfl
theorem IM {n : ai} {x : Dat} {c : List Dat} (h3 : 0 <= x.i 3) (hk : (x.i 1 = 1 \/ x.i 1 = 2 \/ x.i 1 = 6) \/ (0 <= x.i 2 /\ x.i 2 < (c.length : Int))) (hb : ∀ i, i < c.length -> amt (toB i) x <= bc (af c i) /\ amt (toI i) x <= (af c i).i 5) :
 iN n x = { n with fee := n.fee - amt kF x, out := n.out - amt kR x, rin := n.rin + amt kT x } /\ ∀ i, i < c.length -> sr (af c i) (af (kq c x) i) (amt (toB i) x) (amt (toI i) x) := by
 have zero : ∀ i, kI x = false -> kB x = false -> sr (af c i) (af c i) (amt (toB i) x) (amt (toI i) x) := fun i h1 h2 => by
  simp only [amt, toB, toI, h1, h2, Bool.false_and, cond_false]; exact ⟨rfl, rfl, rfl, by omega, rfl, by omega, rfl⟩
 unfold iN kq
 by_cases h1 : x.i 1 = 1
 · have a1 : kF x = true := by simp [kF, h1]
   have a2 : kR x = false := by simp [kR, h1]
   have a3 : kT x = false := by simp [kT, h1]
   have a4 : kI x = false := by simp [kI, h1]
   have a5 : kB x = false := by simp [kB, a1]
   rw [if_pos h1, if_pos h1]; refine ⟨?_, fun i hi => zero i a4 a5⟩; simp only [amt, a1, a2, a3, cond_true, cond_false, Int.sub_zero, Int.add_zero]
 rw [if_neg h1, if_neg h1]; have a1 : kF x = false := jL h1
 by_cases h2 : x.i 1 = 2
 · have a2 : kR x = true := by simp [kR, h2]
   have a3 : kT x = false := by simp [kT, h2]
   have a4 : kI x = false := by simp [kI, h2]
   have a5 : kB x = false := by simp [kB, a2]
   rw [if_pos h2, if_pos h2]; refine ⟨?_, fun i hi => zero i a4 a5⟩; simp only [amt, a1, a2, a3, cond_true, cond_false, Int.sub_zero, Int.add_zero]
 rw [if_neg h2, if_neg h2]; have a2 : kR x = false := jL h2
 by_cases h6 : x.i 1 = 6
 · have a3 : kT x = true := by simp [kT, h6]
   have a4 : kI x = false := by simp [kI, h6]
   have a5 : kB x = false := by simp [kB, a3]
   rw [if_pos h6, if_pos h6]; refine ⟨?_, fun i hi => zero i a4 a5⟩; simp only [amt, a1, a2, a3, cond_true, cond_false, Int.sub_zero, Int.add_zero]
 rw [if_neg h6, if_neg h6]; have a3 : kT x = false := jL h6; refine ⟨by simp only [amt, a1, a2, a3, cond_false, Int.sub_zero, Int.add_zero], fun i hi => ?_⟩; have hj : (x.i 2).toNat < c.length := by omega
 have hx2 : x.i 2 = ((x.i 2).toNat : Int) := by omega
 generalize (x.i 2).toNat = j at *
 have hbj := hb j hj
 by_cases h3' : x.i 1 = 3
 · have a4 : kI x = true := by simp [kI, h3']
   have a5 : kB x = false := by simp [kB, a4]
   rw [if_pos h3']; simp only [amt, toB, toI, a4, a5, Bool.false_and, Bool.true_and, cond_false, hx2] at hbj ⊢
   by_cases hij : i = j
   · subst hij; rw [beq_self_eq_true, cond_true] at hbj ⊢; rw [uf hj]; refine ⟨rfl, rfl, rfl, by simp only [nj, fh]; omega, rfl, ?_, rfl⟩; simp only [nj, ot, B8]; omega
   · rw [show ((j : Int) == (i : Int)) = false from jL (by omega), cond_false, mP hij]; exact ⟨rfl, rfl, rfl, by omega, rfl, by omega, rfl⟩
 · have a4 : kI x = false := jL h3'; have a5 : kB x = true := by simp [kB, a1, a2, a3, a4]
   rw [if_neg h3']; simp only [amt, toB, toI, a4, a5, Bool.false_and, Bool.true_and, cond_false, hx2] at hbj ⊢
   by_cases hij : i = j
   · subst hij; rw [beq_self_eq_true, cond_true] at hbj ⊢; rw [uf hj]; refine ⟨rfl, rfl, rfl, ?_, rfl, by simp only [si, ot]; omega, rfl⟩; simp only [si, fh, mT]; omega
   · rw [show ((j : Int) == (i : Int)) = false from jL (by omega), cond_false, mP hij]; exact ⟨rfl, rfl, rfl, by omega, rfl, by omega, rfl⟩
theorem wN : ∀ (p : List Dat) (n : ai) (c : List Dat), (∀ d ∈ p, 0 <= d.i 3) -> (∀ d ∈ p, (d.i 1 = 1 \/ d.i 1 = 2 \/ d.i 1 = 6) \/ (0 <= d.i 2 /\ d.i 2 < (c.length : Int))) -> (∀ i, i < c.length -> bn (toB i) p <= bc (af c i) /\ bn (toI i) p <= (af c i).i 5) ->
 (cV p n c).1 = { n with fee := n.fee - bn kF p, out := n.out - bn kR p, rin := n.rin + bn kT p } /\ (cV p n c).2.length = c.length /\ ∀ i, i < c.length -> sr (af c i) (af (cV p n c).2 i) (bn (toB i) p) (bn (toI i) p)
 | [], n, c, _, _, _ => by
  refine ⟨by simp [cV, bn], rfl, fun i hi => ⟨rfl, rfl, rfl, ?_, rfl, ?_, rfl⟩⟩ <;> simp [cV, bn]
 | x :: p, n, c, h0, hk, hb => by
  have n0 := fun f => il f p fun d hd => h0 d (List.mem_cons_of_mem _ hd)
  have hx0 := h0 x (by simp); have m0 : ∀ f, 0 <= amt f x := fun f => by unfold amt; cases f x <;> simp only [cond_true, cond_false] <;> omega
  obtain ⟨o1, o2⟩ := IM (n := n) hx0 (hk x (by simp)) fun i hi => by
   have := hb i hi; rw [de, de] at this; have := n0 (toB i); have := n0 (toI i); omega
  have hl := yo c x; obtain ⟨i1, i2, i3⟩ := wN p (iN n x) (kq c x) (fun d hd => h0 d (List.mem_cons_of_mem _ hd)) (fun d hd => by rw [hl]; exact hk d (List.mem_cons_of_mem _ hd)) fun i hi => by
   rw [hl] at hi; have := hb i hi; rw [de, de] at this; obtain ⟨_, e1, _, e3, e4, e5, e6⟩ := o2 i hi; unfold bc at this ⊢; omega
  refine ⟨?_, i2.trans hl, fun i hi => ?_⟩
  · show (cV p (iN n x) (kq c x)).1 = _; rw [i1, o1]; simp only [de, Int.sub_sub, Int.add_assoc]
  · obtain ⟨e0, e1, e2, e3, e4, e5, e6⟩ := o2 i hi; obtain ⟨f0, f1, f2, f3, f4, f5, f6⟩ := i3 i (by rw [hl]; exact hi); rw [de, de]; exact ⟨f0.trans e0, f1.trans e1, f2.trans e2, by show (af (cV p (iN n x) (kq c x)).2 i).i 3 = _; omega, f4.trans e4, by show (af (cV p (iN n x) (kq c x)).2 i).i 5 = _; omega, f6.trans e6⟩
def gr (d e : Dat) : Prop := e.i 0 = d.i 0 /\ e.i 1 = d.i 1 /\ e.i 2 = d.i 2 /\ e.i 3 = d.i 3 /\ e.i 4 = d.i 4 /\ e.i 5 = d.i 5
theorem gr.refl (d : Dat) : gr d d := ⟨rfl, rfl, rfl, rfl, rfl, rfl⟩
theorem gr.trans {a b c : Dat} (h : gr a b) (k : gr b c) : gr a c := ⟨k.1.trans h.1, k.2.1.trans h.2.1, k.2.2.1.trans h.2.2.1, k.2.2.2.1.trans h.2.2.2.1, k.2.2.2.2.1.trans h.2.2.2.2.1, k.2.2.2.2.2.trans h.2.2.2.2.2⟩
structure eA (c c' : List Dat) : Prop where
 len : c'.length = c.length
 row : ∀ i, i < c.length -> gr (af c i) (af c' i)
theorem eA.refl (c : List Dat) : eA c c := ⟨rfl, fun _ _ => .refl _⟩
theorem eA.trans {a b c : List Dat} (h : eA a b) (k : eA b c) : eA a c := ⟨k.len.trans h.len, fun i hi => (h.row i hi).trans (k.row i (by rw [h.len]; exact hi))⟩
theorem eA.set {c : List Dat} {j : Nat} {y : Dat} (hj : j < c.length) (h : gr (af c j) y) : eA c (c.set j y) := ⟨List.length_set, fun i hi => by
 by_cases e : i = j
 · subst e; rw [uf hj]; exact h
 · rw [mP e]; exact .refl _⟩
theorem Cm (w : Int) (d : Dat) : gr d (dM w d) := ⟨rfl, rfl, rfl, rfl, rfl, rfl⟩
theorem DQ (w : Int) (d : Dat) : gr d (fQ w d) := ⟨rfl, rfl, rfl, rfl, rfl, rfl⟩
theorem xv (f : Dat -> Int) : ∀ c : List Dat, (∀ d ∈ c, f d = 0) -> aW f c = 0
 | [], _ => rfl
 | d :: c, h => by simp only [aW, h d (by simp), xv f c fun x hx => h x (by simp [hx])]; rfl
theorem xC (j : Nat) : ∀ c : List Dat, (∀ d ∈ c, d.i j = 0) -> ak j c = 0
 | [], _ => rfl
 | d :: c, h => by simp only [ak, h d (by simp), xC j c fun x hx => h x (by simp [hx])]; rfl
theorem Jz {c : List Dat} {j : Nat} {y : Dat} (hj : j < c.length) (h : gr (af c j) y) : aW unD (c.set j y) = aW unD c := by
 obtain ⟨_, h1, _, h3, h4, _⟩ := h; rw [Bt _ _ _ _ hj]; unfold unD; omega
theorem Eh (t : Int) : ∀ (k : Nat) (c : List Dat), dG c -> uB t c < k -> dG (sh k t c) /\ eA c (sh k t c) /\ (ak 6 c <= t -> ak 6 (sh k t c) = min t (aW unD c)) /\ (t <= ak 6 c -> sh k t c = c)
 | 0, c, _, h => by omega
 | k + 1, c, hg, h => by
  have hu := gn c hg.2; unfold sh
  by_cases hs : ak 6 c < t
  · rw [if_pos hs]
    by_cases hj : fD c c.length 0 (-1) < 0
    · rw [if_pos hj]; refine ⟨hg, .refl c, fun _ => ?_, fun _ => rfl⟩; have h0 := ((sG c c.length 0 (-1) (by omega) (.inl (by omega))).1 hj).2; have : aW bc c = 0 := xv _ _ fun d hd => by
       obtain ⟨i, hi, rfl⟩ := l7 hd; have := h0 i (by omega) hi; have := (FG (bW hi hg.2)).1; omega
      omega
    · rw [if_neg hj]; obtain ⟨a1, a2, a3, a4⟩ := M4 hg hs (by omega); have hw := Cm (t - ak 6 c) (af c (fD c c.length 0 (-1)).toNat); have hun := Jz a1 hw; have has := eA.set a1 hw; generalize c.set (fD c c.length 0 (-1)).toNat (dM (t - ak 6 c) (af c (fD c c.length 0 (-1)).toNat)) = c' at *
      obtain ⟨b1, b2, b3, b4⟩ := Eh t k c' a2 (by omega); exact ⟨b1, has.trans b2, fun _ => by rw [b3 a4, hun], fun _ => by omega⟩
  · rw [if_neg hs]; exact ⟨hg, .refl c, fun _ => by omega, fun _ => rfl⟩
theorem Fz (t : Int) (h0 : 0 <= t) : ∀ (k : Nat) (c : List Dat), dG c -> tp t c < k -> dG (pK k t c) /\ eA c (pK k t c) /\ (t <= ak 6 c -> ak 6 (pK k t c) = t) /\ (ak 6 c <= t -> pK k t c = c)
 | 0, c, _, h => by omega
 | k + 1, c, hg, h => by
  have hu := gn c hg.2; unfold pK
  by_cases hs : t < ak 6 c
  · rw [if_pos hs]
    by_cases hj : fC c c.length 0 (-1) < 0
    · have h0 := ((sD c c.length 0 (-1) (by omega) (.inl (by omega))).1 hj).2; have : ak 6 c = 0 := xC _ _ fun d hd => by
       obtain ⟨i, hi, rfl⟩ := l7 hd; have := h0 i (by omega) hi; have := (bY (bW hi hg.2)).2.2.2.2.1; omega
      omega
    · rw [if_neg hj]; obtain ⟨a1, a2, a3, a4⟩ := M3 hg hs (by omega); have has := eA.set a1 (DQ (ak 6 c - t) (af c (fC c c.length 0 (-1)).toNat)); generalize c.set (fC c c.length 0 (-1)).toNat (fQ (ak 6 c - t) (af c (fC c c.length 0 (-1)).toNat)) = c' at *
      obtain ⟨b1, b2, b3, b4⟩ := Fz t h0 k c' a2 (by omega); exact ⟨b1, has.trans b2, fun _ => b3 a4, fun _ => by omega⟩
  · rw [if_neg hs]; exact ⟨hg, .refl c, fun _ => by omega, fun _ => rfl⟩
theorem Gh {t : Int} {c : List Dat} (hg : dG c) (h0 : 0 <= t) (h1 : t <= aW unD c) : dG (fG t c) /\ eA c (fG t c) /\ ak 6 (fG t c) = t := by
 obtain ⟨a1, a2, a3, a4⟩ := Eh t (c.length + 2) c hg (BY t c); unfold fG; rw [show max t 0 = t by omega]; obtain ⟨b1, b2, b3, b4⟩ := Fz t h0 (c.length + 2) (sh (c.length + 2) t c) a1 (by have := BI t (sh (c.length + 2) t c); rwa [a2.len] at this); refine ⟨b1, a2.trans b2, ?_⟩
 by_cases hs : ak 6 c <= t
 · have := a3 hs; rw [b4 (by omega)]; omega
 · rw [a4 (by omega)] at b3 ⊢; exact b3 (by omega)
structure Rv (d : br) : Prop where
 year : 1 <= d.a.year /\ d.a.year <= 9000
 month : 1 <= d.a.month /\ d.a.month <= 12
 basis : 0 <= d.a.basis /\ d.a.basis <= 2
 fee : 0 <= d.b.fee /\ d.b.fee <= 5000
 bs : 0 <= d.b.bs /\ d.b.bs <= 1099511627776
 target : 0 <= d.b.target /\ d.b.target <= 10000
 advance : 0 <= d.b.advance /\ d.b.advance <= 1099511627776
 dV : 0 <= d.b.dV /\ d.b.dV <= 600
 oc : 0 <= d.b.oc /\ d.b.oc <= 100000
 ic : 0 <= d.b.ic /\ d.b.ic <= 100000
 late : 0 <= d.b.late /\ d.b.late <= 100000
 kh : 0 <= d.b.kh /\ d.b.kh <= 100000
 clean : 0 <= d.b.clean /\ d.b.clean <= 100000
 QL : ((bC d).getD (0, 0)).1 = ak 1 d.ax
 aI : 0 <= ak 1 d.ax /\ ak 1 d.ax <= 1099511627776
 Gx : 1 <= d.ax.length /\ d.ax.length <= 64
 wD : ∀ x ∈ d.ax, 0 <= x.i 1 /\ x.i 1 <= 1099511627776
 ids : (d.ax.map fun x => x.i 0).Pairwise (· < ·)
 pos : ∀ x ∈ d.ax, 0 < x.i 0
 SG : 1 <= d.notes.length /\ d.notes.length <= 8
 note : ∀ x ∈ d.notes, (0 <= x.i 0 /\ x.i 0 <= 7) /\ (1 <= x.i 1 /\ x.i 1 <= 1099511627776) /\ (0 <= x.i 2 /\ x.i 2 <= 5000)
 sumn : ak 1 d.notes <= ak 1 d.ax
 s0 : dh d.s0 = true
 s1 : dh d.s1 = true
 s2 : dh d.s2 = true
theorem xY : ∀ (l : List Dat) (last all r : Int), 0 <= all -> gq last all l = some r -> r = all + ak 1 l /\ (all <= 1099511627776 -> r <= 1099511627776) /\ (∀ x ∈ l, 0 <= x.i 1 /\ x.i 1 <= 1099511627776 /\ last < x.i 0) /\ (l.map fun x => x.i 0).Pairwise (· < ·)
 | [], last, all, r, h0, h => by
  simp only [gq, Option.some.injEq] at h; subst h; exact ⟨by simp [ak], fun h => h, fun x hx => by simp at hx, List.Pairwise.nil⟩
 | d :: l, last, all, r, h0, h => by
  unfold gq at h
  split at h
  · cases h
  · rename_i hl
    split at h
    · rename_i hb; obtain ⟨h1, h2, h3, h4⟩ := xY l _ _ _ (by omega) h; refine ⟨by simp only [ak]; omega, fun _ => h2 (by omega), fun x hx => ?_, ?_⟩
      · rcases List.mem_cons.1 hx with rfl | hx
        · omega
        · have := h3 x hx; omega
      · simp only [List.map_cons, List.pairwise_cons]; refine ⟨fun y hy => ?_, h4⟩; obtain ⟨x, hx, rfl⟩ := List.mem_map.1 hy; exact (h3 x hx).2.2
    · cases h
theorem xK (most : Int) (hm : most <= 1099511627776) : ∀ (l : List Dat) (all r : Int), 0 <= all -> jw most all l = some r -> r = all + ak 1 l /\ (all <= most -> r <= most) /\ ∀ x ∈ l, (0 <= x.i 0 /\ x.i 0 <= 7) /\ (1 <= x.i 1 /\ x.i 1 <= 1099511627776) /\ (0 <= x.i 2 /\ x.i 2 <= 5000)
 | [], all, r, h0, h => by
  simp only [jw, Option.some.injEq] at h; subst h; exact ⟨by simp [ak], fun h => h, fun x hx => by simp at hx⟩
 | d :: l, all, r, h0, h => by
  unfold jw at h
  split at h
  · rename_i hb; obtain ⟨h1, h2, h3⟩ := xK most hm l _ _ (by omega) h; refine ⟨by simp only [ak]; omega, fun _ => h2 (by omega), fun x hx => ?_⟩; rcases List.mem_cons.1 hx with rfl | hx
    · omega
    · exact h3 x hx
  · cases h
theorem dz {d : br} (h : (bC d).isSome = true) : Rv d := by
 unfold bC at h
 split at h
 · cases h
 · rename_i p hp
   split at h
   · cases h
   · rename_i n hn
     split at h
     · rename_i hc; have hs : bC d = some (p, n) := by unfold bC; simp only [hp, hn, if_pos hc]
       simp only [Bool.and_eq_true, kX, decide_eq_true_eq] at hc; obtain ⟨⟨t1, t2, t3, t4, t5, t6, t7, t8, t9, t10, t11, t12, t13⟩, s0, s1, s2⟩ := hc; unfold ee at hp
       split at hp
       · rename_i hl; obtain ⟨l1, l2, l3, l4⟩ := xY _ _ _ _ (by omega) hp; have l2 := l2 (by omega); unfold gM at hn
         split at hn
         · rename_i hnl; obtain ⟨n1, n2, n3⟩ := xK p (by omega) _ _ _ (by omega) hn; have h0 := eQ 1 d.ax fun x hx => (l3 x hx).1
           have n2 := n2 (by omega); exact ⟨t6, t7, t8, t9, t10, t11, t12, t13, t1, t2, t3, t4, t5, by rw [hs]; show p = _; omega, by omega, hl, fun x hx => ⟨(l3 x hx).1, (l3 x hx).2.1⟩, l4, fun x hx => (l3 x hx).2.2, hnl, n3, by omega, s0, s1, s2⟩
         · cases hn
       · cases hp
     · cases h
def gS (T : ab) : br := ⟨T.a, T.ax, T.notes, T.b, T.s0, T.s1, T.s2⟩
structure eJ (T : ab) : Prop where
 qK : (bC (gS T)).isSome = true
 GS : T.tr.map (fun d => (d.i 0, d.i 1, d.i 2)) = T.notes.map (fun d => (d.i 0, d.i 1, d.i 2))
 Jj : ∀ d ∈ T.tr, aO d = true /\ d.i 5 <= 1200000000000 * T.n.period
 ids : T.aI.map (fun d => d.i 0) = T.ax.map (fun d => d.i 0)
 wD : ∀ d ∈ T.aI, gu d
 bal : ak 1 T.aI + ak 2 T.aI + T.n.aT <= ak 1 T.ax
 lost : T.n.aK - T.n.aT = ak 2 T.aI
 B3 : 0 <= T.n.aT
 period : 0 <= T.n.period /\ T.n.period <= 600
 mode : 0 <= T.n.mode /\ T.n.mode <= 2
 bd : 0 <= T.n.bd /\ T.n.bd <= T.n.period
 fee : 0 <= T.n.fee /\ T.n.fee <= 1200000000000 * T.n.period
 out : 0 <= T.n.out /\ T.n.out <= T.b.advance
 res : 0 <= T.n.bk /\ T.n.bk <= T.n.rin /\ T.n.rin <= 1200000000000 * (T.n.period + 1)
 down : ak 6 T.tr <= ak 2 T.aI
section
variable (T : ab) (l : List Dat)
def cP : II := aB l T.aI
def pH : Int := cN T.a T.n.period (ak 1 T.aI) T.b.fee
def Dr : Int := aW (fun d => cN T.a T.n.period (bc d) (d.i 2)) T.tr
def cTr : List Dat := T.tr.map (dB T.a T.n.period)
def cIn : Int := (cP T l).p + (cP T l).q + (cP T l).r
def mA : Int := T.n.fee + pH T + ak 5 (cTr T) - cIn T l
def dE : Int := fR (mA T l) (T.n.rin - T.n.bk)
def jz : Int := DP (mA T l) (T.n.rin - T.n.bk) (T.b.advance - T.n.out)
def cN1 : ai := { T.n with fee := T.n.fee + pH T, bk := T.n.bk + dE T l }
def cX : bm := ⟨cIn T l + dE T l + jz T l, T.n.fee + pH T, T.n.out, min ((cP T l).p + (cP T l).r + (cP T l).l) (aW bc (cTr T)), v8 T.b.target (ak 1 (cP T l).aI) (T.n.rin - (T.n.bk + dE T l))⟩
def bS : bm × List Dat × List Dat := dI 0 (eZ (gS T) T.n.mode) (cX T l) ((cTr T).map eS)
def dm : ai × List Dat := cV (bS T l).2.2 (cN1 T l) (cTr T)
def cN2 : ai := { (dm T l).1 with out := (dm T l).1.out + jz T l, aK := (dm T l).1.aK + (cP T l).l, aT := (dm T l).1.aT + (cP T l).r }
def dH : List Dat := fG (cJ (aW unD (dm T l).2) (ak 1 (cP T l).aI) (cN2 T l).aK (cN2 T l).aT) (dm T l).2
def wk : Int × Int := cO T.n.mode T.n.bd T.b.dV (T.b.oc == 0 || bK (ak 1 (cP T l).aI) (aW bc (dH T l)) T.b.oc) (T.b.ic == 0 || bK (min (cP T l).q 1099511627776) (min (Dr T) 1099511627776) T.b.ic)
 (T.b.late == 0 || bZ (cp 2 (cP T l).aI + cp 3 (cP T l).aI) (ak 1 (cP T l).aI) T.b.late) (T.b.kh == 0 || bZ ((cN2 T l).aK - (cN2 T l).aT) (ak 1 T.ax) T.b.kh)
def cN3 : ai := { cN2 T l with mode := (wk T l).1, bd := (wk T l).2, period := T.n.period + 1 }
end
structure De where
 ra : fW
 rb : fc
 next : Int
 e : Int
 t : ab
 Aj : List Dat
 notes : List Dat
def noR (e : Int) (T : ab) : De := ⟨⟨false, 0, 0, 0, 0, 0, 0, 0, 0, 0, 0⟩, ⟨0, 0, 0, 0, 0⟩, 0, e, T, [], []⟩
def aD (T : ab) (l : List Dat) : De :=
 ⟨⟨false, T.n.period + 1, T.n.mode, (cP T l).p, (cP T l).q, (cP T l).l, (cP T l).r, dE T l, jz T l, pH T, Dr T⟩, ⟨(bS T l).1.aA, ak 1 (cP T l).aI, (cN2 T l).rin - (cN2 T l).bk, (cN2 T l).out, (cN2 T l).fee⟩, (wk T l).1, 0,
  { T with n := cN3 T l, aI := (cP T l).aI, tr := dH T l }, (bS T l).2.2, (dH T l).map om⟩
def aC (T : ab) (l : List Dat) : De := bif T.n.jl then noR 5 T else bif decide (T.n.period >= 600) then noR 4 T else bif (cP T l).e != 0 then noR (cP T l).e T else aD T l
theorem pb (f : Dat -> Dat) {l : List Dat} {i : Nat} (h : i < l.length) : af (l.map f) i = f (af l i) := by
 rw [fp (by simpa using h), fp h, List.getElem_map]
theorem A9 (a : an) (p : Int) : ∀ l : List Dat, ak 5 (l.map (dB a p)) = ak 5 l + aW (fun d => cN a p (bc d) (d.i 2)) l /\ ak 6 (l.map (dB a p)) = ak 6 l /\ aW bc (l.map (dB a p)) = aW bc l
 | [] => ⟨rfl, rfl, rfl⟩
 | d :: l => by
  obtain ⟨h1, h2, h3⟩ := A9 a p l; have e5 : (dB a p d).i 5 = d.i 5 + cN a p (bc d) (d.i 2) := rfl; have e6 : (dB a p d).i 6 = d.i 6 := rfl; have eb : bc (dB a p d) = bc d := rfl; simp only [List.map_cons, ak, aW, h1, h2, h3, e5, e6, eb]
  and_intros <;> first | trivial | omega
theorem FB (f : Dat -> Int) (b : Int) : ∀ l : List Dat, (∀ d ∈ l, 0 <= f d /\ f d <= b) -> 0 <= aW f l /\ aW f l <= b * l.length
 | [], _ => by simp [aW]
 | d :: l, h => by
  have h1 := h d (by simp); have h2 := FB f b l fun x hx => h x (by simp [hx])
  simp only [aW, List.length_cons, Int.natCast_add, Int.mul_add]; omega
theorem HJ {n b : Int} (h1 : 0 <= n) (h2 : n <= 1099511627776) (h3 : 0 <= b) (h4 : b <= 10000) : mdV n b 10000 0 = n * b / 10000 /\ 0 <= mdV n b 10000 0 /\ mdV n b 10000 0 <= n := by
 have hm := Int.mul_le_mul_of_nonneg_left h4 h1; have hz := Int.mul_nonneg h1 h3; have i := QC (n := n) (b := b) (p := 10000) (h := 0) h1 (by omega) h3 (by omega) (by omega) (by omega) (by omega) (by omega) (by omega); rw [i.2.1, Nx]; omega
theorem je {l : List Dat} (h : dh l = true) : 1 <= l.length /\ l.length <= 16 := by
 simp only [dh, Bool.and_eq_true, decide_eq_true_eq] at h; omega
theorem FF {T : ab} {i : Nat} (hi : i < (cTr T).length) : af ((cTr T).map eS) i = eS (af (cTr T) i) := pb _ hi
section
variable {T : ab} {l : List Dat} (h : eJ T) (hp : T.n.period < 600) (he : (cP T l).e = 0)
include h
theorem nh : T.tr.length = T.notes.length := by
 have := congrArg List.length h.GS; simpa using this
theorem cZ : T.tr.length <= 8 /\ 1 <= T.tr.length := by
 have := (dz h.qK).SG; rw [nh h]; exact ⟨this.2, this.1⟩
theorem BX : dG T.tr := ⟨by have := cZ h; omega, fun d hd => (h.Jj d hd).1⟩
theorem fA : T.aI.length = T.ax.length /\ T.aI.length <= 64 := by
 have := congrArg List.length h.ids; have := (dz h.qK).Gx; simp only [List.length_map, gS] at *
 omega
theorem gX : 0 <= ak 1 T.aI /\ 0 <= ak 2 T.aI /\ ak 1 T.aI + ak 2 T.aI + T.n.aT <= 1099511627776 := by
 have h1 := eX h.wD; have h2 := (dz h.qK).aI.2; have h3 := h.bal; have : ak 1 (gS T).ax = ak 1 T.ax := rfl; omega
theorem kx : (0 <= pH T /\ pH T <= 1200000000000) /\ dG (cTr T) /\ (∀ d ∈ cTr T, d.i 5 <= 1200000000000 * (T.n.period + 1)) /\ (Dr T = ak 5 (cTr T) - ak 5 T.tr /\ 0 <= Dr T /\ Dr T <= 1200000000000 * T.tr.length) /\ aW bc (cTr T) = aW bc T.tr /\ ak 6 (cTr T) = ak 6 T.tr := by
 have D := dz h.qK; obtain ⟨b1, b2, b3⟩ := gX h; have r0 := h.B3; have hs : ∀ d ∈ T.tr, 0 <= cN T.a T.n.period (bc d) (d.i 2) /\ cN T.a T.n.period (bc d) (d.i 2) <= 1200000000000 := fun d hd =>
  pC _ D.year.1 D.year.2 D.month.1 D.month.2 h.period.1 (by have := h.period.2; omega) (FG (h.Jj d hd).1).1 (FG (h.Jj d hd).1).2
 obtain ⟨a1, a2, a3⟩ := A9 T.a T.n.period T.tr; have sd := FB (fun d => cN T.a T.n.period (bc d) (d.i 2)) 1200000000000 T.tr hs; have hsh : ∀ d ∈ cTr T, aO d = true /\ d.i 5 <= 1200000000000 * (T.n.period + 1) := fun d hd => by
  obtain ⟨x, hx, rfl⟩ := List.mem_map.1 hd; obtain ⟨g, g5⟩ := h.Jj x hx; have g' := bY g; have := hs x hx; have := h.period; have e5 : (dB T.a T.n.period x).i 5 = x.i 5 + cN T.a T.n.period (bc x) (x.i 2) := rfl; refine ⟨decide_eq_true ?_, by omega⟩; rw [e5]; show (0 <= x.i 1 /\ x.i 1 <= 1099511627776 /\ 0 <= x.i 3 /\ x.i 4 = 0 /\ 0 <= x.i 6 /\ x.i 3 + x.i 6 <= x.i 1 /\ _); omega
 refine ⟨pC _ D.year.1 D.year.2 D.month.1 D.month.2 h.period.1 (by have := h.period.2; omega) b1 (by omega), ⟨by simp only [cTr, List.length_map]; have := cZ h; omega, fun d hd => (hsh d hd).1⟩, fun d hd => (hsh d hd).2, ⟨?_, sd.1, sd.2⟩, a3, a2⟩; show aW _ T.tr = ak 5 (T.tr.map (dB T.a T.n.period)) - ak 5 T.tr; omega
theorem o9 : (cTr T).length = T.tr.length := by simp [cTr]
include he
theorem kY : (∀ d ∈ (cP T l).aI, gu d) /\ (cP T l).aI.map (fun d => d.i 0) = T.aI.map (fun d => d.i 0) /\ ak 1 (cP T l).aI = ak 1 T.aI - (cP T l).p - (cP T l).l /\ ak 2 (cP T l).aI = ak 2 T.aI + (cP T l).l - (cP T l).r /\
 0 <= (cP T l).p /\ 0 <= (cP T l).l /\ 0 <= (cP T l).r /\ 0 <= (cP T l).q /\ (cP T l).q <= 70368744177664 := by
 have b := gX h; have r0 := h.B3; exact Gw h.wD (by omega) he
theorem jt : (0 <= cIn T l /\ cIn T l <= 75000000000000) /\ (-1000000000000000 <= mA T l /\ mA T l <= 10000000000000000) /\ (0 <= dE T l /\ dE T l <= T.n.rin - T.n.bk /\ dE T l <= max (mA T l) 0) /\ (0 <= jz T l /\ jz T l <= T.b.advance - T.n.out) := by
 obtain ⟨p1, p2, p3, p4, p5, p6, p7, p8, p9⟩ := kY h he; obtain ⟨a1, a2, a3, a4, a5⟩ := kx h; have n1 := eX p1; have b := gX h; have r0 := h.B3; have hi : 0 <= cIn T l /\ cIn T l <= 75000000000000 := by unfold cIn; omega
 have s5 := (gn (cTr T) a2.2).2.1; have hl := cZ h; have f := h.fee; have p := h.period; have s5' : ak 5 (cTr T) <= 1200000000000 * 601 * 8 := by
  have := mZ 5 (1200000000000 * 601) (cTr T) fun d hd => ⟨(bY (a2.2 d hd)).2.2.2.2.2.2.1, by have := a3 d hd; omega⟩
  have := o9 h; omega
 have hn : -1000000000000000 <= mA T l /\ mA T l <= 10000000000000000 := by unfold mA; omega
 have r := h.res; have o := h.out; refine ⟨hi, hn, ?_, ?_⟩
 · unfold dE fR; omega
 · unfold jz DP; omega
theorem so : ns (cX T l) = true /\ aV ((cTr T).map eS) = true /\ ((cX T l).room <= 1099511627776 /\ (cX T l).aA <= 800000000000000) := by
 obtain ⟨p1, p2, p3, p4, p5, p6, p7, p8, p9⟩ := kY h he; obtain ⟨a1, a2, a3, a4, a5⟩ := kx h; obtain ⟨c1, c2, c3, c4⟩ := jt h he; have n1 := eX p1; have b := gX h; have D := dz h.qK; have r := h.res; have o := h.out; have hpe := h.period; have f := h.fee; have r0 := h.B3; have sb := (gn (cTr T) a2.2).1; have tg : 0 <= T.b.target /\ T.b.target <= 10000 := D.target; have ad : T.b.advance <= 1099511627776 := D.advance.2; have g := HJ (n := ak 1 (cP T l).aI) (b := T.b.target) n1.1 (by omega) tg.1 tg.2; refine ⟨decide_eq_true ?_, vG (by rw [List.length_map]; exact a2.1) fun d hd => ?_, ?_, ?_⟩
 · simp only [cX, v8]; omega
 · obtain ⟨x, hx, rfl⟩ := List.mem_map.1 hd; have g := bY (a2.2 x hx); have gb := FG (a2.2 x hx); simp only [jQ, eS, Bool.and_eq_true, ek, gT]; clear p1 p2 p3 p4 p5 p6 p7 p8 p9 a1 a3 a4 a5 c1 c2 c3 c4 D r o f r0 sb tg ad b n1 hpe; exact ⟨rfl, decide_eq_true (by omega)⟩
 · simp only [cX, v8]; omega
 · simp only [cX]; omega
end
theorem Bu {m p c : Int} {o i a s : Bool} (hm : 0 <= m /\ m <= 2) (hp : 0 <= p) : (0 <= (cO m p c o i a s).1 /\ (cO m p c o i a s).1 <= 2) /\ 0 <= (cO m p c o i a s).2 /\ (cO m p c o i a s).2 <= p + 1 := by
 unfold cO
 repeat' split
 all_goals (simp only; omega)
section
variable {T : ab} {l : List Dat} (h : eJ T) (hp : T.n.period < 600) (he : (cP T l).e = 0)
include h
theorem rm : dh (eZ (gS T) T.n.mode) = true := by
 have D := dz h.qK; have m := h.mode; unfold eZ
 by_cases m0 : T.n.mode = 0
 · rw [if_pos m0]; exact D.s0
 rw [if_neg m0]
 by_cases m1 : T.n.mode = 1
 · rw [if_pos m1]; exact D.s1
 rw [if_neg m1, if_pos (by omega)]; exact D.s2
include he
theorem jd : Kept (cX T l) ((cTr T).map eS) (bS T l).2.2 (bS T l).1 (bS T l).2.1 /\ (∀ d ∈ (bS T l).2.2, D2 T.tr.length 0 (eZ (gS T) T.n.mode) d) /\ ns (bS T l).1 = true /\ aV (bS T l).2.1 = true /\ (bS T l).2.2.length <= 128000 := by
 obtain ⟨x1, x2, x3, x4⟩ := so h he; have k := xt (eZ (gS T) T.n.mode) 0 (cX T l) _ x1 x2; have o := ET (eZ (gS T) T.n.mode) 0 (cX T l) _ x1 x2; have sl := je (rm h); have e : ((cTr T).map eS).length = T.tr.length := by rw [List.length_map, o9 h]
 rw [e] at k; exact ⟨k.1, k.2.1, o.1, o.2.1, by have := o.2.2.2; unfold bS; omega⟩
theorem kS : (∀ d ∈ (bS T l).2.2, 1 <= d.i 3 /\ ((d.i 1 = 1 \/ d.i 1 = 2 \/ d.i 1 = 6) \/ (0 <= d.i 2 /\ d.i 2 < (T.tr.length : Int)))) /\ ak 3 (bS T l).2.2 <= 800000000000000 /\
 (0 <= bn kF (bS T l).2.2 /\ bn kF (bS T l).2.2 <= T.n.fee + pH T) /\ (0 <= bn kR (bS T l).2.2 /\ bn kR (bS T l).2.2 <= T.n.out) /\ (0 <= bn kT (bS T l).2.2 /\ bn kT (bS T l).2.2 <= (cX T l).room) /\
 ∀ i, i < T.tr.length -> (0 <= bn (toB i) (bS T l).2.2 /\ bn (toB i) (bS T l).2.2 <= bc (af (cTr T) i)) /\ (0 <= bn (toI i) (bS T l).2.2 /\ bn (toI i) (bS T l).2.2 <= (af (cTr T) i).i 5) := by
 obtain ⟨k, p, g, c, _⟩ := jd h he; obtain ⟨x1, x2, x3, x4⟩ := so h he; have g := px g; have hpp : ∀ d ∈ (bS T l).2.2, 1 <= d.i 3 /\ ((d.i 1 = 1 \/ d.i 1 = 2 \/ d.i 1 = 6) \/ (0 <= d.i 2 /\ d.i 2 < (T.tr.length : Int))) := fun d hd => by
  obtain ⟨_, _, h1, h2, h3, h4⟩ := p d hd; refine ⟨h2, ?_⟩; rw [<- h1] at h4
  by_cases hn : d.i 2 < 0
  · exact .inl (h4.1 hn)
  · exact .inr (by omega)
 have n0 := fun f => il f (bS T l).2.2 fun d hd => by have := (hpp d hd).1; omega
 have kf := k.fee; have kr := k.bM; have kt := k.room; have kc := k.aA; have e1 : (cX T l).fee = T.n.fee + pH T := rfl; have e2 : (cX T l).bM = T.n.out := rfl; refine ⟨hpp, by omega, ⟨n0 _, by omega⟩, ⟨n0 _, by omega⟩, ⟨n0 _, by omega⟩, fun i hi => ?_⟩; have hl := o9 h; have hr := k.row i (by rw [List.length_map]; omega); rw [FF (by omega)] at hr; have hc := cv ((bP c).2 _ (oL (l := (bS T l).2.1) (j := i) (by rw [k.len, List.length_map]; omega))); rw [hr] at hc; have b1 : (eS (af (cTr T) i)).i 1 = bc (af (cTr T) i) := rfl; have b2 : (eS (af (cTr T) i)).i 2 = (af (cTr T) i).i 5 := rfl; simp only [ek, gT, b1, b2] at hc; exact ⟨⟨n0 _, by omega⟩, ⟨n0 _, by omega⟩⟩
theorem jm : (dm T l).1 = { T.n with fee := T.n.fee + pH T - bn kF (bS T l).2.2, out := T.n.out - bn kR (bS T l).2.2, rin := T.n.rin + bn kT (bS T l).2.2, bk := T.n.bk + dE T l } /\ (dm T l).2.length = T.tr.length /\ dG (dm T l).2 /\
 (∀ i, i < T.tr.length -> sr (af (cTr T) i) (af (dm T l).2 i) (bn (toB i) (bS T l).2.2) (bn (toI i) (bS T l).2.2)) /\ xO (bS T l).2.2 (cN1 T l) (cTr T) = true := by
 obtain ⟨s1, s2, s3, s4, s5, s6⟩ := kS h he; obtain ⟨k, p, g, c, pl⟩ := jd h he; obtain ⟨a1, a2, a3, a4, a5⟩ := kx h; obtain ⟨c1, c2, c3, c4⟩ := jt h he; have hl := o9 h; obtain ⟨d1, d2, d3⟩ := wN (bS T l).2.2 (cN1 T l) (cTr T) (fun d hd => by have := (s1 d hd).1; omega) (fun d hd => by rw [hl]; exact (s1 d hd).2) (fun i hi => by have := s6 i (by omega); omega); have f := h.fee; have o := h.out; have r := h.res; have hpe := h.period; have ad : T.b.advance <= 1099511627776 := (dz h.qK).advance.2; have hg : dG (dm T l).2 := by
  have hdl : (dm T l).2.length = (cTr T).length := d2; refine ⟨by have := a2.1; omega, fun d hd => ?_⟩; obtain ⟨i, hi, rfl⟩ := l7 hd; obtain ⟨_, e1, _, e3, e4, e5, e6⟩ := d3 i (by omega); have := s6 i (by omega); have gi := bY (bW (c := cTr T) (i := i) (by omega) a2.2); have e1' : (af (dm T l).2 i).i 1 = (af (cTr T) i).i 1 := e1; have e3' : (af (dm T l).2 i).i 3 = (af (cTr T) i).i 3 + bn (toB i) (bS T l).2.2 := e3; have e4' : (af (dm T l).2 i).i 4 = (af (cTr T) i).i 4 := e4; have e5' : (af (dm T l).2 i).i 5 = (af (cTr T) i).i 5 - bn (toI i) (bS T l).2.2 := e5; have e6' : (af (dm T l).2 i).i 6 = (af (cTr T) i).i 6 := e6; refine decide_eq_true ?_
  rw [e1', e3', e4', e5', e6']; unfold bc at this; omega
 refine ⟨d1, d2.trans hl, hg, fun i hi => d3 i (by omega), ?_⟩; simp only [xO, Bool.and_eq_true, decide_eq_true_eq, List.all_eq_true]; refine ⟨by omega, fun d hd => ?_, ⟨by omega, ?_⟩, a2⟩
 · have := s1 d hd; simp only [Gl, Bool.and_eq_true, Bool.or_eq_true, decide_eq_true_eq, hl]; exact ⟨by omega, this.2⟩
 · simp only [cN1]; omega
theorem kA : cN2 T l = { T.n with fee := T.n.fee + pH T - bn kF (bS T l).2.2, out := T.n.out - bn kR (bS T l).2.2 + jz T l, rin := T.n.rin + bn kT (bS T l).2.2, bk := T.n.bk + dE T l, aK := T.n.aK + (cP T l).l, aT := T.n.aT + (cP T l).r } := by
 unfold cN2; rw [(jm h he).1]
theorem nf : 0 <= cJ (aW unD (dm T l).2) (ak 1 (cP T l).aI) (cN2 T l).aK (cN2 T l).aT /\ cJ (aW unD (dm T l).2) (ak 1 (cP T l).aI) (cN2 T l).aK (cN2 T l).aT <= aW unD (dm T l).2 /\
 cJ (aW unD (dm T l).2) (ak 1 (cP T l).aI) (cN2 T l).aK (cN2 T l).aT <= ak 2 (cP T l).aI /\ (cN2 T l).aK - (cN2 T l).aT = ak 2 (cP T l).aI := by
 obtain ⟨p1, p2, p3, p4, p5, p6, p7, p8, p9⟩ := kY h he; have g := (jm h he).2.2.1; have u := (gn _ g.2).2.2.2.1; have t := vY (aW unD (dm T l).2) (ak 1 (cP T l).aI) (cN2 T l).aK (cN2 T l).aT; have n1 := eX p1; have hl := h.lost; have e : (cN2 T l).aK - (cN2 T l).aT = ak 2 (cP T l).aI := by rw [kA h he]; simp only; omega
 omega
theorem kb : dG (dH T l) /\ eA (dm T l).2 (dH T l) /\ ak 6 (dH T l) = cJ (aW unD (dm T l).2) (ak 1 (cP T l).aI) (cN2 T l).aK (cN2 T l).aT := by
 have t := nf h he; exact Gh (jm h he).2.2.1 t.1 t.2.1
theorem wX : (dH T l).length = T.tr.length /\ ∀ i, i < T.tr.length -> (af (dH T l) i).i 0 = (af T.tr i).i 0 /\ (af (dH T l) i).i 1 = (af T.tr i).i 1 /\ (af (dH T l) i).i 2 = (af T.tr i).i 2 /\ (af (dH T l) i).i 3 = (af T.tr i).i 3 + bn (toB i) (bS T l).2.2 /\ (af (dH T l) i).i 4 = (af T.tr i).i 4 /\
 (af (dH T l) i).i 5 = (af T.tr i).i 5 + cN T.a T.n.period (bc (af T.tr i)) ((af T.tr i).i 2) - bn (toI i) (bS T l).2.2 /\ af (cTr T) i = dB T.a T.n.period (af T.tr i) := by
 obtain ⟨d1, d2, d3, d4, d5⟩ := jm h he; obtain ⟨g, s, _⟩ := kb h he; refine ⟨s.len.trans d2, fun i hi => ?_⟩; obtain ⟨r0, r1, r2, r3, r4, r5⟩ := s.row i (by omega); obtain ⟨e0, e1, e2, e3, e4, e5, e6⟩ := d4 i hi; have hr : af (cTr T) i = dB T.a T.n.period (af T.tr i) := pb _ hi; rw [hr] at e0 e1 e2 e3 e4 e5; have q5 : (dB T.a T.n.period (af T.tr i)).i 5 = (af T.tr i).i 5 + cN T.a T.n.period (bc (af T.tr i)) ((af T.tr i).i 2) := rfl; rw [q5] at e5; exact ⟨r0.trans e0, r1.trans e1, r2.trans e2, r3.trans e3, r4.trans e4, r5.trans e5, hr⟩
include hp
theorem C4 : eJ (aD T l).t := by
 obtain ⟨p1, p2, p3, p4, p5, p6, p7, p8, p9⟩ := kY h he; obtain ⟨a1, a2, a3, a4, a5⟩ := kx h; obtain ⟨c1, c2, c3, c4⟩ := jt h he; obtain ⟨s1, s2, s3, s4, s5, s6⟩ := kS h he; obtain ⟨x1, x2, x3, x4⟩ := so h he; obtain ⟨t1, t2, t3⟩ := kb h he; obtain ⟨g1, g2, g3, g4⟩ := nf h he; obtain ⟨r1, r2⟩ := wX h he; have e := kA h he; have n := Bu (c := T.b.dV) (o := (T.b.oc == 0 || bK (ak 1 (cP T l).aI) (aW bc (dH T l)) T.b.oc)) (i := (T.b.ic == 0 || bK (min (cP T l).q 1099511627776) (min (Dr T) 1099511627776) T.b.ic))
  (a := (T.b.late == 0 || bZ (cp 2 (cP T l).aI + cp 3 (cP T l).aI) (ak 1 (cP T l).aI) T.b.late)) (s := (T.b.kh == 0 || bZ ((cN2 T l).aK - (cN2 T l).aT) (ak 1 T.ax) T.b.kh)) h.mode h.bd.1
 have bl := h.bal; have r0 := h.B3; have pe := h.period; have pa := h.bd; have fe := h.fee; have ou := h.out; have re := h.res; refine ⟨h.qK, ?_, fun d hd => ?_, p2.trans h.ids, p1, ?_, g4, ?_, ?_, n.1, ?_, ?_, ?_, ?_, ?_⟩
 · refine Eq.trans ?_ h.GS; refine List.ext_getElem (by simp [aD, r1]) fun i h1 h2 => ?_
   simp only [List.length_map] at h1 h2; have hi : i < T.tr.length := h2; have := r2 i hi; rw [fp (show i < (dH T l).length by omega), fp hi] at this; simp only [List.getElem_map]; exact Prod.ext this.1 (Prod.ext this.2.1 this.2.2.1)
 · refine ⟨t1.2 d hd, ?_⟩; obtain ⟨i, hi, rfl⟩ := l7 (show d ∈ dH T l from hd); have hi : i < T.tr.length := by omega
   have := (r2 i hi).2.2.2.2.2.1; have q := a3 _ (oL (l := cTr T) (j := i) (by rw [o9 h]; exact hi)); rw [(r2 i hi).2.2.2.2.2.2] at q; have q5 : (dB T.a T.n.period (af T.tr i)).i 5 = (af T.tr i).i 5 + cN T.a T.n.period (bc (af T.tr i)) ((af T.tr i).i 2) := rfl; rw [q5] at q; have := (s6 i hi).2.1; show (af (dH T l) i).i 5 <= 1200000000000 * (T.n.period + 1)
   omega
 · show ak 1 (cP T l).aI + ak 2 (cP T l).aI + (cN2 T l).aT <= ak 1 T.ax; rw [e]; simp only; omega
 · show 0 <= (cN2 T l).aT; rw [e]; simp only; omega
 · show 0 <= T.n.period + 1 /\ T.n.period + 1 <= 600; omega
 · show 0 <= (wk T l).2 /\ (wk T l).2 <= T.n.period + 1; exact ⟨n.2.1, by have := n.2.2; unfold wk; omega⟩
 · show 0 <= (cN2 T l).fee /\ (cN2 T l).fee <= 1200000000000 * (T.n.period + 1)
   rw [e]; simp only; omega
 · show 0 <= (cN2 T l).out /\ (cN2 T l).out <= T.b.advance; rw [e]; simp only; omega
 · show 0 <= (cN2 T l).bk /\ (cN2 T l).bk <= (cN2 T l).rin /\ (cN2 T l).rin <= 1200000000000 * (T.n.period + 1 + 1)
   rw [e]; simp only; omega
 · show ak 6 (dH T l) <= ak 2 (cP T l).aI; omega
end
end
end Go.Proofs.YtdbkoeefnodejaaGreat
namespace Go.Proofs.YtdbkoeefnodejaaGreat
noncomputable section
open Go Go.Proofs.YtdbkoeefnodejaaGreat.Ev
set_option maxRecDepth 20000
def jT (T : ab) : Bool := @decide (eJ T) (Classical.propDecidable _)
theorem fF {T : ab} : jT T = true ↔ eJ T := by unfold jT; simp
theorem zo {l : List Dat} (h : ∀ d ∈ l, gu d) (hl : l.length <= 1000) : (decide (l.length <= 1000) && l.all cU) = true := by
 rw [Bool.and_eq_true, List.all_eq_true]; exact ⟨decide_eq_true hl, fun d hd => decide_eq_true (by have := h d hd; unfold gu at this; omega)⟩
theorem uZ {T : ab} (h : eJ T) : T.ax.length < 1000000 /\ T.notes.length < 1000000 /\ T.s0.length < 1000000 /\ T.s1.length < 1000000 /\ T.s2.length < 1000000 /\ T.aI.length < 1000000 /\ T.tr.length < 1000000 := by
 have D := dz h.qK; have h0 := je D.s0; have h1 := je D.s1; have h2 := je D.s2; have h3 := fA h; have h4 := cZ h; have h5 := nh h; have : (gS T).ax = T.ax := rfl; have := D.Gx; simp only [gS] at *
 omega
theorem Bd {T : ab} (h : eJ T) : (eZ (gS T) T.n.mode).length <= 16 := (je (rm h)).2
def N13 : aF := ⟨T47.tab, 13, ⟨[.np 0 0 0, .ae (sB 6)], bw 0, 0⟩, ⟨[.agg [.bool, .int .i64, .int .i64, .int .i64, .int .i64, .int .i64, .int .i64, .int .i64, .int .i64, .int .i64, .int .i64, .buf 17 4, .int .i64, .int .i64, .int .i64, .int .i64, .int .i64, .buf 18 3, .int .i64], .int .i64], [.cells [.int .i64, .int .i64, .int .i64, .buf 9 2, .buf 10 3, .int .i64, .int .i64, .int .i64, .int .i64, .int .i64, .int .i64, .int .i64, .int .i64, .int .i64, .int .i64, .buf 11 2, .buf 12 2, .buf 13 2, .ptr 14 0 0, .buf 16 7, .int .i64, .int .i64, .int .i64, .int .i64, .int .i64, .int .i64, .int .i64, .int .i64, .int .i64, .bool], .gone, .gone, .gone, .gone, .gone, .gone, .gone, .gone, .ae (sI 2), .ae (sI 3), .ae (sI 2), .ae (sI 2), .ae (sI 2), .cells [.buf 15 5], .ae (sB 4), .ae (sI 7), .ae (sI 4), .ae (sI 3)], 0⟩, []⟩
def t13 (m : Nat) : Int × List Dat × an × aq × ai × List Dat × List Dat × List Dat × List Dat × List Dat × List Dat × List Dat -> Option (List Un) := fun (a0, a1, a2, a3, a4, a5, a6, a7, a8, a9, a10, a11) =>
 chk (decide (0 <= a0)) <|
 bif a4.jl then
 some (Uns.enc ((⟨false, 0, 0, 0, 0, 0, 0, 0, 0, 0, 0⟩ : fW) : fW) ++ Uns.enc ((⟨0, 0, 0, 0, 0⟩ : fc) : fc) ++ [.i 0, .i 5] ++ Uns.enc (a2 : an) ++ Uns.enc (a3 : aq) ++ Uns.enc (a4 : ai) ++ [.d a5, .d a6, .d a7, .d a8, .d a9, .d a10, .d a11, .d ([]), .d ([])])
 else
 chk (decide (0 <= a0)) <|
 bif (decide (a4.period >= 600)) then
 some (Uns.enc ((⟨false, 0, 0, 0, 0, 0, 0, 0, 0, 0, 0⟩ : fW) : fW) ++ Uns.enc ((⟨0, 0, 0, 0, 0⟩ : fc) : fc) ++ [.i 0, .i 4] ++ Uns.enc (a2 : an) ++ Uns.enc (a3 : aq) ++ Uns.enc (a4 : ai) ++ [.d a5, .d a6, .d a7, .d a8, .d a9, .d a10, .d a11, .d ([]), .d ([])])
 else
 chk (decide (0 <= a0) && decide (a5.length < 1000000 /\ a6.length < 1000000 /\ a7.length < 1000000 /\ a8.length < 1000000 /\ a9.length < 1000000 /\ a10.length < 1000000 /\ a11.length < 1000000)) <|
 chk (decide (0 < ([.r [.r a10]] : List Dat).length) && (decide (((af ([.r [.r a10]] : List Dat) 0).d 0).length <= 1000) && ((af ([.r [.r a10]] : List Dat) 0).d 0).all cU)) <|
 lt ((ak 1 ((af ([.r [.r a10]] : List Dat) 0).d 0)) : Int) fun x2 =>
 chk (decide (a10.length < 1000000)) <|
 bif (((aB a1 a10).e) != 0) then
 some (Uns.enc ((⟨false, 0, 0, 0, 0, 0, 0, 0, 0, 0, 0⟩ : fW) : fW) ++ Uns.enc ((⟨0, 0, 0, 0, 0⟩ : fc) : fc) ++ [.i 0, .i ((aB a1 a10).e)] ++ Uns.enc (a2 : an) ++ Uns.enc (a3 : aq) ++ Uns.enc (a4 : ai) ++ [.d a5, .d a6, .d a7, .d a8, .d a9, .d a10, .d a11, .d ([]), .d ([])])
 else
 chk (decide ((1 <= a2.year /\ a2.year <= 9000 /\ 1 <= a2.month /\ a2.month <= 12) /\ (0 <= a4.period /\ a4.period <= 600) /\ (0 <= a4.fee /\ a4.fee <= 1125899906842624) /\ (0 <= x2 /\ x2 <= 1099511627776)) && (decide (a11.length <= 1000) && a11.all aO)) <|
 lt ((aW (fun d => cN a2 a4.period (bc d) (d.i 2)) a11) : Int) fun x4 =>
 lt (({ a4 with fee := a4.fee + cN a2 a4.period x2 a3.fee }) : ai) fun g5 =>
 chk (decide (0 <= 0) && (decide ((a11.map (dB a2 a4.period)).length <= 1000) && (a11.map (dB a2 a4.period)).all aO)) <|
 lt ((w64 (g5.fee + (ak 5 (a11.map (dB a2 a4.period))))) : Int) fun x6 =>
 lt ((w64 ((w64 ((w64 ((w64 (((aB a1 a10).p) + ((aB a1 a10).q))) + ((aB a1 a10).r))) + 0)) + 0)) : Int) fun x9 =>
 chk (decide (0 <= 0) && decide ((-1152921504606846976 <= (w64 (x6 - x9)) /\ (w64 (x6 - x9)) <= 1152921504606846976) /\ ((0 : Int) <= g5.bk /\ g5.bk <= g5.rin /\ g5.rin <= (1152921504606846976 : Int)) /\ (0 <= g5.out /\ g5.out <= 1152921504606846976) /\ (0 <= a3.advance /\ a3.advance <= 1152921504606846976))) <|
 lt ((fR (w64 (x6 - x9)) (g5.rin - g5.bk)) : Int) fun x10 =>
 lt ((DP (w64 (x6 - x9)) (g5.rin - g5.bk) (a3.advance - g5.out)) : Int) fun x11 =>
 lt (({ g5 with bk := g5.bk + fR (w64 (x6 - x9)) (g5.rin - g5.bk) }) : ai) fun g12 =>
 lt ((w64 ((w64 ((w64 ((w64 (((aB a1 a10).p) + ((aB a1 a10).q))) + ((aB a1 a10).r))) + x10)) + x11)) : Int) fun x15 =>
 chk (decide (((0 <= ((aB a1 a10).p) /\ ((aB a1 a10).p) <= 1125899906842624) /\ (0 <= ((aB a1 a10).l) /\ ((aB a1 a10).l) <= 1125899906842624) /\ (0 <= ((aB a1 a10).r) /\ ((aB a1 a10).r) <= 1125899906842624)) /\ (0 <= g12.bk /\ g12.bk <= g12.rin /\ g12.rin <= 1152921504606846976)) && ((decide (((aB a1 a10).aI).length <= 1000) && ((aB a1 a10).aI).all cU) && (decide ((a11.map (dB a2 a4.period)).length <= 1000) && (a11.map (dB a2 a4.period)).all aO))) <|
 lt ((min (((aB a1 a10).p) + ((aB a1 a10).r) + ((aB a1 a10).l)) (aW bc (a11.map (dB a2 a4.period)))) : Int) fun x16 =>
 lt ((v8 a3.target (ak 1 ((aB a1 a10).aI)) (g12.rin - g12.bk)) : Int) fun x17 =>
 chk (decide ((⟨a2, a5, a6, a3, a7, a8, a9⟩ : br).s0.length < 1000000 /\ (⟨a2, a5, a6, a3, a7, a8, a9⟩ : br).s1.length < 1000000 /\ (⟨a2, a5, a6, a3, a7, a8, a9⟩ : br).s2.length < 1000000)) <|
 lt ((eZ (⟨a2, a5, a6, a3, a7, a8, a9⟩ : br) g12.mode) : List Dat) fun l18 =>
 chk (decide (l18.length <= 1000000) && (ns ⟨x15, g12.fee, g12.out, x16, x17⟩ && aV ((a11.map (dB a2 a4.period)).map eS))) <|
 lt (((dI 0 l18 ⟨x15, g12.fee, g12.out, x16, x17⟩ ((a11.map (dB a2 a4.period)).map eS)).2.2) : List Dat) fun l24 =>
 chk (decide (0 <= 0) && xO l24 g12 (a11.map (dB a2 a4.period))) <|
 lt (((cV l24 g12 (a11.map (dB a2 a4.period))).1).out : Int) fun x26 =>
 chk (decide (((0 <= ((aB a1 a10).p) /\ ((aB a1 a10).p) <= 1125899906842624) /\ (0 <= ((aB a1 a10).l) /\ ((aB a1 a10).l) <= 1125899906842624) /\ (0 <= ((aB a1 a10).r) /\ ((aB a1 a10).r) <= 1125899906842624)) /\ (0 <= ({ ((cV l24 g12 (a11.map (dB a2 a4.period))).1) with out := (w64 (x26 + x11)) } : ai).aK /\ ({ ((cV l24 g12 (a11.map (dB a2 a4.period))).1) with out := (w64 (x26 + x11)) } : ai).aK <= 1125899906842624) /\ (0 <= ({ ((cV l24 g12 (a11.map (dB a2 a4.period))).1) with out := (w64 (x26 + x11)) } : ai).aT /\ ({ ((cV l24 g12 (a11.map (dB a2 a4.period))).1) with out := (w64 (x26 + x11)) } : ai).aT <= 1125899906842624)) && ((decide (((aB a1 a10).aI).length <= 1000) && ((aB a1 a10).aI).all cU) && (decide (((cV l24 g12 (a11.map (dB a2 a4.period))).2).length <= 1000) && ((cV l24 g12 (a11.map (dB a2 a4.period))).2).all aO))) <|
 lt (({ ({ ((cV l24 g12 (a11.map (dB a2 a4.period))).1) with out := (w64 (x26 + x11)) } : ai) with aK := ({ ((cV l24 g12 (a11.map (dB a2 a4.period))).1) with out := (w64 (x26 + x11)) } : ai).aK + ((aB a1 a10).l), aT := ({ ((cV l24 g12 (a11.map (dB a2 a4.period))).1) with out := (w64 (x26 + x11)) } : ai).aT + ((aB a1 a10).r) }) : ai) fun g27 =>
 lt ((fG (cJ (aW unD ((cV l24 g12 (a11.map (dB a2 a4.period))).2)) (ak 1 ((aB a1 a10).aI)) (({ ((cV l24 g12 (a11.map (dB a2 a4.period))).1) with out := (w64 (x26 + x11)) } : ai).aK + ((aB a1 a10).l)) (({ ((cV l24 g12 (a11.map (dB a2 a4.period))).1) with out := (w64 (x26 + x11)) } : ai).aT + ((aB a1 a10).r))) ((cV l24 g12 (a11.map (dB a2 a4.period))).2)) : List Dat) fun l28 =>
 chk (decide (0 <= 0) && ((decide (((aB a1 a10).aI).length <= 1000) && ((aB a1 a10).aI).all cU) && (decide (l28.length <= 1000) && l28.all aO))) <|
 lt ((a3.oc == 0 || bK (ak 1 ((aB a1 a10).aI)) (aW bc l28) a3.oc) : Bool) fun x32 =>
 lt ((a3.ic == 0 || bK (min ((aB a1 a10).q) 1099511627776) (min x4 1099511627776) a3.ic) : Bool) fun x33 =>
 lt ((a3.late == 0 || bZ (cp 2 ((aB a1 a10).aI) + cp 3 ((aB a1 a10).aI)) (ak 1 ((aB a1 a10).aI)) a3.late) : Bool) fun x34 =>
 lt ((a3.kh == 0 || bZ (w64 (g27.aK - g27.aT)) (((bC (⟨a2, a5, a6, a3, a7, a8, a9⟩ : br)).getD (0, 0)).1) a3.kh) : Bool) fun x35 =>
 chk (decide (0 <= g27.bd /\ g27.bd <= 1000000)) <|
 chk (decide (0 <= a0)) <|
 chk (decide (0 <= a0) && (decide (0 <= ({ g27 with mode := (cO g27.mode g27.bd a3.dV x32 x33 x34 x35).1, bd := (cO g27.mode g27.bd a3.dV x32 x33 x34 x35).2, period := (w64 (g27.period + 1)) } : ai).bk /\ ({ g27 with mode := (cO g27.mode g27.bd a3.dV x32 x33 x34 x35).1, bd := (cO g27.mode g27.bd a3.dV x32 x33 x34 x35).2, period := (w64 (g27.period + 1)) } : ai).bk <= ({ g27 with mode := (cO g27.mode g27.bd a3.dV x32 x33 x34 x35).1, bd := (cO g27.mode g27.bd a3.dV x32 x33 x34 x35).2, period := (w64 (g27.period + 1)) } : ai).rin /\ ({ g27 with mode := (cO g27.mode g27.bd a3.dV x32 x33 x34 x35).1, bd := (cO g27.mode g27.bd a3.dV x32 x33 x34 x35).2, period := (w64 (g27.period + 1)) } : ai).rin <= 1152921504606846976) && ((decide (((aB a1 a10).aI).length <= 1000) && ((aB a1 a10).aI).all cU) && (decide (l28.length <= 1000) && l28.all aO)))) <|
 some (Uns.enc ((⟨false, (w64 (a4.period + 1)), a4.mode, (aB a1 a10).p, (aB a1 a10).q, (aB a1 a10).l, (aB a1 a10).r, x10, x11, (cN a2 a4.period x2 a3.fee), x4⟩ : fW) : fW) ++ Uns.enc ((⟨(⟨((dI 0 l18 ⟨x15, g12.fee, g12.out, x16, x17⟩ ((a11.map (dB a2 a4.period)).map eS)).1.aA), 0, 0, 0, 0⟩ : fc).dL, ak 1 ((aB a1 a10).aI), ({ g27 with mode := (cO g27.mode g27.bd a3.dV x32 x33 x34 x35).1, bd := (cO g27.mode g27.bd a3.dV x32 x33 x34 x35).2, period := (w64 (g27.period + 1)) } : ai).rin - ({ g27 with mode := (cO g27.mode g27.bd a3.dV x32 x33 x34 x35).1, bd := (cO g27.mode g27.bd a3.dV x32 x33 x34 x35).2, period := (w64 (g27.period + 1)) } : ai).bk, ({ g27 with mode := (cO g27.mode g27.bd a3.dV x32 x33 x34 x35).1, bd := (cO g27.mode g27.bd a3.dV x32 x33 x34 x35).2, period := (w64 (g27.period + 1)) } : ai).out, ({ g27 with mode := (cO g27.mode g27.bd a3.dV x32 x33 x34 x35).1, bd := (cO g27.mode g27.bd a3.dV x32 x33 x34 x35).2, period := (w64 (g27.period + 1)) } : ai).fee⟩ : fc) : fc) ++ [.i (({ g27 with mode := (cO g27.mode g27.bd a3.dV x32 x33 x34 x35).1, bd := (cO g27.mode g27.bd a3.dV x32 x33 x34 x35).2, period := (w64 (g27.period + 1)) } : ai).mode), .i 0] ++ Uns.enc (a2 : an) ++ Uns.enc (a3 : aq) ++ Uns.enc (({ g27 with mode := (cO g27.mode g27.bd a3.dV x32 x33 x34 x35).1, bd := (cO g27.mode g27.bd a3.dV x32 x33 x34 x35).2, period := (w64 (g27.period + 1)) } : ai) : ai) ++ [.d a5, .d a6, .d a7, .d a8, .d a9, .d ((aB a1 a10).aI), .d l28, .d l24, .d (l28.map om)])
def f13 : Int × List Dat × an × aq × ai × List Dat × List Dat × List Dat × List Dat × List Dat × List Dat × List Dat -> Bool × List Un := fun (a0, a1, a2, a3, a4, a5, a6, a7, a8, a9, a10, a11) => (decide (0 <= a0) && jT (⟨a2, a3, a4, a5, a6, a7, a8, a9, a10, a11⟩ : ab), Uns.enc (((aC (⟨a2, a3, a4, a5, a6, a7, a8, a9, a10, a11⟩ : ab) a1).ra) : fW) ++ Uns.enc (((aC (⟨a2, a3, a4, a5, a6, a7, a8, a9, a10, a11⟩ : ab) a1).rb) : fc) ++ [.i ((aC (⟨a2, a3, a4, a5, a6, a7, a8, a9, a10, a11⟩ : ab) a1).next), .i ((aC (⟨a2, a3, a4, a5, a6, a7, a8, a9, a10, a11⟩ : ab) a1).e)] ++ Uns.enc (((aC (⟨a2, a3, a4, a5, a6, a7, a8, a9, a10, a11⟩ : ab) a1).t.a) : an) ++ Uns.enc (((aC (⟨a2, a3, a4, a5, a6, a7, a8, a9, a10, a11⟩ : ab) a1).t.b) : aq) ++ Uns.enc (((aC (⟨a2, a3, a4, a5, a6, a7, a8, a9, a10, a11⟩ : ab) a1).t.n) : ai) ++ [.d ((aC (⟨a2, a3, a4, a5, a6, a7, a8, a9, a10, a11⟩ : ab) a1).t.ax), .d ((aC (⟨a2, a3, a4, a5, a6, a7, a8, a9, a10, a11⟩ : ab) a1).t.notes), .d ((aC (⟨a2, a3, a4, a5, a6, a7, a8, a9, a10, a11⟩ : ab) a1).t.s0), .d ((aC (⟨a2, a3, a4, a5, a6, a7, a8, a9, a10, a11⟩ : ab) a1).t.s1), .d ((aC (⟨a2, a3, a4, a5, a6, a7, a8, a9, a10, a11⟩ : ab) a1).t.s2), .d ((aC (⟨a2, a3, a4, a5, a6, a7, a8, a9, a10, a11⟩ : ab) a1).t.aI), .d ((aC (⟨a2, a3, a4, a5, a6, a7, a8, a9, a10, a11⟩ : ab) a1).t.tr), .d ((aC (⟨a2, a3, a4, a5, a6, a7, a8, a9, a10, a11⟩ : ab) a1).Aj), .d ((aC (⟨a2, a3, a4, a5, a6, a7, a8, a9, a10, a11⟩ : ab) a1).notes)])
set_option maxHeartbeats 4000000 in
theorem Pd (a0 : Int) (a1 : List Dat) (a2 : an) (a3 : aq) (a4 : ai) (a5 : List Dat) (a6 : List Dat) (a7 : List Dat) (a8 : List Dat) (a9 : List Dat) (a10 : List Dat) (a11 : List Dat) (hc : (decide (0 <= a0) && jT (⟨a2, a3, a4, a5, a6, a7, a8, a9, a10, a11⟩ : ab)) = true) : ∃ m, t13 m (a0, a1, a2, a3, a4, a5, a6, a7, a8, a9, a10, a11) = some (Uns.enc (((aC (⟨a2, a3, a4, a5, a6, a7, a8, a9, a10, a11⟩ : ab) a1).ra) : fW) ++ Uns.enc (((aC (⟨a2, a3, a4, a5, a6, a7, a8, a9, a10, a11⟩ : ab) a1).rb) : fc) ++ [.i ((aC (⟨a2, a3, a4, a5, a6, a7, a8, a9, a10, a11⟩ : ab) a1).next), .i ((aC (⟨a2, a3, a4, a5, a6, a7, a8, a9, a10, a11⟩ : ab) a1).e)] ++ Uns.enc (((aC (⟨a2, a3, a4, a5, a6, a7, a8, a9, a10, a11⟩ : ab) a1).t.a) : an) ++ Uns.enc (((aC (⟨a2, a3, a4, a5, a6, a7, a8, a9, a10, a11⟩ : ab) a1).t.b) : aq) ++ Uns.enc (((aC (⟨a2, a3, a4, a5, a6, a7, a8, a9, a10, a11⟩ : ab) a1).t.n) : ai) ++ [.d ((aC (⟨a2, a3, a4, a5, a6, a7, a8, a9, a10, a11⟩ : ab) a1).t.ax), .d ((aC (⟨a2, a3, a4, a5, a6, a7, a8, a9, a10, a11⟩ : ab) a1).t.notes), .d ((aC (⟨a2, a3, a4, a5, a6, a7, a8, a9, a10, a11⟩ : ab) a1).t.s0), .d ((aC (⟨a2, a3, a4, a5, a6, a7, a8, a9, a10, a11⟩ : ab) a1).t.s1), .d ((aC (⟨a2, a3, a4, a5, a6, a7, a8, a9, a10, a11⟩ : ab) a1).t.s2), .d ((aC (⟨a2, a3, a4, a5, a6, a7, a8, a9, a10, a11⟩ : ab) a1).t.aI), .d ((aC (⟨a2, a3, a4, a5, a6, a7, a8, a9, a10, a11⟩ : ab) a1).t.tr), .d ((aC (⟨a2, a3, a4, a5, a6, a7, a8, a9, a10, a11⟩ : ab) a1).Aj), .d ((aC (⟨a2, a3, a4, a5, a6, a7, a8, a9, a10, a11⟩ : ab) a1).notes)]) := by
 have h0 := of_decide_eq_true (Bool.and_eq_true_iff.1 hc).1; have h := fF.1 (Bool.and_eq_true_iff.1 hc).2; clear hc; have hl := uZ h; have hpl := fA h; have hts := cZ h; have hpe : 0 <= a4.period /\ a4.period <= 600 := h.period; have hpa : 0 <= a4.bd /\ a4.bd <= a4.period := h.bd; refine ⟨0, ?_⟩; unfold t13; cases ho : a4.jl with
 | true =>
  have hC : aC (⟨a2, a3, a4, a5, a6, a7, a8, a9, a10, a11⟩ : ab) a1 = noR 5 (⟨a2, a3, a4, a5, a6, a7, a8, a9, a10, a11⟩ : ab) := by unfold aC; rw [show ((⟨a2, a3, a4, a5, a6, a7, a8, a9, a10, a11⟩ : ab)).n.jl = true from ho]; rfl
  rw [hC]; dsimp only; exact bp (decide_eq_true h0) (QF ho rfl)
 | false =>
 dsimp only; refine bp (decide_eq_true h0) (lZ ho (bp (decide_eq_true h0) ?_))
 by_cases hp : a4.period >= 600
 · have hC : aC (⟨a2, a3, a4, a5, a6, a7, a8, a9, a10, a11⟩ : ab) a1 = noR 4 (⟨a2, a3, a4, a5, a6, a7, a8, a9, a10, a11⟩ : ab) := by unfold aC; rw [show ((⟨a2, a3, a4, a5, a6, a7, a8, a9, a10, a11⟩ : ab)).n.jl = false from ho, pn, ba hp]
   rw [hC, ba hp]; rfl
 rw [aw hp]; refine bp (Bool.and_eq_true_iff.2 ⟨decide_eq_true h0, decide_eq_true hl⟩) ?_
 refine bp (Bool.and_eq_true_iff.2 ⟨rfl, zo (l := a10) h.wD (Nat.le_trans hpl.2 (by decide))⟩) ?_
 refine iD fun x2 e2 => ?_
 obtain rfl : x2 = ak 1 a10 := e2; refine bp (decide_eq_true hl.2.2.2.2.2.1) ?_
 by_cases he : (cP (⟨a2, a3, a4, a5, a6, a7, a8, a9, a10, a11⟩ : ab) a1).e = 0
 case neg =>
  have hC : aC (⟨a2, a3, a4, a5, a6, a7, a8, a9, a10, a11⟩ : ab) a1 = noR (cP (⟨a2, a3, a4, a5, a6, a7, a8, a9, a10, a11⟩ : ab) a1).e (⟨a2, a3, a4, a5, a6, a7, a8, a9, a10, a11⟩ : ab) := by unfold aC; rw [show ((⟨a2, a3, a4, a5, a6, a7, a8, a9, a10, a11⟩ : ab)).n.jl = false from ho, pn, aw hp, jO he]
  rw [hC]; exact jO he
 have hC : aC (⟨a2, a3, a4, a5, a6, a7, a8, a9, a10, a11⟩ : ab) a1 = aD (⟨a2, a3, a4, a5, a6, a7, a8, a9, a10, a11⟩ : ab) a1 := by unfold aC; rw [show ((⟨a2, a3, a4, a5, a6, a7, a8, a9, a10, a11⟩ : ab)).n.jl = false from ho, pn, aw hp, bN he]
 rw [hC]; refine Eq.trans (bN he) ?_
 have hp' : ((⟨a2, a3, a4, a5, a6, a7, a8, a9, a10, a11⟩ : ab)).n.period < 600 := by simp only; omega
 have D := dz h.qK; have b : 0 <= ak 1 a10 /\ 0 <= ak 2 a10 /\ ak 1 a10 + ak 2 a10 + a4.aT <= 1099511627776 := gX h; have r0 : 0 <= a4.aT := h.B3; have f : 0 <= a4.fee /\ a4.fee <= 1200000000000 * a4.period := h.fee; have o : 0 <= a4.out /\ a4.out <= a3.advance := h.out; have r : 0 <= a4.bk /\ a4.bk <= a4.rin /\ a4.rin <= 1200000000000 * (a4.period + 1) := h.res; have lo : a4.aK - a4.aT = ak 2 a10 := h.lost; obtain ⟨q1, q2, q3, q4, q5, q6, q7, q8, q9⟩ := kY h he; obtain ⟨c1, c2, c3, c4, c5⟩ := kx h; obtain ⟨m1, m2, m3, m4⟩ := jt h he; have m3 : 0 <= dE (⟨a2, a3, a4, a5, a6, a7, a8, a9, a10, a11⟩ : ab) a1 /\ dE (⟨a2, a3, a4, a5, a6, a7, a8, a9, a10, a11⟩ : ab) a1 <= a4.rin - a4.bk := ⟨m3.1, m3.2.1⟩
 have m4 : 0 <= jz (⟨a2, a3, a4, a5, a6, a7, a8, a9, a10, a11⟩ : ab) a1 /\ jz (⟨a2, a3, a4, a5, a6, a7, a8, a9, a10, a11⟩ : ab) a1 <= a3.advance - a4.out := m4; obtain ⟨x1, x2, x3, x4⟩ := so h he; obtain ⟨d1, d2, d3, d4, d5⟩ := jm h he; obtain ⟨t1, t2, t3⟩ := kb h he; have u2 := kA h he; have k := Bd h; have ad : 0 <= a3.advance /\ a3.advance <= 1099511627776 := D.advance; have nq := eX q1; have hpa9 : a10.length <= 64 := hpl.2; have hqlen : (cP (⟨a2, a3, a4, a5, a6, a7, a8, a9, a10, a11⟩ : ab) a1).aI.length <= 1000 := by
  have hq : (cP (⟨a2, a3, a4, a5, a6, a7, a8, a9, a10, a11⟩ : ab) a1).aI.length = a10.length := by have := congrArg List.length q2; simpa using this
  omega
 have hpo := zo q1 hqlen; have s5 := (gn _ c2.2).2.1; have st := kS h he; have q3 : ak 1 (cP (⟨a2, a3, a4, a5, a6, a7, a8, a9, a10, a11⟩ : ab) a1).aI = ak 1 a10 - (cP (⟨a2, a3, a4, a5, a6, a7, a8, a9, a10, a11⟩ : ab) a1).p - (cP (⟨a2, a3, a4, a5, a6, a7, a8, a9, a10, a11⟩ : ab) a1).l := q3; have q4 : ak 2 (cP (⟨a2, a3, a4, a5, a6, a7, a8, a9, a10, a11⟩ : ab) a1).aI = ak 2 a10 + (cP (⟨a2, a3, a4, a5, a6, a7, a8, a9, a10, a11⟩ : ab) a1).l - (cP (⟨a2, a3, a4, a5, a6, a7, a8, a9, a10, a11⟩ : ab) a1).r := q4; have stT := st.2.2.2.2.1; have stR : 0 <= bn kR (bS (⟨a2, a3, a4, a5, a6, a7, a8, a9, a10, a11⟩ : ab) a1).2.2 /\ bn kR (bS (⟨a2, a3, a4, a5, a6, a7, a8, a9, a10, a11⟩ : ab) a1).2.2 <= a4.out := st.2.2.2.1; have s5l : ak 5 (cTr (⟨a2, a3, a4, a5, a6, a7, a8, a9, a10, a11⟩ : ab)) <= 1125899906842624000 := by have := c2.1; omega
 refine bp (Bool.and_eq_true_iff.2 ⟨decide_eq_true ⟨⟨D.year.1, D.year.2, D.month.1, D.month.2⟩, hpe, ⟨f.1, by omega⟩, b.1, by omega⟩, eB (BX h)⟩) ?_
 refine iD fun x3' e3 => ?_
 obtain rfl : x3' = Dr (⟨a2, a3, a4, a5, a6, a7, a8, a9, a10, a11⟩ : ab) := e3; refine iD fun g4 e4 => ?_
 obtain rfl : g4 = { a4 with fee := a4.fee + pH (⟨a2, a3, a4, a5, a6, a7, a8, a9, a10, a11⟩ : ab) } := e4; refine bp (Bool.and_eq_true_iff.2 ⟨rfl, eB c2⟩) ?_
 refine iD fun x5 e5 => ?_
 obtain rfl : x5 = a4.fee + pH (⟨a2, a3, a4, a5, a6, a7, a8, a9, a10, a11⟩ : ab) + ak 5 (cTr (⟨a2, a3, a4, a5, a6, a7, a8, a9, a10, a11⟩ : ab)) := e5.trans (aa (n := a4.fee + pH (⟨a2, a3, a4, a5, a6, a7, a8, a9, a10, a11⟩ : ab) + ak 5 (cTr (⟨a2, a3, a4, a5, a6, a7, a8, a9, a10, a11⟩ : ab))) (by omega) (by omega)); refine iD fun x8 e8 => ?_
 obtain rfl : x8 = cIn (⟨a2, a3, a4, a5, a6, a7, a8, a9, a10, a11⟩ : ab) a1 := e8.trans (by
  have i := m1; unfold cIn at i ⊢; rw [show w64 ((aB a1 a10).p + (aB a1 a10).q) = (cP (⟨a2, a3, a4, a5, a6, a7, a8, a9, a10, a11⟩ : ab) a1).p + (cP (⟨a2, a3, a4, a5, a6, a7, a8, a9, a10, a11⟩ : ab) a1).q from aa (by show _ <= (cP (⟨a2, a3, a4, a5, a6, a7, a8, a9, a10, a11⟩ : ab) a1).p + (cP (⟨a2, a3, a4, a5, a6, a7, a8, a9, a10, a11⟩ : ab) a1).q; omega) (by show (cP (⟨a2, a3, a4, a5, a6, a7, a8, a9, a10, a11⟩ : ab) a1).p + (cP (⟨a2, a3, a4, a5, a6, a7, a8, a9, a10, a11⟩ : ab) a1).q <= _; omega)]; rw [show w64 ((cP (⟨a2, a3, a4, a5, a6, a7, a8, a9, a10, a11⟩ : ab) a1).p + (cP (⟨a2, a3, a4, a5, a6, a7, a8, a9, a10, a11⟩ : ab) a1).q + (aB a1 a10).r) = (cP (⟨a2, a3, a4, a5, a6, a7, a8, a9, a10, a11⟩ : ab) a1).p + (cP (⟨a2, a3, a4, a5, a6, a7, a8, a9, a10, a11⟩ : ab) a1).q + (cP (⟨a2, a3, a4, a5, a6, a7, a8, a9, a10, a11⟩ : ab) a1).r from aa (by show _ <= (cP (⟨a2, a3, a4, a5, a6, a7, a8, a9, a10, a11⟩ : ab) a1).p + (cP (⟨a2, a3, a4, a5, a6, a7, a8, a9, a10, a11⟩ : ab) a1).q + (cP (⟨a2, a3, a4, a5, a6, a7, a8, a9, a10, a11⟩ : ab) a1).r; omega) (by show (cP (⟨a2, a3, a4, a5, a6, a7, a8, a9, a10, a11⟩ : ab) a1).p + (cP (⟨a2, a3, a4, a5, a6, a7, a8, a9, a10, a11⟩ : ab) a1).q + (cP (⟨a2, a3, a4, a5, a6, a7, a8, a9, a10, a11⟩ : ab) a1).r <= _; omega)]; have w : w64 ((cP (⟨a2, a3, a4, a5, a6, a7, a8, a9, a10, a11⟩ : ab) a1).p + (cP (⟨a2, a3, a4, a5, a6, a7, a8, a9, a10, a11⟩ : ab) a1).q + (cP (⟨a2, a3, a4, a5, a6, a7, a8, a9, a10, a11⟩ : ab) a1).r) = (cP (⟨a2, a3, a4, a5, a6, a7, a8, a9, a10, a11⟩ : ab) a1).p + (cP (⟨a2, a3, a4, a5, a6, a7, a8, a9, a10, a11⟩ : ab) a1).q + (cP (⟨a2, a3, a4, a5, a6, a7, a8, a9, a10, a11⟩ : ab) a1).r := aa (by omega) (by omega); simp only [Int.add_zero, w])
 have en : w64 (a4.fee + pH (⟨a2, a3, a4, a5, a6, a7, a8, a9, a10, a11⟩ : ab) + ak 5 (cTr (⟨a2, a3, a4, a5, a6, a7, a8, a9, a10, a11⟩ : ab)) - cIn (⟨a2, a3, a4, a5, a6, a7, a8, a9, a10, a11⟩ : ab) a1) = mA (⟨a2, a3, a4, a5, a6, a7, a8, a9, a10, a11⟩ : ab) a1 := aa (by show _ <= mA (⟨a2, a3, a4, a5, a6, a7, a8, a9, a10, a11⟩ : ab) a1; omega) (by show mA (⟨a2, a3, a4, a5, a6, a7, a8, a9, a10, a11⟩ : ab) a1 <= _; omega); rw [en]; refine bp (Bool.and_eq_true_iff.2 ⟨rfl, decide_eq_true ⟨by omega, ⟨r.1, r.2.1, by show a4.rin <= _; omega⟩, ⟨o.1, by show a4.out <= _; omega⟩, D.advance.1, by omega⟩⟩) ?_
 refine iD fun x9 e9 => ?_
 obtain rfl : x9 = dE (⟨a2, a3, a4, a5, a6, a7, a8, a9, a10, a11⟩ : ab) a1 := e9; refine iD fun x10 e10 => ?_
 obtain rfl : x10 = jz (⟨a2, a3, a4, a5, a6, a7, a8, a9, a10, a11⟩ : ab) a1 := e10; refine iD fun g11 e11 => ?_
 obtain rfl : g11 = cN1 (⟨a2, a3, a4, a5, a6, a7, a8, a9, a10, a11⟩ : ab) a1 := e11; refine iD fun x14 e14 => ?_
 obtain rfl : x14 = (cX (⟨a2, a3, a4, a5, a6, a7, a8, a9, a10, a11⟩ : ab) a1).aA := e14.trans (by
  have i := m1; have z : (cX (⟨a2, a3, a4, a5, a6, a7, a8, a9, a10, a11⟩ : ab) a1).aA = cIn (⟨a2, a3, a4, a5, a6, a7, a8, a9, a10, a11⟩ : ab) a1 + dE (⟨a2, a3, a4, a5, a6, a7, a8, a9, a10, a11⟩ : ab) a1 + jz (⟨a2, a3, a4, a5, a6, a7, a8, a9, a10, a11⟩ : ab) a1 := rfl; rw [z]; unfold cIn at i ⊢; rw [show w64 ((aB a1 a10).p + (aB a1 a10).q) = (cP (⟨a2, a3, a4, a5, a6, a7, a8, a9, a10, a11⟩ : ab) a1).p + (cP (⟨a2, a3, a4, a5, a6, a7, a8, a9, a10, a11⟩ : ab) a1).q from aa (by show _ <= (cP (⟨a2, a3, a4, a5, a6, a7, a8, a9, a10, a11⟩ : ab) a1).p + (cP (⟨a2, a3, a4, a5, a6, a7, a8, a9, a10, a11⟩ : ab) a1).q; omega) (by show (cP (⟨a2, a3, a4, a5, a6, a7, a8, a9, a10, a11⟩ : ab) a1).p + (cP (⟨a2, a3, a4, a5, a6, a7, a8, a9, a10, a11⟩ : ab) a1).q <= _; omega)]; rw [show w64 ((cP (⟨a2, a3, a4, a5, a6, a7, a8, a9, a10, a11⟩ : ab) a1).p + (cP (⟨a2, a3, a4, a5, a6, a7, a8, a9, a10, a11⟩ : ab) a1).q + (aB a1 a10).r) = (cP (⟨a2, a3, a4, a5, a6, a7, a8, a9, a10, a11⟩ : ab) a1).p + (cP (⟨a2, a3, a4, a5, a6, a7, a8, a9, a10, a11⟩ : ab) a1).q + (cP (⟨a2, a3, a4, a5, a6, a7, a8, a9, a10, a11⟩ : ab) a1).r from aa (by show _ <= (cP (⟨a2, a3, a4, a5, a6, a7, a8, a9, a10, a11⟩ : ab) a1).p + (cP (⟨a2, a3, a4, a5, a6, a7, a8, a9, a10, a11⟩ : ab) a1).q + (cP (⟨a2, a3, a4, a5, a6, a7, a8, a9, a10, a11⟩ : ab) a1).r; omega) (by show (cP (⟨a2, a3, a4, a5, a6, a7, a8, a9, a10, a11⟩ : ab) a1).p + (cP (⟨a2, a3, a4, a5, a6, a7, a8, a9, a10, a11⟩ : ab) a1).q + (cP (⟨a2, a3, a4, a5, a6, a7, a8, a9, a10, a11⟩ : ab) a1).r <= _; omega)]; rw [aa (n := (cP (⟨a2, a3, a4, a5, a6, a7, a8, a9, a10, a11⟩ : ab) a1).p + (cP (⟨a2, a3, a4, a5, a6, a7, a8, a9, a10, a11⟩ : ab) a1).q + (cP (⟨a2, a3, a4, a5, a6, a7, a8, a9, a10, a11⟩ : ab) a1).r + dE (⟨a2, a3, a4, a5, a6, a7, a8, a9, a10, a11⟩ : ab) a1) (by omega) (by omega), aa (n := (cP (⟨a2, a3, a4, a5, a6, a7, a8, a9, a10, a11⟩ : ab) a1).p + (cP (⟨a2, a3, a4, a5, a6, a7, a8, a9, a10, a11⟩ : ab) a1).q + (cP (⟨a2, a3, a4, a5, a6, a7, a8, a9, a10, a11⟩ : ab) a1).r + dE (⟨a2, a3, a4, a5, a6, a7, a8, a9, a10, a11⟩ : ab) a1 + jz (⟨a2, a3, a4, a5, a6, a7, a8, a9, a10, a11⟩ : ab) a1) (by omega) (by omega)])
 have c1r : (0 <= (cN1 (⟨a2, a3, a4, a5, a6, a7, a8, a9, a10, a11⟩ : ab) a1).bk /\ (cN1 (⟨a2, a3, a4, a5, a6, a7, a8, a9, a10, a11⟩ : ab) a1).bk <= (cN1 (⟨a2, a3, a4, a5, a6, a7, a8, a9, a10, a11⟩ : ab) a1).rin /\ (cN1 (⟨a2, a3, a4, a5, a6, a7, a8, a9, a10, a11⟩ : ab) a1).rin <= 1152921504606846976) := by
  show 0 <= a4.bk + dE (⟨a2, a3, a4, a5, a6, a7, a8, a9, a10, a11⟩ : ab) a1 /\ a4.bk + dE (⟨a2, a3, a4, a5, a6, a7, a8, a9, a10, a11⟩ : ab) a1 <= a4.rin /\ a4.rin <= _; omega
 refine bp (Bool.and_eq_true_iff.2 ⟨decide_eq_true ⟨⟨⟨q5, by show (cP (⟨a2, a3, a4, a5, a6, a7, a8, a9, a10, a11⟩ : ab) a1).p <= _; omega⟩, ⟨q6, by show (cP (⟨a2, a3, a4, a5, a6, a7, a8, a9, a10, a11⟩ : ab) a1).l <= _; omega⟩, q7, by show (cP (⟨a2, a3, a4, a5, a6, a7, a8, a9, a10, a11⟩ : ab) a1).r <= _; omega⟩, c1r⟩, Bool.and_eq_true_iff.2 ⟨hpo, eB c2⟩⟩) ?_
 refine iD fun x15 e15 => ?_
 obtain rfl : x15 = (cX (⟨a2, a3, a4, a5, a6, a7, a8, a9, a10, a11⟩ : ab) a1).av := e15; refine iD fun x16 e16 => ?_
 obtain rfl : x16 = (cX (⟨a2, a3, a4, a5, a6, a7, a8, a9, a10, a11⟩ : ab) a1).room := e16; refine bp (decide_eq_true ⟨hl.2.2.1, hl.2.2.2.1, hl.2.2.2.2.1⟩) ?_
 refine iD fun l17 e17 => ?_
 obtain rfl : l17 = eZ (gS (⟨a2, a3, a4, a5, a6, a7, a8, a9, a10, a11⟩ : ab)) ((⟨a2, a3, a4, a5, a6, a7, a8, a9, a10, a11⟩ : ab)).n.mode := e17; refine bp (Bool.and_eq_true_iff.2 ⟨decide_eq_true (by omega), Bool.and_eq_true_iff.2 ⟨x1, x2⟩⟩) ?_
 refine iD fun l23 e23 => ?_
 obtain rfl : l23 = (bS (⟨a2, a3, a4, a5, a6, a7, a8, a9, a10, a11⟩ : ab) a1).2.2 := e23; refine bp d5 ?_
 refine iD fun x25 e25 => ?_
 obtain rfl : x25 = (dm (⟨a2, a3, a4, a5, a6, a7, a8, a9, a10, a11⟩ : ab) a1).1.out := e25; have eo : w64 ((dm (⟨a2, a3, a4, a5, a6, a7, a8, a9, a10, a11⟩ : ab) a1).1.out + jz (⟨a2, a3, a4, a5, a6, a7, a8, a9, a10, a11⟩ : ab) a1) = (cN2 (⟨a2, a3, a4, a5, a6, a7, a8, a9, a10, a11⟩ : ab) a1).out := by
  refine Eq.trans (aa ?_ ?_) rfl
  · rw [d1]; show _ <= a4.out - bn kR (bS (⟨a2, a3, a4, a5, a6, a7, a8, a9, a10, a11⟩ : ab) a1).2.2 + jz (⟨a2, a3, a4, a5, a6, a7, a8, a9, a10, a11⟩ : ab) a1; omega
  · rw [d1]; show a4.out - bn kR (bS (⟨a2, a3, a4, a5, a6, a7, a8, a9, a10, a11⟩ : ab) a1).2.2 + jz (⟨a2, a3, a4, a5, a6, a7, a8, a9, a10, a11⟩ : ab) a1 <= _; omega
 rw [eo]; refine bp (Bool.and_eq_true_iff.2 ⟨decide_eq_true ⟨⟨⟨q5, by show (cP (⟨a2, a3, a4, a5, a6, a7, a8, a9, a10, a11⟩ : ab) a1).p <= _; omega⟩, ⟨q6, by show (cP (⟨a2, a3, a4, a5, a6, a7, a8, a9, a10, a11⟩ : ab) a1).l <= _; omega⟩, q7, by show (cP (⟨a2, a3, a4, a5, a6, a7, a8, a9, a10, a11⟩ : ab) a1).r <= _; omega⟩, ⟨by show 0 <= (dm (⟨a2, a3, a4, a5, a6, a7, a8, a9, a10, a11⟩ : ab) a1).1.aK; rw [d1]; show 0 <= a4.aK; omega, by show (dm (⟨a2, a3, a4, a5, a6, a7, a8, a9, a10, a11⟩ : ab) a1).1.aK <= _; rw [d1]; show a4.aK <= _; omega⟩, by show 0 <= (dm (⟨a2, a3, a4, a5, a6, a7, a8, a9, a10, a11⟩ : ab) a1).1.aT; rw [d1]; exact r0, by show (dm (⟨a2, a3, a4, a5, a6, a7, a8, a9, a10, a11⟩ : ab) a1).1.aT <= _; rw [d1]; show a4.aT <= _; omega⟩, Bool.and_eq_true_iff.2 ⟨hpo, eB d3⟩⟩) ?_
 refine iD fun g26 e26 => ?_
 obtain rfl : g26 = cN2 (⟨a2, a3, a4, a5, a6, a7, a8, a9, a10, a11⟩ : ab) a1 := e26; refine iD fun l27 e27 => ?_
 obtain rfl : l27 = dH (⟨a2, a3, a4, a5, a6, a7, a8, a9, a10, a11⟩ : ab) a1 := e27; refine bp (Bool.and_eq_true_iff.2 ⟨rfl, Bool.and_eq_true_iff.2 ⟨hpo, eB t1⟩⟩) ?_
 refine iD fun x31 e31 => ?_
 refine iD fun x32 e32 => ?_
 refine iD fun x33 e33 => ?_
 refine iD fun x34 e34 => ?_
 have g4 := (nf h he).2.2.2; have el : w64 ((cN2 (⟨a2, a3, a4, a5, a6, a7, a8, a9, a10, a11⟩ : ab) a1).aK - (cN2 (⟨a2, a3, a4, a5, a6, a7, a8, a9, a10, a11⟩ : ab) a1).aT) = (cN2 (⟨a2, a3, a4, a5, a6, a7, a8, a9, a10, a11⟩ : ab) a1).aK - (cN2 (⟨a2, a3, a4, a5, a6, a7, a8, a9, a10, a11⟩ : ab) a1).aT := aa (by omega) (by omega); rw [el, show ((bC (⟨a2, a5, a6, a3, a7, a8, a9⟩ : br)).getD (0, 0)).1 = ak 1 a5 from D.QL] at e34; have n2m : (cN2 (⟨a2, a3, a4, a5, a6, a7, a8, a9, a10, a11⟩ : ab) a1).mode = a4.mode /\ (cN2 (⟨a2, a3, a4, a5, a6, a7, a8, a9, a10, a11⟩ : ab) a1).bd = a4.bd /\ (cN2 (⟨a2, a3, a4, a5, a6, a7, a8, a9, a10, a11⟩ : ab) a1).period = a4.period := by rw [u2]; exact ⟨rfl, rfl, rfl⟩
 have ep : w64 ((cN2 (⟨a2, a3, a4, a5, a6, a7, a8, a9, a10, a11⟩ : ab) a1).period + 1) = a4.period + 1 := by rw [n2m.2.2]; exact aa (by omega) (by omega)
 have ex : cO (cN2 (⟨a2, a3, a4, a5, a6, a7, a8, a9, a10, a11⟩ : ab) a1).mode (cN2 (⟨a2, a3, a4, a5, a6, a7, a8, a9, a10, a11⟩ : ab) a1).bd a3.dV x31 x32 x33 x34 = wk (⟨a2, a3, a4, a5, a6, a7, a8, a9, a10, a11⟩ : ab) a1 := by rw [n2m.1, n2m.2.1, e31, e32, e33, e34]; rfl
 rw [ep, ex]; refine bp (decide_eq_true ?_) ?_
 · rw [n2m.2.1]; omega
 have c2r : (0 <= (cN2 (⟨a2, a3, a4, a5, a6, a7, a8, a9, a10, a11⟩ : ab) a1).bk /\ (cN2 (⟨a2, a3, a4, a5, a6, a7, a8, a9, a10, a11⟩ : ab) a1).bk <= (cN2 (⟨a2, a3, a4, a5, a6, a7, a8, a9, a10, a11⟩ : ab) a1).rin /\ (cN2 (⟨a2, a3, a4, a5, a6, a7, a8, a9, a10, a11⟩ : ab) a1).rin <= 1152921504606846976) := by
  rw [u2]; show 0 <= a4.bk + dE (⟨a2, a3, a4, a5, a6, a7, a8, a9, a10, a11⟩ : ab) a1 /\ a4.bk + dE (⟨a2, a3, a4, a5, a6, a7, a8, a9, a10, a11⟩ : ab) a1 <= a4.rin + bn kT (bS (⟨a2, a3, a4, a5, a6, a7, a8, a9, a10, a11⟩ : ab) a1).2.2 /\ a4.rin + bn kT (bS (⟨a2, a3, a4, a5, a6, a7, a8, a9, a10, a11⟩ : ab) a1).2.2 <= _; omega
 refine bp (decide_eq_true h0) ?_
 refine bp (Bool.and_eq_true_iff.2 ⟨decide_eq_true h0, Bool.and_eq_true_iff.2 ⟨decide_eq_true c2r, Bool.and_eq_true_iff.2 ⟨hpo, eB t1⟩⟩⟩) ?_
 rw [show w64 (a4.period + 1) = a4.period + 1 from aa (by omega) (by omega)]; rfl
theorem MA : ER 13 (mkE N13.en N13.ex f13) := ar ag T47.right (fun m => []) (t := t13) (by kernel_rfl) (fun m => aE) (fun m a => by kernel_rfl) fun (a0, a1, a2, a3, a4, a5, a6, a7, a8, a9, a10, a11) hc => Pd a0 a1 a2 a3 a4 a5 a6 a7 a8 a9 a10 a11 hc
def T13 : Tb Tryz.prog LQ TE := T47.add 13 _ MA
end
end Go.Proofs.YtdbkoeefnodejaaGreat
namespace Go.Proofs.YtdbkoeefnodejaaGreat
noncomputable section
open Go Go.Proofs.YtdbkoeefnodejaaGreat.Ev
set_option maxRecDepth 20000
theorem tV (d : Dat) : (dU d).i 0 = d.i 0 /\ (dU d).i 1 = d.i 1 /\ (dU d).i 2 = 0 /\ (dU d).i 3 = 0 /\ (dU d).b 4 = false := ⟨rfl, rfl, rfl, rfl, rfl⟩
theorem pQ : ∀ l : List Dat, ak 1 (l.map dU) = ak 1 l /\ ak 2 (l.map dU) = 0
 | [] => ⟨rfl, rfl⟩
 | d :: l => by
  obtain ⟨h1, h2⟩ := pQ l; simp only [List.map_cons, ak, h1, h2, (tV d).2.1, (tV d).2.2.1]; exact ⟨trivial, rfl⟩
theorem wM : ∀ l : List Dat, ak 5 (l.map oG) = 0 /\ ak 6 (l.map oG) = 0
 | [] => ⟨rfl, rfl⟩
 | d :: l => by
  obtain ⟨h1, h2⟩ := wM l; simp only [List.map_cons, ak, h1, h2, oG, ot, nG]
  decide
theorem A1 {d : br} (h : (bC d).isSome = true) : eJ (aN d) := by
 have D := dz h; obtain ⟨s1, s2⟩ := pQ d.ax; obtain ⟨n5, n6⟩ := wM d.notes; refine ⟨h, ?_, fun x hx => ?_, ?_, fun x hx => ?_, ?_, ?_, Int.le_refl _, ?_, ?_, ?_, ?_, ?_, ?_, ?_⟩
 · simp only [aN, List.map_map]; rfl
 · obtain ⟨y, hy, rfl⟩ := List.mem_map.1 (show x ∈ d.notes.map oG from hx); have := D.note y hy; refine ⟨decide_eq_true ?_, ?_⟩
   · show (0 <= y.i 1 /\ y.i 1 <= 1099511627776 /\ (0 : Int) <= 0 /\ (0 : Int) = 0 /\ (0 : Int) <= 0 /\ (0 : Int) + 0 <= y.i 1 /\ (0 : Int) <= 0 /\ (0 : Int) <= 1125899906842624); omega
   · show (0 : Int) <= 1200000000000 * 0; omega
 · simp only [aN, List.map_map]; rfl
 · obtain ⟨y, hy, rfl⟩ := List.mem_map.1 (show x ∈ d.ax.map dU from hx); have := D.wD y hy; obtain ⟨_, e1, e2, e3, e4⟩ := tV y; unfold gu; rw [e1, e2, e3, e4]
   and_intros <;> first | omega | (intro h; cases h; done) | (intro _; rfl)
 · show ak 1 (d.ax.map dU) + ak 2 (d.ax.map dU) + 0 <= ak 1 d.ax; omega
 · show (0 : Int) - 0 = ak 2 (d.ax.map dU); omega
 · show (0 : Int) <= 0 /\ (0 : Int) <= 600; omega
 · show (0 : Int) <= 0 /\ (0 : Int) <= 2; omega
 · show (0 : Int) <= 0 /\ (0 : Int) <= 0; omega
 · show (0 : Int) <= 0 /\ (0 : Int) <= 1200000000000 * 0; omega
 · exact ⟨Int.le_refl _, D.advance.1⟩
 · show (0 : Int) <= 0 /\ 0 <= d.b.bs /\ d.b.bs <= 1200000000000 * (0 + 1)
   have := D.bs; omega
 · show ak 6 (d.notes.map oG) <= ak 2 (d.ax.map dU); omega
theorem GM {d : br} (h : (bC d).isSome = true) : bA d = aN d := by unfold bA; rw [if_pos h]
def fI : br := ⟨⟨2024, 1, 0⟩, [.r [.n 1, .n 100]], [.r [.n 0, .n 100, .n 0]], ⟨0, 0, 0, 0, 0, 0, 0, 0, 0, 0⟩, [.r [.n 3, .n 0], .r [.n 7, .n 0]], [.r [.n 3, .n 0], .r [.n 7, .n 0]], [.r [.n 3, .n 0], .r [.n 7, .n 0]]⟩
theorem vj : (bC fI).isSome = true := by kernel_rfl
theorem IY : bA fI = aN fI := GM vj
theorem QP : eJ (aN fI) := A1 vj
def N12 : aF := ⟨T13.tab, 12, ⟨[], [], 0⟩, ⟨[.agg [.int .i64, .int .i64, .int .i64, .buf 0 2, .buf 1 3, .int .i64, .int .i64, .int .i64, .int .i64, .int .i64, .int .i64, .int .i64, .int .i64, .int .i64, .int .i64, .buf 2 2, .buf 3 2, .buf 4 2]], [.ae (sI 2), .ae (sI 3), .ae (sI 2), .ae (sI 2), .ae (sI 2)], 0⟩, []⟩
def t12 (m : Nat) : Unit -> Option (List Un) := fun _ =>
 some (Uns.enc ((⟨2024, 1, 0⟩ : an) : an) ++ Uns.enc ((⟨0, 0, 0, 0, 0, 0, 0, 0, 0, 0⟩ : aq) : aq) ++ [.d ([.r [.n 1, .n 100]] : List Dat), .d ([.r [.n 0, .n 100, .n 0]] : List Dat), .d ([.r [.n 3, .n 0], .r [.n 7, .n 0]] : List Dat), .d ([.r [.n 3, .n 0], .r [.n 7, .n 0]] : List Dat), .d ([.r [.n 3, .n 0], .r [.n 7, .n 0]] : List Dat)])
def f12 : Unit -> Bool × List Un := fun _ => (true, Uns.enc ((fI.a) : an) ++ Uns.enc ((fI.b) : aq) ++ [.d (fI.ax), .d (fI.notes), .d (fI.s0), .d (fI.s1), .d (fI.s2)])
theorem NM : ∃ m, t12 m () = some (Uns.enc ((fI.a) : an) ++ Uns.enc ((fI.b) : aq) ++ [.d (fI.ax), .d (fI.notes), .d (fI.s0), .d (fI.s1), .d (fI.s2)]) := by
 exact ⟨0, rfl⟩
theorem Kb : ER 12 (mkE N12.en N12.ex f12) := ar ag T13.right (fun m => []) (t := t12) (by kernel_rfl) (fun m => aE) (fun m a => by kernel_rfl) fun _ hc => NM
def T12 : Tb Tryz.prog LQ TE := T13.add 12 _ Kb
def N3 : aF := ⟨T12.tab, 3, ⟨[], [], 0⟩, ⟨[.bool], [], 0⟩, []⟩
def t3 (m : Nat) : Unit -> Option (List Un) := fun _ =>
 chk (decide (fI.ax.length < 1000000 /\ fI.notes.length < 1000000 /\ fI.s0.length < 1000000 /\ fI.s1.length < 1000000 /\ fI.s2.length < 1000000)) <|
 lt (((if (bC fI).isSome then 0 else -1) : Int) : Int) fun x1 =>
 bif ((decide (x1 < 0)) && true) then
 some ([.b false])
 else
 bif ((if (bC fI).isSome then 0 else 2) : Int) != 0 then
 some ([.b false])
 else
 chk (decide (0 <= x1) && jT (bA fI)) <|
 lt (((aC (bA fI) ([.r [.n 1, .n 40, .n 0, .n 0, .n 0, .n 0, .n (bI false)]] : List Dat)).ra) : fW) fun g4 =>
 lt (((aC (bA fI) ([.r [.n 1, .n 40, .n 0, .n 0, .n 0, .n 0, .n (bI false)]] : List Dat)).rb) : fc) fun g5 =>
 lt (((aC (bA fI) ([.r [.n 1, .n 40, .n 0, .n 0, .n 0, .n 0, .n (bI false)]] : List Dat)).Aj) : List Dat) fun l18 =>
 lt (((aC (bA fI) ([.r [.n 1, .n 40, .n 0, .n 0, .n 0, .n 0, .n (bI false)]] : List Dat)).notes) : List Dat) fun l19 =>
 bif ((aC (bA fI) ([.r [.n 1, .n 40, .n 0, .n 0, .n 0, .n 0, .n (bI false)]] : List Dat)).e) == 0 then
 chk (decide (l18.length < 1099511627776)) <|
 bif (gF 4 l18 ([.r [.n 1, .n 7, .n 0, .n 40]] : List Dat)) then
 bif g5.dL == 0 then
 chk (decide (l19.length < 1099511627776)) <|
 bif (gF 3 l19 ([.r [.n 60, .n 0, .n 0]] : List Dat)) then
 bif g5.aI == 60 then
 bif (w64 ((w64 ((w64 ((w64 (g4.av + g4.me)) + g4.aT)) + g4.draw)) + g4.advance)) == 40 then
 chk (decide (l18.length <= 1000000) && (l18.all rD && decide (ak 3 l18 <= 1152921504606846976))) <|
 bif (w64 ((ak 3 l18) + g5.dL)) == 40 then
 bif g4.period == 1 then
 some ([.b (g4.av == 40)])
 else
 some ([.b false])
 else
 some ([.b false])
 else
 some ([.b false])
 else
 some ([.b false])
 else
 some ([.b false])
 else
 some ([.b false])
 else
 some ([.b false])
 else
 some ([.b false])
def f3 : Unit -> Bool × List Un := fun _ => (true, [.b (true)])
theorem Rk : ∃ m, t3 m () = some ([.b (true)]) := by
 refine ⟨0, ?_⟩; unfold t3; dsimp only [lt]; refine bp (by kernel_rfl) ?_
 refine lZ (by kernel_rfl) (lZ (by kernel_rfl) (bp (Bool.and_eq_true_iff.2 ⟨by kernel_rfl, fF.2 (IY ▸ QP)⟩) ?_))
 kernel_rfl
theorem Pv : ER 3 (mkE N3.en N3.ex f3) := ar ag T12.right (fun m => []) (t := t3) (by kernel_rfl) (fun m => aE) (fun m a => by kernel_rfl) fun _ hc => Rk
def T3 : Tb Tryz.prog LQ TE := T12.add 3 _ Pv
def yz (f : Nat -> Int) : Nat -> Int
 | 0 => 0
 | n + 1 => yz f n + f n
theorem wb {f g : Nat -> Int} : ∀ n : Nat, (∀ i, i < n -> f i = g i) -> yz f n = yz g n
 | 0, _ => rfl
 | n + 1, h => by simp only [yz, wb n fun i hi => h i (by omega), h n (by omega)]
theorem xH (f : Nat -> Int) : ∀ n : Nat, yz f (n + 1) = f 0 + yz (fun i => f (i + 1)) n
 | 0 => by simp [yz]
 | n + 1 => by
  have := xH f n; simp only [yz] at this ⊢; omega
theorem qv (f : Dat -> Int) : ∀ c : List Dat, aW f c = yz (fun i => f (af c i)) c.length
 | [] => rfl
 | d :: c => by
  rw [List.length_cons, xH]; have := qv f c; simp only [aW, this]; rfl
theorem DD (j : Nat) : ∀ c : List Dat, ak j c = aW (fun d => d.i j) c
 | [] => rfl
 | d :: c => by simp only [ak, aW, DD j c]
theorem BU (f : Dat -> Int) (g : Dat -> Dat) : ∀ c : List Dat, aW f (c.map g) = aW (fun d => f (g d)) c
 | [] => rfl
 | d :: c => by simp only [List.map_cons, aW, BU f g c]
theorem fH (k : bD) : (bC (ay k)).isSome = true := by rw [A6]; rfl
theorem na (k : bD) : bA (ay k) = aN (ay k) := GM (fH k)
theorem sZ (k : bD) : eJ (aN (ay k)) := A1 (fH k)
theorem Hg {T : ab} {l : List Dat} (ho : T.n.jl = false) (hp : T.n.period < 600) (he : (cP T l).e = 0) : aC T l = aD T l := by
 unfold aC; rw [ho, pn, aw (by omega), bN he]
end
end Go.Proofs.YtdbkoeefnodejaaGreat
namespace Go.Proofs.YtdbkoeefnodejaaGreat
noncomputable section
open Go Go.Proofs.YtdbkoeefnodejaaGreat.Ev
set_option maxRecDepth 20000
def nm (d : Dat) : Dat := .r [.n (d.i 0), .n (d.i 1)]
def lW (p q r s t u : List Int) (l : List Dat) : List Dat := ofL p q r s t u (l.map fun d => d.i 2) 0 (l.map nm)
theorem vh (id : Int) (x : Dat) (hx : x.i 0 = id) : ∀ (pre : List Dat) (rest : List Dat) (i : Int), (∀ d ∈ pre, d.i 0 ≠ id) -> eO id i (pre ++ x :: rest) = i + pre.length
 | [], rest, i, _ => by simp only [List.nil_append, eO, if_pos hx, List.length_nil]; omega
 | d :: pre, rest, i, h => by
  have := vh id x hx pre rest (i + 1) fun y hy => h y (by simp [hy])
  simp only [List.cons_append, eO, if_neg (h d (by simp)), this, List.length_cons, Int.natCast_add]; omega
theorem Ry {p q r s t u : List Int} {i : Int} {x n : Dat} (hx : gu x) (hb : 0 < x.i 1) (hn : n.i 0 = x.i 0 /\ n.i 1 = x.i 1) : fV ((jW p q r s t u i n).i 1) ((jW p q r s t u i n).i 2) ((jW p q r s t u i n).i 3) ((jW p q r s t u i n).i 4) ((jW p q r s t u i n).i 5) = true /\ wy x (jW p q r s t u i n) = true /\ (jW p q r s t u i n).i 0 = x.i 0 := by
 obtain ⟨n0, n1⟩ := hn; obtain ⟨x1, x2, x3, x4, x5, x6⟩ := hx; have h4 : x.b 4 = false := by
  cases hc : x.b 4
  · rfl
  · have := x5 hc; omega
 unfold jW; rw [n0, n1]; dsimp only; have b1 := aS (a := bq p i) (show (0 : Int) <= x.i 1 / 4 by omega); generalize within (bq p i) 0 (x.i 1 / 4) = y at *
 have b2 : 0 <= (if within (bq q i) 0 (2 * (x.i 1 - y)) > x.i 1 - y then 0 else within (bq q i) 0 (2 * (x.i 1 - y))) /\ (if within (bq q i) 0 (2 * (x.i 1 - y)) > x.i 1 - y then 0 else within (bq q i) 0 (2 * (x.i 1 - y))) <= x.i 1 - y := by
  have := aS (a := bq q i) (show (0 : Int) <= 2 * (x.i 1 - y) by omega)
  split <;> omega
 generalize (if within (bq q i) 0 (2 * (x.i 1 - y)) > x.i 1 - y then 0 else within (bq q i) 0 (2 * (x.i 1 - y))) = z at *
 have b3 := aS (a := bq r i) (show (0 : Int) <= 1 + x.i 1 / 50 by omega); generalize within (bq r i) 0 (1 + x.i 1 / 50) = v at *
 have b4 := aS (a := bq s i) (show (0 : Int) <= x.i 1 - y - z by omega); generalize within (bq s i) 0 (x.i 1 - y - z) = c at *
 have b5 := aS (a := bq t i) (show (0 : Int) <= 24 by omega); generalize within (bq t i) 0 24 = w at *
 generalize w64 ((BitVec.ofInt 64 (bq u i) &&& BitVec.ofInt 64 7).toNat) = e; refine ⟨?_, ?_, rfl⟩
 · show fV y z v (if e = 7 then c else 0) (if 0 < w - 12 then w - 12 else 0) = true; simp only [fV, Bool.and_eq_true, decide_eq_true_eq]; refine ⟨by omega, by omega, by omega, by omega, by omega, by omega, ?_, ?_, ?_, ?_⟩ <;> split <;> omega
 · show qp (x.i 1) (x.i 2) (x.b 4) y z v (if e = 7 then c else 0) (if 0 < w - 12 then w - 12 else 0) (bI (decide (e = 7)) != 0) = true; rw [FO, h4]; unfold qp; rw [cond_false, show w64 (x.i 1 - y) = x.i 1 - y from aa (by omega) (by omega), show w64 (x.i 1 - y - z) = x.i 1 - y - z from aa (by omega) (by omega), decide_eq_false (show ¬ x.i 1 - y - z < 0 by omega), cond_false, show w64 (x.i 2 + (x.i 1 - y - z)) = x.i 2 + (x.i 1 - y - z) from aa (by omega) (by omega)]
   by_cases he : e = 7
   · rw [decide_eq_true he, cond_true, if_pos he, decide_eq_true (show c <= x.i 2 + (x.i 1 - y - z) by omega)]; rfl
   · rw [decide_eq_false he, cond_false, if_neg he]; rfl
theorem R7 {s lost : List Int} {j : Nat} {x n : Dat} (hx : gu x) (hb : ¬ 0 < x.i 1) (hn : n.i 0 = x.i 0) (hl : lost.getD j 0 = x.i 2) : fV ((jX s lost j n).i 1) ((jX s lost j n).i 2) ((jX s lost j n).i 3) ((jX s lost j n).i 4) ((jX s lost j n).i 5) = true /\ wy x (jX s lost j n) = true /\ (jX s lost j n).i 0 = x.i 0 := by
 obtain ⟨x1, x2, x3, x4, x5, x6⟩ := hx; have e0 : x.i 1 = 0 := by omega
 unfold jX; rw [hn, Int.toNat_natCast, hl]; have hc : ∃ c, (if (j : Int) < (lost.length : Int) /\ 0 < x.i 2 then within (bq s j) 0 (x.i 2) else 0) = c /\ 0 <= c /\ c <= x.i 2 := by
  refine ⟨_, rfl, ?_, ?_⟩ <;> split
  · exact (aS x2).1
  · omega
  · exact (aS x2).2
  · omega
 obtain ⟨c, hc, c0, c1⟩ := hc; rw [hc]; refine ⟨?_, ?_, rfl⟩
 · show fV 0 0 0 c 0 = true; simp only [fV, Bool.and_eq_true, decide_eq_true_eq]
   and_intros <;> omega
 · show qp (x.i 1) (x.i 2) (x.b 4) 0 0 0 c 0 (bI false != 0) = true; rw [FO]; unfold qp; cases h4 : x.b 4
   · have := x6 h4; have : c = 0 := by omega
     subst this; rw [e0]; rfl
   · simp only [cond_true, beq_self_eq_true, Bool.true_and, Bool.not_false]; exact decide_eq_true c1
theorem CC (p q r s t u lost : List Int) : ∀ (rest pre : List Dat) (last a b c d : Int), (∀ x ∈ rest, gu x) -> (∀ x ∈ pre, x.i 0 <= last) -> ((pre ++ rest).map fun x => x.i 0).Pairwise (· < ·) -> (∀ x ∈ rest, last < x.i 0 /\ 0 < x.i 0) -> (∀ j, j < rest.length -> lost.getD (pre.length + j) 0 = (af rest j).i 2) -> 0 <= last ->
 ir last (ofL p q r s t u lost pre.length (rest.map nm)) = true /\ ∃ y, eh (pre ++ rest) a b c d (ofL p q r s t u lost pre.length (rest.map nm)) = some y /\ y.e = 0
 | [], pre, last, a, b, c, d, _, _, _, _, _, _ => ⟨rfl, ⟨a, b, c, d, 0, pre ++ []⟩, rfl, rfl⟩
 | x :: rest, pre, last, a, b, c, d, hl, hp, hw, hlt, hlo, h0 => by
  have hx := hl x (by simp); have hx0 := hlt x (by simp); have hlo' : ∀ j, j < rest.length -> lost.getD (pre.length + 1 + j) 0 = (af rest j).i 2 := fun j hj => by
   have := hlo (j + 1) (by simpa using hj); rw [show pre.length + 1 + j = pre.length + (j + 1) by omega, this]; rfl
  have hl0 : lost.getD pre.length 0 = x.i 2 := hlo 0 (by simp); have hw2 : ∀ z ∈ rest, x.i 0 < z.i 0 := by
   rw [List.map_append, List.pairwise_append] at hw; have := (List.pairwise_cons.1 hw.2.1).1; intro z hz; exact this _ (List.mem_map.2 ⟨z, hz, rfl⟩)
  have step : ∀ (y : Dat) (a b c d : Int), y.i 0 = x.i 0 -> ir (x.i 0) (ofL p q r s t u lost ((pre.length : Int) + 1) (rest.map nm)) = true /\ ∃ z, eh (pre ++ y :: rest) a b c d (ofL p q r s t u lost ((pre.length : Int) + 1) (rest.map nm)) = some z /\ z.e = 0 := fun y a b c d hy => by
   have := CC p q r s t u lost rest (pre ++ [y]) (x.i 0) a b c d (fun z hz => hl z (by simp [hz])) (fun z hz => by
    rcases List.mem_append.1 hz with hz | hz
    · have := hp z hz; omega
    · rw [List.mem_singleton.1 hz]; omega) (by simpa [hy] using hw) (fun z hz => by have := hw2 z hz; omega) (by simpa using hlo') (by omega)
   simpa using this
  have skip : ir last (ofL p q r s t u lost ((pre.length : Int) + 1) (rest.map nm)) = true /\ ∃ z, eh (pre ++ x :: rest) a b c d (ofL p q r s t u lost ((pre.length : Int) + 1) (rest.map nm)) = some z /\ z.e = 0 := by
   have h1 := CC p q r s t u lost rest (pre ++ [x]) last a b c d; refine ⟨?_, (step x a b c d rfl).2⟩; have tm : ∀ (l : List Dat), ir (x.i 0) l = true -> ir last l = true := fun l h => by
    cases l with
    | nil => rfl
    | cons w l =>
     unfold ir at h ⊢
     split at h
     · cases h
     · rw [if_neg (by omega)]; exact h
   exact tm _ (step x a b c d rfl).1
  have line : ∀ e : Dat, fV (e.i 1) (e.i 2) (e.i 3) (e.i 4) (e.i 5) = true /\ wy x e = true /\ e.i 0 = x.i 0 -> ir last (e :: ofL p q r s t u lost ((pre.length : Int) + 1) (rest.map nm)) = true /\ ∃ y, eh (pre ++ x :: rest) a b c d (e :: ofL p q r s t u lost ((pre.length : Int) + 1) (rest.map nm)) = some y /\ y.e = 0 := fun e he => by
   obtain ⟨e1, e2, e3⟩ := he; have hi : eO (e.i 0) 0 (pre ++ x :: rest) = (pre.length : Int) := by
    rw [e3, vh (x.i 0) x rfl pre rest 0 fun z hz => by have := hp z hz; omega]; omega
   refine ⟨?_, ?_⟩
   · unfold ir; rw [e3, if_neg (by omega), if_pos e1]; exact (step x a b c d rfl).1
   · unfold eh; rw [hi, if_neg (by omega), Int.toNat_natCast, ao, if_pos e2, tf]; exact (step (ke x e) _ _ _ _ rfl).2
  simp only [List.map_cons]; unfold ofL
  split
  · simpa using skip
  · by_cases hb : 0 < (nm x).i 1
    · rw [if_pos hb, List.singleton_append]; exact line _ (Ry hx hb ⟨rfl, rfl⟩)
    · rw [if_neg hb, List.singleton_append]; exact line _ (R7 hx hb rfl hl0)
theorem vA {T : ab} (h : eJ T) (p q r s t u : List Int) : (cP T (lW p q r s t u T.aI)).e = 0 := by
 have D := dz h.qK; have hl := fA h; have hpos : ∀ x ∈ T.aI, 0 < x.i 0 := fun x hx => by
  have hm : x.i 0 ∈ T.aI.map (fun d => d.i 0) := List.mem_map.2 ⟨x, hx, rfl⟩; rw [h.ids] at hm; obtain ⟨y, hy, e⟩ := List.mem_map.1 hm; have := D.pos y hy; omega
 obtain ⟨a1, y, a2, a3⟩ := CC p q r s t u (T.aI.map fun d => d.i 2) T.aI [] 0 0 0 0 0 h.wD (fun x hx => by cases hx) (by
  have e := h.ids; rw [List.nil_append, e]; exact D.ids) (fun x hx => by have := hpos x hx; omega) (fun j hj => by
   rw [List.length_nil, Nat.zero_add, fp hj, List.getD_eq_getElem?_getD]; simp [hj]) (by omega)
 have hlen := Ec p q r s t u (T.aI.map fun d => d.i 2) (T.aI.map nm) 0; unfold cP aB lW; have ht : lQ (ofL p q r s t u (T.aI.map fun d => d.i 2) 0 (T.aI.map nm)) = true := by
  simp only [lQ, Bool.and_eq_true, decide_eq_true_eq]; exact ⟨by rw [List.length_map] at hlen; omega, a1⟩
 rw [if_pos ht]; rw [show eh T.aI 0 0 0 0 (ofL p q r s t u (T.aI.map fun d => d.i 2) 0 (T.aI.map nm)) = some y from a2]; exact a3
def N20 : aF := ⟨T3.tab, 20, ⟨[.np 0 0 0, .agg [.ints .i64, .ints .i64, .ints .i64, .ints .i64, .ints .i64, .ints .i64]], bw 0, 9⟩, ⟨[.buf 9 7], bw 0 ++ [.ae (sB 6)], 9⟩, []⟩
abbrev Es : Type := Int × Int × an × aq × ai × List Dat × List Dat × List Dat × List Dat × List Dat × List Dat × List Dat × List Int × List Int × List Int × List Int × List Int × List Int × List Dat × List Int × List Dat
def y9 (m : Nat) (k : Es -> Option (List Un)) : Es -> Option (List Un) := fun (a0, a1, a2, a3, a4, a5, a6, a7, a8, a9, a10, a11, a12, a13, a14, a15, a16, a17, a18, a19, a20) =>
 bif decide (a1 < a0) then
 chk (inb a1 a20.length) <|
 chk (decide (a1.toNat < a20.length)) <|
 lt (af a20 a1.toNat : Dat) fun d2 =>
 chk (fits (a18.length + 1) 16) <|
 chk (fits (a19.length + 1) 8) <|
 k (a0, (w64 (a1 + 1)), a2, a3, a4, a5, a6, a7, a8, a9, a10, a11, a12, a13, a14, a15, a16, a17, (a18 ++ ([.r [.n (d2.i 0), .n (d2.i 1)]])), (a19 ++ ([(d2.i 2)])), a20)
 else
 chk (decide (a18.length < 1000000) && (a18.all (fun d => decide (d.i 1 <= 1152921504606846976)) && a19.all fun y => decide (y <= 2305843009213693952))) <|
 some (Uns.enc (a2 : an) ++ Uns.enc (a3 : aq) ++ Uns.enc (a4 : ai) ++ [.d a5, .d a6, .d a7, .d a8, .d a9, .d a10, .d a11, .d (ofL a12 a13 a14 a15 a16 a17 a19 0 a18)])
def yj (m : Nat) : Nat -> Es -> Option (List Un) := bj (y9 m)
theorem uh (m : Nat) (n : Nat) : yj m (n + 1) = y9 m (yj m n) := rfl
def HV (F : Es -> Option (List Un)) : aR := ⟨[.lp [0, 1, 0, 1, 1, 1], .blk 0, .code [1, 1, 1, 1]], ⟨frm 34 [(3, .ptr 9 0 0), (5, .buf 10 2), (6, .buf 11 1), (13, .buf 12 5), (14, .int .i64), (15, .int .i64)], bw 0 ++ [.cells [.ints .i64, .ints .i64, .ints .i64, .ints .i64, .ints .i64, .ints .i64], .ae (sI 2), .ints .i64, .ae (sB 4)], 9⟩, onU F⟩
theorem Rh (m : Nat) : ∀ n, HO N20 (HV (yj m n)) := au ag T3.right (fun k => [HV k]) (fun k h => (aH h aE)) fun k a => by kernel_rfl
def t20 (m : Nat) : Int × List Int × List Int × List Int × List Int × List Int × List Int × an × aq × ai × List Dat × List Dat × List Dat × List Dat × List Dat × List Dat × List Dat -> Option (List Un) := fun (a0, a1, a2, a3, a4, a5, a6, a7, a8, a9, a10, a11, a12, a13, a14, a15, a16) =>
 chk (decide (0 <= a0)) <|
 chk (decide (0 < ([.r [.r a15]] : List Dat).length) && decide (((af ([.r [.r a15]] : List Dat) 0).d 0).length < 1000000)) <|
 lt (((af ([.r [.r a15]] : List Dat) 0).d 0) : List Dat) fun l1 =>
 yj m m ((l1.length : Int), 0, a7, a8, a9, a10, a11, a12, a13, a14, a15, a16, a1, a2, a3, a4, a5, a6, [], [], l1)
theorem Pk (m : Nat) (xa : an) (xb : aq) (xn : ai) (x1 x2 x3 x4 x5 x6 x7 : List Dat) (p q r s t u : List Int) : ∀ (rest pre : List Dat) (n : Nat), rest.length < n -> (pre ++ rest).length < 1000 -> (∀ d ∈ pre ++ rest, d.i 1 <= 1152921504606846976 /\ d.i 2 <= 1152921504606846976) ->
 yj m n (((pre ++ rest).length : Int), (pre.length : Int), xa, xb, xn, x1, x2, x3, x4, x5, x6, x7, p, q, r, s, t, u, pre.map nm, pre.map (fun d => d.i 2), pre ++ rest) = some (Uns.enc xa ++ Uns.enc xb ++ Uns.enc xn ++ [.d x1, .d x2, .d x3, .d x4, .d x5, .d x6, .d x7, .d (lW p q r s t u (pre ++ rest))]) := by
 intro rest
 induction rest with
 | nil =>
  intro pre n hn hl hb; obtain ⟨n, rfl⟩ := al n (by simp at hn; omega); rw [uh]; unfold y9; dsimp only; simp only [List.append_nil] at hl hb ⊢; have h1 : (pre.map nm).all (fun d => decide (d.i 1 <= 1152921504606846976)) = true := List.all_eq_true.2 fun d hd => by
   obtain ⟨x, hx, rfl⟩ := List.mem_map.1 hd; exact decide_eq_true (hb x hx).1
  have h2 : (pre.map (fun d => d.i 2)).all (fun y => decide (y <= 2305843009213693952)) = true := List.all_eq_true.2 fun d hd => by
   obtain ⟨x, hx, rfl⟩ := List.mem_map.1 hd; exact decide_eq_true (by have := (hb x hx).2; omega)
  rw [aw (by omega), h1, h2, Bool.and_self, Bool.and_true, aG (by rw [List.length_map]; omega)]; rfl
 | cons x rest ih =>
  intro pre n hn hl hb; obtain ⟨n, rfl⟩ := al n (by simp at hn; omega); have := ih (pre ++ [x]) n (by simp at hn; omega) (by simpa using hl) (by simpa using hb); simp only [List.length_cons, List.length_append] at hn hl; rw [List.map_append, List.map_append, show [x].map nm = [.r [.n (x.i 0), .n (x.i 1)]] from rfl, show [x].map (fun d => d.i 2) = [x.i 2] from rfl] at this; rw [uh]; unfold y9; dsimp only; simp (disch := omega) only [TRa, TRi, aa, LNl, LNi, Int.cast_ofNat_Int, ao]; simp only [LNl, LNi, Int.cast_ofNat_Int] at this ⊢; exact this
def f20 : Int × List Int × List Int × List Int × List Int × List Int × List Int × an × aq × ai × List Dat × List Dat × List Dat × List Dat × List Dat × List Dat × List Dat -> Bool × List Un := fun (a0, a1, a2, a3, a4, a5, a6, a7, a8, a9, a10, a11, a12, a13, a14, a15, a16) => (decide (0 <= a0) && (decide (a15.length < 1000) && a15.all (fun d => decide (d.i 1 <= 1152921504606846976 /\ d.i 2 <= 1152921504606846976))), Uns.enc ((a7) : an) ++ Uns.enc ((a8) : aq) ++ Uns.enc ((a9) : ai) ++ [.d (a10), .d (a11), .d (a12), .d (a13), .d (a14), .d (a15), .d (a16), .d (lW a1 a2 a3 a4 a5 a6 a15)])
theorem Nu (a0 : Int) (a1 : List Int) (a2 : List Int) (a3 : List Int) (a4 : List Int) (a5 : List Int) (a6 : List Int) (a7 : an) (a8 : aq) (a9 : ai) (a10 : List Dat) (a11 : List Dat) (a12 : List Dat) (a13 : List Dat) (a14 : List Dat) (a15 : List Dat) (a16 : List Dat) (hc : (decide (0 <= a0) && (decide (a15.length < 1000) && a15.all (fun d => decide (d.i 1 <= 1152921504606846976 /\ d.i 2 <= 1152921504606846976)))) = true) : ∃ m, t20 m (a0, a1, a2, a3, a4, a5, a6, a7, a8, a9, a10, a11, a12, a13, a14, a15, a16) = some (Uns.enc ((a7) : an) ++ Uns.enc ((a8) : aq) ++ Uns.enc ((a9) : ai) ++ [.d (a10), .d (a11), .d (a12), .d (a13), .d (a14), .d (a15), .d (a16), .d (lW a1 a2 a3 a4 a5 a6 a15)]) := by
 simp only [Bool.and_eq_true, decide_eq_true_eq, List.all_eq_true] at hc; obtain ⟨h0, h1, h2⟩ := hc; refine ⟨a15.length + 1, ?_⟩; unfold t20; dsimp only [lt]; refine bp (decide_eq_true h0) (bp (Bool.and_eq_true_iff.2 ⟨rfl, decide_eq_true (show a15.length < 1000000 by omega)⟩) ?_); exact Pk _ a7 a8 a9 a10 a11 a12 a13 a14 a15 a16 a1 a2 a3 a4 a5 a6 a15 [] (a15.length + 1) (by omega) (by simpa using h1) h2
theorem Ly : ER 20 (mkE N20.en N20.ex f20) := ar ag T3.right (fun m => [HV (yj m m)]) (t := t20) (by kernel_rfl) (fun m => (aH (Rh m m) aE)) (fun m a => by kernel_rfl) fun (a0, a1, a2, a3, a4, a5, a6, a7, a8, a9, a10, a11, a12, a13, a14, a15, a16) hc => Nu a0 a1 a2 a3 a4 a5 a6 a7 a8 a9 a10 a11 a12 a13 a14 a15 a16 hc
def T20 : Tb Tryz.prog LQ TE := T3.add 20 _ Ly
theorem lG {T : ab} (h : eJ T) (ho : T.n.jl = false) (hp : T.n.period < 600) {l : List Dat} (he : (cP T l).e = 0) : aC T l = aD T l /\ eJ (aD T l).t /\ (aD T l).t.n.jl = false /\ (aD T l).t.n.period = T.n.period + 1 /\ (aD T l).t.n.mode = (aD T l).next /\ (0 <= (aD T l).next /\ (aD T l).next <= 2) /\ (T.n.mode = 2 -> (aD T l).next = 2) /\ (aD T l).ra.mode = T.n.mode /\ (aD T l).ra.period = T.n.period + 1 := by
 have u := kA h he; refine ⟨Hg ho hp he, C4 h hp he, ?_, rfl, rfl, (Bu h.mode h.bd.1).1, fun hm => ?_, rfl, rfl⟩
 · show (cN2 T l).jl = false; rw [u]; exact ho
 · show (cO _ _ _ _ _ _ _).1 = 2; unfold cO; rw [if_pos (.inl hm)]
theorem u6 {T : ab} (h : eJ T) : (decide (T.aI.length < 1000) && T.aI.all (fun d => decide (d.i 1 <= 1152921504606846976 /\ d.i 2 <= 1152921504606846976))) = true := by
 rw [Bool.and_eq_true, List.all_eq_true]; have := fA h; exact ⟨decide_eq_true (by omega), fun d hd => decide_eq_true (by have := h.wD d hd; unfold gu at this; omega)⟩
end
end Go.Proofs.YtdbkoeefnodejaaGreat
namespace Go.Proofs.YtdbkoeefnodejaaGreat
noncomputable section
open Go Go.Proofs.YtdbkoeefnodejaaGreat.Ev
set_option maxRecDepth 20000
def BG (d : Dat) : Bool := decide (0 <= d.i 2 /\ d.i 2 <= 1099511627776)
theorem IW {d : Dat} (h : BG d = true) : 0 <= d.i 2 /\ d.i 2 <= 1099511627776 := of_decide_eq_true h
def N24 : aF := ⟨T20.tab, 24, ⟨[.dpt [.ae (sB 4)]], [], 0⟩, ⟨[.int .i64], [], 0⟩, []⟩
abbrev Ej : Type := Int × List Dat × Int × Int
def yY (m : Nat) (k : Ej -> Option (List Un)) : Ej -> Option (List Un) := fun (a0, a1, a2, a3) =>
 bif decide (a3 < a2) then
 chk (inb a3 a1.length) <|
 chk (decide (a3.toNat < a1.length)) <|
 k ((w64 (a0 + ((af a1 a3.toNat).i 2))), a1, a2, (w64 (a3 + 1)))
 else
 some ([.i a0])
def wQ (m : Nat) : Nat -> Ej -> Option (List Un) := bj (yY m)
theorem ua (m : Nat) (n : Nat) : wQ m (n + 1) = yY m (wQ m n) := rfl
def Jb (F : Ej -> Option (List Un)) : aR := ⟨[.lp [0, 1, 0, 1, 1], .blk 0, .code [1, 1, 1]], ⟨frm 21 [(3, .int .i64), (9, .ae (sB 4)), (10, .int .i64), (11, .int .i64)], [], 0⟩, onU F⟩
theorem Rw (m : Nat) : ∀ n, HO N24 (Jb (wQ m n)) := au ag T20.right (fun k => [Jb k]) (fun k h => (aH h aE)) fun k a => by kernel_rfl
def t24 (m : Nat) : List Dat -> Option (List Un) := fun a0 =>
 chk (decide (0 < a0.length)) <|
 wQ m m (0, ((af a0 0).d 0), (((af a0 0).d 0).length : Int), 0)
theorem F7 (m : Nat) : ∀ (rest pre : List Dat) (n : Nat) (b : Int), rest.length < n -> (pre ++ rest).length <= 1000 -> (∀ d ∈ rest, BG d = true) -> 0 <= b -> b <= 1099511627776 * pre.length ->
 wQ m n (b, pre ++ rest, ((pre ++ rest).length : Int), (pre.length : Int)) = some [.i (b + ak 2 rest)] := by
 intro rest
 induction rest with
 | nil =>
  intro pre n b hn hl hg h0 h1; obtain ⟨n, rfl⟩ := al n (by simp at hn; omega); rw [ua]; unfold yY; dsimp only; simp [aw, ak]
 | cons x rest ih =>
  intro pre n b hn hl hg h0 h1; obtain ⟨n, rfl⟩ := al n (by simp at hn; omega); simp only [List.length_cons, List.length_append] at hn hl; have hx := IW (hg x (by simp)); rw [ua]; unfold yY; dsimp only; have := ih (pre ++ [x]) n (b + x.i 2) (by omega) (by simp; omega) (fun d hd => hg d (by simp [hd])) (by omega) (by simp; omega); simp only [ak] at this ⊢; simp (disch := omega) only [TRa, TRi, aa, LNl, LNi, Int.cast_ofNat_Int, ao]; simp only [LNl, LNi, Int.cast_ofNat_Int] at this ⊢; exact this
def f24 : List Dat -> Bool × List Un := fun a0 => (decide (0 < a0.length) && (decide (((af a0 0).d 0).length <= 1000) && ((af a0 0).d 0).all BG), [.i (ak 2 ((af a0 0).d 0))])
theorem Nb (a0 : List Dat) (hc : (decide (0 < a0.length) && (decide (((af a0 0).d 0).length <= 1000) && ((af a0 0).d 0).all BG)) = true) : ∃ m, t24 m a0 = some ([.i (ak 2 ((af a0 0).d 0))]) := by
 simp only [Bool.and_eq_true, decide_eq_true_eq, List.all_eq_true] at hc; refine ⟨((af a0 0).d 0).length + 1, ?_⟩; unfold t24; rw [aG hc.1]; exact (F7 _ ((af a0 0).d 0) [] (((af a0 0).d 0).length + 1) 0 (by omega) (by simpa using hc.2.1) hc.2.2 (by omega) (by simp)).trans (by simp only [Int.zero_add])
theorem KD : ER 24 (mkE N24.en N24.ex f24) := ar ag T20.right (fun m => [Jb (wQ m m)]) (t := t24) (by kernel_rfl) (fun m => (aH (Rw m m) aE)) (fun m a => by kernel_rfl) fun a0 hc => Nb a0 hc
def T24 : Tb Tryz.prog LQ TE := T20.add 24 _ KD
end
end Go.Proofs.YtdbkoeefnodejaaGreat
