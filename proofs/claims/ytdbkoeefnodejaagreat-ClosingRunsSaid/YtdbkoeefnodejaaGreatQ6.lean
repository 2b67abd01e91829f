/- Part of a proof: FlowPlain, Loss, Closing, ClosePlain, Close, Runs, WClosingRuns. Conditions: none. -/
import Derived.Test.YtdbkoeefnodejaaGreatQ5
set_option linter.unusedVariables false
set_option linter.unusedSimpArgs false
set_option linter.unnecessarySimpa false
set_option linter.unusedSectionVars false
namespace Go.Proofs.YtdbkoeefnodejaaGreat
noncomputable section
open Go Go.Proofs.YtdbkoeefnodejaaGreat.Ev
set_option maxRecDepth 20000
def bf (f : Dat -> Bool) : List Dat -> Int
 | [] => 0
 | d :: l => (bif f d then d.i 3 else 0) + bf f l
theorem gK (f : Dat -> Bool) : ∀ a b : List Dat, bf f (a ++ b) = bf f a + bf f b
 | [], b => by simp [bf]
 | d :: a, b => by simp only [List.cons_append, bf, gK f a b]; omega
theorem fl (f : Dat -> Bool) : ∀ l : List Dat, (∀ d ∈ l, f d = false) -> bf f l = 0
 | [], _ => rfl
 | d :: l, h => by simp only [bf, h d (by simp), fl f l (fun x hx => h x (by simp [hx])), cond_false]; rfl
theorem z6 (f : Dat -> Bool) : ∀ l : List Dat, (∀ d ∈ l, f d = true) -> bf f l = al 3 l
 | [], _ => rfl
 | d :: l, h => by simp only [bf, al, h d (by simp), z6 f l (fun x hx => h x (by simp [hx])), cond_true]
theorem oD {f g : Dat -> Bool} : ∀ l : List Dat, (∀ d ∈ l, f d = g d) -> bf f l = bf g l
 | [], _ => rfl
 | d :: l, h => by simp only [bf, h d (by simp), oD l (fun x hx => h x (by simp [hx]))]
def kF (d : Dat) : Bool := d.i 1 == 1
def kR (d : Dat) : Bool := d.i 1 == 2
def kT (d : Dat) : Bool := d.i 1 == 6
def kI (d : Dat) : Bool := d.i 1 == 3
def kB (d : Dat) : Bool := !kF d && !kR d && !kT d && !kI d
def kP (d : Dat) : Bool := kB d && d.i 1 != 7
def toI (i : Nat) (d : Dat) : Bool := kI d && d.i 2 == (i : Int)
def toB (i : Nat) (d : Dat) : Bool := kB d && d.i 2 == (i : Int)
theorem ka (a k : Int) : ∀ (xs : List Int) (i : Int), ∀ d ∈ bu a k i xs, d.i 0 = a /\ d.i 1 = k /\ (i <= d.i 2 /\ d.i 2 < i + xs.length) /\ 1 <= d.i 3 /\ d.i 3 = xs.getD (d.i 2 - i).toNat 0
 | [], i, d, h => by simp [bu] at h
 | x :: xs, i, d, h => by
  simp only [bu, List.mem_append] at h; rcases h with h | h
  · by_cases hx : 0 < x
    · rw [if_pos hx] at h; rw [List.mem_singleton.1 h]; refine ⟨rfl, rfl, ?_, ?_, ?_⟩
      · simp only [gU, List.length_cons, Int.natCast_add]; omega
      · simp only [eF]; omega
      · simp only [gU, eF, Int.sub_self, Int.toNat_zero, List.getD_cons_zero]
    · rw [if_neg hx] at h; cases h
  · obtain ⟨h1, h2, h3, h4, h5⟩ := ka a k xs (i + 1) d h; simp only [List.length_cons, Int.natCast_add]; refine ⟨h1, h2, by omega, h4, ?_⟩; rw [show (d.i 2 - i).toNat = (d.i 2 - (i + 1)).toNat + 1 by omega, List.getD_cons_succ]; exact h5
theorem vR (a k : Int) : ∀ (xs : List Int) (i : Int) (j : Nat), (∀ x ∈ xs, 0 <= x) -> bf (fun d => d.i 2 == i + j) (bu a k i xs) = xs.getD j 0
 | [], i, j, _ => by simp [bu, bf]
 | x :: xs, i, j, h => by
  have h0 := h x (by simp); simp only [bu, gK]; cases j with
  | zero =>
   have e : bf (fun d => d.i 2 == i + ((0 : Nat) : Int)) (bu a k (i + 1) xs) = 0 := fl _ _ fun d hd => by
    have := ka a k xs (i + 1) d hd; simp only [beq_eq_false_iff_ne]; omega
   rw [e, List.getD_cons_zero]
   by_cases hx : 0 < x
   · rw [if_pos hx]; simp [bf, gU, eF]
   · rw [if_neg hx]; simp only [bf]; omega
  | succ j =>
   have := vR a k xs (i + 1) j fun y hy => h y (by simp [hy])
   rw [show i + 1 + (j : Int) = i + ((j + 1 : Nat) : Int) by omega] at this; rw [this, List.getD_cons_succ]
   by_cases hx : 0 < x
   · rw [if_pos hx]; simp only [bf, gU]; rw [show (i == i + ((j + 1 : Nat) : Int)) = false by simp only [beq_eq_false_iff_ne]; omega]; simp
   · rw [if_neg hx]; simp [bf]
structure Kept (x : aW) (c ps : List Dat) (x' : aW) (c' : List Dat) : Prop where
 ax : x'.ax = x.ax - al 3 ps
 fee : x'.fee = x.fee - bf kF ps
 bt : x'.bt = x.bt - bf kR ps
 room : x'.room = x.room - bf kT ps
 pri : x'.aq = x.aq - bf kP ps
 len : c'.length = c.length
 row : ∀ i, i < c.length -> ah c' i = .r [.n ((ah c i).i 0), .n ((ah c i).i 1 - bf (toB i) ps), .n ((ah c i).i 2 - bf (toI i) ps)]
theorem Kept.refl {x : aW} {c : List Dat} (h : ∀ d ∈ c, ky 3 d = true) : Kept x c [] x c := by
 refine ⟨by simp [al], by simp [bf], by simp [bf], by simp [bf], by simp [bf], rfl, fun i hi => ?_⟩; simp only [bf, Int.sub_zero]; exact Bd (h _ (lZ hi))
theorem Kept.trans {x x' x'' : aW} {c c' c'' ps qs : List Dat} (a : Kept x c ps x' c') (b : Kept x' c' qs x'' c'') : Kept x c (ps ++ qs) x'' c'' := by
 refine ⟨?_, ?_, ?_, ?_, ?_, b.len.trans a.len, fun i hi => ?_⟩
 · rw [b.ax, a.ax, sL]; omega
 · rw [b.fee, a.fee, gK]; omega
 · rw [b.bt, a.bt, gK]; omega
 · rw [b.room, a.room, gK]; omega
 · rw [b.pri, a.pri, gK]; omega
 · rw [b.row i (by rw [a.len]; exact hi), a.row i hi, gK, gK]; simp only [MC, dM, gU]; rw [show (ah c i).i 1 - bf (toB i) ps - bf (toB i) qs = (ah c i).i 1 - (bf (toB i) ps + bf (toB i) qs) by omega, show (ah c i).i 2 - bf (toI i) ps - bf (toI i) qs = (ah c i).i 2 - (bf (toI i) ps + bf (toI i) qs) by omega]
theorem Kept.shares {c : List Dat} (sel : Dat -> Bool) (n : Int) (h : aM c = true) (x : aW) (a : Int) {j : Nat} {kd : Int} (hk : (j = 2 /\ kd = 3) \/ (j = 1 /\ (kd = 4 \/ kd = 5 \/ kd = 7))) :
 Kept x c (bu a kd 0 (ar sel j n c)) { x with ax := x.ax - (ar sel j n c).sum, aq := if kd = 4 \/ kd = 5 then x.aq - (ar sel j n c).sum else x.aq } (bB j (ar sel j n c) c) := by
 have hj : j = 1 \/ j = 2 := by omega
 obtain ⟨l1, l2, l3⟩ := dx sel hj n h; obtain ⟨h1, h2⟩ := bz h; have hm := A9 sel hj n h; have hp := ka a kd (ar sel j n c) 0; have hs := sC a kd (ar sel j n c) 0 hm; have hat := fun i => vR a kd (ar sel j n c) 0 i hm
 have kk : ∀ d ∈ bu a kd 0 (ar sel j n c), kF d = false /\ kR d = false /\ kT d = false /\ kI d = (kd == 3) /\ kB d = !(kd == 3) := fun d hd => by
  have := (hp d hd).2.1; simp only [kB, kF, kR, kT, kI, this]; rcases hk with ⟨_, rfl⟩ | ⟨_, rfl | rfl | rfl⟩ <;> decide
 refine ⟨by rw [hs], ?_, ?_, ?_, ?_, k8 j _ c l1, fun i hi => ?_⟩
 · rw [fl kF _ fun d hd => (kk d hd).1]; simp
 · rw [fl kR _ fun d hd => (kk d hd).2.1]; simp
 · rw [fl kT _ fun d hd => (kk d hd).2.2.1]; simp
 · by_cases h45 : kd = 4 \/ kd = 5
   · simp only [if_pos h45]; rw [z6 kP _ fun d hd => by
      have := (kk d hd).2.2.2.2; have h6 := (hp d hd).2.1; simp only [kP, this, h6]; rcases h45 with rfl | rfl <;> rfl, hs]
   · simp only [if_neg h45]; rw [fl kP _ fun d hd => by
      have := (kk d hd).2.2.2.2; have h6 := (hp d hd).2.1; simp only [kP, this, h6]; rcases hk with ⟨_, rfl⟩ | ⟨_, rfl | rfl | rfl⟩
      · rfl
      · exact absurd (.inl rfl) h45
      · exact absurd (.inr rfl) h45
      · rfl]
     simp
 · rw [kO j _ c i l1 hi]; have e2 := hat i; simp only [Int.zero_add] at e2; rcases hk with ⟨rfl, rfl⟩ | ⟨rfl, hk⟩
   · have a1 : bf (toB i) (bu a 3 0 (ar sel 2 n c)) = 0 := fl _ _ fun d hd => by simp only [toB, (kk d hd).2.2.2.2]; rfl
     have a2 : bf (toI i) (bu a 3 0 (ar sel 2 n c)) = (ar sel 2 n c).getD i 0 := by
      rw [<- e2]; exact oD _ fun d hd => by simp only [toI, (kk d hd).2.2.2.1]; rfl
     rw [a1, a2]; simp only [bN, show ¬ (2 : Nat) = 1 by decide, if_false, Int.sub_zero]
   · have k3 : (kd == 3) = false := by rcases hk with rfl | rfl | rfl <;> rfl
     have a1 : bf (toI i) (bu a kd 0 (ar sel 1 n c)) = 0 := fl _ _ fun d hd => by simp only [toI, (kk d hd).2.2.2.1, k3]; rfl
     have a2 : bf (toB i) (bu a kd 0 (ar sel 1 n c)) = (ar sel 1 n c).getD i 0 := by
      rw [<- e2]; exact oD _ fun d hd => by simp only [toB, (kk d hd).2.2.2.2, k3]; rfl
     rw [a1, a2]; simp only [bN, if_true, Int.sub_zero]
theorem Kept.nz {a kd : Int} (hk : kd = 4 \/ kd = 7) : ∀ (k : Nat) (r n : Int) (x : aW) (c : List Dat), aM c = true ->
 Kept x c (bl a kd k r n c).2.1 { x with ax := x.ax - (bl a kd k r n c).2.2, aq := if kd = 4 then x.aq - (bl a kd k r n c).2.2 else x.aq } (bl a kd k r n c).1
 | 0, r, n, x, c, h => by
  have := Kept.refl (x := x) fun d hd => (bZ ((bz h).2 d hd)).1
  simp only [bl, Int.sub_zero, ite_self]; exact this
 | k + 1, r, n, x, c, h => by
  obtain ⟨g1, g2⟩ := oe (aF r) (j := 1) (.inl rfl) n h; have a1 := Kept.shares (aF r) n h x a (j := 1) (kd := kd) (.inr ⟨rfl, by omega⟩); have a2 := Kept.nz (a := a) hk k (r + 1) (n - (ar (aF r) 1 n c).sum) { x with ax := x.ax - (ar (aF r) 1 n c).sum, aq := if kd = 4 \/ kd = 5 then x.aq - (ar (aF r) 1 n c).sum else x.aq } _ g1; have := a1.trans a2; simp only [bl]; have e : (if kd = 4 \/ kd = 5 then x.aq - (ar (aF r) 1 n c).sum else x.aq) = if kd = 4 then x.aq - (ar (aF r) 1 n c).sum else x.aq := by
   rcases hk with rfl | rfl <;> simp
  simp only [e] at this; generalize (bl a kd k (r + 1) (n - (ar (aF r) 1 n c).sum) (bB 1 (ar (aF r) 1 n c) c)).2.2 = y at *
  by_cases h4 : kd = 4
  · simp only [if_pos h4, Int.sub_sub] at this ⊢; exact this
  · simp only [if_neg h4, Int.sub_sub] at this ⊢; exact this
def zD (n : Nat) (a kd : Int) (d : Dat) : Prop := d.i 0 = a /\ d.i 1 = kd /\ 1 <= d.i 3 /\ (-1 <= d.i 2 /\ d.i 2 < n) /\ (d.i 2 < 0 ↔ (kd = 1 \/ kd = 2 \/ kd = 6))
theorem oG {a kd : Int} {xs : List Int} {n : Nat} (hl : xs.length = n) (hk : ¬ (kd = 1 \/ kd = 2 \/ kd = 6)) : ∀ d ∈ bu a kd 0 xs, zD n a kd d := fun d hd => by
 obtain ⟨h1, h2, h3, h4, h5⟩ := ka a kd xs 0 d hd; exact ⟨h1, h2, h4, by omega, by omega⟩
theorem mY {a kd : Int} (hk : ¬ (kd = 1 \/ kd = 2 \/ kd = 6)) : ∀ (k : Nat) (r n : Int) (c : List Dat), aM c = true -> ∀ d ∈ (bl a kd k r n c).2.1, zD c.length a kd d
 | 0, r, n, c, h, d, hd => by simp [bl] at hd
 | k + 1, r, n, c, h, d, hd => by
  obtain ⟨g1, g2⟩ := oe (aF r) (j := 1) (.inl rfl) n h; obtain ⟨l1, l2, l3⟩ := dx (aF r) (j := 1) (.inl rfl) n h; simp only [bl] at hd; rcases List.mem_append.1 hd with hd | hd
  · exact oG l1 hk d hd
  · have := mY hk k (r + 1) _ _ g1 d hd
    rwa [g2] at this
theorem kE {x : aW} {c : List Dat} (h : aM c = true) (a kd n : Int) (h0 : 0 <= n) (hk : kd = 1 \/ kd = 2 \/ kd = 6) :
 Kept x c (jb a kd n) { x with ax := x.ax - n, fee := if kd = 1 then x.fee - n else x.fee, bt := if kd = 2 then x.bt - n else x.bt, room := if kd = 6 then x.room - n else x.room } c /\ ∀ d ∈ jb a kd n, zD c.length a kd d := by
 have hr : ∀ d ∈ c, ky 3 d = true := fun d hd => (bZ ((bz h).2 d hd)).1
 unfold jb
 by_cases hn : 0 < n
 · rw [if_pos hn]; refine ⟨⟨by simp [al, eF], ?_, ?_, ?_, ?_, rfl, fun i hi => ?_⟩, fun d hd => ?_⟩
   · simp only [bf, kF, dM, eF]; rcases hk with rfl | rfl | rfl <;> simp
   · simp only [bf, kR, dM, eF]; rcases hk with rfl | rfl | rfl <;> simp
   · simp only [bf, kT, dM, eF]; rcases hk with rfl | rfl | rfl <;> simp
   · simp only [bf, kP, kB, kF, kR, kT, kI, dM, eF]; rcases hk with rfl | rfl | rfl <;> simp
   · have a1 : bf (toB i) [Dat.r [.n a, .n kd, .n (-1), .n n]] = 0 := by simp only [bf, toB, kB, kF, kR, kT, kI, dM, gU]; rcases hk with rfl | rfl | rfl <;> simp
     have a2 : bf (toI i) [Dat.r [.n a, .n kd, .n (-1), .n n]] = 0 := by simp only [bf, toI, kI, dM, gU]; rcases hk with rfl | rfl | rfl <;> simp
     rw [a1, a2, Int.sub_zero, Int.sub_zero]; exact Bd (hr _ (lZ hi))
   · rw [List.mem_singleton.1 hd]; refine ⟨rfl, rfl, ?_, ?_, ?_⟩
     · show (1 : Int) <= n; exact hn
     · exact ⟨Int.le_refl (-1), by show (-1 : Int) < (c.length : Int); omega⟩
     · show (-1 : Int) < 0 ↔ _; exact ⟨fun _ => hk, fun _ => by decide⟩
 · rw [if_neg hn]; obtain rfl : n = 0 := by omega
   simp only [Int.sub_zero, ite_self]; exact ⟨Kept.refl hr, fun d hd => by cases hd⟩
theorem BX (a kd rk : Int) {x : aW} {c : List Dat} (hx : mj x = true) (h : aM c = true) : Kept x c (cS a kd rk x c).2.2 (cS a kd rk x c).1 (cS a kd rk x c).2.1 /\ ∀ d ∈ (cS a kd rk x c).2.2, zD c.length a kd d := by
 have hx' := qG hx; have s1 := fun sel j hj n => (dx (c := c) sel (j := j) hj n h).1
 unfold cS
 by_cases k1 : kd = 1
 · rw [if_pos k1]; have := kE (x := x) h a kd (min x.fee x.ax) (by omega) (.inl k1); subst k1; exact this
 rw [if_neg k1]
 by_cases k2 : kd = 2
 · rw [if_pos k2]; have := kE (x := x) h a kd (min x.bt x.ax) (by omega) (.inr (.inl k2)); subst k2; exact this
 rw [if_neg k2]
 by_cases k6 : kd = 6
 · rw [if_pos k6]; have := kE (x := x) h a kd (min x.room x.ax) (by omega) (.inr (.inr k6)); subst k6; exact this
 rw [if_neg k6]; have hk : ¬ (kd = 1 \/ kd = 2 \/ kd = 6) := by omega
 by_cases k3 : kd = 3
 · rw [if_pos k3]; have := Kept.shares (aF rk) x.ax h x a (j := 2) (kd := kd) (.inl ⟨rfl, k3⟩); rw [if_neg (by omega)] at this; exact ⟨this, oG (s1 (aF rk) 2 (.inr rfl) x.ax) hk⟩
 rw [if_neg k3]
 by_cases k4 : kd = 4
 · rw [if_pos k4]; have := Kept.nz (a := a) (kd := kd) (.inl k4) 8 0 (min x.aq x.ax) x c h; simp only [if_pos k4] at this; have hp := mY (a := a) hk 8 0 (min x.aq x.ax) c h; generalize bl a kd 8 0 (min x.aq x.ax) c = y at *
   exact ⟨this, hp⟩
 rw [if_neg k4]
 by_cases k5 : kd = 5
 · rw [if_pos k5]; have := Kept.shares (fun _ => true) (min x.aq x.ax) h x a (j := 1) (kd := kd) (.inr ⟨rfl, by omega⟩); rw [if_pos (by omega)] at this; exact ⟨this, oG (s1 (fun _ => true) 1 (.inl rfl) _) hk⟩
 rw [if_neg k5]
 by_cases k7 : kd = 7
 · rw [if_pos k7]; have := Kept.nz (a := a) (kd := kd) (.inr k7) 8 0 x.ax x c h; simp only [if_neg k4] at this; have hp := mY (a := a) hk 8 0 x.ax c h; generalize bl a kd 8 0 x.ax c = y at *
   exact ⟨this, hp⟩
 rw [if_neg k7]; exact ⟨Kept.refl fun d hd => (bZ ((bz h).2 d hd)).1, fun d hd => by cases hd⟩
def EY (n : Nat) (a : Int) (l : List Dat) (d : Dat) : Prop := (a <= d.i 0 /\ d.i 0 < a + l.length) /\ zD n (d.i 0) (ah l (d.i 0 - a).toNat |>.i 0) d
theorem wj : ∀ (l : List Dat) (a : Int) (x : aW) (c : List Dat), mj x = true -> aM c = true -> Kept x c (de a l x c).2.2 (de a l x c).1 (de a l x c).2.1 /\ (∀ d ∈ (de a l x c).2.2, EY c.length a l d) /\ (de a l x c).2.2.Pairwise fun d e => d.i 0 <= e.i 0
 | [], a, x, c, hx, h => ⟨Kept.refl fun d hd => (bZ ((bz h).2 d hd)).1, fun d hd => by simp [de] at hd, List.Pairwise.nil⟩
 | s :: l, a, x, c, hx, h => by
  obtain ⟨h1, h2, h3, h4⟩ := tt a (s.i 0) (s.i 1) hx h; obtain ⟨k1, k2⟩ := BX a (s.i 0) (s.i 1) hx h; obtain ⟨i1, i2, i3⟩ := wj l (a + 1) _ _ h1 h2; simp only [de]; refine ⟨k1.trans i1, fun d hd => ?_, ?_⟩
  · rcases List.mem_append.1 hd with hd | hd
    · obtain ⟨g0, g1, g2, g3, g4⟩ := k2 d hd; refine ⟨by rw [g0, List.length_cons]; omega, ?_⟩; rw [g0, Int.sub_self]; exact ⟨g0, g1, g2, g3, g4⟩
    · obtain ⟨g0, g1⟩ := i2 d hd; rw [h3] at g1; refine ⟨by rw [List.length_cons]; omega, ?_⟩; rw [show (d.i 0 - a).toNat = (d.i 0 - (a + 1)).toNat + 1 by omega]; exact g1
  · rw [List.pairwise_append]; refine ⟨?_, i3, fun d hd e he => ?_⟩
    · refine List.Pairwise.imp_of_mem (R := fun _ _ => True) (fun {d e} hd he _ => ?_) (List.pairwise_of_forall fun _ _ => trivial); rw [(k2 d hd).1, (k2 e he).1]; exact Int.le_refl _
    · have := (k2 d hd).1; have := (i2 e he).1; omega
end
end Go.Proofs.YtdbkoeefnodejaaGreat
namespace Go.Proofs.YtdbkoeefnodejaaGreat
noncomputable section
open Go Go.Proofs.YtdbkoeefnodejaaGreat.Ev
set_option maxRecDepth 20000
def ct (u p l r : Int) : Int := min (min (max (u - p) 0) (max (l - r) 0)) (max u 0)
def OG : aA := ⟨T45.tab, 108, ⟨[.int .i64, .int .i64, .int .i64, .int .i64], [], 0⟩, ⟨[.int .i64], [], 0⟩, []⟩
def t108 (m : Nat) : Int × Int × Int × Int -> Option (List Un) := fun (a0, a1, a2, a3) =>
 lt ((if (w64 (a0 - a1)) < 0 then 0 else (w64 (a0 - a1))) : Int) fun x1 =>
 lt ((if (w64 (a2 - a3)) < 0 then 0 else (w64 (a2 - a3))) : Int) fun x2 =>
 lt ((if a0 < 0 then 0 else a0) : Int) fun x3 =>
 some ([.i (if x3 < (if x2 < x1 then x2 else x1) then x3 else (if x2 < x1 then x2 else x1))])
def f108 : Int × Int × Int × Int -> Bool × List Un := fun (a0, a1, a2, a3) => (decide ((-1152921504606846976 <= a0 /\ a0 <= 1152921504606846976) /\ (-1152921504606846976 <= a1 /\ a1 <= 1152921504606846976) /\ (-1152921504606846976 <= a2 /\ a2 <= 1152921504606846976) /\ (-1152921504606846976 <= a3 /\ a3 <= 1152921504606846976)), [.i (ct a0 a1 a2 a3)])
theorem HU (a0 : Int) (a1 : Int) (a2 : Int) (a3 : Int) (hc : (decide ((-1152921504606846976 <= a0 /\ a0 <= 1152921504606846976) /\ (-1152921504606846976 <= a1 /\ a1 <= 1152921504606846976) /\ (-1152921504606846976 <= a2 /\ a2 <= 1152921504606846976) /\ (-1152921504606846976 <= a3 /\ a3 <= 1152921504606846976))) = true) : ∃ m, t108 m (a0, a1, a2, a3) = some ([.i (ct a0 a1 a2 a3)]) := by
 have h := of_decide_eq_true hc; refine ⟨0, ?_⟩; unfold t108 ct; simp only [lt_eq]; rw [aa (n := a0 - a1) (by omega) (by omega), aa (n := a2 - a3) (by omega) (by omega)]
 congr 3
 omega
theorem Gr : ER 108 (mkE OG.en OG.ex f108) := an ai T45.right (fun m => []) (t := t108) (by kernel_rfl) (fun m => az) (fun m a => by kernel_rfl) fun (a0, a1, a2, a3) hc => HU a0 a1 a2 a3 hc
def Ja : Tb Tryz.prog LQ TE := T45.add 108 _ Gr
def bP (n : Int) : Nat -> List Int
 | 0 => []
 | k + 1 => n :: bP (n + 1) k
theorem fj : ∀ (k : Nat) (n : Int), (bP n k).length = k
 | 0, _ => rfl
 | k + 1, n => by simp [bP, fj k]
theorem v9 : ∀ (k j : Nat) (n : Int), j < k -> (bP n k).getD j 0 = n + j
 | 0, j, n, h => by omega
 | k + 1, 0, n, h => by simp [bP]
 | k + 1, j + 1, n, h => by
  simp only [bP, List.getD_cons_succ, v9 k j (n + 1) (by omega)]; omega
theorem xr {c : List Dat} {i : Nat} (h : i < c.length) : (bP 0 c.length).getD i 0 = (i : Int) := by rw [v9 _ _ _ h]; omega
theorem bX {c : List Dat} {i : Nat} (h : i < c.length) (hg : ∀ d ∈ c, aH d = true) : aH (ah c i) = true := hg _ (uc h)
theorem Fi {d : Dat} (h : aH d = true) : w64 (w64 (d.i 1 - w64 (d.i 3 - d.i 4)) - d.i 6) = aZ d := by
 have := bW h; rw [aa (n := d.i 3 - d.i 4) (by omega) (by omega), aa (n := d.i 1 - _) (by omega) (by omega), aa (by omega) (by omega)]; rfl
theorem vI (j : Nat) : ∀ (c : List Dat) (i : Nat), i < c.length -> al j (c.drop i) = (ah c i).i j + al j (c.drop (i + 1))
 | [], i, h => by simp at h
 | d :: c, 0, _ => by simp [al, ah]
 | d :: c, i + 1, h => by
  have := vI j c i (by simpa using h); simpa [ah] using this
def K4 : aA := ⟨Ja.tab, 144, ⟨[.buf 0 1], [.cW 1 7 0, .af (sI 7)], 2⟩, ⟨[.int .i64], [.cW 1 7 0, .af (sI 7)], 2⟩, []⟩
abbrev wZ : Type := Int × Int × Int × List Int × List Dat
def qX (m : Nat) (k : wZ -> Option (List Un)) : wZ -> Option (List Un) := fun (a0, a1, a2, a3, a4) =>
 bif decide (a2 < a1) then
 chk (inb a2 a3.length) <|
 chk (decide (a2.toNat < a3.length)) <|
 bif (!((decide ((a3.getD a2.toNat 0) < 0)) && true)) then
 chk (decide (0 <= (a3.getD a2.toNat 0))) <|
 chk (decide ((a3.getD a2.toNat 0).toNat < a4.length)) <|
 k ((w64 (a0 + ((ah a4 ((a3.getD a2.toNat 0).toNat)).i 6))), a1, (w64 (a2 + 1)), a3, a4)
 else
 k (a0, a1, (w64 (a2 + 1)), a3, a4)
 else
 some ([.i a0, .l a3, .d a4])
def pj (m : Nat) : Nat -> wZ -> Option (List Un) := bc (qX m)
theorem pO (m : Nat) (n : Nat) : pj m (n + 1) = qX m (pj m n) := rfl
def B5 (F : wZ -> Option (List Un)) : aP := ⟨[.lp [0, 1, 0, 1, 1], .blk 0, .code [1, 1, 1]], ⟨frm 22 [(3, .int .i64), (6, .buf 0 1), (7, .int .i64), (8, .int .i64)], [.cW 1 7 0, .af (sI 7)], 2⟩, onU F⟩
theorem KZ (m : Nat) : ∀ n, HO K4 (B5 (pj m n)) := aw ai Ja.right (fun k => [B5 k]) (fun k h => (aE h az)) fun k a => by kernel_rfl
def t144 (m : Nat) : List Int × List Dat -> Option (List Un) := fun (a0, a1) =>
 pj m m (0, (a0.length : Int), 0, a0, a1)
theorem Nd (m : Nat) (c : List Dat) (hl : c.length <= 1000) (hg : ∀ d ∈ c, aH d = true) : ∀ (k i n : Nat) (s : Int), i + k = c.length -> k < n -> 0 <= s -> s <= 1099511627776 * i ->
 pj m n (s, (c.length : Int), (i : Int), bP 0 c.length, c) = some [.i (s + al 6 (c.drop i)), .l (bP 0 c.length), .d c] := by
 intro k
 induction k with
 | zero =>
  intro i n s hi hn s0 s1; obtain ⟨n, rfl⟩ := ak n (by omega); rw [pO]; unfold qX; dsimp only; rw [aB (by omega), List.drop_eq_nil_of_le (by omega)]; simp [al]
 | succ k ih =>
  intro i n s hi hn s0 s1; obtain ⟨n, rfl⟩ := ak n (by omega); have hk := xr (c := c) (i := i) (by omega); have hL := fj c.length 0; have hx := bW (bX (i := i) (by omega) hg); have := ih (i + 1) n (s + (ah c i).i 6) (by omega) (by omega) (by omega) (by omega); rw [vI 6 c i (by omega), <- Int.add_assoc]; rw [pO]; unfold qX; dsimp only; simp only [Int.toNat_natCast, hk, hL, Bool.and_true, decide_true]; simp (disch := omega) only [TRa, TRi, aa, LNl, LNi, Int.cast_ofNat_Int]; simp only [LNl, LNi, Int.cast_ofNat_Int] at this ⊢; exact this
def f144 : List Int × List Dat -> Bool × List Un := fun (a0, a1) => ((decide (a0 = bP 0 a1.length)) && (decide (a1.length <= 1000) && a1.all aH), [.i (al 6 a1), .l (a0), .d (a1)])
theorem HG (a0 : List Int) (a1 : List Dat) (hc : ((decide (a0 = bP 0 a1.length)) && (decide (a1.length <= 1000) && a1.all aH)) = true) : ∃ m, t144 m (a0, a1) = some ([.i (al 6 a1), .l (a0), .d (a1)]) := by
 simp only [Bool.and_eq_true, decide_eq_true_eq, List.all_eq_true] at hc; obtain ⟨rfl, h1, h2⟩ := hc; refine ⟨a1.length + 1, ?_⟩; unfold t144; dsimp only; rw [fj]; exact (Nd _ a1 h1 h2 a1.length 0 _ 0 (by omega) (by omega) (by omega) (by simp)).trans (by simp only [Int.zero_add, List.drop_zero])
theorem GB : ER 144 (mkE K4.en K4.ex f144) := an ai Ja.right (fun m => [B5 (pj m m)]) (t := t144) (by kernel_rfl) (fun m => (aE (KZ m m) az)) (fun m a => by kernel_rfl) fun (a0, a1) hc => HG a0 a1 hc
def IH : Tb Tryz.prog LQ TE := Ja.add 144 _ GB
def eP (c : List Dat) : Nat -> Nat -> Int -> Int
 | 0, _, o => o
 | k + 1, i, o => eP c k (i + 1) (if 0 < aZ (ah c i) /\ (o < 0 \/ (ah c o.toNat).i 0 <= (ah c i).i 0) then (i : Int) else o)
theorem wW (c : List Dat) : ∀ (k i : Nat) (o : Int), i + k = c.length -> -1 <= o -> o < c.length -> -1 <= eP c k i o /\ eP c k i o < c.length
 | 0, _, o, _, h1, h2 => ⟨h1, h2⟩
 | k + 1, i, o, h, h1, h2 => by
  unfold eP
  split
  · exact wW c k (i + 1) _ (by omega) (by omega) (by omega)
  · exact wW c k (i + 1) _ (by omega) (by omega) (by omega)
def L3 : aA := ⟨IH.tab, 145, ⟨[.buf 0 1], [.cW 1 7 0, .af (sI 7)], 2⟩, ⟨[.np 1 7 0], [.cW 1 7 0, .af (sI 7)], 2⟩, []⟩
abbrev wL : Type := Int × Int × Int × List Int × List Dat
def rh (m : Nat) (k : wL -> Option (List Un)) : wL -> Option (List Un) := fun (a0, a1, a2, a3, a4) =>
 bif decide (a2 < a1) then
 chk (inb a2 a3.length) <|
 chk (decide (a2.toNat < a3.length)) <|
 bif (!((decide ((a3.getD a2.toNat 0) < 0)) && true)) then
 chk (decide (0 <= (a3.getD a2.toNat 0))) <|
 chk (decide ((a3.getD a2.toNat 0).toNat < a4.length)) <|
 lt (ah a4 ((a3.getD a2.toNat 0).toNat) : Dat) fun d2 =>
 bif decide ((w64 (w64 ((d2.i 1) - w64 ((d2.i 3) - (d2.i 4))) - (d2.i 6))) > 0) then
 bif ((decide (a0 < 0)) && true) then
 k ((a3.getD a2.toNat 0), a1, (w64 (a2 + 1)), a3, a4)
 else
 chk (decide (0 <= (a3.getD a2.toNat 0))) <|
 chk (decide ((a3.getD a2.toNat 0).toNat < a4.length)) <|
 chk (decide (0 <= a0)) <|
 chk (decide (a0.toNat < a4.length)) <|
 bif (decide (((ah a4 ((a3.getD a2.toNat 0).toNat)).i 0) >= ((ah a4 a0.toNat).i 0))) then
 k ((a3.getD a2.toNat 0), a1, (w64 (a2 + 1)), a3, a4)
 else
 k (a0, a1, (w64 (a2 + 1)), a3, a4)
 else
 k (a0, a1, (w64 (a2 + 1)), a3, a4)
 else
 k (a0, a1, (w64 (a2 + 1)), a3, a4)
 else
 some ([.i a0, .l a3, .d a4])
def oZ (m : Nat) : Nat -> wL -> Option (List Un) := bc (rh m)
theorem pL (m : Nat) (n : Nat) : oZ m (n + 1) = rh m (oZ m n) := rfl
def Bt (F : wL -> Option (List Un)) : aP := ⟨[.lp [0, 1, 0, 1, 1], .blk 0, .code [1, 1, 1]], ⟨frm 41 [(3, .np 1 7 0), (6, .buf 0 1), (7, .int .i64), (8, .int .i64)], [.cW 1 7 0, .af (sI 7)], 2⟩, onU F⟩
theorem M3 (m : Nat) : ∀ n, HO L3 (Bt (oZ m n)) := aw ai IH.right (fun k => [Bt k]) (fun k h => (aE h az)) fun k a => by kernel_rfl
def t145 (m : Nat) : List Int × List Dat -> Option (List Un) := fun (a0, a1) =>
 oZ m m ((-1), (a0.length : Int), 0, a0, a1)
theorem OD (m : Nat) (c : List Dat) (hl : c.length <= 1000) (hg : ∀ d ∈ c, aH d = true) : ∀ (k i n : Nat) (o : Int), i + k = c.length -> k < n -> -1 <= o -> o < c.length ->
 oZ m n (o, (c.length : Int), (i : Int), bP 0 c.length, c) = some [.i (eP c k i o), .l (bP 0 c.length), .d c] := by
 intro k
 induction k with
 | zero =>
  intro i n o hi hn o0 o1; obtain ⟨n, rfl⟩ := ak n (by omega); rw [pL]; unfold rh; dsimp only; rw [aB (by omega)]; rfl
 | succ k ih =>
  intro i n o hi hn o0 o1; obtain ⟨n, rfl⟩ := ak n (by omega); have hk := xr (c := c) (i := i) (by omega); have hL := fj c.length 0; have hx := bW (bX (i := i) (by omega) hg); have ia := ih (i + 1) n (i : Int) (by omega) (by omega) (by omega) (by omega); have ib := ih (i + 1) n o (by omega) (by omega) (by omega) (by omega); rw [pL]; unfold rh; dsimp only; unfold eP; have e := Fi (bX (c := c) (i := i) (by omega) hg); simp only [lt_eq, Int.toNat_natCast, hk, hL, Bool.and_true, decide_true, e, ge_iff_le, gt_iff_lt]
  by_cases h1 : 0 < aZ (ah c i)
  · by_cases h2 : o < 0
    · have hc : 0 < aZ (ah c i) /\ (o < 0 \/ (ah c o.toNat).i 0 <= (ah c i).i 0) := ⟨h1, .inl h2⟩
      rw [if_pos hc]; simp (disch := omega) only [TRa, TRi, aa, LNl, LNi, Int.cast_ofNat_Int]; simp only [Int.natCast_add, Int.cast_ofNat_Int] at ia ib ⊢; exact ia
    · by_cases h3 : (ah c o.toNat).i 0 <= (ah c i).i 0
      · have hc : 0 < aZ (ah c i) /\ (o < 0 \/ (ah c o.toNat).i 0 <= (ah c i).i 0) := ⟨h1, .inr h3⟩
        rw [if_pos hc]; simp (disch := omega) only [TRa, TRi, aa, LNl, LNi, Int.cast_ofNat_Int]; simp only [Int.natCast_add, Int.cast_ofNat_Int] at ia ib ⊢; exact ia
      · have hc : ¬ (0 < aZ (ah c i) /\ (o < 0 \/ (ah c o.toNat).i 0 <= (ah c i).i 0)) := fun h => h.2.elim h2 h3
        rw [if_neg hc]; simp (disch := omega) only [TRa, TRi, aa, LNl, LNi, Int.cast_ofNat_Int]; simp only [Int.natCast_add, Int.cast_ofNat_Int] at ia ib ⊢; exact ib
  · have hc : ¬ (0 < aZ (ah c i) /\ (o < 0 \/ (ah c o.toNat).i 0 <= (ah c i).i 0)) := fun h => h1 h.1
    rw [if_neg hc]; simp (disch := omega) only [TRa, TRi, aa, LNl, LNi, Int.cast_ofNat_Int]; simp only [Int.natCast_add, Int.cast_ofNat_Int] at ia ib ⊢; exact ib
def f145 : List Int × List Dat -> Bool × List Un := fun (a0, a1) => ((decide (a0 = bP 0 a1.length)) && (decide (a1.length <= 1000) && a1.all aH), [.i (eP a1 a1.length 0 (-1)), .l (a0), .d (a1)])
theorem Jv (a0 : List Int) (a1 : List Dat) (hc : ((decide (a0 = bP 0 a1.length)) && (decide (a1.length <= 1000) && a1.all aH)) = true) : ∃ m, t145 m (a0, a1) = some ([.i (eP a1 a1.length 0 (-1)), .l (a0), .d (a1)]) := by
 simp only [Bool.and_eq_true, decide_eq_true_eq, List.all_eq_true] at hc; obtain ⟨rfl, h1, h2⟩ := hc; refine ⟨a1.length + 1, ?_⟩; unfold t145; dsimp only; rw [fj]; exact OD _ a1 h1 h2 a1.length 0 _ (-1) (by omega) (by omega) (by omega) (by omega)
theorem Fp : ER 145 (mkE L3.en L3.ex f145) := an ai IH.right (fun m => [Bt (oZ m m)]) (t := t145) (by kernel_rfl) (fun m => (aE (M3 m m) az)) (fun m a => by kernel_rfl) fun (a0, a1) hc => Jv a0 a1 hc
def Kt : Tb Tryz.prog LQ TE := IH.add 145 _ Fp
def eQ (c : List Dat) : Nat -> Nat -> Int -> Int
 | 0, _, o => o
 | k + 1, i, o => eQ c k (i + 1) (if 0 < (ah c i).i 6 /\ (o < 0 \/ (ah c i).i 0 < (ah c o.toNat).i 0) then (i : Int) else o)
theorem ya (c : List Dat) : ∀ (k i : Nat) (o : Int), i + k = c.length -> -1 <= o -> o < c.length -> -1 <= eQ c k i o /\ eQ c k i o < c.length
 | 0, _, o, _, h1, h2 => ⟨h1, h2⟩
 | k + 1, i, o, h, h1, h2 => by
  unfold eQ
  split
  · exact ya c k (i + 1) _ (by omega) (by omega) (by omega)
  · exact ya c k (i + 1) _ (by omega) (by omega) (by omega)
def L8 : aA := ⟨Kt.tab, 147, ⟨[.buf 0 1], [.cW 1 7 0, .af (sI 7)], 2⟩, ⟨[.np 1 7 0], [.cW 1 7 0, .af (sI 7)], 2⟩, []⟩
abbrev xE : Type := Int × Int × Int × List Int × List Dat
def qW (m : Nat) (k : xE -> Option (List Un)) : xE -> Option (List Un) := fun (a0, a1, a2, a3, a4) =>
 bif decide (a2 < a1) then
 chk (inb a2 a3.length) <|
 chk (decide (a2.toNat < a3.length)) <|
 bif (!((decide ((a3.getD a2.toNat 0) < 0)) && true)) then
 chk (decide (0 <= (a3.getD a2.toNat 0))) <|
 chk (decide ((a3.getD a2.toNat 0).toNat < a4.length)) <|
 bif decide (((ah a4 ((a3.getD a2.toNat 0).toNat)).i 6) > 0) then
 bif ((decide (a0 < 0)) && true) then
 k ((a3.getD a2.toNat 0), a1, (w64 (a2 + 1)), a3, a4)
 else
 chk (decide (0 <= (a3.getD a2.toNat 0))) <|
 chk (decide ((a3.getD a2.toNat 0).toNat < a4.length)) <|
 chk (decide (0 <= a0)) <|
 chk (decide (a0.toNat < a4.length)) <|
 bif (decide (((ah a4 ((a3.getD a2.toNat 0).toNat)).i 0) < ((ah a4 a0.toNat).i 0))) then
 k ((a3.getD a2.toNat 0), a1, (w64 (a2 + 1)), a3, a4)
 else
 k (a0, a1, (w64 (a2 + 1)), a3, a4)
 else
 k (a0, a1, (w64 (a2 + 1)), a3, a4)
 else
 k (a0, a1, (w64 (a2 + 1)), a3, a4)
 else
 some ([.i a0, .l a3, .d a4])
def pt (m : Nat) : Nat -> xE -> Option (List Un) := bc (qW m)
theorem qp (m : Nat) (n : Nat) : pt m (n + 1) = qW m (pt m n) := rfl
def AU (F : xE -> Option (List Un)) : aP := ⟨[.lp [0, 1, 0, 1, 1], .blk 0, .code [1, 1, 1]], ⟨frm 41 [(3, .np 1 7 0), (6, .buf 0 1), (7, .int .i64), (8, .int .i64)], [.cW 1 7 0, .af (sI 7)], 2⟩, onU F⟩
theorem NH (m : Nat) : ∀ n, HO L8 (AU (pt m n)) := aw ai Kt.right (fun k => [AU k]) (fun k h => (aE h az)) fun k a => by kernel_rfl
def t147 (m : Nat) : List Int × List Dat -> Option (List Un) := fun (a0, a1) =>
 pt m m ((-1), (a0.length : Int), 0, a0, a1)
theorem O0 (m : Nat) (c : List Dat) (hl : c.length <= 1000) (hg : ∀ d ∈ c, aH d = true) : ∀ (k i n : Nat) (o : Int), i + k = c.length -> k < n -> -1 <= o -> o < c.length ->
 pt m n (o, (c.length : Int), (i : Int), bP 0 c.length, c) = some [.i (eQ c k i o), .l (bP 0 c.length), .d c] := by
 intro k
 induction k with
 | zero =>
  intro i n o hi hn o0 o1; obtain ⟨n, rfl⟩ := ak n (by omega); rw [qp]; unfold qW; dsimp only; rw [aB (by omega)]; rfl
 | succ k ih =>
  intro i n o hi hn o0 o1; obtain ⟨n, rfl⟩ := ak n (by omega); have hk := xr (c := c) (i := i) (by omega); have hL := fj c.length 0; have hx := bW (bX (i := i) (by omega) hg); have ia := ih (i + 1) n (i : Int) (by omega) (by omega) (by omega) (by omega); have ib := ih (i + 1) n o (by omega) (by omega) (by omega) (by omega); rw [qp]; unfold qW; dsimp only; unfold eQ; have e := Fi (bX (c := c) (i := i) (by omega) hg); simp only [lt_eq, Int.toNat_natCast, hk, hL, Bool.and_true, decide_true, e, ge_iff_le, gt_iff_lt]
  by_cases h1 : 0 < (ah c i).i 6
  · by_cases h2 : o < 0
    · have hc : 0 < (ah c i).i 6 /\ (o < 0 \/ (ah c i).i 0 < (ah c o.toNat).i 0) := ⟨h1, .inl h2⟩
      rw [if_pos hc]; simp (disch := omega) only [TRa, TRi, aa, LNl, LNi, Int.cast_ofNat_Int]; simp only [Int.natCast_add, Int.cast_ofNat_Int] at ia ib ⊢; exact ia
    · by_cases h3 : (ah c i).i 0 < (ah c o.toNat).i 0
      · have hc : 0 < (ah c i).i 6 /\ (o < 0 \/ (ah c i).i 0 < (ah c o.toNat).i 0) := ⟨h1, .inr h3⟩
        rw [if_pos hc]; simp (disch := omega) only [TRa, TRi, aa, LNl, LNi, Int.cast_ofNat_Int]; simp only [Int.natCast_add, Int.cast_ofNat_Int] at ia ib ⊢; exact ia
      · have hc : ¬ (0 < (ah c i).i 6 /\ (o < 0 \/ (ah c i).i 0 < (ah c o.toNat).i 0)) := fun h => h.2.elim h2 h3
        rw [if_neg hc]; simp (disch := omega) only [TRa, TRi, aa, LNl, LNi, Int.cast_ofNat_Int]; simp only [Int.natCast_add, Int.cast_ofNat_Int] at ia ib ⊢; exact ib
  · have hc : ¬ (0 < (ah c i).i 6 /\ (o < 0 \/ (ah c i).i 0 < (ah c o.toNat).i 0)) := fun h => h1 h.1
    rw [if_neg hc]; simp (disch := omega) only [TRa, TRi, aa, LNl, LNi, Int.cast_ofNat_Int]; simp only [Int.natCast_add, Int.cast_ofNat_Int] at ia ib ⊢; exact ib
def f147 : List Int × List Dat -> Bool × List Un := fun (a0, a1) => ((decide (a0 = bP 0 a1.length)) && (decide (a1.length <= 1000) && a1.all aH), [.i (eQ a1 a1.length 0 (-1)), .l (a0), .d (a1)])
theorem J5 (a0 : List Int) (a1 : List Dat) (hc : ((decide (a0 = bP 0 a1.length)) && (decide (a1.length <= 1000) && a1.all aH)) = true) : ∃ m, t147 m (a0, a1) = some ([.i (eQ a1 a1.length 0 (-1)), .l (a0), .d (a1)]) := by
 simp only [Bool.and_eq_true, decide_eq_true_eq, List.all_eq_true] at hc; obtain ⟨rfl, h1, h2⟩ := hc; refine ⟨a1.length + 1, ?_⟩; unfold t147; dsimp only; rw [fj]; exact O0 _ a1 h1 h2 a1.length 0 _ (-1) (by omega) (by omega) (by omega) (by omega)
theorem Ee : ER 147 (mkE L8.en L8.ex f147) := an ai Kt.right (fun m => [AU (pt m m)]) (t := t147) (by kernel_rfl) (fun m => (aE (NH m m) az)) (fun m a => by kernel_rfl) fun (a0, a1) hc => J5 a0 a1 hc
def Fw : Tb Tryz.prog LQ TE := Kt.add 147 _ Ee
theorem kH (i : Nat) (y : Dat) : ∀ (l : List Dat) (j : Nat), j < l.length -> al i (l.set j y) = al i l - (ah l j).i i + y.i i
 | [], j, h => by simp at h
 | d :: l, 0, h => by simp only [List.set_cons_zero, al, ah, List.getD_cons_zero]; omega
 | d :: l, j + 1, h => by
  have := kH i y l j (by simpa using h); simp only [ah] at this; simp only [List.set_cons_succ, al, ah, List.getD_cons_succ, this]; omega
theorem sX {l : List Dat} {j : Nat} {y : Dat} (h : j < l.length) : ah (l.set j y) j = y := by
 unfold ah; rw [List.getD_eq_getElem?_getD, List.getElem?_set_self h]; rfl
theorem ly {l : List Dat} {j i : Nat} {y : Dat} (h : i ≠ j) : ah (l.set j y) i = ah l i := by
 unfold ah; rw [List.getD_eq_getElem?_getD, List.getD_eq_getElem?_getD, List.getElem?_set_ne (by omega)]
def wH (p : Dat -> Prop) [DecidablePred p] : List Dat -> Nat
 | [] => 0
 | d :: l => (if p d then 1 else 0) + wH p l
theorem yj (p : Dat -> Prop) [DecidablePred p] : ∀ l : List Dat, wH p l <= l.length
 | [] => Nat.le_refl _
 | d :: l => by have := yj p l; simp only [wH, List.length_cons]; split <;> omega
theorem tP (p : Dat -> Prop) [DecidablePred p] (y : Dat) (hy : ¬ p y) : ∀ (l : List Dat) (j : Nat), j < l.length -> p (ah l j) -> wH p (l.set j y) + 1 = wH p l
 | [], j, h, _ => by simp at h
 | d :: l, 0, h, hp => by
  have hp : p d := hp; simp only [List.set_cons_zero, wH, if_neg hy, if_pos hp]; omega
 | d :: l, j + 1, h, hp => by
  have := tP p y hy l j (by simpa using h) hp; simp only [List.set_cons_succ, wH]; omega
def cZ (c : List Dat) : Prop := c.length <= 1000 /\ ∀ d ∈ c, aH d = true
theorem dU {c : List Dat} (h : cZ c) : (decide (c.length <= 1000) && c.all aH) = true := by
 rw [Bool.and_eq_true, List.all_eq_true]; exact ⟨decide_eq_true h.1, h.2⟩
theorem mh {c : List Dat} {j : Nat} {y : Dat} (h : cZ c) (hy : aH y = true) : cZ (c.set j y) := ⟨by rw [List.length_set]; exact h.1, CP h.2 hy⟩
theorem qZ (c : List Dat) : ∀ (k i : Nat) (o : Int), i + k = c.length -> (o < 0 \/ 0 < aZ (ah c o.toNat)) -> (eP c k i o < 0 -> o < 0 /\ ∀ j, i <= j -> j < c.length -> aZ (ah c j) <= 0) /\ (0 <= eP c k i o -> 0 < aZ (ah c (eP c k i o).toNat))
 | 0, i, o, h, ho => ⟨fun h1 => ⟨h1, fun j h2 h3 => by omega⟩, fun h1 => by simp only [eP] at h1 ⊢; omega⟩
 | k + 1, i, o, h, ho => by
  unfold eP
  split
  · rename_i hc; obtain ⟨a, b⟩ := qZ c k (i + 1) (i : Int) (by omega) (.inr (by rw [Int.toNat_natCast]; exact hc.1)); exact ⟨fun h1 => by have := (a h1).1; omega, b⟩
  · rename_i hc; obtain ⟨a, b⟩ := qZ c k (i + 1) o (by omega) ho; refine ⟨fun h1 => ⟨(a h1).1, fun j h2 h3 => ?_⟩, b⟩
    by_cases hj : j = i
    · subst hj; have := (a h1).1; omega
    · exact (a h1).2 j (by omega) h3
theorem rE (c : List Dat) : ∀ (k i : Nat) (o : Int), i + k = c.length -> (o < 0 \/ 0 < (ah c o.toNat).i 6) -> (eQ c k i o < 0 -> o < 0 /\ ∀ j, i <= j -> j < c.length -> (ah c j).i 6 <= 0) /\ (0 <= eQ c k i o -> 0 < (ah c (eQ c k i o).toNat).i 6)
 | 0, i, o, h, ho => ⟨fun h1 => ⟨h1, fun j h2 h3 => by omega⟩, fun h1 => by simp only [eQ] at h1 ⊢; omega⟩
 | k + 1, i, o, h, ho => by
  unfold eQ
  split
  · rename_i hc; obtain ⟨a, b⟩ := rE c k (i + 1) (i : Int) (by omega) (.inr (by rw [Int.toNat_natCast]; exact hc.1)); exact ⟨fun h1 => by have := (a h1).1; omega, b⟩
  · rename_i hc; obtain ⟨a, b⟩ := rE c k (i + 1) o (by omega) ho; refine ⟨fun h1 => ⟨(a h1).1, fun j h2 h3 => ?_⟩, b⟩
    by_cases hj : j = i
    · subst hj; have := (a h1).1; omega
    · exact (a h1).2 j (by omega) h3
def qD : Nat -> Int -> List Dat -> List Dat
 | 0, _, c => c
 | k + 1, t, c => if al 6 c < t then (if eP c c.length 0 (-1) < 0 then c else qD k t (c.set (eP c c.length 0 (-1)).toNat (dm (t - al 6 c) (ah c (eP c c.length 0 (-1)).toNat)))) else c
def oJ : Nat -> Int -> List Dat -> List Dat
 | 0, _, c => c
 | k + 1, t, c => if t < al 6 c then (if eQ c c.length 0 (-1) < 0 then c else oJ k t (c.set (eQ c c.length 0 (-1)).toNat (eX (al 6 c - t) (ah c (eQ c c.length 0 (-1)).toNat)))) else c
def eS (t : Int) (c : List Dat) : List Dat := oJ (c.length + 2) (max t 0) (qD (c.length + 2) (max t 0) c)
theorem Er (w : Int) (d : Dat) : (dm w d).i 6 = d.i 6 + lQ w d /\ aZ (dm w d) = aZ d - lQ w d := by
 simp only [dm, aZ, dM, eF, rR, mI]; exact ⟨trivial, by omega⟩
theorem Iq (w : Int) (d : Dat) : (eX w d).i 6 = d.i 6 - kQ w d := by
 simp only [eX, mI]
def tD (t : Int) (c : List Dat) : Nat := if al 6 c < t then wH (fun d => 0 < aZ d) c + 1 else 0
def sy (t : Int) (c : List Dat) : Nat := if t < al 6 c then wH (fun d => 0 < d.i 6) c + 1 else 0
theorem KC {t : Int} {c : List Dat} (hg : cZ c) (hs : al 6 c < t) (hj : 0 <= eP c c.length 0 (-1)) :
 (eP c c.length 0 (-1)).toNat < c.length /\ cZ (c.set (eP c c.length 0 (-1)).toNat (dm (t - al 6 c) (ah c (eP c c.length 0 (-1)).toNat))) /\ tD t (c.set (eP c c.length 0 (-1)).toNat (dm (t - al 6 c) (ah c (eP c c.length 0 (-1)).toNat))) < tD t c /\
 al 6 (c.set (eP c c.length 0 (-1)).toNat (dm (t - al 6 c) (ah c (eP c c.length 0 (-1)).toNat))) <= t := by
 have h1 := wW c c.length 0 (-1) (by omega) (by omega) (by omega); have h2 := (qZ c c.length 0 (-1) (by omega) (.inl (by omega))).2 hj; generalize eP c c.length 0 (-1) = o at *
 have h3 : o.toNat < c.length := by omega
 have hn := bX h3 hg.2; have e6 := Er (t - al 6 c) (ah c o.toNat); have es := kH 6 (dm (t - al 6 c) (ah c o.toNat)) c o.toNat h3; have hp : lQ (t - al 6 c) (ah c o.toNat) = min (t - al 6 c) (aZ (ah c o.toNat)) := by unfold lQ; omega
 refine ⟨h3, mh hg (zL _ hn), ?_, by omega⟩; unfold tD; rw [if_pos hs]
 split
 · rename_i hlt; have := tP (fun d => 0 < aZ d) (dm (t - al 6 c) (ah c o.toNat)) (by show ¬ 0 < aZ _; omega) c o.toNat h3 h2; omega
 · omega
theorem KB {t : Int} {c : List Dat} (hg : cZ c) (hs : t < al 6 c) (hj : 0 <= eQ c c.length 0 (-1)) :
 (eQ c c.length 0 (-1)).toNat < c.length /\ cZ (c.set (eQ c c.length 0 (-1)).toNat (eX (al 6 c - t) (ah c (eQ c c.length 0 (-1)).toNat))) /\ sy t (c.set (eQ c c.length 0 (-1)).toNat (eX (al 6 c - t) (ah c (eQ c c.length 0 (-1)).toNat))) < sy t c /\
 t <= al 6 (c.set (eQ c c.length 0 (-1)).toNat (eX (al 6 c - t) (ah c (eQ c c.length 0 (-1)).toNat))) := by
 have h1 := ya c c.length 0 (-1) (by omega) (by omega) (by omega); have h2 := (rE c c.length 0 (-1) (by omega) (.inl (by omega))).2 hj; generalize eQ c c.length 0 (-1) = o at *
 have h3 : o.toNat < c.length := by omega
 have hn := bX h3 hg.2; have e6 := Iq (al 6 c - t) (ah c o.toNat); have es := kH 6 (eX (al 6 c - t) (ah c o.toNat)) c o.toNat h3; have hp : kQ (al 6 c - t) (ah c o.toNat) = min (al 6 c - t) ((ah c o.toNat).i 6) := by unfold kQ; omega
 refine ⟨h3, mh hg (BK _ hn), ?_, by omega⟩; unfold sy; rw [if_pos hs]
 split
 · rename_i hlt; have := tP (fun d => 0 < d.i 6) (eX (al 6 c - t) (ah c o.toNat)) (by show ¬ 0 < (eX _ _).i 6; omega) c o.toNat h3 h2; omega
 · omega
theorem Af (t : Int) (c : List Dat) : tD t c < c.length + 2 := by
 have := yj (fun d => 0 < aZ d) c; unfold tD; split <;> omega
theorem yK (t : Int) (c : List Dat) : sy t c < c.length + 2 := by
 have := yj (fun d => 0 < d.i 6) c; unfold sy; split <;> omega
theorem Am {c : List Dat} (hg : cZ c) : 0 <= al 6 c /\ al 6 c <= 1125899906842624000 := by
 have := (gp c hg.2).2.2.1; have := hg.1; omega
def IM : aA := ⟨Fw.tab, 107, ⟨[.int .i64, .buf 0 1], [.cW 1 7 0, .af (sI 7)], 0⟩, ⟨[.int .i64], [.cW 1 7 0, .af (sI 7)], 0⟩, []⟩
abbrev ym : Type := Int × Int × List Int × List Dat
abbrev wV : Type := Int × Int × List Int × List Dat
def xY (m : Nat) (k : ym -> Option (List Un)) : ym -> Option (List Un) := fun (a0, a1, a2, a3) =>
 bif decide (a1 > a0) then
 chk ((decide (a2 = bP 0 a3.length)) && (decide (a3.length <= 1000) && a3.all aH)) <|
 lt ((eQ a3 a3.length 0 (-1)) : Int) fun x6 =>
 bif ((decide (x6 < 0)) && true) then
 some ([.i a1, .l a2, .d a3])
 else
 chk (decide (0 <= x6 /\ x6.toNat < a3.length) && aH (ah a3 x6.toNat)) <|
 lt ((a3.set x6.toNat (eX (w64 (a1 - a0)) (ah a3 x6.toNat))) : List Dat) fun l9 =>
 chk ((decide (a2 = bP 0 l9.length)) && (decide (l9.length <= 1000) && l9.all aH)) <|
 k (a0, (al 6 l9), a2, l9)
 else
 chk ((decide (a2 = bP 0 a3.length)) && (decide (a3.length <= 1000) && a3.all aH)) <|
 some ([.i (al 6 a3), .l a2, .d a3])
def oK (m : Nat) : Nat -> ym -> Option (List Un) := bc (xY m)
theorem zJ (m : Nat) (n : Nat) : oK m (n + 1) = xY m (oK m n) := rfl
def BC (F : ym -> Option (List Un)) : aP := ⟨[.lp [0, 1, 0, 1, 1, 1], .blk 2, .code [1, 1, 1, 1]], ⟨frm 47 [(0, .int .i64), (1, .buf 0 1), (7, .int .i64)], [.cW 1 7 0, .af (sI 7)], 0⟩, onU F⟩
def xI (m : Nat) (k : wV -> Option (List Un)) : wV -> Option (List Un) := fun (a0, a1, a2, a3) =>
 bif decide (a1 < a0) then
 chk ((decide (a2 = bP 0 a3.length)) && (decide (a3.length <= 1000) && a3.all aH)) <|
 lt ((eP a3 a3.length 0 (-1)) : Int) fun x2 =>
 bif ((decide (x2 < 0)) && true) then
 some ([.i a1, .l a2, .d a3])
 else
 chk (decide (0 <= x2 /\ x2.toNat < a3.length) && aH (ah a3 x2.toNat)) <|
 lt ((a3.set x2.toNat (dm (w64 (a0 - a1)) (ah a3 x2.toNat))) : List Dat) fun l5 =>
 chk ((decide (a2 = bP 0 l5.length)) && (decide (l5.length <= 1000) && l5.all aH)) <|
 k (a0, (al 6 l5), a2, l5)
 else
 chk ((decide (a2 = bP 0 a3.length)) && (decide (a3.length <= 1000) && a3.all aH)) <|
 oK m m (a0, (al 6 a3), a2, a3)
def oS (m : Nat) : Nat -> wV -> Option (List Un) := bc (xI m)
theorem Ae (m : Nat) (n : Nat) : oS m (n + 1) = xI m (oS m n) := rfl
def AP (F : wV -> Option (List Un)) : aP := ⟨[.lp [0, 1, 0, 1, 1], .blk 0, .code [1, 1, 1]], ⟨frm 47 [(0, .int .i64), (1, .buf 0 1), (5, .int .i64)], [.cW 1 7 0, .af (sI 7)], 0⟩, onU F⟩
theorem Mu (m : Nat) : ∀ n, HO IM (BC (oK m n)) := aw ai Fw.right (fun k => [BC k]) (fun k h => (aE h az)) fun k a => by kernel_rfl
theorem Ma (m : Nat) : ∀ n, HO IM (AP (oS m n)) := aw ai Fw.right (fun k => [AP k, BC (oK m m)]) (fun k h => (aE h (aE (Mu m m) az))) fun k a => by kernel_rfl
def t107 (m : Nat) : Int × List Int × List Dat -> Option (List Un) := fun (a0, a1, a2) =>
 chk ((decide (a1 = bP 0 a2.length)) && (decide (a2.length <= 1000) && a2.all aH)) <|
 oS m m ((if a0 < 0 then 0 else a0), (al 6 a2), a1, a2)
theorem Pc (m : Nat) (t : Int) (h0 : 0 <= t) (h1 : t <= 1152921504606846976) : ∀ (k n : Nat) (c : List Dat), sy t c < k -> k <= n -> cZ c ->
 oK m n (t, al 6 c, bP 0 c.length, c) = some [.i (al 6 (oJ k t c)), .l (bP 0 c.length), .d (oJ k t c)] := by
 intro k
 induction k with
 | zero => intro n c h; omega
 | succ k ih =>
  intro n c hm hn hg; obtain ⟨n, rfl⟩ := ak n (by omega); have hgb := dU hg; have hb := Am hg; unfold oJ; rw [zJ]; unfold xY; dsimp only; simp only [hgb, Bool.and_true, decide_true, gt_iff_lt]
  by_cases hs : t < al 6 c
  · rw [if_pos hs, bT hs, gS]
    by_cases hj : eQ c c.length 0 (-1) < 0
    · rw [if_pos hj]; simp only [lt_eq]; rw [bT hj]
    · rw [if_neg hj]; obtain ⟨a1, a2, a3, a4⟩ := KB hg hs (by omega); have a5 := dU a2; have := ih n _ (by omega) (by omega) a2; rw [List.length_set] at this; simp only [lt_eq]; have hnr := bX a1 hg.2; rw [aB hj, aa (n := al 6 c - t) (by omega) (by omega), hnr, Bool.and_true, aQ ⟨by omega, a1⟩, a5, List.length_set, decide_eq_true rfl, Bool.true_and, gS]; exact this
  · rw [if_neg hs, aB hs, gS]
theorem Pa (m : Nat) (t : Int) (h0 : 0 <= t) (h1 : t <= 1152921504606846976) : ∀ (k n : Nat) (c : List Dat), tD t c < k -> k <= n -> c.length + 2 <= m -> cZ c ->
 oS m n (t, al 6 c, bP 0 c.length, c) = some [.i (al 6 (oJ (c.length + 2) t (qD k t c))), .l (bP 0 c.length), .d (oJ (c.length + 2) t (qD k t c))] := by
 intro k
 induction k with
 | zero => intro n c h; omega
 | succ k ih =>
  intro n c hm hn hml hg; obtain ⟨n, rfl⟩ := ak n (by omega); have hgb := dU hg; have hb := Am hg; unfold qD; rw [Ae]; unfold xI; dsimp only; simp only [hgb, Bool.and_true, decide_true]
  by_cases hs : al 6 c < t
  · rw [if_pos hs, bT hs, gS]
    by_cases hj : eP c c.length 0 (-1) < 0
    · rw [if_pos hj]; simp only [lt_eq]; rw [bT hj, oJ, if_neg (by omega)]
    · rw [if_neg hj]; obtain ⟨a1, a2, a3, a4⟩ := KC hg hs (by omega); have a5 := dU a2; have := ih n _ (by omega) (by omega) (by rw [List.length_set]; exact hml) a2; rw [List.length_set] at this; simp only [lt_eq]; have hnr := bX a1 hg.2; rw [aB hj, aa (n := t - al 6 c) (by omega) (by omega), hnr, Bool.and_true, aQ ⟨by omega, a1⟩, a5, List.length_set, decide_eq_true rfl, Bool.true_and, gS]; exact this
  · rw [if_neg hs, aB hs, gS]; exact Pc m t h0 h1 (c.length + 2) m c (yK t c) hml hg
def f107 : Int × List Int × List Dat -> Bool × List Un := fun (a0, a1, a2) => (decide (a0 <= 1152921504606846976) && ((decide (a1 = bP 0 a2.length)) && (decide (a2.length <= 1000) && a2.all aH)), [.i (al 6 (eS a0 a2)), .l (a1), .d (eS a0 a2)])
theorem Jg (a0 : Int) (a1 : List Int) (a2 : List Dat) (hc : (decide (a0 <= 1152921504606846976) && ((decide (a1 = bP 0 a2.length)) && (decide (a2.length <= 1000) && a2.all aH))) = true) : ∃ m, t107 m (a0, a1, a2) = some ([.i (al 6 (eS a0 a2)), .l (a1), .d (eS a0 a2)]) := by
 simp only [Bool.and_eq_true, decide_eq_true_eq, List.all_eq_true] at hc; obtain ⟨h0, rfl, h1, h2⟩ := hc; have hg : cZ a2 := ⟨h1, h2⟩
 refine ⟨a2.length + 2, ?_⟩; unfold t107 eS; dsimp only; rw [dU hg, decide_eq_true rfl, jV, Bool.true_and, gS]; exact Pa _ (max a0 0) (by omega) (by omega) (a2.length + 2) _ a2 (Af _ _) (by omega) (by omega) hg
theorem FG : ER 107 (mkE IM.en IM.ex f107) := an ai Fw.right (fun m => [AP (oS m m)]) (t := t107) (by kernel_rfl) (fun m => (aE (Ma m m) az)) (fun m a => by kernel_rfl) fun (a0, a1, a2) hc => Jg a0 a1 a2 hc
def HQ : Tb Tryz.prog LQ TE := Fw.add 107 _ FG
end
end Go.Proofs.YtdbkoeefnodejaaGreat
namespace Go.Proofs.YtdbkoeefnodejaaGreat
noncomputable section
open Go Go.Proofs.YtdbkoeefnodejaaGreat.Ev
set_option maxRecDepth 20000
@[ext] structure ig where
 call : Bool
 period : Int
 mode : Int
 aq : Int
 lh : Int
 aK : Int
 aU : Int
 draw : Int
 advance : Int
 fee : Int
 due : Int
instance : Uns ig := Uns.via (B := Bool × Int × Int × Int × Int × Int × Int × Int × Int × Int × Int) (fun x => (x.call, x.period, x.mode, x.aq, x.lh, x.aK, x.aU, x.draw, x.advance, x.fee, x.due)) (fun x => match x with | (call, period, mode, aq, lh, aK, aU, draw, advance, fee, due) => ⟨call, period, mode, aq, lh, aK, aU, draw, advance, fee, due⟩) (fun _ => rfl)
@[ext] structure fJ where
 dW : Int
 bd : Int
 bH : Int
 out : Int
 K8 : Int
instance : Uns fJ := Uns.via (B := Int × Int × Int × Int × Int) (fun x => (x.dW, x.bd, x.bH, x.out, x.K8)) (fun x => match x with | (dW, bd, bH, out, K8) => ⟨dW, bd, bH, out, K8⟩) (fun _ => rfl)
def cG (a : au) (p bal r : Int) : Int := zY bal r a.basis (eD a.year a.month 1 p) (eC a.year a.month 1 p) (fB a.year a.month 1 p) (eD a.year a.month 1 (p + 1)) (eC a.year a.month 1 (p + 1)) (fB a.year a.month 1 (p + 1))
theorem qm {y m p : Int} (h1 : 1 <= y) (h2 : y <= 9000) (h3 : 1 <= m) (h4 : m <= 12) (h5 : 0 <= p) (h6 : p <= 700) : 1 <= eD y m 1 p /\ eD y m 1 p <= 9999 /\ 1 <= eC y m 1 p /\ eC y m 1 p <= 12 /\ fB y m 1 p = 1 /\ bE (eD y m 1 p) (eC y m 1 p) (fB y m 1 p) = true /\ 12 * eD y m 1 p + eC y m 1 p = 12 * y + m + p := by
 have l1 := kG (y := y) (m := m) h1 (by omega) h3 h4; have hs : fE y m 1 p = true := by
  unfold fE; rw [show bE y m 1 = true from cF.2 ⟨by omega, by omega⟩]; simp only [Bool.true_and, decide_eq_true_eq]; omega
 unfold eD eC fB; rw [hs, if_pos rfl, if_pos rfl, if_pos rfl]; have l2 := kG (y := (12 * y + m - 1 + p) / 12) (m := (12 * y + m - 1 + p) % 12 + 1) (by omega) (by omega) (by omega) (by omega); have hd : min 1 (cn ((12 * y + m - 1 + p) / 12) ((12 * y + m - 1 + p) % 12 + 1)) = 1 := by omega
 rw [hd]; exact ⟨by omega, by omega, by omega, by omega, rfl, cF.2 ⟨by omega, by omega⟩, by omega⟩
theorem zy {b y m y' m' : Int} (h1 : 1 <= y) (h2 : y <= 9999) (h3 : 1 <= m) (h4 : m <= 12) (h5 : 12 * y' + m' = 12 * y + m + 1) (h6 : 1 <= m') (h7 : m' <= 12) (r1 : bE y m 1 = true) (r2 : bE y' m' 1 = true) : 0 <= iF b y m 1 y' m' 1 /\ iF b y m 1 y' m' 1 <= 731 := by
 have n1 := o4 r1; have n2 := o4 r2; have a1 := mR h1; have a2 := mR (y := y + 1) (by omega); have q1 := od y; have q2 := od (y + 1); unfold iF
 split
 · split
   · unfold com; rw [if_neg (by omega)]; omega
   · split
     · rename_i h _ _; have hy : y' = y \/ y' = y + 1 := by omega
       rcases hy with rfl | rfl <;> omega
     · omega
 · omega
theorem D1 {n b : Int} (p : Int) (hp : p = 3600000 \/ p = 3650000) (h1 : 0 <= n) (h2 : n <= 1099511627776) (h3 : 0 <= b) (h4 : b <= 3655000) : 0 <= mdV n b p 2 /\ mdV n b p 2 <= 1200000000000 := by
 unfold mdV
 split
 · have hm := Int.mul_le_mul_of_nonneg_left h4 h1; have hz := Int.mul_nonneg h1 h3; have e := Int.mul_ediv_add_emod (n * b) p; have r0 := Int.emod_nonneg (n * b) (show p ≠ 0 by omega); have d0 : 0 <= n * b / p := Int.ediv_nonneg hz (by omega); have d1 : n * b / p <= 1117000000000 := by
    have : n * b < 4018800800000000001 := by omega
    rcases hp with rfl | rfl <;> omega
   unfold mdQ
   split <;> omega
 · omega
theorem nv {a : au} {p bal : Int} (r : Int) (h1 : 1 <= a.year) (h2 : a.year <= 9000) (h3 : 1 <= a.month) (h4 : a.month <= 12) (h5 : 0 <= p) (h6 : p <= 650) (b0 : 0 <= bal) (b1 : bal <= 1099511627776) : 0 <= cG a p bal r /\ cG a p bal r <= 1200000000000 := by
 obtain ⟨s1, s2, s3, s4, s5, s6, s7⟩ := qm h1 h2 h3 h4 h5 (by omega); obtain ⟨t1, t2, t3, t4, t5, t6, t7⟩ := qm h1 h2 h3 h4 (show 0 <= p + 1 by omega) (by omega); unfold cG zY; rw [s5] at s6 ⊢; rw [t5] at t6 ⊢
 split
 · rename_i hr; have hd := zy (b := a.basis) s1 s2 s3 s4 (by omega) t3 t4 s6 t6; have k0 := Int.mul_nonneg hr.1 hd.1; have k1 := Int.mul_le_mul hr.2 hd.2 hd.1 (show (0 : Int) <= 5000 by omega); exact D1 _ (by unfold tY; split <;> omega) b0 b1 k0 (by omega)
 · omega
def dE (a : au) (p : Int) (d : Dat) : Dat := yz (cG a p (aZ d) (d.i 2)) d
theorem DO {d : Dat} (h : aH d = true) : 0 <= aZ d /\ aZ d <= 1099511627776 := by
 have := bW h; unfold aZ; omega
def N43 : aA := ⟨HQ.tab, 43, ⟨[.ptr 0 0 0, .int .i64], bo 0, 0⟩, ⟨[.int .i64, .int .i64], bo 0, 0⟩, []⟩
abbrev CY : Type := Int × Int × Int × Int × au × av × aj × List Dat × List Dat × List Dat × List Dat × List Dat × List Dat × List Dat × Int × Int × Int × Int × Int × Int
def xN (m : Nat) (k : CY -> Option (List Un)) : CY -> Option (List Un) := fun (a0, a1, a2, a3, a4, a5, a6, a7, a8, a9, a10, a11, a12, a13, a14, a15, a16, a17, a18, a19) =>
 bif decide (a3 < a2) then
 chk (inb a3 a13.length) <|
 chk (decide (a3.toNat < a13.length)) <|
 lt (ah a13 a3.toNat : Dat) fun d9 =>
 chk (decide (a3.toNat < a13.length)) <|
 lt ((zY (w64 (w64 ((d9.i 1) - w64 ((d9.i 3) - (d9.i 4))) - (d9.i 6))) ((ah a13 a3.toNat).i 2) a4.basis a14 a15 a16 a17 a18 a19) : Int) fun x12 =>
 chk (decide (0 <= x12 /\ x12 <= 1125899906842624) && (decide (0 <= (a3.toNat : Int) /\ (a3.toNat : Int).toNat < a13.length) && aH (ah a13 (a3.toNat : Int).toNat))) <|
 k (a0, (w64 (a1 + x12)), a2, (w64 (a3 + 1)), a4, a5, a6, a7, a8, a9, a10, a11, a12, (a13.set (a3.toNat : Int).toNat (yz x12 (ah a13 (a3.toNat : Int).toNat))), a14, a15, a16, a17, a18, a19)
 else
 some ([.i a0, .i a1] ++ Uns.enc (a4 : au) ++ Uns.enc (a5 : av) ++ Uns.enc (a6 : aj) ++ [.d a7, .d a8, .d a9, .d a10, .d a11, .d a12, .d a13])
def tX (m : Nat) : Nat -> CY -> Option (List Un) := bc (xN m)
theorem ug (m : Nat) (n : Nat) : tX m (n + 1) = xN m (tX m n) := rfl
def G8 (F : CY -> Option (List Un)) : aP := ⟨[.lp [0, 1, 0, 1, 1, 1, 1, 1], .blk 0, .code [1, 1, 1, 1, 1, 1]], ⟨frm 88 [(0, .ptr 0 0 0), (6, .ptr 9 0 0), (7, .ptr 10 0 0), (8, .int .i64), (10, .int .i64), (49, .int .i64), (50, .int .i64)], bo 0 ++ [.cells [.int .i64, .int .i64, .int .i64], .cells [.int .i64, .int .i64, .int .i64]], 0⟩, onU F⟩
theorem N1 (m : Nat) : ∀ n, HO N43 (G8 (tX m n)) := aw ai HQ.right (fun k => [G8 k]) (fun k h => (aE h az)) fun k a => by kernel_rfl
def t43 (m : Nat) : Int × au × av × aj × List Dat × List Dat × List Dat × List Dat × List Dat × List Dat × List Dat -> Option (List Un) := fun (a0, a1, a2, a3, a4, a5, a6, a7, a8, a9, a10) =>
 lt ((eD a1.year a1.month 1 a3.period) : Int) fun x1 =>
 lt ((eC a1.year a1.month 1 a3.period) : Int) fun x2 =>
 lt ((fB a1.year a1.month 1 a3.period) : Int) fun x3 =>
 lt ((eD a1.year a1.month 1 (w64 (a3.period + 1))) : Int) fun x4 =>
 lt ((eC a1.year a1.month 1 (w64 (a3.period + 1))) : Int) fun x5 =>
 lt ((fB a1.year a1.month 1 (w64 (a3.period + 1))) : Int) fun x6 =>
 lt ((zY a0 a2.fee a1.basis x1 x2 x3 x4 x5 x6) : Int) fun x7 =>
 tX m m (x7, 0, (a10.length : Int), 0, a1, a2, ({ a3 with fee := (w64 (a3.fee + x7)) } : aj), a4, a5, a6, a7, a8, a9, a10, x1, x2, x3, x4, x5, x6)
theorem Ir (m : Nat) (fe : Int) (xa : au) (xb : av) (xn : aj) (x1 x2 x3 x4 x5 x6 : List Dat) (p : Int) (hf : ∀ d, aH d = true -> 0 <= cG xa p (aZ d) (d.i 2) /\ cG xa p (aZ d) (d.i 2) <= 1200000000000) : ∀ (rest pre : List Dat) (n : Nat) (s : Int), rest.length < n -> (pre ++ rest).length <= 1000 -> (∀ d ∈ rest, aH d = true) -> 0 <= s -> s <= 1200000000000 * pre.length ->
 tX m n (fe, s, ((pre ++ rest).length : Int), (pre.length : Int), xa, xb, xn, x1, x2, x3, x4, x5, x6, pre ++ rest, eD xa.year xa.month 1 p, eC xa.year xa.month 1 p, fB xa.year xa.month 1 p, eD xa.year xa.month 1 (p + 1), eC xa.year xa.month 1 (p + 1), fB xa.year xa.month 1 (p + 1)) =
  some ([.i fe, .i (s + bk (fun d => cG xa p (aZ d) (d.i 2)) rest)] ++ Uns.enc xa ++ Uns.enc xb ++ Uns.enc xn ++ [.d x1, .d x2, .d x3, .d x4, .d x5, .d x6, .d (pre ++ rest.map (dE xa p))]) := by
 intro rest
 induction rest with
 | nil =>
  intro pre n s hn hl hg s0 s1; obtain ⟨n, rfl⟩ := ak n (by simp at hn; omega); rw [ug]; unfold xN; dsimp only; simp [aB, bk]
 | cons x rest ih =>
  intro pre n s hn hl hg s0 s1; obtain ⟨n, rfl⟩ := ak n (by simp at hn; omega); simp only [List.length_cons, List.length_append] at hn hl; have hx := bW (hg x (by simp)); have hb := hf x (hg x (by simp)); have hgx := hg x (by simp); have := ih (pre ++ [dE xa p x]) n (s + cG xa p (aZ x) (x.i 2)) (by omega) (by simp; omega) (fun d hd => hg d (by simp [hd])) (by omega) (by simp; omega); have e : w64 (w64 (x.i 1 - w64 (x.i 3 - x.i 4)) - x.i 6) = aZ x := by rw [aa (n := x.i 3 - x.i 4) (by omega) (by omega), aa (n := x.i 1 - _) (by omega) (by omega), aa (by omega) (by omega)]; rfl
  have e2 : ∀ z, zY z (x.i 2) xa.basis (eD xa.year xa.month 1 p) (eC xa.year xa.month 1 p) (fB xa.year xa.month 1 p) (eD xa.year xa.month 1 (p + 1)) (eC xa.year xa.month 1 (p + 1)) (fB xa.year xa.month 1 (p + 1)) = cG xa p z (x.i 2) := fun z => rfl
  rw [ug]; unfold xN; dsimp only; simp only [bk, List.map_cons, LNi, ao, lt_eq, e, e2, hgx, Bool.and_true, CA]; rw [show yz (cG xa p (aZ x) (x.i 2)) x = dE xa p x from rfl]; simp (disch := omega) only [TRa, TRi, aa, LNl, LNi, Int.cast_ofNat_Int, ao]; simp only [LNl, LNi, Int.cast_ofNat_Int] at this ⊢; exact this
def f43 : Int × au × av × aj × List Dat × List Dat × List Dat × List Dat × List Dat × List Dat × List Dat -> Bool × List Un := fun (a0, a1, a2, a3, a4, a5, a6, a7, a8, a9, a10) => (decide ((1 <= a1.year /\ a1.year <= 9000 /\ 1 <= a1.month /\ a1.month <= 12) /\ (0 <= a3.period /\ a3.period <= 600) /\ (0 <= a3.fee /\ a3.fee <= 1125899906842624) /\ (0 <= a0 /\ a0 <= 1099511627776)) && (decide (a10.length <= 1000) && a10.all aH), [.i (cG a1 a3.period a0 a2.fee), .i (bk (fun d => cG a1 a3.period (aZ d) (d.i 2)) a10)] ++ Uns.enc ((a1) : au) ++ Uns.enc ((a2) : av) ++ Uns.enc (({ a3 with fee := a3.fee + cG a1 a3.period a0 a2.fee }) : aj) ++ [.d (a4), .d (a5), .d (a6), .d (a7), .d (a8), .d (a9), .d (a10.map (dE a1 a3.period))])
theorem Mo (a0 : Int) (a1 : au) (a2 : av) (a3 : aj) (a4 : List Dat) (a5 : List Dat) (a6 : List Dat) (a7 : List Dat) (a8 : List Dat) (a9 : List Dat) (a10 : List Dat) (hc : (decide ((1 <= a1.year /\ a1.year <= 9000 /\ 1 <= a1.month /\ a1.month <= 12) /\ (0 <= a3.period /\ a3.period <= 600) /\ (0 <= a3.fee /\ a3.fee <= 1125899906842624) /\ (0 <= a0 /\ a0 <= 1099511627776)) && (decide (a10.length <= 1000) && a10.all aH)) = true) : ∃ m, t43 m (a0, a1, a2, a3, a4, a5, a6, a7, a8, a9, a10) = some ([.i (cG a1 a3.period a0 a2.fee), .i (bk (fun d => cG a1 a3.period (aZ d) (d.i 2)) a10)] ++ Uns.enc ((a1) : au) ++ Uns.enc ((a2) : av) ++ Uns.enc (({ a3 with fee := a3.fee + cG a1 a3.period a0 a2.fee }) : aj) ++ [.d (a4), .d (a5), .d (a6), .d (a7), .d (a8), .d (a9), .d (a10.map (dE a1 a3.period))]) := by
 simp only [Bool.and_eq_true, decide_eq_true_eq, List.all_eq_true] at hc; obtain ⟨⟨⟨h1, h2, h3, h4⟩, ⟨h5, h6⟩, ⟨h7, h8⟩, h9, h10⟩, h11, h12⟩ := hc; have hs := nv a2.fee h1 h2 h3 h4 h5 (show a3.period <= 650 by omega) h9 h10; have hf : ∀ d, aH d = true -> 0 <= cG a1 a3.period (aZ d) (d.i 2) /\ cG a1 a3.period (aZ d) (d.i 2) <= 1200000000000 := fun d hd => nv _ h1 h2 h3 h4 h5 (by omega) (DO hd).1 (DO hd).2
 refine ⟨a10.length + 1, ?_⟩; unfold t43; dsimp only [lt]; rw [aa (n := a3.period + 1) (by omega) (by omega)]; refine (show tX _ _ (cG a1 a3.period a0 a2.fee, 0, (a10.length : Int), 0, a1, a2, { a3 with fee := w64 (a3.fee + cG a1 a3.period a0 a2.fee) }, a4, a5, a6, a7, a8, a9, a10, _, _, _, _, _, _) = _ from ?_); rw [aa (n := a3.fee + _) (by omega) (by omega)]; exact (Ir _ _ a1 a2 _ a4 a5 a6 a7 a8 a9 a3.period hf a10 [] (a10.length + 1) 0 (by omega) (by simpa using h11) h12 (by omega) (by simp)).trans (by simp only [Int.zero_add, List.nil_append])
theorem Kc : ER 43 (mkE N43.en N43.ex f43) := an ai HQ.right (fun m => [G8 (tX m m)]) (t := t43) (by kernel_rfl) (fun m => (aE (N1 m m) az)) (fun m a => by kernel_rfl) fun (a0, a1, a2, a3, a4, a5, a6, a7, a8, a9, a10) hc => Mo a0 a1 a2 a3 a4 a5 a6 a7 a8 a9 a10 hc
def T43 : Tb Tryz.prog LQ TE := HQ.add 43 _ Kc
def zv (x : Int) (d : Dat) : Int := max (min x (d.i 5)) 0
def lX (x : Int) (d : Dat) : Dat := .r [.n (d.i 0), .n (d.i 1), .n (d.i 2), .n (d.i 3), .n (d.i 4), .n (d.i 5 - zv x d), .n (d.i 6)]
def gW (n : aj) (p : Dat) : aj := if p.i 1 = 1 then { n with fee := n.fee - p.i 3 } else if p.i 1 = 2 then { n with out := n.out - p.i 3 } else if p.i 1 = 6 then { n with rin := n.rin + p.i 3 } else n
def ji (c : List Dat) (p : Dat) : List Dat := if p.i 1 = 1 then c else if p.i 1 = 2 then c else if p.i 1 = 6 then c else if p.i 1 = 3 then c.set (p.i 2).toNat (lX (p.i 3) (ah c (p.i 2).toNat)) else c.set (p.i 2).toNat (qE (p.i 3) (ah c (p.i 2).toNat))
def cA : List Dat -> aj -> List Dat -> aj × List Dat
 | [], n, c => (n, c)
 | p :: l, n, c => cA l (gW n p) (ji c p)
def Dr (k : Nat) (p : Dat) : Bool := decide (0 <= p.i 3) && (decide (p.i 1 = 1 \/ p.i 1 = 2 \/ p.i 1 = 6) || decide (0 <= p.i 2 /\ p.i 2 < (k : Int)))
theorem rD {k : Nat} {p : Dat} (h : Dr k p = true) : 0 <= p.i 3 /\ ((p.i 1 = 1 \/ p.i 1 = 2 \/ p.i 1 = 6) \/ (0 <= p.i 2 /\ p.i 2 < (k : Int))) := by
 simp only [Dr, Bool.and_eq_true, Bool.or_eq_true, decide_eq_true_eq] at h; exact h
def vj (l : List Dat) (n : aj) (c : List Dat) : Bool := decide (l.length <= 1000000) && (l.all (Dr c.length) && (decide (al 3 l <= 144115188075855872 /\ (0 <= n.fee /\ n.fee <= 144115188075855872) /\ (0 <= n.out /\ n.out <= 144115188075855872) /\ (0 <= n.rin /\ n.rin <= 144115188075855872)) && (decide (c.length <= 1000) && c.all aH)))
theorem vA (c : List Dat) (p : Dat) : (ji c p).length = c.length := by
 unfold ji; repeat' split
 all_goals simp
theorem yv {d : Dat} (x : Int) (h : aH d = true) : aH (lX x d) = true := by
 have := bW h; refine decide_eq_true ?_
 simp only [lX, zv, dM, eF, rR, mH, mI]; omega
theorem BR {c : List Dat} {p : Dat} (hp : Dr c.length p = true) (h : cZ c) : cZ (ji c p) := by
 have hp := rD hp; unfold ji
 by_cases h1 : p.i 1 = 1
 · rw [if_pos h1]; exact h
 rw [if_neg h1]
 by_cases h2 : p.i 1 = 2
 · rw [if_pos h2]; exact h
 rw [if_neg h2]
 by_cases h3 : p.i 1 = 6
 · rw [if_pos h3]; exact h
 rw [if_neg h3]; have hj : (p.i 2).toNat < c.length := by omega
 split
 · exact mh h (yv _ (bX hj h.2))
 · exact mh h (DJ _ (bX hj h.2))
def N48 : aA := ⟨T43.tab, 48, ⟨[.np 0 0 0, .af (sI 4)], bo 0, 0⟩, ⟨[], bo 0, 0⟩, []⟩
abbrev C8 : Type := Int × List Dat × Int × Int × au × av × aj × List Dat × List Dat × List Dat × List Dat × List Dat × List Dat × List Dat
def xP (m : Nat) (k : C8 -> Option (List Un)) : C8 -> Option (List Un) := fun (a0, a1, a2, a3, a4, a5, a6, a7, a8, a9, a10, a11, a12, a13) =>
 bif decide (a3 < a2) then
 chk (inb a3 a1.length) <|
 chk (decide (a3.toNat < a1.length)) <|
 lt (ah a1 a3.toNat : Dat) fun d1 =>
 bif (d1.i 1) == 1 then
 chk (decide (0 <= a0)) <|
 chk (decide (0 <= a0)) <|
 k (a0, a1, a2, (w64 (a3 + 1)), a4, a5, ({ a6 with fee := (w64 (a6.fee - (d1.i 3))) } : aj), a7, a8, a9, a10, a11, a12, a13)
 else
 bif (d1.i 1) == 2 then
 chk (decide (0 <= a0)) <|
 chk (decide (0 <= a0)) <|
 k (a0, a1, a2, (w64 (a3 + 1)), a4, a5, ({ a6 with out := (w64 (a6.out - (d1.i 3))) } : aj), a7, a8, a9, a10, a11, a12, a13)
 else
 bif (d1.i 1) == 6 then
 chk (decide (0 <= a0)) <|
 chk (decide (0 <= 0) && decide ((0 : Int) <= a6.rin /\ (0 : Int) <= (d1.i 3) /\ a6.rin + (d1.i 3) <= (1152921504606846976 : Int))) <|
 k (a0, a1, a2, (w64 (a3 + 1)), a4, a5, ({ a6 with rin := a6.rin + (d1.i 3) }), a7, a8, a9, a10, a11, a12, a13)
 else
 bif (d1.i 1) == 3 then
 chk (decide (0 <= a0)) <|
 chk (inb (d1.i 2) a13.length) <|
 chk (decide ((d1.i 2).toNat < a13.length)) <|
 lt (ah a13 ((d1.i 2).toNat) : Dat) fun d5 =>
 lt ((if (d5.i 5) < (d1.i 3) then (d5.i 5) else (d1.i 3)) : Int) fun x6 =>
 chk (decide ((d1.i 2).toNat < a13.length)) <|
 chk (decide ((d1.i 2).toNat < a13.length)) <|
 lt (ah a13 ((d1.i 2).toNat) : Dat) fun d9 =>
 k (a0, a1, a2, (w64 (a3 + 1)), a4, a5, a6, a7, a8, a9, a10, a11, a12, (List.set a13 ((d1.i 2).toNat) (.r [.n (d9.i 0), .n (d9.i 1), .n (d9.i 2), .n (d9.i 3), .n (d9.i 4), .n (w64 (((ah a13 ((d1.i 2).toNat)).i 5) - (if x6 < 0 then 0 else x6))), .n (d9.i 6)])))
 else
 chk (decide (0 <= a0)) <|
 chk (inb (d1.i 2) a13.length) <|
 chk (decide (0 <= ((d1.i 2).toNat : Int) /\ ((d1.i 2).toNat : Int).toNat < a13.length) && aH (ah a13 ((d1.i 2).toNat : Int).toNat)) <|
 k (a0, a1, a2, (w64 (a3 + 1)), a4, a5, a6, a7, a8, a9, a10, a11, a12, (a13.set ((d1.i 2).toNat : Int).toNat (qE (d1.i 3) (ah a13 ((d1.i 2).toNat : Int).toNat))))
 else
 some (Uns.enc (a4 : au) ++ Uns.enc (a5 : av) ++ Uns.enc (a6 : aj) ++ [.d a7, .d a8, .d a9, .d a10, .d a11, .d a12, .d a13])
def vu (m : Nat) : Nat -> C8 -> Option (List Un) := bc (xP m)
theorem sj (m : Nat) (n : Nat) : vu m (n + 1) = xP m (vu m n) := rfl
def G3 (F : C8 -> Option (List Un)) : aP := ⟨[.lp [0, 1], .blk 0], ⟨frm 67 [(0, .np 0 0 0), (6, .af (sI 4)), (7, .int .i64), (8, .int .i64)], bo 0, 0⟩, onU F⟩
theorem O9 (m : Nat) : ∀ n, HO N48 (G3 (vu m n)) := aw ai T43.right (fun k => [G3 k]) (fun k h => (aE h az)) fun k a => by kernel_rfl
def t48 (m : Nat) : Int × List Dat × au × av × aj × List Dat × List Dat × List Dat × List Dat × List Dat × List Dat × List Dat -> Option (List Un) := fun (a0, a1, a2, a3, a4, a5, a6, a7, a8, a9, a10, a11) =>
 vu m m (a0, a1, (a1.length : Int), 0, a2, a3, a4, a5, a6, a7, a8, a9, a10, a11)
theorem Nq (m : Nat) (p0 : Int) (hp0 : 0 <= p0) (xa : au) (xb : av) (x1 x2 x3 x4 x5 x6 : List Dat) : ∀ (rest pre : List Dat) (n : Nat) (y : aj) (c : List Dat), rest.length < n -> (pre ++ rest).length <= 1000000 -> (∀ d ∈ rest, Dr c.length d = true) -> cZ c ->
 (-288230376151711744 <= y.fee - al 3 rest /\ y.fee <= 288230376151711744) -> (-288230376151711744 <= y.out - al 3 rest /\ y.out <= 288230376151711744) -> (0 <= y.rin /\ y.rin + al 3 rest <= 576460752303423488) ->
 vu m n (p0, pre ++ rest, ((pre ++ rest).length : Int), (pre.length : Int), xa, xb, y, x1, x2, x3, x4, x5, x6, c) = some (Uns.enc xa ++ Uns.enc xb ++ Uns.enc (cA rest y c).1 ++ [.d x1, .d x2, .d x3, .d x4, .d x5, .d x6, .d (cA rest y c).2]) := by
 intro rest
 induction rest with
 | nil =>
  intro pre n y c hn hl hp hg f1 f2 f3; obtain ⟨n, rfl⟩ := ak n (by simp at hn; omega); rw [sj]; unfold xP; dsimp only; simp [aB, cA]
 | cons x rest ih =>
  intro pre n y c hn hl hp hg f1 f2 f3; obtain ⟨n, rfl⟩ := ak n (by simp at hn; omega); simp only [List.length_cons, List.length_append] at hn hl; have hx := rD (hp x (by simp)); have hr := fun d hd => hp d (List.mem_cons_of_mem _ hd)
  have hs := fb 3 rest fun d hd => (rD (hr d hd)).1
  have hT := BR (hp x (by simp)) hg; have hN : (-288230376151711744 <= (gW y x).fee - al 3 rest /\ (gW y x).fee <= 288230376151711744) /\ (-288230376151711744 <= (gW y x).out - al 3 rest /\ (gW y x).out <= 288230376151711744) /\ (0 <= (gW y x).rin /\ (gW y x).rin + al 3 rest <= 576460752303423488) := by
   simp only [al] at f1 f2 f3; unfold gW
   by_cases h1 : x.i 1 = 1
   · rw [if_pos h1]; simp only; omega
   rw [if_neg h1]
   by_cases h2 : x.i 1 = 2
   · rw [if_pos h2]; simp only; omega
   rw [if_neg h2]
   by_cases h3 : x.i 1 = 6
   · rw [if_pos h3]; simp only; omega
   rw [if_neg h3]; omega
  have := ih (pre ++ [x]) n (gW y x) (ji c x) (by omega) (by simp; omega) (by rw [vA]; exact hr) hT hN.1 hN.2.1 hN.2.2; simp only [al] at f1 f2 f3; simp only [cA]; rw [sj]; unfold xP; dsimp only; unfold gW ji at this ⊢
  by_cases h1 : x.i 1 = 1
  · simp only [if_pos h1] at this ⊢; simp (disch := omega) only [TRa, TRi, aa, LNl, LNi, Int.cast_ofNat_Int, ao]; simp only [LNl, LNi, Int.cast_ofNat_Int] at this ⊢; exact this
  simp only [if_neg h1] at this ⊢
  by_cases h2 : x.i 1 = 2
  · simp only [if_pos h2] at this ⊢; simp (disch := omega) only [TRa, TRi, aa, LNl, LNi, Int.cast_ofNat_Int, ao]; simp only [LNl, LNi, Int.cast_ofNat_Int] at this ⊢; exact this
  simp only [if_neg h2] at this ⊢
  by_cases h6 : x.i 1 = 6
  · simp only [if_pos h6] at this ⊢; simp only [show decide ((0 : Nat) <= 0) = true from rfl, Bool.true_and]; simp (disch := omega) only [TRa, TRi, aa, LNl, LNi, Int.cast_ofNat_Int, ao]; simp only [LNl, LNi, Int.cast_ofNat_Int] at this ⊢; exact this
  simp only [if_neg h6] at this ⊢; have hj : (x.i 2).toNat < c.length := by omega
  have hd := bW (bX hj hg.2); have hd2 := bX hj hg.2; have hjn : (((x.i 2).toNat : Int)).toNat = (x.i 2).toNat := Int.toNat_natCast _
  by_cases h3 : x.i 1 = 3
  · simp only [if_pos h3] at this ⊢; have e : (if (if (ah c (x.i 2).toNat).i 5 < x.i 3 then (ah c (x.i 2).toNat).i 5 else x.i 3) < 0 then 0 else (if (ah c (x.i 2).toNat).i 5 < x.i 3 then (ah c (x.i 2).toNat).i 5 else x.i 3)) = zv (x.i 3) (ah c (x.i 2).toNat) := by unfold zv; omega
    have hv : 0 <= zv (x.i 3) (ah c (x.i 2).toNat) /\ zv (x.i 3) (ah c (x.i 2).toNat) <= (ah c (x.i 2).toNat).i 5 := by unfold zv; omega
    simp (disch := omega) only [lt_eq, iO, aQ, bT, fq, fw, LNl, LNi, Int.cast_ofNat_Int, ao, e]; rw [aa (n := (ah c (x.i 2).toNat).i 5 - _) (by omega) (by omega), aa (by omega) (by omega)]; unfold lX at this; simp only [LNl, LNi, Int.cast_ofNat_Int] at this ⊢; exact this
  · simp only [if_neg h3] at this ⊢; simp (disch := omega) only [lt_eq, iO, aQ, bT, fq, fw, LNl, LNi, Int.cast_ofNat_Int, ao, hd2, Bool.and_true]; rw [aa (by omega) (by omega)]; simp only [LNl, LNi, Int.cast_ofNat_Int] at this ⊢; exact this
def f48 : Int × List Dat × au × av × aj × List Dat × List Dat × List Dat × List Dat × List Dat × List Dat × List Dat -> Bool × List Un := fun (a0, a1, a2, a3, a4, a5, a6, a7, a8, a9, a10, a11) => (decide (0 <= a0) && vj a1 a4 a11, Uns.enc ((a2) : au) ++ Uns.enc ((a3) : av) ++ Uns.enc (((cA a1 a4 a11).1) : aj) ++ [.d (a5), .d (a6), .d (a7), .d (a8), .d (a9), .d (a10), .d ((cA a1 a4 a11).2)])
theorem Mj (a0 : Int) (a1 : List Dat) (a2 : au) (a3 : av) (a4 : aj) (a5 : List Dat) (a6 : List Dat) (a7 : List Dat) (a8 : List Dat) (a9 : List Dat) (a10 : List Dat) (a11 : List Dat) (hc : (decide (0 <= a0) && vj a1 a4 a11) = true) : ∃ m, t48 m (a0, a1, a2, a3, a4, a5, a6, a7, a8, a9, a10, a11) = some (Uns.enc ((a2) : au) ++ Uns.enc ((a3) : av) ++ Uns.enc (((cA a1 a4 a11).1) : aj) ++ [.d (a5), .d (a6), .d (a7), .d (a8), .d (a9), .d (a10), .d ((cA a1 a4 a11).2)]) := by
 simp only [vj, Bool.and_eq_true, decide_eq_true_eq, List.all_eq_true] at hc; obtain ⟨h0, h1, h2, ⟨h3, h4, h5, h6⟩, h7, h8⟩ := hc; have hs := fb 3 a1 fun d hd => (rD (h2 d hd)).1
 refine ⟨a1.length + 1, ?_⟩; exact Nq _ a0 h0 a2 a3 a5 a6 a7 a8 a9 a10 a1 [] (a1.length + 1) a4 a11 (by omega) (by simpa using h1) h2 ⟨h7, h8⟩ (by omega) (by omega) (by omega)
theorem Hk : ER 48 (mkE N48.en N48.ex f48) := an ai T43.right (fun m => [G3 (vu m m)]) (t := t48) (by kernel_rfl) (fun m => (aE (O9 m m) az)) (fun m a => by kernel_rfl) fun (a0, a1, a2, a3, a4, a5, a6, a7, a8, a9, a10, a11) hc => Mj a0 a1 a2 a3 a4 a5 a6 a7 a8 a9 a10 a11 hc
def T48 : Tb Tryz.prog LQ TE := T43.add 48 _ Hk
def rQ (parts bd has : Int) : Int := max (mdV bd parts 10000 0 - has) 0
def dX (d : Dat) : Dat := .r [.n (d.i 0), .n (aZ d), .n (d.i 5)]
theorem L0 (n b p h : Int) : 0 <= mdV n b p h /\ mdV n b p h <= 1152921504606846976 := by
 unfold mdV
 split
 · rename_i hk; simp only [nb, decide_eq_true_eq] at hk; have : 0 <= n * b / p := Int.ediv_nonneg (Int.mul_nonneg hk.1 (by omega)) (by omega); refine ⟨?_, by omega⟩; unfold mdQ
   split <;> omega
 · omega
theorem wE {l : List Dat} (h1 : l.length <= 1000) (h2 : ∀ d ∈ l, cD d = true) : 0 <= al 1 l /\ al 1 l <= 1099511627776000 := by
 have := nC 1 1099511627776 l fun d hd => ov (h2 d hd)
 omega
def N46 : aA := ⟨T48.tab, 46, ⟨[.ptr 0 0 0, .agg [.int .i64, .int .i64, .int .i64, .int .i64]], bo 0, 9⟩, ⟨[.agg [.int .i64, .int .i64, .int .i64, .int .i64, .buf 9 3]], bo 0 ++ [.af (sI 3)], 9⟩, []⟩
abbrev C0 : Type := Int × Int × au × av × aj × List Dat × List Dat × List Dat × List Dat × List Dat × List Dat × List Dat × Int × Int × Int × Int × Int × Int × Int × Int × List Dat × List Dat
def wQ (m : Nat) (k : C0 -> Option (List Un)) : C0 -> Option (List Un) := fun (a0, a1, a2, a3, a4, a5, a6, a7, a8, a9, a10, a11, a12, a13, a14, a15, a16, a17, a18, a19, a20, a21) =>
 bif decide (a1 < a0) then
 chk (inb a1 a11.length) <|
 chk (decide (a1.toNat < a11.length)) <|
 lt (ah a11 a1.toNat : Dat) fun d8 =>
 chk (fits (a21.length + 1) 24) <|
 k (a0, (w64 (a1 + 1)), a2, a3, a4, a5, a6, a7, a8, a9, a10, a11, a12, a13, a14, a15, a16, a17, a18, a19, a20, (a21 ++ ([.r [.n (d8.i 0), .n (w64 (w64 ((d8.i 1) - w64 ((d8.i 3) - (d8.i 4))) - (d8.i 6))), .n (d8.i 5)]])))
 else
 some ([.i a16, .i a17, .i a18, .i a19] ++ Uns.enc (a2 : au) ++ Uns.enc (a3 : av) ++ Uns.enc (a4 : aj) ++ [.d a5, .d a6, .d a7, .d a8, .d a9, .d a10, .d a11, .d a21])
def tn (m : Nat) : Nat -> C0 -> Option (List Un) := bc (wQ m)
theorem ur (m : Nat) (n : Nat) : tn m (n + 1) = wQ m (tn m n) := rfl
def GA (F : C0 -> Option (List Un)) : aP := ⟨[.lp [0, 1, 0, 1, 1, 1], .blk 0, .code [1, 1, 1, 1]], ⟨frm 78 [(4, .ptr 9 0 0), (9, .ptr 10 0 0), (57, .buf 8 7), (58, .int .i64), (59, .int .i64)], bo 0 ++ [.cells [.int .i64, .int .i64, .int .i64, .int .i64, .buf 11 3], .cells [.int .i64, .int .i64, .int .i64, .int .i64, .buf 12 3], .af (sI 3), .af (sI 3)], 9⟩, onU F⟩
theorem Ps (m : Nat) : ∀ n, HO N46 (GA (tn m n)) := aw ai T48.right (fun k => [GA k]) (fun k h => (aE h az)) fun k a => by kernel_rfl
def t46 (m : Nat) : Int × Int × Int × Int × au × av × aj × List Dat × List Dat × List Dat × List Dat × List Dat × List Dat × List Dat -> Option (List Un) := fun (a0, a1, a2, a3, a4, a5, a6, a7, a8, a9, a10, a11, a12, a13) =>
 chk (decide (0 <= 0) && (decide (a13.length <= 1000) && a13.all aH)) <|
 lt ((w64 ((w64 (a0 + a3)) + a2)) : Int) fun x1 =>
 chk (decide (0 < ([.r [.r a12]] : List Dat).length) && (decide (((ah ([.r [.r a12]] : List Dat) 0).d 0).length <= 1000) && ((ah ([.r [.r a12]] : List Dat) 0).d 0).all cD)) <|
 lt ((w64 (a6.rin - a6.ba)) : Int) fun x4 =>
 lt ((mdV (al 1 ((ah ([.r [.r a12]] : List Dat) 0).d 0)) a5.target 10000 0) : Int) fun x5 =>
 tn m m ((a13.length : Int), 0, a4, a5, a6, a7, a8, a9, a10, a11, a12, a13, 0, 0, 0, 0, a6.fee, a6.out, (if (bk aZ a13) < x1 then (bk aZ a13) else x1), (if (w64 (x5 - x4)) < 0 then 0 else (w64 (x5 - x4))), [], [])
theorem Pu (m : Nat) (xa : au) (xb : av) (xn : aj) (x1 x2 x3 x4 x5 x6 z0 : List Dat) (z1 z2 z3 z4 w1 w2 w3 w4 : Int) : ∀ (rest pre : List Dat) (n : Nat), rest.length < n -> (pre ++ rest).length <= 1000 -> (∀ d ∈ rest, aH d = true) ->
 tn m n (((pre ++ rest).length : Int), (pre.length : Int), xa, xb, xn, x1, x2, x3, x4, x5, x6, pre ++ rest, z1, z2, z3, z4, w1, w2, w3, w4, z0, pre.map dX) =
  some ([.i w1, .i w2, .i w3, .i w4] ++ Uns.enc xa ++ Uns.enc xb ++ Uns.enc xn ++ [.d x1, .d x2, .d x3, .d x4, .d x5, .d x6, .d (pre ++ rest), .d ((pre ++ rest).map dX)]) := by
 intro rest
 induction rest with
 | nil =>
  intro pre n hn hl hg; obtain ⟨n, rfl⟩ := ak n (by simp at hn; omega); rw [ur]; unfold wQ; dsimp only; simp [aB]
 | cons x rest ih =>
  intro pre n hn hl hg; obtain ⟨n, rfl⟩ := ak n (by simp at hn; omega); simp only [List.length_cons, List.length_append] at hn hl; have e := Fi (hg x (by simp)); have := ih (pre ++ [x]) n (by omega) (by simp; omega) (fun d hd => hg d (by simp [hd])); rw [List.map_append, show [x].map dX = [.r [.n (x.i 0), .n (aZ x), .n (x.i 5)]] from rfl] at this; rw [ur]; unfold wQ; dsimp only; simp only [LNi, ao, lt_eq, e]; simp (disch := omega) only [TRa, TRi, aa, LNl, LNi, Int.cast_ofNat_Int, ao]; simp only [LNl, LNi, Int.cast_ofNat_Int] at this ⊢; exact this
def f46 : Int × Int × Int × Int × au × av × aj × List Dat × List Dat × List Dat × List Dat × List Dat × List Dat × List Dat -> Bool × List Un := fun (a0, a1, a2, a3, a4, a5, a6, a7, a8, a9, a10, a11, a12, a13) => (decide (((0 <= a0 /\ a0 <= 1125899906842624) /\ (0 <= a2 /\ a2 <= 1125899906842624) /\ (0 <= a3 /\ a3 <= 1125899906842624)) /\ (0 <= a6.ba /\ a6.ba <= a6.rin /\ a6.rin <= 1152921504606846976)) && ((decide (a12.length <= 1000) && a12.all cD) && (decide (a13.length <= 1000) && a13.all aH)), [.i (a6.fee), .i (a6.out), .i (min (a0 + a3 + a2) (bk aZ a13)), .i (rQ a5.target (al 1 a12) (a6.rin - a6.ba))] ++ Uns.enc ((a4) : au) ++ Uns.enc ((a5) : av) ++ Uns.enc ((a6) : aj) ++ [.d (a7), .d (a8), .d (a9), .d (a10), .d (a11), .d (a12), .d (a13), .d (a13.map dX)])
theorem Mz (a0 : Int) (a1 : Int) (a2 : Int) (a3 : Int) (a4 : au) (a5 : av) (a6 : aj) (a7 : List Dat) (a8 : List Dat) (a9 : List Dat) (a10 : List Dat) (a11 : List Dat) (a12 : List Dat) (a13 : List Dat) (hc : (decide (((0 <= a0 /\ a0 <= 1125899906842624) /\ (0 <= a2 /\ a2 <= 1125899906842624) /\ (0 <= a3 /\ a3 <= 1125899906842624)) /\ (0 <= a6.ba /\ a6.ba <= a6.rin /\ a6.rin <= 1152921504606846976)) && ((decide (a12.length <= 1000) && a12.all cD) && (decide (a13.length <= 1000) && a13.all aH))) = true) : ∃ m, t46 m (a0, a1, a2, a3, a4, a5, a6, a7, a8, a9, a10, a11, a12, a13) = some ([.i (a6.fee), .i (a6.out), .i (min (a0 + a3 + a2) (bk aZ a13)), .i (rQ a5.target (al 1 a12) (a6.rin - a6.ba))] ++ Uns.enc ((a4) : au) ++ Uns.enc ((a5) : av) ++ Uns.enc ((a6) : aj) ++ [.d (a7), .d (a8), .d (a9), .d (a10), .d (a11), .d (a12), .d (a13), .d (a13.map dX)]) := by
 simp only [Bool.and_eq_true, decide_eq_true_eq, List.all_eq_true] at hc; obtain ⟨⟨⟨h1, h2, h3⟩, h4, h5, h6⟩, ⟨h7, h8⟩, h9, h10⟩ := hc; have hg : cZ a13 := ⟨h9, h10⟩
 have hb := wE h7 h8; have hs := (gp a13 h10).1; have hm := L0 (al 1 a12) a5.target 10000 0; have hlb : (decide (a12.length <= 1000) && a12.all cD) = true := by rw [Bool.and_eq_true, List.all_eq_true]; exact ⟨decide_eq_true h7, h8⟩
 refine ⟨a13.length + 1, ?_⟩; unfold t46 rQ; dsimp only [lt]; refine cz (by rw [dU hg]; rfl) ?_
 refine cz (Bool.and_eq_true_iff.2 ⟨rfl, hlb⟩) ?_
 change tn _ _ (_, _, _, _, _, _, _, _, _, _, _, _, _, _, _, _, _, _, (if bk aZ a13 < w64 (w64 (a0 + a3) + a2) then bk aZ a13 else w64 (w64 (a0 + a3) + a2)), (if w64 (mdV (al 1 a12) a5.target 10000 0 - w64 (a6.rin - a6.ba)) < 0 then 0 else w64 (mdV (al 1 a12) a5.target 10000 0 - w64 (a6.rin - a6.ba))), _, _) = _; rw [aa (n := a0 + a3) (by omega) (by omega), aa (n := a0 + a3 + a2) (by omega) (by omega), aa (n := a6.rin - a6.ba) (by omega) (by omega), aa (n := mdV _ _ _ _ - _) (by omega) (by omega)]; rw [show (if bk aZ a13 < a0 + a3 + a2 then bk aZ a13 else a0 + a3 + a2) = min (a0 + a3 + a2) (bk aZ a13) by omega, show ∀ z : Int, (if z < 0 then 0 else z) = max z 0 from fun z => by omega]; exact Pu _ a4 a5 a6 a7 a8 a9 a10 a11 a12 _ _ _ _ _ _ _ _ _ a13 [] (a13.length + 1) (by omega) (by simpa using h9) h10
theorem Jt : ER 46 (mkE N46.en N46.ex f46) := an ai T48.right (fun m => [GA (tn m m)]) (t := t46) (by kernel_rfl) (fun m => (aE (Ps m m) az)) (fun m a => by kernel_rfl) fun (a0, a1, a2, a3, a4, a5, a6, a7, a8, a9, a10, a11, a12, a13) hc => Mz a0 a1 a2 a3 a4 a5 a6 a7 a8 a9 a10 a11 a12 a13 hc
def T46 : Tb Tryz.prog LQ TE := T48.add 46 _ Jt
theorem rU : ∀ (k : Nat) (n : Int), bP n k ++ [n + k] = bP n (k + 1)
 | 0, n => by simp [bP]
 | k + 1, n => by
  have := rU k (n + 1); simp only [bP, List.cons_append, Int.natCast_add, Int.cast_ofNat_Int] at this ⊢; rw [<- this, show n + 1 + (k : Int) = n + ((k : Int) + 1) by omega]
theorem rK (u p l r : Int) : 0 <= ct u p l r /\ ct u p l r <= max u 0 /\ ct u p l r <= max (u - p) 0 /\ ct u p l r <= max (l - r) 0 := by unfold ct; omega
def N49 : aA := ⟨T46.tab, 49, ⟨[.ptr 0 0 0, .agg [.int .i64, .int .i64, .int .i64, .int .i64]], bo 0, 0⟩, ⟨[], bo 0, 0⟩, []⟩
abbrev CJ : Type := Int × Int × Int × au × av × aj × List Dat × List Dat × List Dat × List Dat × List Dat × List Dat × List Dat × List Int
def xC (m : Nat) (k : CJ -> Option (List Un)) : CJ -> Option (List Un) := fun (a0, a1, a2, a3, a4, a5, a6, a7, a8, a9, a10, a11, a12, a13) =>
 bif decide (a2 < a1) then
 chk (inb a2 a12.length) <|
 chk (fits (a13.length + ([(a2.toNat : Int)]).length) 8) <|
 k (a0, a1, (w64 (a2 + 1)), a3, a4, a5, a6, a7, a8, a9, a10, a11, a12, (a13 ++ ([(a2.toNat : Int)])))
 else
 chk (decide (0 < ([.r [.r a11]] : List Dat).length) && (decide (((ah ([.r [.r a11]] : List Dat) 0).d 0).length <= 1000) && ((ah ([.r [.r a11]] : List Dat) 0).d 0).all cD)) <|
 lt ((al 1 ((ah ([.r [.r a11]] : List Dat) 0).d 0)) : Int) fun x1 =>
 chk (decide ((-1152921504606846976 <= a0 /\ a0 <= 1152921504606846976) /\ (-1152921504606846976 <= x1 /\ x1 <= 1152921504606846976) /\ (-1152921504606846976 <= a5.aK /\ a5.aK <= 1152921504606846976) /\ (-1152921504606846976 <= a5.aU /\ a5.aU <= 1152921504606846976))) <|
 chk (decide ((ct a0 x1 a5.aK a5.aU) <= 1152921504606846976) && ((decide (a13 = bP 0 a12.length)) && (decide (a12.length <= 1000) && a12.all aH))) <|
 some (Uns.enc (a3 : au) ++ Uns.enc (a4 : av) ++ Uns.enc (a5 : aj) ++ [.d a6, .d a7, .d a8, .d a9, .d a10, .d a11, .d (eS (ct a0 x1 a5.aK a5.aU) a12)])
def vT (m : Nat) : Nat -> CJ -> Option (List Un) := bc (xC m)
theorem uk (m : Nat) (n : Nat) : vT m (n + 1) = xC m (vT m n) := rfl
def FW (F : CJ -> Option (List Un)) : aP := ⟨[.lp [0, 1, 0, 1, 1, 1, 1, 1], .blk 0, .code [1, 1, 1, 1, 1, 1]], ⟨frm 70 [(0, .ptr 0 0 0), (7, .int .i64), (8, .buf 9 1), (39, .int .i64), (40, .int .i64)], bo 0 ++ [.cW 8 7 0], 0⟩, onU F⟩
theorem O4 (m : Nat) : ∀ n, HO N49 (FW (vT m n)) := aw ai T46.right (fun k => [FW k]) (fun k h => (aE h az)) fun k a => by kernel_rfl
def t49 (m : Nat) : Int × Int × Int × Int × au × av × aj × List Dat × List Dat × List Dat × List Dat × List Dat × List Dat × List Dat -> Option (List Un) := fun (a0, a1, a2, a3, a4, a5, a6, a7, a8, a9, a10, a11, a12, a13) =>
 chk (decide (0 <= 0) && (decide (a13.length <= 1000) && a13.all aH)) <|
 vT m m ((bk unD a13), (a13.length : Int), 0, a4, a5, ({ a6 with aK := (w64 (a6.aK + a2)), aU := (w64 (a6.aU + a3)) } : aj), a7, a8, a9, a10, a11, a12, a13, [])
theorem Oz (m : Nat) (u : Int) (xa : au) (xb : av) (y : aj) (x1 x2 x3 x4 x5 x6 x7 : List Dat) (hu : 0 <= u /\ u <= 1099511627776000) (h1 : 0 <= y.aK /\ y.aK <= 1152921504606846976) (h2 : 0 <= y.aU /\ y.aU <= 1152921504606846976) (h3 : (decide (x6.length <= 1000) && x6.all cD) = true) (hb : 0 <= al 1 x6 /\ al 1 x6 <= 1099511627776000) (hg : cZ x7) : ∀ (k i n : Nat), i + k = x7.length -> k < n ->
 vT m n (u, (x7.length : Int), (i : Int), xa, xb, y, x1, x2, x3, x4, x5, x6, x7, bP 0 i) = some (Uns.enc xa ++ Uns.enc xb ++ Uns.enc y ++ [.d x1, .d x2, .d x3, .d x4, .d x5, .d x6, .d (eS (ct u (al 1 x6) y.aK y.aU) x7)]) := by
 intro k
 induction k with
 | zero =>
  intro i n hi hn; obtain ⟨n, rfl⟩ := ak n (by omega); have ht := rK u (al 1 x6) y.aK y.aU; have hgb := dU hg; obtain rfl : i = x7.length := by omega
  rw [uk]; unfold xC; dsimp only; rw [aB (by omega)]; dsimp only [lt]; refine cz (Bool.and_eq_true_iff.2 ⟨rfl, h3⟩) ?_
  change chk (decide ((-1152921504606846976 <= u /\ u <= 1152921504606846976) /\ (-1152921504606846976 <= al 1 x6 /\ al 1 x6 <= 1152921504606846976) /\ (-1152921504606846976 <= y.aK /\ y.aK <= 1152921504606846976) /\ (-1152921504606846976 <= y.aU /\ y.aU <= 1152921504606846976))) (chk (decide (ct u (al 1 x6) y.aK y.aU <= 1152921504606846976) && (decide (bP 0 x7.length = bP 0 x7.length) && (decide (x7.length <= 1000) && x7.all aH))) _) = _; rw [aQ (by omega)]; exact cz (by rw [Bool.and_eq_true, Bool.and_eq_true]; exact ⟨@decide_eq_true _ _ (by omega), @decide_eq_true _ _ rfl, hgb⟩) rfl
 | succ k ih =>
  intro i n hi hn; obtain ⟨n, rfl⟩ := ak n (by omega); have hg1 := hg.1; have hL := fj i 0; have := ih (i + 1) n (by omega) (by omega); rw [<- rU i 0] at this; rw [uk]; unfold xC; dsimp only; simp (disch := omega) only [TRa, TRi, aa, LNl, LNi, Int.cast_ofNat_Int, hL]; simp only [LNl, LNi, Int.cast_ofNat_Int] at this ⊢; exact this
def f49 : Int × Int × Int × Int × au × av × aj × List Dat × List Dat × List Dat × List Dat × List Dat × List Dat × List Dat -> Bool × List Un := fun (a0, a1, a2, a3, a4, a5, a6, a7, a8, a9, a10, a11, a12, a13) => (decide (((0 <= a0 /\ a0 <= 1125899906842624) /\ (0 <= a2 /\ a2 <= 1125899906842624) /\ (0 <= a3 /\ a3 <= 1125899906842624)) /\ (0 <= a6.aK /\ a6.aK <= 1125899906842624) /\ (0 <= a6.aU /\ a6.aU <= 1125899906842624)) && ((decide (a12.length <= 1000) && a12.all cD) && (decide (a13.length <= 1000) && a13.all aH)), Uns.enc ((a4) : au) ++ Uns.enc ((a5) : av) ++ Uns.enc (({ a6 with aK := a6.aK + a2, aU := a6.aU + a3 }) : aj) ++ [.d (a7), .d (a8), .d (a9), .d (a10), .d (a11), .d (a12), .d (eS (ct (bk unD a13) (al 1 a12) (a6.aK + a2) (a6.aU + a3)) a13)])
theorem NA (a0 : Int) (a1 : Int) (a2 : Int) (a3 : Int) (a4 : au) (a5 : av) (a6 : aj) (a7 : List Dat) (a8 : List Dat) (a9 : List Dat) (a10 : List Dat) (a11 : List Dat) (a12 : List Dat) (a13 : List Dat) (hc : (decide (((0 <= a0 /\ a0 <= 1125899906842624) /\ (0 <= a2 /\ a2 <= 1125899906842624) /\ (0 <= a3 /\ a3 <= 1125899906842624)) /\ (0 <= a6.aK /\ a6.aK <= 1125899906842624) /\ (0 <= a6.aU /\ a6.aU <= 1125899906842624)) && ((decide (a12.length <= 1000) && a12.all cD) && (decide (a13.length <= 1000) && a13.all aH))) = true) : ∃ m, t49 m (a0, a1, a2, a3, a4, a5, a6, a7, a8, a9, a10, a11, a12, a13) = some (Uns.enc ((a4) : au) ++ Uns.enc ((a5) : av) ++ Uns.enc (({ a6 with aK := a6.aK + a2, aU := a6.aU + a3 }) : aj) ++ [.d (a7), .d (a8), .d (a9), .d (a10), .d (a11), .d (a12), .d (eS (ct (bk unD a13) (al 1 a12) (a6.aK + a2) (a6.aU + a3)) a13)]) := by
 simp only [Bool.and_eq_true, decide_eq_true_eq, List.all_eq_true] at hc; obtain ⟨⟨⟨h1, h2, h3⟩, h4, h5⟩, ⟨h7, h8⟩, h9, h10⟩ := hc; have hg : cZ a13 := ⟨h9, h10⟩
 have hb := wE h7 h8; have hs := (gp a13 h10).2.2.2.1; refine ⟨a13.length + 1, ?_⟩; unfold t49; dsimp only; refine cz (by rw [dU hg]; rfl) ?_
 rw [aa (n := a6.aK + a2) (by omega) (by omega), aa (n := a6.aU + a3) (by omega) (by omega)]; exact Oz _ _ a4 a5 { a6 with aK := a6.aK + a2, aU := a6.aU + a3 } a7 a8 a9 a10 a11 a12 a13 (by omega) (by simp only; omega) (by simp only; omega) (by rw [Bool.and_eq_true, List.all_eq_true]; exact ⟨decide_eq_true h7, h8⟩) hb hg a13.length 0 (a13.length + 1) (by omega) (by omega)
theorem Jx : ER 49 (mkE N49.en N49.ex f49) := an ai T46.right (fun m => [FW (vT m m)]) (t := t49) (by kernel_rfl) (fun m => (aE (O4 m m) az)) (fun m a => by kernel_rfl) fun (a0, a1, a2, a3, a4, a5, a6, a7, a8, a9, a10, a11, a12, a13) hc => NA a0 a1 a2 a3 a4 a5 a6 a7 a8 a9 a10 a11 a12 a13 hc
def T49 : Tb Tryz.prog LQ TE := T46.add 49 _ Jx
def Bh (d : Dat) : Dat := .r [.n (aZ d), .n (d.i 5), .n (d.i 6)]
def N53 : aA := ⟨T49.tab, 53, ⟨[.agg [.bool, .int .i64, .int .i64, .int .i64, .int .i64, .int .i64, .int .i64, .int .i64, .int .i64, .int .i64, .int .i64, .buf 9 4, .int .i64, .int .i64, .int .i64, .int .i64, .int .i64, .dn, .int .i64], .np 0 0 0], bo 0 ++ [.af (sI 4)], 10⟩, ⟨[.agg [.bool, .int .i64, .int .i64, .int .i64, .int .i64, .int .i64, .int .i64, .int .i64, .int .i64, .int .i64, .int .i64, .buf 9 4, .int .i64, .int .i64, .int .i64, .int .i64, .int .i64, .buf 10 3, .int .i64]], bo 0 ++ [.af (sI 4), .af (sI 3)], 10⟩, []⟩
abbrev CZ : Type := Int × Int × au × av × aj × List Dat × List Dat × List Dat × List Dat × List Dat × List Dat × List Dat × List Dat × ig × fJ × Int × ig × fJ × Int × List Dat × List Dat × List Dat
def wy (m : Nat) (k : CZ -> Option (List Un)) : CZ -> Option (List Un) := fun (a0, a1, a2, a3, a4, a5, a6, a7, a8, a9, a10, a11, a12, a13, a14, a15, a16, a17, a18, a19, a20, a21) =>
 bif decide (a1 < a0) then
 chk (inb a1 a11.length) <|
 chk (decide (a1.toNat < a11.length)) <|
 lt (ah a11 a1.toNat : Dat) fun d3 =>
 chk (fits (a19.length + 1) 24) <|
 k (a0, (w64 (a1 + 1)), a2, a3, a4, a5, a6, a7, a8, a9, a10, a11, a12, a13, a14, a15, a16, a17, a18, (a19 ++ ([.r [.n (w64 (w64 ((d3.i 1) - w64 ((d3.i 3) - (d3.i 4))) - (d3.i 6))), .n (d3.i 5), .n (d3.i 6)]])), a20, a21)
 else
 some (Uns.enc (a13 : ig) ++ Uns.enc (a14 : fJ) ++ [.i a15] ++ Uns.enc (a2 : au) ++ Uns.enc (a3 : av) ++ Uns.enc (a4 : aj) ++ [.d a5, .d a6, .d a7, .d a8, .d a9, .d a10, .d a11, .d a12, .d a19])
def vM (m : Nat) : Nat -> CZ -> Option (List Un) := bc (wy m)
theorem rO (m : Nat) (n : Nat) : vM m (n + 1) = wy m (vM m n) := rfl
def GV (F : CZ -> Option (List Un)) : aP := ⟨[.lp [0, 1, 0, 1, 1], .blk 0, .code [1, 1, 1]], ⟨frm 58 [(2, .ptr 10 0 0), (4, .ptr 11 0 0), (38, .buf 8 7), (39, .int .i64), (40, .int .i64)], bo 0 ++ [.af (sI 4), .cells [.bool, .int .i64, .int .i64, .int .i64, .int .i64, .int .i64, .int .i64, .int .i64, .int .i64, .int .i64, .int .i64, .buf 9 4, .int .i64, .int .i64, .int .i64, .int .i64, .int .i64, .buf 12 3, .int .i64], .cells [.bool, .int .i64, .int .i64, .int .i64, .int .i64, .int .i64, .int .i64, .int .i64, .int .i64, .int .i64, .int .i64, .buf 13 4, .int .i64, .int .i64, .int .i64, .int .i64, .int .i64, .buf 14 3, .int .i64], .af (sI 3), .af (sI 4), .af (sI 3)], 10⟩, onU F⟩
theorem O6 (m : Nat) : ∀ n, HO N53 (GV (vM m n)) := aw ai T49.right (fun k => [GV k]) (fun k h => (aE h az)) fun k a => by kernel_rfl
def t53 (m : Nat) : ig × fJ × Int × Int × au × av × aj × List Dat × List Dat × List Dat × List Dat × List Dat × List Dat × List Dat × List Dat -> Option (List Un) := fun (a0, a1, a2, a3, a4, a5, a6, a7, a8, a9, a10, a11, a12, a13, a14) =>
 chk (decide (0 <= a3)) <|
 chk (decide (0 < ([.r [.r a12]] : List Dat).length) && (decide (((ah ([.r [.r a12]] : List Dat) 0).d 0).length <= 1000) && ((ah ([.r [.r a12]] : List Dat) 0).d 0).all cD)) <|
 chk (decide (0 <= a3)) <|
 chk (decide (0 <= a3)) <|
 chk (decide (0 <= a3)) <|
 chk (decide (0 <= a3)) <|
 chk (decide (0 <= a3)) <|
 vM m m ((a13.length : Int), 0, a4, a5, a6, a7, a8, a9, a10, a11, a12, a13, a14, a0, (⟨a1.dW, (al 1 ((ah ([.r [.r a12]] : List Dat) 0).d 0)), (w64 (a6.rin - a6.ba)), a6.out, a6.fee⟩ : fJ), a6.mode, (⟨false, 0, 0, 0, 0, 0, 0, 0, 0, 0, 0⟩ : ig), (⟨0, 0, 0, 0, 0⟩ : fJ), 0, [], [], [])
theorem JU (m : Nat) (xa : au) (xb : av) (xn : aj) (x1 x2 x3 x4 x5 x6 py : List Dat) (ra za : ig) (rb zb : fJ) (nx zx : Int) (z1 z2 : List Dat) : ∀ (rest pre : List Dat) (n : Nat), rest.length < n -> (pre ++ rest).length <= 1000 -> (∀ d ∈ rest, aH d = true) ->
 vM m n (((pre ++ rest).length : Int), (pre.length : Int), xa, xb, xn, x1, x2, x3, x4, x5, x6, pre ++ rest, py, ra, rb, nx, za, zb, zx, pre.map Bh, z1, z2) =
  some (Uns.enc ra ++ Uns.enc rb ++ [.i nx] ++ Uns.enc xa ++ Uns.enc xb ++ Uns.enc xn ++ [.d x1, .d x2, .d x3, .d x4, .d x5, .d x6, .d (pre ++ rest), .d py, .d ((pre ++ rest).map Bh)]) := by
 intro rest
 induction rest with
 | nil =>
  intro pre n hn hl hg; obtain ⟨n, rfl⟩ := ak n (by simp at hn; omega); rw [rO]; unfold wy; dsimp only; simp [aB]
 | cons x rest ih =>
  intro pre n hn hl hg; obtain ⟨n, rfl⟩ := ak n (by simp at hn; omega); simp only [List.length_cons, List.length_append] at hn hl; have e := Fi (hg x (by simp)); have := ih (pre ++ [x]) n (by omega) (by simp; omega) (fun d hd => hg d (by simp [hd])); rw [List.map_append, show [x].map Bh = [.r [.n (aZ x), .n (x.i 5), .n (x.i 6)]] from rfl] at this; rw [rO]; unfold wy; dsimp only; simp only [LNi, ao, lt_eq, e]; simp (disch := omega) only [TRa, TRi, aa, LNl, LNi, Int.cast_ofNat_Int, ao]; simp only [LNl, LNi, Int.cast_ofNat_Int] at this ⊢; exact this
def f53 : ig × fJ × Int × Int × au × av × aj × List Dat × List Dat × List Dat × List Dat × List Dat × List Dat × List Dat × List Dat -> Bool × List Un := fun (a0, a1, a2, a3, a4, a5, a6, a7, a8, a9, a10, a11, a12, a13, a14) => (decide (0 <= a3) && (decide (0 <= a6.ba /\ a6.ba <= a6.rin /\ a6.rin <= 1152921504606846976) && ((decide (a12.length <= 1000) && a12.all cD) && (decide (a13.length <= 1000) && a13.all aH))), Uns.enc ((a0) : ig) ++ Uns.enc (((⟨a1.dW, al 1 a12, a6.rin - a6.ba, a6.out, a6.fee⟩ : fJ)) : fJ) ++ [.i (a6.mode)] ++ Uns.enc ((a4) : au) ++ Uns.enc ((a5) : av) ++ Uns.enc ((a6) : aj) ++ [.d (a7), .d (a8), .d (a9), .d (a10), .d (a11), .d (a12), .d (a13), .d (a14), .d (a13.map Bh)])
theorem LX (a0 : ig) (a1 : fJ) (a2 : Int) (a3 : Int) (a4 : au) (a5 : av) (a6 : aj) (a7 : List Dat) (a8 : List Dat) (a9 : List Dat) (a10 : List Dat) (a11 : List Dat) (a12 : List Dat) (a13 : List Dat) (a14 : List Dat) (hc : (decide (0 <= a3) && (decide (0 <= a6.ba /\ a6.ba <= a6.rin /\ a6.rin <= 1152921504606846976) && ((decide (a12.length <= 1000) && a12.all cD) && (decide (a13.length <= 1000) && a13.all aH)))) = true) : ∃ m, t53 m (a0, a1, a2, a3, a4, a5, a6, a7, a8, a9, a10, a11, a12, a13, a14) = some (Uns.enc ((a0) : ig) ++ Uns.enc (((⟨a1.dW, al 1 a12, a6.rin - a6.ba, a6.out, a6.fee⟩ : fJ)) : fJ) ++ [.i (a6.mode)] ++ Uns.enc ((a4) : au) ++ Uns.enc ((a5) : av) ++ Uns.enc ((a6) : aj) ++ [.d (a7), .d (a8), .d (a9), .d (a10), .d (a11), .d (a12), .d (a13), .d (a14), .d (a13.map Bh)]) := by
 simp only [Bool.and_eq_true, decide_eq_true_eq, List.all_eq_true] at hc; obtain ⟨h0, ⟨h4, h5, h6⟩, ⟨h7, h8⟩, h9, h10⟩ := hc; have hb := wE h7 h8; have hlb : (decide (a12.length <= 1000) && a12.all cD) = true := by rw [Bool.and_eq_true, List.all_eq_true]; exact ⟨decide_eq_true h7, h8⟩
 refine ⟨a13.length + 1, ?_⟩; unfold t53; dsimp only [lt]; simp only [aQ h0]; refine cz (Bool.and_eq_true_iff.2 ⟨rfl, hlb⟩) ?_
 rw [aa (n := a6.rin - a6.ba) (by omega) (by omega)]; exact JU _ a4 a5 a6 a7 a8 a9 a10 a11 a12 a14 a0 _ _ _ _ _ _ _ a13 [] (a13.length + 1) (by omega) (by simpa using h9) h10
theorem JI : ER 53 (mkE N53.en N53.ex f53) := an ai T49.right (fun m => [GV (vM m m)]) (t := t53) (by kernel_rfl) (fun m => (aE (O6 m m) az)) (fun m a => by kernel_rfl) fun (a0, a1, a2, a3, a4, a5, a6, a7, a8, a9, a10, a11, a12, a13, a14) hc => LX a0 a1 a2 a3 a4 a5 a6 a7 a8 a9 a10 a11 a12 a13 a14 hc
def T53 : Tb Tryz.prog LQ TE := T49.add 53 _ JI
def fS : List Dat -> List Dat
 | [] => []
 | d :: l => (if 0 < d.i 1 then [.r [.n (d.i 0), .n 0, .n (d.i 1), .n 0, .n 0, .n 0, .n (bI false)]] else []) ++ fS l
def N87 : aA := ⟨T53.tab, 87, ⟨[.np 0 0 0], bo 0, 0⟩, ⟨[.agg [.int .i64, .int .i64, .int .i64, .int .i64]], [.cells [.int .i64, .int .i64, .int .i64, .buf 1 2, .buf 2 3, .int .i64, .int .i64, .int .i64, .int .i64, .int .i64, .int .i64, .int .i64, .int .i64, .int .i64, .int .i64, .buf 3 2, .buf 4 2, .buf 5 2, .ptr 6 0 0, .buf 8 7, .int .i64, .int .i64, .int .i64, .int .i64, .int .i64, .int .i64, .int .i64, .int .i64, .int .i64, .bool], .af (sI 2), .af (sI 3), .af (sI 2), .af (sI 2), .af (sI 2), .cells [.buf 9 5], .gone, .af (sI 7), .af (sB 4)], 0⟩, []⟩
abbrev CC : Type := Int × Int × Int × au × av × aj × List Dat × List Dat × List Dat × List Dat × List Dat × List Dat × Int × Int × Int × Int × List Dat × List Dat × List Dat
def xU (m : Nat) (k : CC -> Option (List Un)) : CC -> Option (List Un) := fun (a0, a1, a2, a3, a4, a5, a6, a7, a8, a9, a10, a11, a12, a13, a14, a15, a16, a17, a18) =>
 bif decide (a2 < a1) then
 chk (inb a2 a17.length) <|
 chk (decide (a2.toNat < a17.length)) <|
 lt (ah a17 a2.toNat : Dat) fun d2 =>
 bif decide ((d2.i 1) > 0) then
 chk (fits (a16.length + 1) 56) <|
 k (a0, a1, (w64 (a2 + 1)), a3, a4, a5, a6, a7, a8, a9, a10, a11, a12, a13, a14, a15, (a16 ++ ([.r [.n (d2.i 0), .n 0, .n (d2.i 1), .n 0, .n 0, .n 0, .n (bI false)]])), a17, a18)
 else
 k (a0, a1, (w64 (a2 + 1)), a3, a4, a5, a6, a7, a8, a9, a10, a11, a12, a13, a14, a15, a16, a17, a18)
 else
 chk (decide (0 <= a0)) <|
 chk (decide (a18.length < 1000000)) <|
 some ([.i ((ay a16 a18).p), .i ((ay a16 a18).q), .i ((ay a16 a18).l), .i ((ay a16 a18).r)] ++ Uns.enc (a3 : au) ++ Uns.enc (a4 : av) ++ Uns.enc (a5 : aj) ++ [.d a6, .d a7, .d a8, .d a9, .d a10, .d a11, .d ((ay a16 a18).bd)])
def vw (m : Nat) : Nat -> CC -> Option (List Un) := bc (xU m)
theorem sZ (m : Nat) (n : Nat) : vw m (n + 1) = xU m (vw m n) := rfl
def E1 (F : CC -> Option (List Un)) : aP := ⟨[.lp [0, 1, 0, 1, 1], .blk 0, .code [1, 1, 1]], ⟨frm 43 [(0, .np 0 0 0), (2, .ptr 9 0 0), (3, .buf 10 7), (12, .buf 11 5), (13, .int .i64), (14, .int .i64)], [.cells [.int .i64, .int .i64, .int .i64, .buf 1 2, .buf 2 3, .int .i64, .int .i64, .int .i64, .int .i64, .int .i64, .int .i64, .int .i64, .int .i64, .int .i64, .int .i64, .buf 3 2, .buf 4 2, .buf 5 2, .ptr 6 0 0, .buf 8 7, .int .i64, .int .i64, .int .i64, .int .i64, .int .i64, .int .i64, .int .i64, .int .i64, .int .i64, .bool], .af (sI 2), .af (sI 3), .af (sI 2), .af (sI 2), .af (sI 2), .cells [.buf 12 5], .gone, .af (sI 7), .cells [.int .i64, .int .i64, .int .i64, .int .i64], .af (sB 6), .af (sB 4), .af (sB 4)], 0⟩, onU F⟩
theorem Pr (m : Nat) : ∀ n, HO N87 (E1 (vw m n)) := aw ai T53.right (fun k => [E1 k]) (fun k h => (aE h az)) fun k a => by kernel_rfl
def t87 (m : Nat) : Int × au × av × aj × List Dat × List Dat × List Dat × List Dat × List Dat × List Dat × List Dat -> Option (List Un) := fun (a0, a1, a2, a3, a4, a5, a6, a7, a8, a9, a10) =>
 chk (decide (0 <= a0)) <|
 chk (decide (0 < ([.r [.r a9]] : List Dat).length) && decide (((ah ([.r [.r a9]] : List Dat) 0).d 0).length < 1000000)) <|
 lt (((ah ([.r [.r a9]] : List Dat) 0).d 0) : List Dat) fun l1 =>
 vw m m (a0, (l1.length : Int), 0, a1, a2, a3, a4, a5, a6, a7, a8, a10, 0, 0, 0, 0, [], l1, a9)
theorem MU (m : Nat) (p0 : Int) (hp0 : 0 <= p0) (xa : au) (xb : av) (xn : aj) (x1 x2 x3 x4 x5 x6 pl : List Dat) (hpl : pl.length < 1000000) (z1 z2 z3 z4 : Int) : ∀ (rest pre acc : List Dat) (n : Nat), rest.length < n -> (pre ++ rest).length < 1000000 -> acc.length <= pre.length ->
 vw m n (p0, ((pre ++ rest).length : Int), (pre.length : Int), xa, xb, xn, x1, x2, x3, x4, x5, x6, z1, z2, z3, z4, acc, pre ++ rest, pl) =
  some ([.i (ay (acc ++ fS rest) pl).p, .i (ay (acc ++ fS rest) pl).q, .i (ay (acc ++ fS rest) pl).l, .i (ay (acc ++ fS rest) pl).r] ++ Uns.enc xa ++ Uns.enc xb ++ Uns.enc xn ++ [.d x1, .d x2, .d x3, .d x4, .d x5, .d x6, .d (ay (acc ++ fS rest) pl).bd]) := by
 intro rest
 induction rest with
 | nil =>
  intro pre acc n hn hl ha; obtain ⟨n, rfl⟩ := ak n (by simp at hn; omega); rw [sZ]; unfold xU; dsimp only; rw [aB (by simp), aQ hp0, aQ hpl, fS, List.append_nil]
 | cons x rest ih =>
  intro pre acc n hn hl ha; obtain ⟨n, rfl⟩ := ak n (by simp at hn; omega); simp only [List.length_cons, List.length_append] at hn hl; have := fun acc h => ih (pre ++ [x]) acc n (by omega) (by simp; omega) h
  unfold fS; rw [sZ]; unfold xU; dsimp only
  by_cases h1 : x.i 1 > 0
  · have := this (acc ++ [.r [.n (x.i 0), .n 0, .n (x.i 1), .n 0, .n 0, .n 0, .n (bI false)]]) (by simp; omega); rw [if_pos h1, <- List.append_assoc]; simp (disch := omega) only [TRa, aa, LNi, Int.cast_ofNat_Int, ao, List.length_append, List.length_cons, List.length_nil]; simp only [List.length_append, List.length_cons, List.length_nil, List.append_assoc, List.cons_append, List.nil_append, LNi, Int.cast_ofNat_Int] at this ⊢; exact this
  · have := this acc (by simp; omega); rw [if_neg h1, List.nil_append]; simp (disch := omega) only [TRa, TRi, aa, LNl, LNi, Int.cast_ofNat_Int, ao]; simp only [LNl, LNi, Int.cast_ofNat_Int] at this ⊢; exact this
def f87 : Int × au × av × aj × List Dat × List Dat × List Dat × List Dat × List Dat × List Dat × List Dat -> Bool × List Un := fun (a0, a1, a2, a3, a4, a5, a6, a7, a8, a9, a10) => (decide (0 <= a0) && decide (a9.length < 1000000), [.i ((ay (fS a9) a9).p), .i ((ay (fS a9) a9).q), .i ((ay (fS a9) a9).l), .i ((ay (fS a9) a9).r)] ++ Uns.enc ((a1) : au) ++ Uns.enc ((a2) : av) ++ Uns.enc ((a3) : aj) ++ [.d (a4), .d (a5), .d (a6), .d (a7), .d (a8), .d (a10), .d ((ay (fS a9) a9).bd)])
theorem Mk (a0 : Int) (a1 : au) (a2 : av) (a3 : aj) (a4 : List Dat) (a5 : List Dat) (a6 : List Dat) (a7 : List Dat) (a8 : List Dat) (a9 : List Dat) (a10 : List Dat) (hc : (decide (0 <= a0) && decide (a9.length < 1000000)) = true) : ∃ m, t87 m (a0, a1, a2, a3, a4, a5, a6, a7, a8, a9, a10) = some ([.i ((ay (fS a9) a9).p), .i ((ay (fS a9) a9).q), .i ((ay (fS a9) a9).l), .i ((ay (fS a9) a9).r)] ++ Uns.enc ((a1) : au) ++ Uns.enc ((a2) : av) ++ Uns.enc ((a3) : aj) ++ [.d (a4), .d (a5), .d (a6), .d (a7), .d (a8), .d (a10), .d ((ay (fS a9) a9).bd)]) := by
 simp only [Bool.and_eq_true, decide_eq_true_eq] at hc; obtain ⟨h0, h⟩ := hc; refine ⟨a9.length + 1, ?_⟩; unfold t87; dsimp only [lt]; refine cz (decide_eq_true h0) ?_
 refine cz (Bool.and_eq_true_iff.2 ⟨rfl, decide_eq_true h⟩) ?_
 exact MU _ a0 h0 a1 a2 a3 a4 a5 a6 a7 a8 a10 a9 h _ _ _ _ a9 [] [] (a9.length + 1) (by omega) (by simpa using h) (by simp)
theorem Kg : ER 87 (mkE N87.en N87.ex f87) := an ai T53.right (fun m => [E1 (vw m m)]) (t := t87) (by kernel_rfl) (fun m => (aE (Pr m m) az)) (fun m a => by kernel_rfl) fun (a0, a1, a2, a3, a4, a5, a6, a7, a8, a9, a10) hc => Mk a0 a1 a2 a3 a4 a5 a6 a7 a8 a9 a10 hc
def T87 : Tb Tryz.prog LQ TE := T53.add 87 _ Kg
def Mv (d : Dat) : Dat := .r [.n (d.i 0), .n (d.i 1), .n (d.i 2), .n (d.i 3)]
def vX : List Dat -> List Dat
 | [] => []
 | d :: l => (if 0 < d.i 3 then [Mv d] else []) ++ vX l
def Gc : Int -> List Dat -> List Dat
 | _, [] => []
 | i, d :: c => .r [.n 0, .n 3, .n i, .n (d.i 5)] :: .r [.n 0, .n 7, .n i, .n (aZ d)] :: Gc (i + 1) c
def OT (fee out : Int) (c : List Dat) : List Dat := vX (.r [.n 0, .n 1, .n (-1), .n fee] :: .r [.n 0, .n 2, .n (-1), .n out] :: Gc 0 c)
def N85 : aA := ⟨T87.tab, 85, ⟨[.np 0 0 0], bo 0, 9⟩, ⟨[.buf 9 4], bo 0 ++ [.af (sI 4)], 9⟩, []⟩
abbrev CQ : Type := Int × Int × au × av × aj × List Dat × List Dat × List Dat × List Dat × List Dat × List Dat × List Dat × List Dat × List Dat
abbrev Co : Type := Int × Int × au × av × aj × List Dat × List Dat × List Dat × List Dat × List Dat × List Dat × List Dat × List Dat
def yb (m : Nat) (k : CQ -> Option (List Un)) : CQ -> Option (List Un) := fun (a0, a1, a2, a3, a4, a5, a6, a7, a8, a9, a10, a11, a12, a13) =>
 bif decide (a1 < a0) then
 chk (inb a1 a13.length) <|
 chk (decide (a1.toNat < a13.length)) <|
 lt (ah a13 a1.toNat : Dat) fun d4 =>
 bif decide ((d4.i 3) > 0) then
 chk (fits (a12.length + 1) 32) <|
 k (a0, (w64 (a1 + 1)), a2, a3, a4, a5, a6, a7, a8, a9, a10, a11, (a12 ++ ([.r [.n (d4.i 0), .n (d4.i 1), .n (d4.i 2), .n (d4.i 3)]])), a13)
 else
 k (a0, (w64 (a1 + 1)), a2, a3, a4, a5, a6, a7, a8, a9, a10, a11, a12, a13)
 else
 some (Uns.enc (a2 : au) ++ Uns.enc (a3 : av) ++ Uns.enc (a4 : aj) ++ [.d a5, .d a6, .d a7, .d a8, .d a9, .d a10, .d a11, .d a12])
def uW (m : Nat) : Nat -> CQ -> Option (List Un) := bc (yb m)
theorem tR (m : Nat) (n : Nat) : uW m (n + 1) = yb m (uW m n) := rfl
def Gb (F : CQ -> Option (List Un)) : aP := ⟨[.lp [0, 1, 0, 1, 1, 1, 1], .blk 2, .code [1, 1, 1, 1, 1]], ⟨frm 57 [(6, .buf 9 4), (42, .buf 10 4), (43, .int .i64), (44, .int .i64)], bo 0 ++ [.af (sI 4), .af (sI 4)], 9⟩, onU F⟩
def xA (m : Nat) (k : Co -> Option (List Un)) : Co -> Option (List Un) := fun (a0, a1, a2, a3, a4, a5, a6, a7, a8, a9, a10, a11, a12) =>
 bif decide (a1 < a0) then
 chk (inb a1 a11.length) <|
 chk (decide (a1.toNat < a11.length)) <|
 lt (ah a11 a1.toNat : Dat) fun d1 =>
 chk (fits (a12.length + 2) 32) <|
 k (a0, (w64 (a1 + 1)), a2, a3, a4, a5, a6, a7, a8, a9, a10, a11, (a12 ++ ([.r [.n 0, .n 3, .n a1, .n (d1.i 5)], .r [.n 0, .n 7, .n a1, .n (w64 (w64 ((d1.i 1) - w64 ((d1.i 3) - (d1.i 4))) - (d1.i 6)))]])))
 else
 uW m m ((a12.length : Int), 0, a2, a3, a4, a5, a6, a7, a8, a9, a10, a11, [], a12)
def wg (m : Nat) : Nat -> Co -> Option (List Un) := bc (xA m)
theorem sT (m : Nat) (n : Nat) : wg m (n + 1) = xA m (wg m n) := rfl
def Ej (F : Co -> Option (List Un)) : aP := ⟨[.lp [0, 1, 0, 1, 1], .blk 0, .code [1, 1, 1]], ⟨frm 57 [(3, .buf 9 4), (23, .buf 8 7), (24, .int .i64), (25, .int .i64)], bo 0 ++ [.af (sI 4)], 9⟩, onU F⟩
theorem Ow (m : Nat) : ∀ n, HO N85 (Gb (uW m n)) := aw ai T87.right (fun k => [Gb k]) (fun k h => (aE h az)) fun k a => by kernel_rfl
theorem NK (m : Nat) : ∀ n, HO N85 (Ej (wg m n)) := aw ai T87.right (fun k => [Ej k, Gb (uW m m)]) (fun k h => (aE h (aE (Ow m m) az))) fun k a => by kernel_rfl
def t85 (m : Nat) : Int × au × av × aj × List Dat × List Dat × List Dat × List Dat × List Dat × List Dat × List Dat -> Option (List Un) := fun (a0, a1, a2, a3, a4, a5, a6, a7, a8, a9, a10) =>
 chk (decide (0 <= a0)) <|
 chk (decide (0 <= a0)) <|
 chk (decide (0 <= a0)) <|
 wg m m ((a10.length : Int), 0, a1, a2, a3, a4, a5, a6, a7, a8, a9, a10, ([.r [.n 0, .n 1, .n (-1), .n a3.fee], .r [.n 0, .n 2, .n (-1), .n a3.out]] : List Dat))
section
variable (m : Nat) (xa : au) (xb : av) (xn : aj) (x1 x2 x3 x4 x5 x6 x7 : List Dat)
theorem NS : ∀ (rest pre acc : List Dat) (n : Nat), rest.length < n -> (pre ++ rest).length <= 3000 -> acc.length <= pre.length ->
 uW m n (((pre ++ rest).length : Int), (pre.length : Int), xa, xb, xn, x1, x2, x3, x4, x5, x6, x7, acc, pre ++ rest) = some (Uns.enc xa ++ Uns.enc xb ++ Uns.enc xn ++ [.d x1, .d x2, .d x3, .d x4, .d x5, .d x6, .d x7, .d (acc ++ vX rest)]) := by
 intro rest
 induction rest with
 | nil =>
  intro pre acc n hn hl ha; obtain ⟨n, rfl⟩ := ak n (by simp at hn; omega); rw [tR]; unfold yb; dsimp only; rw [aB (by simp), vX, List.append_nil]
 | cons x rest ih =>
  intro pre acc n hn hl ha; obtain ⟨n, rfl⟩ := ak n (by simp at hn; omega); simp only [List.length_cons, List.length_append] at hn hl; have := fun acc h => ih (pre ++ [x]) acc n (by omega) (by simp; omega) h
  unfold vX; rw [tR]; unfold yb; dsimp only
  by_cases h1 : x.i 3 > 0
  · have := this (acc ++ [Mv x]) (by simp; omega); unfold Mv at this ⊢; rw [if_pos h1, <- List.append_assoc]; simp (disch := omega) only [TRa, aa, LNi, Int.cast_ofNat_Int, ao, List.length_append, List.length_cons, List.length_nil]; simp only [List.length_append, List.length_cons, List.length_nil, List.append_assoc, List.cons_append, List.nil_append, LNi, Int.cast_ofNat_Int] at this ⊢; exact this
  · have := this acc (by simp; omega); rw [if_neg h1, List.nil_append]; simp (disch := omega) only [TRa, TRi, aa, LNl, LNi, Int.cast_ofNat_Int, ao]; simp only [LNl, LNi, Int.cast_ofNat_Int] at this ⊢; exact this
theorem OP (hm : 3000 < m) : ∀ (rest pre acc : List Dat) (n : Nat), rest.length < n -> (pre ++ rest).length <= 1000 -> (∀ d ∈ rest, aH d = true) -> acc.length = 2 + 2 * pre.length ->
 wg m n (((pre ++ rest).length : Int), (pre.length : Int), xa, xb, xn, x1, x2, x3, x4, x5, x6, pre ++ rest, acc) = some (Uns.enc xa ++ Uns.enc xb ++ Uns.enc xn ++ [.d x1, .d x2, .d x3, .d x4, .d x5, .d x6, .d (pre ++ rest), .d (vX (acc ++ Gc pre.length rest))]) := by
 intro rest
 induction rest with
 | nil =>
  intro pre acc n hn hl hg ha; obtain ⟨n, rfl⟩ := ak n (by simp at hn; omega); simp only [List.append_nil] at hl; rw [sT]; unfold xA; dsimp only; rw [aB (by simp)]; refine (NS m xa xb xn x1 x2 x3 x4 x5 x6 (pre ++ []) acc [] [] m (by omega) (by simp; omega) (by simp)).trans ?_
  simp only [Gc, List.append_nil, List.nil_append]
 | cons x rest ih =>
  intro pre acc n hn hl hg ha; obtain ⟨n, rfl⟩ := ak n (by simp at hn; omega); simp only [List.length_cons, List.length_append] at hn hl; have e := Fi (hg x (by simp)); have := ih (pre ++ [x]) (acc ++ [.r [.n 0, .n 3, .n (pre.length : Int), .n (x.i 5)], .r [.n 0, .n 7, .n (pre.length : Int), .n (aZ x)]]) n (by omega) (by simp; omega) (fun d hd => hg d (by simp [hd])) (by simp; omega); unfold Gc; rw [sT]; unfold xA; dsimp only; simp only [LNi, ao, lt_eq, e]; simp (disch := omega) only [TRa, TRi, aa, LNl, LNi, Int.cast_ofNat_Int, ao]; simp only [LNl, LNi, Int.cast_ofNat_Int] at this ⊢; exact this
end
def f85 : Int × au × av × aj × List Dat × List Dat × List Dat × List Dat × List Dat × List Dat × List Dat -> Bool × List Un := fun (a0, a1, a2, a3, a4, a5, a6, a7, a8, a9, a10) => (decide (0 <= a0) && (decide (a10.length <= 1000) && a10.all aH), Uns.enc ((a1) : au) ++ Uns.enc ((a2) : av) ++ Uns.enc ((a3) : aj) ++ [.d (a4), .d (a5), .d (a6), .d (a7), .d (a8), .d (a9), .d (a10), .d (OT a3.fee a3.out a10)])
theorem MT (a0 : Int) (a1 : au) (a2 : av) (a3 : aj) (a4 : List Dat) (a5 : List Dat) (a6 : List Dat) (a7 : List Dat) (a8 : List Dat) (a9 : List Dat) (a10 : List Dat) (hc : (decide (0 <= a0) && (decide (a10.length <= 1000) && a10.all aH)) = true) : ∃ m, t85 m (a0, a1, a2, a3, a4, a5, a6, a7, a8, a9, a10) = some (Uns.enc ((a1) : au) ++ Uns.enc ((a2) : av) ++ Uns.enc ((a3) : aj) ++ [.d (a4), .d (a5), .d (a6), .d (a7), .d (a8), .d (a9), .d (a10), .d (OT a3.fee a3.out a10)]) := by
 simp only [Bool.and_eq_true, decide_eq_true_eq, List.all_eq_true] at hc; refine ⟨3001 + a10.length, ?_⟩; unfold t85; dsimp only; simp only [aQ hc.1]; exact OP _ a1 a2 a3 a4 a5 a6 a7 a8 a9 (by omega) a10 [] _ _ (by omega) (by simpa using hc.2.1) hc.2.2 rfl
theorem Kq : ER 85 (mkE N85.en N85.ex f85) := an ai T87.right (fun m => [Ej (wg m m)]) (t := t85) (by kernel_rfl) (fun m => (aE (NK m m) az)) (fun m a => by kernel_rfl) fun (a0, a1, a2, a3, a4, a5, a6, a7, a8, a9, a10) hc => MT a0 a1 a2 a3 a4 a5 a6 a7 a8 a9 a10 hc
def T85 : Tb Tryz.prog LQ TE := T87.add 85 _ Kq
def IB (a b p : Int) : Bool := decide (0 <= a /\ a <= 1099511627776 /\ 0 <= b /\ b <= 1099511627776 /\ 0 <= p /\ p <= 100000)
def bC (a b p : Int) : Bool := IB a b p && decide (b * p <= a * 10000)
def bM (a b p : Int) : Bool := IB a b p && decide (a * 10000 <= b * p)
def NV : aA := ⟨T85.tab, 110, ⟨[.int .i64, .int .i64, .int .i64], [], 0⟩, ⟨[.bool], [], 0⟩, []⟩
def t110 (m : Nat) : Int × Int × Int -> Option (List Un) := fun (a0, a1, a2) =>
 bif decide (a0 >= 0) then
 bif (decide (a0 <= 1099511627776)) then
 bif decide (a1 >= 0) then
 bif (decide (a1 <= 1099511627776)) then
 bif decide (a2 >= 0) then
 bif decide (a2 <= 100000) then
 some ([.b (decide ((w64 (a0 * 10000)) >= (w64 (a1 * a2))))])
 else
 some ([.b false])
 else
 some ([.b false])
 else
 some ([.b false])
 else
 some ([.b false])
 else
 some ([.b false])
 else
 some ([.b false])
def f110 : Int × Int × Int -> Bool × List Un := fun (a0, a1, a2) => (true, [.b (bC a0 a1 a2)])
theorem JV (a0 : Int) (a1 : Int) (a2 : Int) : ∃ m, t110 m (a0, a1, a2) = some ([.b (bC a0 a1 a2)]) := by
 unfold t110 bC IB; dsimp only [ge_iff_le]
 by_cases h : 0 <= a0 /\ a0 <= 1099511627776 /\ 0 <= a1 /\ a1 <= 1099511627776 /\ 0 <= a2 /\ a2 <= 100000
 · obtain ⟨h1, h2, h3, h4, h5, h6⟩ := h; have hm := Int.mul_le_mul h4 h6 h5 (show (0 : Int) <= 1099511627776 by omega); have hm0 := Int.mul_nonneg h3 h5; refine ⟨0, ?_⟩; rw [decide_eq_true (show 0 <= a0 /\ a0 <= 1099511627776 /\ 0 <= a1 /\ a1 <= 1099511627776 /\ 0 <= a2 /\ a2 <= 100000 from ⟨h1, h2, h3, h4, h5, h6⟩)]; simp (disch := omega) only [TRa, aa, Bool.true_and]
 · refine ⟨0, ?_⟩; rw [decide_eq_false h]
   by_cases h1 : 0 <= a0
   · by_cases h2 : a0 <= 1099511627776
     · by_cases h3 : 0 <= a1
       · by_cases h4 : a1 <= 1099511627776
         · by_cases h5 : 0 <= a2
           · simp [h1, h2, h3, h4, h5, show ¬ a2 <= 100000 by omega]
           · simp [h1, h2, h3, h4, h5]
         · simp [h1, h2, h3, h4]
       · simp [h1, h2, h3]
     · simp [h1, h2]
   · simp [h1]
theorem FH : ER 110 (mkE NV.en NV.ex f110) := an ai T85.right (fun m => []) (t := t110) (by kernel_rfl) (fun m => az) (fun m a => by kernel_rfl) fun (a0, a1, a2) hc => JV a0 a1 a2
def Nl : Tb Tryz.prog LQ TE := T85.add 110 _ FH
def OM : aA := ⟨Nl.tab, 111, ⟨[.int .i64, .int .i64, .int .i64], [], 0⟩, ⟨[.bool], [], 0⟩, []⟩
def t111 (m : Nat) : Int × Int × Int -> Option (List Un) := fun (a0, a1, a2) =>
 bif decide (a0 >= 0) then
 bif (decide (a0 <= 1099511627776)) then
 bif decide (a1 >= 0) then
 bif (decide (a1 <= 1099511627776)) then
 bif decide (a2 >= 0) then
 bif decide (a2 <= 100000) then
 some ([.b (decide ((w64 (a0 * 10000)) <= (w64 (a1 * a2))))])
 else
 some ([.b false])
 else
 some ([.b false])
 else
 some ([.b false])
 else
 some ([.b false])
 else
 some ([.b false])
 else
 some ([.b false])
def f111 : Int × Int × Int -> Bool × List Un := fun (a0, a1, a2) => (true, [.b (bM a0 a1 a2)])
theorem IG (a0 : Int) (a1 : Int) (a2 : Int) : ∃ m, t111 m (a0, a1, a2) = some ([.b (bM a0 a1 a2)]) := by
 unfold t111 bM IB; dsimp only [ge_iff_le]
 by_cases h : 0 <= a0 /\ a0 <= 1099511627776 /\ 0 <= a1 /\ a1 <= 1099511627776 /\ 0 <= a2 /\ a2 <= 100000
 · obtain ⟨h1, h2, h3, h4, h5, h6⟩ := h; have hm := Int.mul_le_mul h4 h6 h5 (show (0 : Int) <= 1099511627776 by omega); have hm0 := Int.mul_nonneg h3 h5; refine ⟨0, ?_⟩; rw [decide_eq_true (show 0 <= a0 /\ a0 <= 1099511627776 /\ 0 <= a1 /\ a1 <= 1099511627776 /\ 0 <= a2 /\ a2 <= 100000 from ⟨h1, h2, h3, h4, h5, h6⟩)]; simp (disch := omega) only [TRa, aa, Bool.true_and]
 · refine ⟨0, ?_⟩; rw [decide_eq_false h]
   by_cases h1 : 0 <= a0
   · by_cases h2 : a0 <= 1099511627776
     · by_cases h3 : 0 <= a1
       · by_cases h4 : a1 <= 1099511627776
         · by_cases h5 : 0 <= a2
           · simp [h1, h2, h3, h4, h5, show ¬ a2 <= 100000 by omega]
           · simp [h1, h2, h3, h4, h5]
         · simp [h1, h2, h3, h4]
       · simp [h1, h2, h3]
     · simp [h1, h2]
   · simp [h1]
theorem FD : ER 111 (mkE OM.en OM.ex f111) := an ai Nl.right (fun m => []) (t := t111) (by kernel_rfl) (fun m => az) (fun m a => by kernel_rfl) fun (a0, a1, a2) hc => IG a0 a1 a2
def Ll : Tb Tryz.prog LQ TE := Nl.add 111 _ FD
def N51 : aA := ⟨Ll.tab, 51, ⟨[.agg [.int .i64, .int .i64, .int .i64, .int .i64, .int .i64], .agg [.int .i64, .int .i64, .int .i64, .int .i64, .int .i64, .int .i64, .int .i64]], [], 0⟩, ⟨[.agg [.bool, .bool, .bool, .bool]], [], 0⟩, []⟩
def t51 (m : Nat) : Int × Int × Int × Int × Int × Int × Int × Int × Int × Int × Int × Int -> Option (List Un) := fun (a0, a1, a2, a3, a4, a5, a6, a7, a8, a9, a10, a11) =>
 bif a0 == 0 then
 bif a1 == 0 then
 bif a2 == 0 then
 bif a3 == 0 then
 some ([.b true, .b true, .b true, .b true])
 else
 some ([.b true, .b true, .b true, .b (bM a11 a6 a3)])
 else
 bif a3 == 0 then
 some ([.b true, .b true, .b (bM a10 a5 a2), .b true])
 else
 some ([.b true, .b true, .b (bM a10 a5 a2), .b (bM a11 a6 a3)])
 else
 bif a2 == 0 then
 bif a3 == 0 then
 some ([.b true, .b (bC a8 a9 a1), .b true, .b true])
 else
 some ([.b true, .b (bC a8 a9 a1), .b true, .b (bM a11 a6 a3)])
 else
 bif a3 == 0 then
 some ([.b true, .b (bC a8 a9 a1), .b (bM a10 a5 a2), .b true])
 else
 some ([.b true, .b (bC a8 a9 a1), .b (bM a10 a5 a2), .b (bM a11 a6 a3)])
 else
 bif a1 == 0 then
 bif a2 == 0 then
 bif a3 == 0 then
 some ([.b (bC a5 a7 a0), .b true, .b true, .b true])
 else
 some ([.b (bC a5 a7 a0), .b true, .b true, .b (bM a11 a6 a3)])
 else
 bif a3 == 0 then
 some ([.b (bC a5 a7 a0), .b true, .b (bM a10 a5 a2), .b true])
 else
 some ([.b (bC a5 a7 a0), .b true, .b (bM a10 a5 a2), .b (bM a11 a6 a3)])
 else
 bif a2 == 0 then
 bif a3 == 0 then
 some ([.b (bC a5 a7 a0), .b (bC a8 a9 a1), .b true, .b true])
 else
 some ([.b (bC a5 a7 a0), .b (bC a8 a9 a1), .b true, .b (bM a11 a6 a3)])
 else
 bif a3 == 0 then
 some ([.b (bC a5 a7 a0), .b (bC a8 a9 a1), .b (bM a10 a5 a2), .b true])
 else
 some ([.b (bC a5 a7 a0), .b (bC a8 a9 a1), .b (bM a10 a5 a2), .b (bM a11 a6 a3)])
def f51 : Int × Int × Int × Int × Int × Int × Int × Int × Int × Int × Int × Int -> Bool × List Un := fun (a0, a1, a2, a3, a4, a5, a6, a7, a8, a9, a10, a11) => (true, [.b ((a0 == 0 || bC a5 a7 a0)), .b ((a1 == 0 || bC a8 a9 a1)), .b ((a2 == 0 || bM a10 a5 a2)), .b ((a3 == 0 || bM a11 a6 a3))])
theorem M1 (a0 : Int) (a1 : Int) (a2 : Int) (a3 : Int) (a4 : Int) (a5 : Int) (a6 : Int) (a7 : Int) (a8 : Int) (a9 : Int) (a10 : Int) (a11 : Int) : ∃ m, t51 m (a0, a1, a2, a3, a4, a5, a6, a7, a8, a9, a10, a11) = some ([.b ((a0 == 0 || bC a5 a7 a0)), .b ((a1 == 0 || bC a8 a9 a1)), .b ((a2 == 0 || bM a10 a5 a2)), .b ((a3 == 0 || bM a11 a6 a3))]) := by
 refine ⟨0, ?_⟩; unfold t51; dsimp only; cases a0 == 0 <;> cases a1 == 0 <;> cases a2 == 0 <;> cases a3 == 0 <;> rfl
theorem IJ : ER 51 (mkE N51.en N51.ex f51) := an ai Ll.right (fun m => []) (t := t51) (by kernel_rfl) (fun m => az) (fun m a => by kernel_rfl) fun (a0, a1, a2, a3, a4, a5, a6, a7, a8, a9, a10, a11) hc => M1 a0 a1 a2 a3 a4 a5 a6 a7 a8 a9 a10 a11
def T51 : Tb Tryz.prog LQ TE := Ll.add 51 _ IJ
def N86 : aA := ⟨T51.tab, 86, ⟨[.agg [.int .i64, .int .i64, .int .i64, .int .i64, .int .i64], .agg [.int .i64, .int .i64, .int .i64, .int .i64, .int .i64, .int .i64, .int .i64]], [], 0⟩, ⟨[.bool], [], 0⟩, []⟩
def t86 (m : Nat) : Int × Int × Int × Int × Int × Int × Int × Int × Int × Int × Int × Int -> Option (List Un) := fun (a0, a1, a2, a3, a4, a5, a6, a7, a8, a9, a10, a11) =>
 bif a4 != 0 then
 some ([.b (bM a5 a6 a4)])
 else
 some ([.b false])
def f86 : Int × Int × Int × Int × Int × Int × Int × Int × Int × Int × Int × Int -> Bool × List Un := fun (a0, a1, a2, a3, a4, a5, a6, a7, a8, a9, a10, a11) => (true, [.b ((a4 != 0 && bM a5 a6 a4))])
theorem Lb (a0 : Int) (a1 : Int) (a2 : Int) (a3 : Int) (a4 : Int) (a5 : Int) (a6 : Int) (a7 : Int) (a8 : Int) (a9 : Int) (a10 : Int) (a11 : Int) : ∃ m, t86 m (a0, a1, a2, a3, a4, a5, a6, a7, a8, a9, a10, a11) = some ([.b ((a4 != 0 && bM a5 a6 a4))]) := by
 refine ⟨0, ?_⟩; unfold t86; dsimp only; cases a4 != 0 <;> rfl
theorem JM : ER 86 (mkE N86.en N86.ex f86) := an ai T51.right (fun m => []) (t := t86) (by kernel_rfl) (fun m => az) (fun m a => by kernel_rfl) fun (a0, a1, a2, a3, a4, a5, a6, a7, a8, a9, a10, a11) hc => Lb a0 a1 a2 a3 a4 a5 a6 a7 a8 a9 a10 a11
def T86 : Tb Tryz.prog LQ TE := T51.add 86 _ JM
def fh (need has : Int) : Int := max (min (max need 0) has) 0
def AG (need has may : Int) : Int := max (min (max need 0 - fh need has) may) 0
def N44 : aA := ⟨T86.tab, 44, ⟨[.int .i64, .np 0 0 20, .int .i64, .int .i64], bo 0, 0⟩, ⟨[.int .i64, .int .i64], bo 0, 0⟩, []⟩
def t44 (m : Nat) : Int × Int × Int × Int × au × av × aj × List Dat × List Dat × List Dat × List Dat × List Dat × List Dat × List Dat -> Option (List Un) := fun (a0, a1, a2, a3, a4, a5, a6, a7, a8, a9, a10, a11, a12, a13) =>
 lt ((if a0 < 0 then 0 else a0) : Int) fun x1 =>
 bif (!((decide (a1 < 0)) && true)) then
 chk (decide (0 <= a1)) <|
 lt ((w64 (a6.rin - a6.ba)) : Int) fun x3 =>
 lt ((if x3 < x1 then x3 else x1) : Int) fun x4 =>
 lt ((if x4 < 0 then 0 else x4) : Int) fun x5 =>
 chk (decide (0 <= a1)) <|
 chk (decide (0 <= a1)) <|
 lt ((if (w64 (a3 - a2)) < (w64 (x1 - x5)) then (w64 (a3 - a2)) else (w64 (x1 - x5))) : Int) fun x6 =>
 some ([.i x5, .i (if x6 < 0 then 0 else x6)] ++ Uns.enc (a4 : au) ++ Uns.enc (a5 : av) ++ Uns.enc (({ a6 with ba := (w64 (a6.ba + x5)) } : aj) : aj) ++ [.d a7, .d a8, .d a9, .d a10, .d a11, .d a12, .d a13])
 else
 lt ((if (w64 (a3 - a2)) < (w64 (x1 - 0)) then (w64 (a3 - a2)) else (w64 (x1 - 0))) : Int) fun x8 =>
 some ([.i 0, .i (if x8 < 0 then 0 else x8)] ++ Uns.enc (a4 : au) ++ Uns.enc (a5 : av) ++ Uns.enc (a6 : aj) ++ [.d a7, .d a8, .d a9, .d a10, .d a11, .d a12, .d a13])
def f44 : Int × Int × Int × Int × au × av × aj × List Dat × List Dat × List Dat × List Dat × List Dat × List Dat × List Dat -> Bool × List Un := fun (a0, a1, a2, a3, a4, a5, a6, a7, a8, a9, a10, a11, a12, a13) => (decide (0 <= a1) && decide ((-1152921504606846976 <= a0 /\ a0 <= 1152921504606846976) /\ ((0 : Int) <= a6.ba /\ a6.ba <= a6.rin /\ a6.rin <= (1152921504606846976 : Int)) /\ (0 <= a2 /\ a2 <= 1152921504606846976) /\ (0 <= a3 /\ a3 <= 1152921504606846976)), [.i (fh a0 (a6.rin - a6.ba)), .i (AG a0 (a6.rin - a6.ba) (a3 - a2))] ++ Uns.enc ((a4) : au) ++ Uns.enc ((a5) : av) ++ Uns.enc (({ a6 with ba := a6.ba + fh a0 (a6.rin - a6.ba) }) : aj) ++ [.d (a7), .d (a8), .d (a9), .d (a10), .d (a11), .d (a12), .d (a13)])
theorem Lg (a0 : Int) (a1 : Int) (a2 : Int) (a3 : Int) (a4 : au) (a5 : av) (a6 : aj) (a7 : List Dat) (a8 : List Dat) (a9 : List Dat) (a10 : List Dat) (a11 : List Dat) (a12 : List Dat) (a13 : List Dat) (hc : (decide (0 <= a1) && decide ((-1152921504606846976 <= a0 /\ a0 <= 1152921504606846976) /\ ((0 : Int) <= a6.ba /\ a6.ba <= a6.rin /\ a6.rin <= (1152921504606846976 : Int)) /\ (0 <= a2 /\ a2 <= 1152921504606846976) /\ (0 <= a3 /\ a3 <= 1152921504606846976))) = true) : ∃ m, t44 m (a0, a1, a2, a3, a4, a5, a6, a7, a8, a9, a10, a11, a12, a13) = some ([.i (fh a0 (a6.rin - a6.ba)), .i (AG a0 (a6.rin - a6.ba) (a3 - a2))] ++ Uns.enc ((a4) : au) ++ Uns.enc ((a5) : av) ++ Uns.enc (({ a6 with ba := a6.ba + fh a0 (a6.rin - a6.ba) }) : aj) ++ [.d (a7), .d (a8), .d (a9), .d (a10), .d (a11), .d (a12), .d (a13)]) := by
 simp only [Bool.and_eq_true, decide_eq_true_eq] at hc; obtain ⟨h0, ⟨h1, h2⟩, ⟨h3, h4, h5⟩, ⟨h6, h7⟩, h8, h9⟩ := hc; refine ⟨0, ?_⟩; unfold t44; dsimp only; simp only [Bool.and_true, lt_eq, decide_eq_false (show ¬ a1 < 0 by omega), Bool.not_false, cond_true, decide_eq_true h0, gS]; rw [aa (n := a6.rin - a6.ba) (by omega) (by omega), aa (n := a3 - a2) (by omega) (by omega)]; have e : (if (if a6.rin - a6.ba < (if a0 < 0 then 0 else a0) then a6.rin - a6.ba else (if a0 < 0 then 0 else a0)) < 0 then 0 else (if a6.rin - a6.ba < (if a0 < 0 then 0 else a0) then a6.rin - a6.ba else (if a0 < 0 then 0 else a0))) = fh a0 (a6.rin - a6.ba) := by unfold fh; omega
 have hd : 0 <= fh a0 (a6.rin - a6.ba) /\ fh a0 (a6.rin - a6.ba) <= 1152921504606846976 /\ fh a0 (a6.rin - a6.ba) <= max a0 0 /\ fh a0 (a6.rin - a6.ba) <= a6.rin - a6.ba := by unfold fh; omega
 rw [e, show (if a0 < 0 then 0 else a0) = max a0 0 by omega, aa (n := max a0 0 - _) (by omega) (by omega), aa (n := a6.ba + _) (by omega) (by omega)]; rw [show (if (if a3 - a2 < max a0 0 - fh a0 (a6.rin - a6.ba) then a3 - a2 else max a0 0 - fh a0 (a6.rin - a6.ba)) < 0 then 0 else (if a3 - a2 < max a0 0 - fh a0 (a6.rin - a6.ba) then a3 - a2 else max a0 0 - fh a0 (a6.rin - a6.ba))) = AG a0 (a6.rin - a6.ba) (a3 - a2) by unfold AG; omega]
theorem JZ : ER 44 (mkE N44.en N44.ex f44) := an ai T86.right (fun m => []) (t := t44) (by kernel_rfl) (fun m => az) (fun m a => by kernel_rfl) fun (a0, a1, a2, a3, a4, a5, a6, a7, a8, a9, a10, a11, a12, a13) hc => Lg a0 a1 a2 a3 a4 a5 a6 a7 a8 a9 a10 a11 a12 a13 hc
def T44 : Tb Tryz.prog LQ TE := T86.add 44 _ JZ
def eL (d : bg) (m : Int) : List Dat := if m = 0 then d.s0 else if m = 1 then d.s1 else if m = 2 then d.s2 else []
def N47 : aA := ⟨T44.tab, 47, ⟨[.agg [.int .i64, .int .i64, .int .i64, .af (sI 2), .af (sI 3), .int .i64, .int .i64, .int .i64, .int .i64, .int .i64, .int .i64, .int .i64, .int .i64, .int .i64, .int .i64, .af (sI 2), .af (sI 2), .af (sI 2)], .agg [.int .i64, .int .i64]], [], 0⟩, ⟨[.buf 0 2], [.af (sI 2)], 0⟩, []⟩
def t47 (m : Nat) : bg × Int × Int -> Option (List Un) := fun (a0, a1, a2) =>
 bif decide (a1 < 0) then
 some ([.d ([])])
 else
 bif decide (a1 >= 3) then
 some ([.d ([])])
 else
 chk (inb a1 3) <|
 chk (decide (a1.toNat < 3)) <|
 chk (decide ((List.getD [a0.s0, a0.s1, a0.s2] a1.toNat []).length < 1000000)) <|
 some ([.d (List.getD [a0.s0, a0.s1, a0.s2] a1.toNat [])])
def f47 : bg × Int × Int -> Bool × List Un := fun (a0, a1, a2) => (decide (a0.s0.length < 1000000 /\ a0.s1.length < 1000000 /\ a0.s2.length < 1000000), [.d (eL a0 a1)])
theorem ML (a0 : bg) (a1 : Int) (a2 : Int) (hc : (decide (a0.s0.length < 1000000 /\ a0.s1.length < 1000000 /\ a0.s2.length < 1000000)) = true) : ∃ m, t47 m (a0, a1, a2) = some ([.d (eL a0 a1)]) := by
 obtain ⟨h1, h2, h3⟩ := of_decide_eq_true hc; refine ⟨0, ?_⟩; unfold t47 eL; dsimp only
 by_cases c0 : a1 < 0
 · rw [bT c0, if_neg (by omega), if_neg (by omega), if_neg (by omega)]
 by_cases c3 : a1 >= 3
 · rw [aB c0, bT c3, if_neg (by omega), if_neg (by omega), if_neg (by omega)]
 rw [aB c0, aB c3, iO (by omega) (by omega), aQ (by omega)]; obtain rfl | rfl | rfl : a1 = 0 \/ a1 = 1 \/ a1 = 2 := by omega
 · exact (aQ h1).trans rfl
 · exact (aQ h2).trans rfl
 · exact (aQ h3).trans rfl
theorem Kw : ER 47 (mkE N47.en N47.ex f47) := an ai T44.right (fun m => []) (t := t47) (by kernel_rfl) (fun m => az) (fun m a => by kernel_rfl) fun (a0, a1, a2) hc => ML a0 a1 a2 hc
def T47 : Tb Tryz.prog LQ TE := T44.add 47 _ Kw
end
end Go.Proofs.YtdbkoeefnodejaaGreat
namespace Go.Proofs.YtdbkoeefnodejaaGreat
noncomputable section
open Go Go.Proofs.YtdbkoeefnodejaaGreat.Ev
set_option maxRecDepth 20000
def iK (d : Dat) : Prop := 0 <= d.i 1 /\ 0 <= d.i 2 /\ d.i 1 + d.i 2 <= 1099511627776 /\ (0 <= d.i 3 /\ d.i 3 <= 12) /\ (d.b 4 = true -> d.i 1 = 0) /\ (d.b 4 = false -> d.i 2 = 0)
theorem yL {p q r s l : Int} (h : mr p q r s l = true) : (0 <= p /\ p <= 1099511627776) /\ (0 <= q /\ q <= 1099511627776) /\ (0 <= r /\ r <= 1099511627776) /\ (0 <= s /\ s <= 1099511627776) /\ 0 <= l /\ l <= 12 := by
 simp only [mr, Bool.and_eq_true, decide_eq_true_eq] at h; omega
theorem FC {x d : Dat} (hx : iK x) (hl : mr (d.i 1) (d.i 2) (d.i 3) (d.i 4) (d.i 5) = true) (hm : DH x d = true) : iK (lE x d) /\ (lE x d).i 1 = x.i 1 - (d.i 1 + d.i 2) - ga (x.i 1) (d.i 1) (d.i 2) (d.b 6) /\ (lE x d).i 2 = x.i 2 + ga (x.i 1) (d.i 1) (d.i 2) (d.b 6) - d.i 4 /\
 0 <= ga (x.i 1) (d.i 1) (d.i 2) (d.b 6) /\ d.i 1 + d.i 2 + ga (x.i 1) (d.i 1) (d.i 2) (d.b 6) <= x.i 1 /\ d.i 4 <= x.i 2 + ga (x.i 1) (d.i 1) (d.i 2) (d.b 6) := by
 obtain ⟨x1, x2, x3, x4, x5, x6⟩ := hx; have l := yL hl; have e1 : (lE x d).i 1 = sf (x.i 1) (d.i 1) (d.i 2) (d.b 6) := rfl; have e2 : (lE x d).i 2 = mQ (x.i 1) (x.i 2) (d.i 1) (d.i 2) (d.i 4) (d.b 6) := rfl; have e3 : (lE x d).i 3 = mL (x.i 1) (x.b 4) (d.i 1) (d.i 2) (d.i 5) (d.b 6) := rfl; have e4 : (lE x d).b 4 = (d.b 6 || x.b 4) := PZ _; unfold iK; rw [e1, e2, e3, e4]; unfold DH Bn at hm; unfold sf mQ mL ga; generalize d.i 1 = p at *
 generalize d.i 2 = q at *
 generalize d.i 3 = r at *
 generalize d.i 4 = s at *
 generalize d.i 5 = t at *
 generalize x.i 1 = b at *
 generalize x.i 2 = o at *
 clear e1 e2 e3 e4 hl; cases hb : x.b 4
 · have := x6 hb; simp only [hb, cond_false, show w64 (b - p) = b - p from aa (by omega) (by omega), show w64 (b - p - q) = b - p - q from aa (by omega) (by omega)] at hm; simp only [show w64 (p + q) = p + q from aa (by omega) (by omega), show w64 (b - (p + q)) = b - (p + q) from aa (by omega) (by omega)]
   by_cases hn : b - p - q < 0
   · rw [decide_eq_true hn] at hm; cases hm
   rw [decide_eq_false hn, cond_false] at hm; cases hd : d.b 6
   · simp only [hd, cond_false, beq_iff_eq] at hm; subst hm; simp only [cond_false, Bool.or_self, Int.sub_zero, Int.add_zero, show w64 o = o from aa (by omega) (by omega)]; have hz : 0 <= (bif b - (p + q) == 0 then 0 else t) /\ (bif b - (p + q) == 0 then 0 else t) <= 12 := by cases (b - (p + q) == 0) <;> simp only [cond_true, cond_false] <;> omega
     and_intros <;> first | trivial | omega | (intro h; cases h; done) | (intro _; omega)
   · simp only [hd, cond_true, show w64 (o + (b - p - q)) = o + (b - p - q) from aa (by omega) (by omega)] at hm; have hr : s <= o + (b - p - q) := by
      by_cases hs : s <= o + (b - p - q)
      · exact hs
      · rw [decide_eq_false hs, cond_false, beq_iff_eq] at hm; omega
     simp only [cond_true, Bool.or_false, show w64 (o + (b - (p + q))) = o + (b - (p + q)) from aa (by omega) (by omega), show w64 (o + (b - (p + q)) - s) = o + (b - (p + q)) - s from aa (by omega) (by omega)]
     and_intros <;> first | trivial | omega | (intro h; cases h; done) | (intro _; omega)
 · have := x5 hb; subst this; rw [hb] at hm; simp only [cond_true, Bool.and_eq_true, beq_iff_eq, Bool.not_eq_true', decide_eq_true_eq] at hm; obtain ⟨rfl, rfl, h3, h4, h5, h6⟩ := hm; rw [h5]; simp only [cond_true, cond_false, Bool.false_or, show w64 0 = 0 by decide, Int.sub_zero, Int.add_zero, show w64 (o - s) = o - s from aa (by omega) (by omega)]
   and_intros <;> first | trivial | omega | (intro h; cases h; done) | (intro _; omega)
theorem nD {β : Type} (f : Dat -> β) (y : Dat) : ∀ (l : List Dat) (j : Nat), j < l.length -> f y = f (ah l j) -> (l.set j y).map f = l.map f
 | [], j, h, _ => by simp at h
 | d :: l, 0, _, h => by simp only [List.set_cons_zero, List.map_cons, h]; rfl
 | d :: l, j + 1, h, hy => by simp only [List.set_cons_succ, List.map_cons, nD f y l j (by simpa using h) hy]
theorem fk {l : List Dat} (h : ∀ d ∈ l, iK d) : 0 <= al 1 l /\ 0 <= al 2 l := ⟨fb 1 l fun d hd => (h d hd).1, fb 2 l fun d hd => (h d hd).2.1⟩
theorem vk : ∀ (t l : List Dat) (last p q s r : Int) (x : FL), (∀ d ∈ l, iK d) -> um last t = true -> iX l p q s r t = some x -> al 1 l + al 2 l <= 1099511627776 -> (0 <= p /\ p + al 1 l <= 4398046511104) -> (0 <= s /\ s + al 1 l <= 4398046511104) -> (0 <= r /\ r + al 1 l + al 2 l <= 4398046511104) -> (0 <= q /\ q + 1099511627776 * t.length <= 1125899906842624) ->
 (∀ d ∈ x.bd, iK d) /\ x.bd.map (fun d => d.i 0) = l.map (fun d => d.i 0) /\ al 1 x.bd = al 1 l - (x.p - p) - (x.l - s) /\ al 2 x.bd = al 2 l + (x.l - s) - (x.r - r) /\ p <= x.p /\ s <= x.l /\ r <= x.r /\ (q <= x.q /\ x.q <= q + 1099511627776 * t.length) /\ x.e = 0
 | [], l, last, p, q, s, r, x, hl, ht, h, b1, b2, b3, b4, b5 => by
  simp only [iX, Option.some.injEq] at h; subst h; exact ⟨hl, rfl, by simp, by simp, by simp, by simp, by simp, by simp, rfl⟩
 | d :: t, l, last, p, q, s, r, x, hl, ht, h, b1, b2, b3, b4, b5 => by
  simp only [um] at ht
  split at ht
  · cases ht
  · split at ht
    · rename_i hT; unfold iX at h
      split at h
      · cases h
      · rename_i hi
        split at h
        · rename_i hm; rcases yo (d.i 0) l 0 with hj | ⟨hj1, hj2⟩
          · omega
          · have hj : (eW (d.i 0) 0 l).toNat < l.length := by omega
            generalize (eW (d.i 0) 0 l).toNat = j at *
            obtain ⟨r1, r2, r3, r4, r5, r6⟩ := FC (hl _ (uc hj)) hT hm; have lt := yL hT; have s1 := kH 1 (lE (ah l j) d) l j hj; have s2 := kH 2 (lE (ah l j) d) l j hj; have hl' := CP (p := iK) (j := j) hl r1; obtain ⟨n1, n2⟩ := fk hl; obtain ⟨n3, n4⟩ := fk hl'; rw [r2] at s1; rw [r3] at s2; simp only [List.length_cons, Int.natCast_add, Int.cast_ofNat_Int] at b5; generalize ga ((ah l j).i 1) (d.i 1) (d.i 2) (d.b 6) = z at *
            rw [show w64 (d.i 1 + d.i 2) = d.i 1 + d.i 2 from aa (by omega) (by omega), show w64 (p + (d.i 1 + d.i 2)) = p + (d.i 1 + d.i 2) from aa (by omega) (by omega), show w64 (q + d.i 3) = q + d.i 3 from aa (by omega) (by omega), show w64 (s + z) = s + z from aa (by omega) (by omega), show w64 (r + d.i 4) = r + d.i 4 from aa (by omega) (by omega)] at h; obtain ⟨c1, c2, c3, c4, c5, c6, c7, c8, c9⟩ := vk t _ _ _ _ _ _ x hl' ht h (by omega) (by omega) (by omega) (by omega) (by omega); refine ⟨c1, c2.trans (nD _ _ _ _ hj rfl), by omega, by omega, by omega, by omega, by omega, ?_, c9⟩; simp only [List.length_cons, Int.natCast_add, Int.cast_ofNat_Int]; omega
        · cases h
    · cases ht
theorem D8 {t l : List Dat} (hl : ∀ d ∈ l, iK d) (b : al 1 l + al 2 l <= 1099511627776) (he : (ay t l).e = 0) :
 (∀ d ∈ (ay t l).bd, iK d) /\ (ay t l).bd.map (fun d => d.i 0) = l.map (fun d => d.i 0) /\ al 1 (ay t l).bd = al 1 l - (ay t l).p - (ay t l).l /\ al 2 (ay t l).bd = al 2 l + (ay t l).l - (ay t l).r /\
 0 <= (ay t l).p /\ 0 <= (ay t l).l /\ 0 <= (ay t l).r /\ 0 <= (ay t l).q /\ (ay t l).q <= 70368744177664 := by
 unfold ay at he ⊢
 split at he
 · rename_i ht; rw [if_pos ht]; simp only [pQ, Bool.and_eq_true, decide_eq_true_eq] at ht; cases hx : iX l 0 0 0 0 t with
   | none => rw [hx] at he; cases he
   | some x =>
    obtain ⟨n1, n2⟩ := fk hl; obtain ⟨c1, c2, c3, c4, c5, c6, c7, c8, c9⟩ := vk t l 0 0 0 0 0 x hl ht.2 hx b (by omega) (by omega) (by omega) (by omega); simp only [Option.getD_some]; exact ⟨c1, c2, by omega, by omega, c5, c6, c7, c8.1, by omega⟩
 · cases he
theorem kM (f : Dat -> Bool) : ∀ l : List Dat, (∀ d ∈ l, 0 <= d.i 3) -> 0 <= bf f l
 | [], _ => Int.le_refl 0
 | d :: l, h => by
  have := h d (by simp); have := kM f l fun x hx => h x (by simp [hx])
  simp only [bf]; cases f d <;> simp only [cond_true, cond_false] <;> omega
def rJ (d e : Dat) (b s : Int) : Prop := e.i 0 = d.i 0 /\ e.i 1 = d.i 1 /\ e.i 2 = d.i 2 /\ e.i 3 = d.i 3 + b /\ e.i 4 = d.i 4 /\ e.i 5 = d.i 5 - s /\ e.i 6 = d.i 6
def amt (f : Dat -> Bool) (d : Dat) : Int := bif f d then d.i 3 else 0
theorem gj (f : Dat -> Bool) (d : Dat) (l : List Dat) : bf f (d :: l) = amt f d + bf f l := rfl
theorem GN {n : aj} {x : Dat} {c : List Dat} (h3 : 0 <= x.i 3) (hk : (x.i 1 = 1 \/ x.i 1 = 2 \/ x.i 1 = 6) \/ (0 <= x.i 2 /\ x.i 2 < (c.length : Int))) (hb : ∀ i, i < c.length -> amt (toB i) x <= aZ (ah c i) /\ amt (toI i) x <= (ah c i).i 5) :
 gW n x = { n with fee := n.fee - amt kF x, out := n.out - amt kR x, rin := n.rin + amt kT x } /\ ∀ i, i < c.length -> rJ (ah c i) (ah (ji c x) i) (amt (toB i) x) (amt (toI i) x) := by
 have zero : ∀ i, kI x = false -> kB x = false -> rJ (ah c i) (ah c i) (amt (toB i) x) (amt (toI i) x) := fun i h1 h2 => by
  simp only [amt, toB, toI, h1, h2, Bool.false_and, cond_false]; exact ⟨rfl, rfl, rfl, by omega, rfl, by omega, rfl⟩
 unfold gW ji
 by_cases h1 : x.i 1 = 1
 · have a1 : kF x = true := by simp [kF, h1]
   have a2 : kR x = false := by simp [kR, h1]
   have a3 : kT x = false := by simp [kT, h1]
   have a4 : kI x = false := by simp [kI, h1]
   have a5 : kB x = false := by simp [kB, a1]
   rw [if_pos h1, if_pos h1]; refine ⟨?_, fun i hi => zero i a4 a5⟩; simp only [amt, a1, a2, a3, cond_true, cond_false, Int.sub_zero, Int.add_zero]
 rw [if_neg h1, if_neg h1]; have a1 : kF x = false := nf h1
 by_cases h2 : x.i 1 = 2
 · have a2 : kR x = true := by simp [kR, h2]
   have a3 : kT x = false := by simp [kT, h2]
   have a4 : kI x = false := by simp [kI, h2]
   have a5 : kB x = false := by simp [kB, a2]
   rw [if_pos h2, if_pos h2]; refine ⟨?_, fun i hi => zero i a4 a5⟩; simp only [amt, a1, a2, a3, cond_true, cond_false, Int.sub_zero, Int.add_zero]
 rw [if_neg h2, if_neg h2]; have a2 : kR x = false := nf h2
 by_cases h6 : x.i 1 = 6
 · have a3 : kT x = true := by simp [kT, h6]
   have a4 : kI x = false := by simp [kI, h6]
   have a5 : kB x = false := by simp [kB, a3]
   rw [if_pos h6, if_pos h6]; refine ⟨?_, fun i hi => zero i a4 a5⟩; simp only [amt, a1, a2, a3, cond_true, cond_false, Int.sub_zero, Int.add_zero]
 rw [if_neg h6, if_neg h6]; have a3 : kT x = false := nf h6; refine ⟨by simp only [amt, a1, a2, a3, cond_false, Int.sub_zero, Int.add_zero], fun i hi => ?_⟩; have hj : (x.i 2).toNat < c.length := by omega
 have hx2 : x.i 2 = ((x.i 2).toNat : Int) := by omega
 generalize (x.i 2).toNat = j at *
 have hbj := hb j hj
 by_cases h3' : x.i 1 = 3
 · have a4 : kI x = true := by simp [kI, h3']
   have a5 : kB x = false := by simp [kB, a4]
   rw [if_pos h3']; simp only [amt, toB, toI, a4, a5, Bool.false_and, Bool.true_and, cond_false, hx2] at hbj ⊢
   by_cases hij : i = j
   · subst hij; rw [beq_self_eq_true, cond_true] at hbj ⊢; rw [sX hj]; refine ⟨rfl, rfl, rfl, by simp only [lX, eF]; omega, rfl, ?_, rfl⟩; simp only [lX, mH, zv]; omega
   · rw [show ((j : Int) == (i : Int)) = false from nf (by omega), cond_false, ly hij]; exact ⟨rfl, rfl, rfl, by omega, rfl, by omega, rfl⟩
 · have a4 : kI x = false := nf h3'; have a5 : kB x = true := by simp [kB, a1, a2, a3, a4]
   rw [if_neg h3']; simp only [amt, toB, toI, a4, a5, Bool.false_and, Bool.true_and, cond_false, hx2] at hbj ⊢
   by_cases hij : i = j
   · subst hij; rw [beq_self_eq_true, cond_true] at hbj ⊢; rw [sX hj]; refine ⟨rfl, rfl, rfl, ?_, rfl, by simp only [qE, mH]; omega, rfl⟩; simp only [qE, eF, lQ]; omega
   · rw [show ((j : Int) == (i : Int)) = false from nf (by omega), cond_false, ly hij]; exact ⟨rfl, rfl, rfl, by omega, rfl, by omega, rfl⟩
theorem vC : ∀ (p : List Dat) (n : aj) (c : List Dat), (∀ d ∈ p, 0 <= d.i 3) -> (∀ d ∈ p, (d.i 1 = 1 \/ d.i 1 = 2 \/ d.i 1 = 6) \/ (0 <= d.i 2 /\ d.i 2 < (c.length : Int))) -> (∀ i, i < c.length -> bf (toB i) p <= aZ (ah c i) /\ bf (toI i) p <= (ah c i).i 5) ->
 (cA p n c).1 = { n with fee := n.fee - bf kF p, out := n.out - bf kR p, rin := n.rin + bf kT p } /\ (cA p n c).2.length = c.length /\ ∀ i, i < c.length -> rJ (ah c i) (ah (cA p n c).2 i) (bf (toB i) p) (bf (toI i) p)
 | [], n, c, _, _, _ => by
  refine ⟨by simp [cA, bf], rfl, fun i hi => ⟨rfl, rfl, rfl, ?_, rfl, ?_, rfl⟩⟩ <;> simp [cA, bf]
 | x :: p, n, c, h0, hk, hb => by
  have n0 := fun f => kM f p fun d hd => h0 d (List.mem_cons_of_mem _ hd)
  have hx0 := h0 x (by simp); have m0 : ∀ f, 0 <= amt f x := fun f => by unfold amt; cases f x <;> simp only [cond_true, cond_false] <;> omega
  obtain ⟨o1, o2⟩ := GN (n := n) hx0 (hk x (by simp)) fun i hi => by
   have := hb i hi; rw [gj, gj] at this; have := n0 (toB i); have := n0 (toI i); omega
  have hl := vA c x; obtain ⟨i1, i2, i3⟩ := vC p (gW n x) (ji c x) (fun d hd => h0 d (List.mem_cons_of_mem _ hd)) (fun d hd => by rw [hl]; exact hk d (List.mem_cons_of_mem _ hd)) fun i hi => by
   rw [hl] at hi; have := hb i hi; rw [gj, gj] at this; obtain ⟨_, e1, _, e3, e4, e5, e6⟩ := o2 i hi; unfold aZ at this ⊢; omega
  refine ⟨?_, i2.trans hl, fun i hi => ?_⟩
  · show (cA p (gW n x) (ji c x)).1 = _; rw [i1, o1]; simp only [gj, Int.sub_sub, Int.add_assoc]
  · obtain ⟨e0, e1, e2, e3, e4, e5, e6⟩ := o2 i hi; obtain ⟨f0, f1, f2, f3, f4, f5, f6⟩ := i3 i (by rw [hl]; exact hi); rw [gj, gj]; exact ⟨f0.trans e0, f1.trans e1, f2.trans e2, by show (ah (cA p (gW n x) (ji c x)).2 i).i 3 = _; omega, f4.trans e4, by show (ah (cA p (gW n x) (ji c x)).2 i).i 5 = _; omega, f6.trans e6⟩
def fp (d e : Dat) : Prop := e.i 0 = d.i 0 /\ e.i 1 = d.i 1 /\ e.i 2 = d.i 2 /\ e.i 3 = d.i 3 /\ e.i 4 = d.i 4 /\ e.i 5 = d.i 5
theorem fp.refl (d : Dat) : fp d d := ⟨rfl, rfl, rfl, rfl, rfl, rfl⟩
theorem fp.trans {a b c : Dat} (h : fp a b) (k : fp b c) : fp a c := ⟨k.1.trans h.1, k.2.1.trans h.2.1, k.2.2.1.trans h.2.2.1, k.2.2.2.1.trans h.2.2.2.1, k.2.2.2.2.1.trans h.2.2.2.2.1, k.2.2.2.2.2.trans h.2.2.2.2.2⟩
structure dP (c c' : List Dat) : Prop where
 len : c'.length = c.length
 row : ∀ i, i < c.length -> fp (ah c i) (ah c' i)
theorem dP.refl (c : List Dat) : dP c c := ⟨rfl, fun _ _ => .refl _⟩
theorem dP.trans {a b c : List Dat} (h : dP a b) (k : dP b c) : dP a c := ⟨k.len.trans h.len, fun i hi => (h.row i hi).trans (k.row i (by rw [h.len]; exact hi))⟩
theorem dP.set {c : List Dat} {j : Nat} {y : Dat} (hj : j < c.length) (h : fp (ah c j) y) : dP c (c.set j y) := ⟨List.length_set, fun i hi => by
 by_cases e : i = j
 · subst e; rw [sX hj]; exact h
 · rw [ly e]; exact .refl _⟩
theorem zS (w : Int) (d : Dat) : fp d (dm w d) := ⟨rfl, rfl, rfl, rfl, rfl, rfl⟩
theorem B8 (w : Int) (d : Dat) : fp d (eX w d) := ⟨rfl, rfl, rfl, rfl, rfl, rfl⟩
theorem vh (f : Dat -> Int) : ∀ c : List Dat, (∀ d ∈ c, f d = 0) -> bk f c = 0
 | [], _ => rfl
 | d :: c, h => by simp only [bk, h d (by simp), vh f c fun x hx => h x (by simp [hx])]; rfl
theorem wq (j : Nat) : ∀ c : List Dat, (∀ d ∈ c, d.i j = 0) -> al j c = 0
 | [], _ => rfl
 | d :: c, h => by simp only [al, h d (by simp), wq j c fun x hx => h x (by simp [hx])]; rfl
theorem I3 {c : List Dat} {j : Nat} {y : Dat} (hj : j < c.length) (h : fp (ah c j) y) : bk unD (c.set j y) = bk unD c := by
 obtain ⟨_, h1, _, h3, h4, _⟩ := h; rw [zE _ _ _ _ hj]; unfold unD; omega
theorem CT (t : Int) : ∀ (k : Nat) (c : List Dat), cZ c -> tD t c < k -> cZ (qD k t c) /\ dP c (qD k t c) /\ (al 6 c <= t -> al 6 (qD k t c) = min t (bk unD c)) /\ (t <= al 6 c -> qD k t c = c)
 | 0, c, _, h => by omega
 | k + 1, c, hg, h => by
  have hu := gp c hg.2; unfold qD
  by_cases hs : al 6 c < t
  · rw [if_pos hs]
    by_cases hj : eP c c.length 0 (-1) < 0
    · rw [if_pos hj]; refine ⟨hg, .refl c, fun _ => ?_, fun _ => rfl⟩; have h0 := ((qZ c c.length 0 (-1) (by omega) (.inl (by omega))).1 hj).2; have : bk aZ c = 0 := vh _ _ fun d hd => by
       obtain ⟨i, hi, rfl⟩ := nO hd; have := h0 i (by omega) hi; have := (DO (bX hi hg.2)).1; omega
      omega
    · rw [if_neg hj]; obtain ⟨a1, a2, a3, a4⟩ := KC hg hs (by omega); have hw := zS (t - al 6 c) (ah c (eP c c.length 0 (-1)).toNat); have hun := I3 a1 hw; have has := dP.set a1 hw; generalize c.set (eP c c.length 0 (-1)).toNat (dm (t - al 6 c) (ah c (eP c c.length 0 (-1)).toNat)) = c' at *
      obtain ⟨b1, b2, b3, b4⟩ := CT t k c' a2 (by omega); exact ⟨b1, has.trans b2, fun _ => by rw [b3 a4, hun], fun _ => by omega⟩
  · rw [if_neg hs]; exact ⟨hg, .refl c, fun _ => by omega, fun _ => rfl⟩
theorem C9 (t : Int) (h0 : 0 <= t) : ∀ (k : Nat) (c : List Dat), cZ c -> sy t c < k -> cZ (oJ k t c) /\ dP c (oJ k t c) /\ (t <= al 6 c -> al 6 (oJ k t c) = t) /\ (al 6 c <= t -> oJ k t c = c)
 | 0, c, _, h => by omega
 | k + 1, c, hg, h => by
  have hu := gp c hg.2; unfold oJ
  by_cases hs : t < al 6 c
  · rw [if_pos hs]
    by_cases hj : eQ c c.length 0 (-1) < 0
    · have h0 := ((rE c c.length 0 (-1) (by omega) (.inl (by omega))).1 hj).2; have : al 6 c = 0 := wq _ _ fun d hd => by
       obtain ⟨i, hi, rfl⟩ := nO hd; have := h0 i (by omega) hi; have := (bW (bX hi hg.2)).2.2.2.2.1; omega
      omega
    · rw [if_neg hj]; obtain ⟨a1, a2, a3, a4⟩ := KB hg hs (by omega); have has := dP.set a1 (B8 (al 6 c - t) (ah c (eQ c c.length 0 (-1)).toNat)); generalize c.set (eQ c c.length 0 (-1)).toNat (eX (al 6 c - t) (ah c (eQ c c.length 0 (-1)).toNat)) = c' at *
      obtain ⟨b1, b2, b3, b4⟩ := C9 t h0 k c' a2 (by omega); exact ⟨b1, has.trans b2, fun _ => b3 a4, fun _ => by omega⟩
  · rw [if_neg hs]; exact ⟨hg, .refl c, fun _ => by omega, fun _ => rfl⟩
theorem DW {t : Int} {c : List Dat} (hg : cZ c) (h0 : 0 <= t) (h1 : t <= bk unD c) : cZ (eS t c) /\ dP c (eS t c) /\ al 6 (eS t c) = t := by
 obtain ⟨a1, a2, a3, a4⟩ := CT t (c.length + 2) c hg (Af t c); unfold eS; rw [show max t 0 = t by omega]; obtain ⟨b1, b2, b3, b4⟩ := C9 t h0 (c.length + 2) (qD (c.length + 2) t c) a1 (by have := yK t (qD (c.length + 2) t c); rwa [a2.len] at this); refine ⟨b1, a2.trans b2, ?_⟩
 by_cases hs : al 6 c <= t
 · have := a3 hs; rw [b4 (by omega)]; omega
 · rw [a4 (by omega)] at b3 ⊢; exact b3 (by omega)
structure Px (d : bg) : Prop where
 year : 1 <= d.a.year /\ d.a.year <= 9000
 month : 1 <= d.a.month /\ d.a.month <= 12
 basis : 0 <= d.a.basis /\ d.a.basis <= 2
 fee : 0 <= d.b.fee /\ d.b.fee <= 5000
 bH : 0 <= d.b.bH /\ d.b.bH <= 1099511627776
 target : 0 <= d.b.target /\ d.b.target <= 10000
 advance : 0 <= d.b.advance /\ d.b.advance <= 1099511627776
 dN : 0 <= d.b.dN /\ d.b.dN <= 600
 oc : 0 <= d.b.oc /\ d.b.oc <= 100000
 ic : 0 <= d.b.ic /\ d.b.ic <= 100000
 late : 0 <= d.b.late /\ d.b.late <= 100000
 lS : 0 <= d.b.lS /\ d.b.lS <= 100000
 clean : 0 <= d.b.clean /\ d.b.clean <= 100000
 P2 : ((bO d).getD (0, 0)).1 = al 1 d.aR
 bd : 0 <= al 1 d.aR /\ al 1 d.aR <= 1099511627776
 OO : 1 <= d.aR.length /\ d.aR.length <= 64
 EL : ∀ x ∈ d.aR, 0 <= x.i 1 /\ x.i 1 <= 1099511627776
 ids : (d.aR.map fun x => x.i 0).Pairwise (· < ·)
 pos : ∀ x ∈ d.aR, 0 < x.i 0
 PO : 1 <= d.notes.length /\ d.notes.length <= 8
 note : ∀ x ∈ d.notes, (0 <= x.i 0 /\ x.i 0 <= 7) /\ (1 <= x.i 1 /\ x.i 1 <= 1099511627776) /\ (0 <= x.i 2 /\ x.i 2 <= 5000)
 sumn : al 1 d.notes <= al 1 d.aR
 s0 : dL d.s0 = true
 s1 : dL d.s1 = true
 s2 : dL d.s2 = true
theorem vQ : ∀ (l : List Dat) (last all r : Int), 0 <= all -> iq last all l = some r -> r = all + al 1 l /\ (all <= 1099511627776 -> r <= 1099511627776) /\ (∀ x ∈ l, 0 <= x.i 1 /\ x.i 1 <= 1099511627776 /\ last < x.i 0) /\ (l.map fun x => x.i 0).Pairwise (· < ·)
 | [], last, all, r, h0, h => by
  simp only [iq, Option.some.injEq] at h; subst h; exact ⟨by simp [al], fun h => h, fun x hx => by simp at hx, List.Pairwise.nil⟩
 | d :: l, last, all, r, h0, h => by
  unfold iq at h
  split at h
  · cases h
  · rename_i hl
    split at h
    · rename_i hb; obtain ⟨h1, h2, h3, h4⟩ := vQ l _ _ _ (by omega) h; refine ⟨by simp only [al]; omega, fun _ => h2 (by omega), fun x hx => ?_, ?_⟩
      · rcases List.mem_cons.1 hx with rfl | hx
        · omega
        · have := h3 x hx; omega
      · simp only [List.map_cons, List.pairwise_cons]; refine ⟨fun y hy => ?_, h4⟩; obtain ⟨x, hx, rfl⟩ := List.mem_map.1 hy; exact (h3 x hx).2.2
    · cases h
theorem vJ (most : Int) (hm : most <= 1099511627776) : ∀ (l : List Dat) (all r : Int), 0 <= all -> lH most all l = some r -> r = all + al 1 l /\ (all <= most -> r <= most) /\ ∀ x ∈ l, (0 <= x.i 0 /\ x.i 0 <= 7) /\ (1 <= x.i 1 /\ x.i 1 <= 1099511627776) /\ (0 <= x.i 2 /\ x.i 2 <= 5000)
 | [], all, r, h0, h => by
  simp only [lH, Option.some.injEq] at h; subst h; exact ⟨by simp [al], fun h => h, fun x hx => by simp at hx⟩
 | d :: l, all, r, h0, h => by
  unfold lH at h
  split at h
  · rename_i hb; obtain ⟨h1, h2, h3⟩ := vJ most hm l _ _ (by omega) h; refine ⟨by simp only [al]; omega, fun _ => h2 (by omega), fun x hx => ?_⟩; rcases List.mem_cons.1 hx with rfl | hx
    · omega
    · exact h3 x hx
  · cases h
theorem eH {d : bg} (h : (bO d).isSome = true) : Px d := by
 unfold bO at h
 split at h
 · cases h
 · rename_i p hp
   split at h
   · cases h
   · rename_i n hn
     split at h
     · rename_i hc; have hs : bO d = some (p, n) := by unfold bO; simp only [hp, hn, if_pos hc]
       simp only [Bool.and_eq_true, nd, decide_eq_true_eq] at hc; obtain ⟨⟨t1, t2, t3, t4, t5, t6, t7, t8, t9, t10, t11, t12, t13⟩, s0, s1, s2⟩ := hc; unfold eB at hp
       split at hp
       · rename_i hl; obtain ⟨l1, l2, l3, l4⟩ := vQ _ _ _ _ (by omega) hp; have l2 := l2 (by omega); unfold ja at hn
         split at hn
         · rename_i hnl; obtain ⟨n1, n2, n3⟩ := vJ p (by omega) _ _ _ (by omega) hn; have h0 := fb 1 d.aR fun x hx => (l3 x hx).1
           have n2 := n2 (by omega); exact ⟨t6, t7, t8, t9, t10, t11, t12, t13, t1, t2, t3, t4, t5, by rw [hs]; show p = _; omega, by omega, hl, fun x hx => ⟨(l3 x hx).1, (l3 x hx).2.1⟩, l4, fun x hx => (l3 x hx).2.2, hnl, n3, by omega, s0, s1, s2⟩
         · cases hn
       · cases hp
     · cases h
def gN (T : ab) : bg := ⟨T.a, T.aR, T.notes, T.b, T.s0, T.s1, T.s2⟩
structure lz (T : ab) : Prop where
 xx : (bO (gN T)).isSome = true
 NW : T.tr.map (fun d => (d.i 0, d.i 1, d.i 2)) = T.notes.map (fun d => (d.i 0, d.i 1, d.i 2))
 HX : ∀ d ∈ T.tr, aH d = true /\ d.i 5 <= 1200000000000 * T.n.period
 ids : T.bd.map (fun d => d.i 0) = T.aR.map (fun d => d.i 0)
 EL : ∀ d ∈ T.bd, iK d
 bal : al 1 T.bd + al 2 T.bd + T.n.aU <= al 1 T.aR
 lost : T.n.aK - T.n.aU = al 2 T.bd
 EU : 0 <= T.n.aU
 period : 0 <= T.n.period /\ T.n.period <= 600
 mode : 0 <= T.n.mode /\ T.n.mode <= 2
 aV : 0 <= T.n.aV /\ T.n.aV <= T.n.period
 fee : 0 <= T.n.fee /\ T.n.fee <= 1200000000000 * T.n.period
 out : 0 <= T.n.out /\ T.n.out <= T.b.advance
 res : 0 <= T.n.ba /\ T.n.ba <= T.n.rin /\ T.n.rin <= 1200000000000 * (T.n.period + 1)
 down : al 6 T.tr <= al 2 T.bd
section
variable (T : ab) (l : List Dat)
def cP : FL := ay l T.bd
def nI : Int := cG T.a T.n.period (al 1 T.bd) T.b.fee
def D2 : Int := bk (fun d => cG T.a T.n.period (aZ d) (d.i 2)) T.tr
def cTr : List Dat := T.tr.map (dE T.a T.n.period)
def cIn : Int := (cP T l).p + (cP T l).q + (cP T l).r
def kZ : Int := T.n.fee + nI T + al 5 (cTr T) - cIn T l
def ff : Int := fh (kZ T l) (T.n.rin - T.n.ba)
def m8 : Int := AG (kZ T l) (T.n.rin - T.n.ba) (T.b.advance - T.n.out)
def cN1 : aj := { T.n with fee := T.n.fee + nI T, ba := T.n.ba + ff T l }
def cX : aW := ⟨cIn T l + ff T l + m8 T l, T.n.fee + nI T, T.n.out, min ((cP T l).p + (cP T l).r + (cP T l).l) (bk aZ (cTr T)), rQ T.b.target (al 1 (cP T l).bd) (T.n.rin - (T.n.ba + ff T l))⟩
def cK : aW × List Dat × List Dat := de 0 (eL (gN T) T.n.mode) (cX T l) ((cTr T).map dX)
def cI : aj × List Dat := cA (cK T l).2.2 (cN1 T l) (cTr T)
def cN2 : aj := { (cI T l).1 with out := (cI T l).1.out + m8 T l, aK := (cI T l).1.aK + (cP T l).l, aU := (cI T l).1.aU + (cP T l).r }
def Az : List Dat := eS (ct (bk unD (cI T l).2) (al 1 (cP T l).bd) (cN2 T l).aK (cN2 T l).aU) (cI T l).2
def CV : Int × Int := dh T.n.mode T.n.aV T.b.dN (T.b.oc == 0 || bC (al 1 (cP T l).bd) (bk aZ (Az T l)) T.b.oc) (T.b.ic == 0 || bC (min (cP T l).q 1099511627776) (min (D2 T) 1099511627776) T.b.ic)
 (T.b.late == 0 || bM (b8 2 (cP T l).bd + b8 3 (cP T l).bd) (al 1 (cP T l).bd) T.b.late) (T.b.lS == 0 || bM ((cN2 T l).aK - (cN2 T l).aU) (al 1 T.aR) T.b.lS)
def cN3 : aj := { cN2 T l with mode := (CV T l).1, aV := (CV T l).2, period := T.n.period + 1 }
end
structure B9 where
 ra : ig
 rb : fJ
 next : Int
 e : Int
 t : ab
 H5 : List Dat
 notes : List Dat
def noR (e : Int) (T : ab) : B9 := ⟨⟨false, 0, 0, 0, 0, 0, 0, 0, 0, 0, 0⟩, ⟨0, 0, 0, 0, 0⟩, 0, e, T, [], []⟩
def Fg (T : ab) (l : List Dat) : B9 :=
 ⟨⟨false, T.n.period + 1, T.n.mode, (cP T l).p, (cP T l).q, (cP T l).l, (cP T l).r, ff T l, m8 T l, nI T, D2 T⟩, ⟨(cK T l).1.ax, al 1 (cP T l).bd, (cN2 T l).rin - (cN2 T l).ba, (cN2 T l).out, (cN2 T l).fee⟩, (CV T l).1, 0,
  { T with n := cN3 T l, bd := (cP T l).bd, tr := Az T l }, (cK T l).2.2, (Az T l).map Bh⟩
def aY (T : ab) (l : List Dat) : B9 := bif T.n.ml then noR 5 T else bif decide (T.n.period >= 600) then noR 4 T else bif (cP T l).e != 0 then noR (cP T l).e T else Fg T l
theorem GM (f : Dat -> Dat) {l : List Dat} {i : Nat} (h : i < l.length) : ah (l.map f) i = f (ah l i) := by
 rw [lC (by simpa using h), lC h, List.getElem_map]
theorem Ag (a : au) (p : Int) : ∀ l : List Dat, al 5 (l.map (dE a p)) = al 5 l + bk (fun d => cG a p (aZ d) (d.i 2)) l /\ al 6 (l.map (dE a p)) = al 6 l /\ bk aZ (l.map (dE a p)) = bk aZ l
 | [] => ⟨rfl, rfl, rfl⟩
 | d :: l => by
  obtain ⟨h1, h2, h3⟩ := Ag a p l; have e5 : (dE a p d).i 5 = d.i 5 + cG a p (aZ d) (d.i 2) := rfl; have e6 : (dE a p d).i 6 = d.i 6 := rfl; have eb : aZ (dE a p d) = aZ d := rfl; simp only [List.map_cons, al, bk, h1, h2, h3, e5, e6, eb]
  and_intros <;> first | trivial | omega
theorem Ce (f : Dat -> Int) (b : Int) : ∀ l : List Dat, (∀ d ∈ l, 0 <= f d /\ f d <= b) -> 0 <= bk f l /\ bk f l <= b * l.length
 | [], _ => by simp [bk]
 | d :: l, h => by
  have h1 := h d (by simp); have h2 := Ce f b l fun x hx => h x (by simp [hx])
  simp only [bk, List.length_cons, Int.natCast_add, Int.mul_add]; omega
theorem Fj {n b : Int} (h1 : 0 <= n) (h2 : n <= 1099511627776) (h3 : 0 <= b) (h4 : b <= 10000) : mdV n b 10000 0 = n * b / 10000 /\ 0 <= mdV n b 10000 0 /\ mdV n b 10000 0 <= n := by
 have hm := Int.mul_le_mul_of_nonneg_left h4 h1; have hz := Int.mul_nonneg h1 h3; have i := NO (n := n) (b := b) (p := 10000) (h := 0) h1 (by omega) h3 (by omega) (by omega) (by omega) (by omega) (by omega) (by omega); rw [i.2.1, L6]; omega
theorem iw {l : List Dat} (h : dL l = true) : 1 <= l.length /\ l.length <= 16 := by
 simp only [dL, Bool.and_eq_true, decide_eq_true_eq] at h; omega
theorem Dy {T : ab} {i : Nat} (hi : i < (cTr T).length) : ah ((cTr T).map dX) i = dX (ah (cTr T) i) := GM _ hi
section
variable {T : ab} {l : List Dat} (h : lz T) (hp : T.n.period < 600) (he : (cP T l).e = 0)
include h
theorem wo : T.tr.length = T.notes.length := by
 have := congrArg List.length h.NW; simpa using this
theorem gB : T.tr.length <= 8 /\ 1 <= T.tr.length := by
 have := (eH h.xx).PO; rw [wo h]; exact ⟨this.2, this.1⟩
theorem Ab : cZ T.tr := ⟨by have := gB h; omega, fun d hd => (h.HX d hd).1⟩
theorem sx : T.bd.length = T.aR.length /\ T.bd.length <= 64 := by
 have := congrArg List.length h.ids; have := (eH h.xx).OO; simp only [List.length_map, gN] at *
 omega
theorem jF : 0 <= al 1 T.bd /\ 0 <= al 2 T.bd /\ al 1 T.bd + al 2 T.bd + T.n.aU <= 1099511627776 := by
 have h1 := fk h.EL; have h2 := (eH h.xx).bd.2; have h3 := h.bal; have : al 1 (gN T).aR = al 1 T.aR := rfl; omega
theorem lV : (0 <= nI T /\ nI T <= 1200000000000) /\ cZ (cTr T) /\ (∀ d ∈ cTr T, d.i 5 <= 1200000000000 * (T.n.period + 1)) /\ (D2 T = al 5 (cTr T) - al 5 T.tr /\ 0 <= D2 T /\ D2 T <= 1200000000000 * T.tr.length) /\ bk aZ (cTr T) = bk aZ T.tr /\ al 6 (cTr T) = al 6 T.tr := by
 have D := eH h.xx; obtain ⟨b1, b2, b3⟩ := jF h; have r0 := h.EU; have hs : ∀ d ∈ T.tr, 0 <= cG T.a T.n.period (aZ d) (d.i 2) /\ cG T.a T.n.period (aZ d) (d.i 2) <= 1200000000000 := fun d hd =>
  nv _ D.year.1 D.year.2 D.month.1 D.month.2 h.period.1 (by have := h.period.2; omega) (DO (h.HX d hd).1).1 (DO (h.HX d hd).1).2
 obtain ⟨a1, a2, a3⟩ := Ag T.a T.n.period T.tr; have sd := Ce (fun d => cG T.a T.n.period (aZ d) (d.i 2)) 1200000000000 T.tr hs; have hsh : ∀ d ∈ cTr T, aH d = true /\ d.i 5 <= 1200000000000 * (T.n.period + 1) := fun d hd => by
  obtain ⟨x, hx, rfl⟩ := List.mem_map.1 hd; obtain ⟨g, g5⟩ := h.HX x hx; have g' := bW g; have := hs x hx; have := h.period; have e5 : (dE T.a T.n.period x).i 5 = x.i 5 + cG T.a T.n.period (aZ x) (x.i 2) := rfl; refine ⟨decide_eq_true ?_, by omega⟩; rw [e5]; show (0 <= x.i 1 /\ x.i 1 <= 1099511627776 /\ 0 <= x.i 3 /\ x.i 4 = 0 /\ 0 <= x.i 6 /\ x.i 3 + x.i 6 <= x.i 1 /\ _); omega
 refine ⟨nv _ D.year.1 D.year.2 D.month.1 D.month.2 h.period.1 (by have := h.period.2; omega) b1 (by omega), ⟨by simp only [cTr, List.length_map]; have := gB h; omega, fun d hd => (hsh d hd).1⟩, fun d hd => (hsh d hd).2, ⟨?_, sd.1, sd.2⟩, a3, a2⟩; show bk _ T.tr = al 5 (T.tr.map (dE T.a T.n.period)) - al 5 T.tr; omega
theorem qM : (cTr T).length = T.tr.length := by simp [cTr]
include he
theorem rg : (∀ d ∈ (cP T l).bd, iK d) /\ (cP T l).bd.map (fun d => d.i 0) = T.bd.map (fun d => d.i 0) /\ al 1 (cP T l).bd = al 1 T.bd - (cP T l).p - (cP T l).l /\ al 2 (cP T l).bd = al 2 T.bd + (cP T l).l - (cP T l).r /\
 0 <= (cP T l).p /\ 0 <= (cP T l).l /\ 0 <= (cP T l).r /\ 0 <= (cP T l).q /\ (cP T l).q <= 70368744177664 := by
 have b := jF h; have r0 := h.EU; exact D8 h.EL (by omega) he
theorem mX : (0 <= cIn T l /\ cIn T l <= 75000000000000) /\ (-1000000000000000 <= kZ T l /\ kZ T l <= 10000000000000000) /\ (0 <= ff T l /\ ff T l <= T.n.rin - T.n.ba /\ ff T l <= max (kZ T l) 0) /\ (0 <= m8 T l /\ m8 T l <= T.b.advance - T.n.out) := by
 obtain ⟨p1, p2, p3, p4, p5, p6, p7, p8, p9⟩ := rg h he; obtain ⟨a1, a2, a3, a4, a5⟩ := lV h; have n1 := fk p1; have b := jF h; have r0 := h.EU; have hi : 0 <= cIn T l /\ cIn T l <= 75000000000000 := by unfold cIn; omega
 have s5 := (gp (cTr T) a2.2).2.1; have hl := gB h; have f := h.fee; have p := h.period; have s5' : al 5 (cTr T) <= 1200000000000 * 601 * 8 := by
  have := nC 5 (1200000000000 * 601) (cTr T) fun d hd => ⟨(bW (a2.2 d hd)).2.2.2.2.2.2.1, by have := a3 d hd; omega⟩
  have := qM h; omega
 have hn : -1000000000000000 <= kZ T l /\ kZ T l <= 10000000000000000 := by unfold kZ; omega
 have r := h.res; have o := h.out; refine ⟨hi, hn, ?_, ?_⟩
 · unfold ff fh; omega
 · unfold m8 AG; omega
theorem wF : mj (cX T l) = true /\ aM ((cTr T).map dX) = true /\ ((cX T l).room <= 1099511627776 /\ (cX T l).ax <= 800000000000000) := by
 obtain ⟨p1, p2, p3, p4, p5, p6, p7, p8, p9⟩ := rg h he; obtain ⟨a1, a2, a3, a4, a5⟩ := lV h; obtain ⟨c1, c2, c3, c4⟩ := mX h he; have n1 := fk p1; have b := jF h; have D := eH h.xx; have r := h.res; have o := h.out; have hpe := h.period; have f := h.fee; have r0 := h.EU; have sb := (gp (cTr T) a2.2).1; have tg : 0 <= T.b.target /\ T.b.target <= 10000 := D.target; have ad : T.b.advance <= 1099511627776 := D.advance.2; have g := Fj (n := al 1 (cP T l).bd) (b := T.b.target) n1.1 (by omega) tg.1 tg.2; refine ⟨decide_eq_true ?_, tQ (by rw [List.length_map]; exact a2.1) fun d hd => ?_, ?_, ?_⟩
 · simp only [cX, rQ]; omega
 · obtain ⟨x, hx, rfl⟩ := List.mem_map.1 hd; have g := bW (a2.2 x hx); have gb := DO (a2.2 x hx); simp only [jh, dX, Bool.and_eq_true, dM, gU]; clear p1 p2 p3 p4 p5 p6 p7 p8 p9 a1 a3 a4 a5 c1 c2 c3 c4 D r o f r0 sb tg ad b n1 hpe; exact ⟨rfl, decide_eq_true (by omega)⟩
 · simp only [cX, rQ]; omega
 · simp only [cX]; omega
end
section
variable {T : ab} {l : List Dat} (h : lz T) (hp : T.n.period < 600) (he : (cP T l).e = 0)
include h
theorem ql : dL (eL (gN T) T.n.mode) = true := by
 have D := eH h.xx; have m := h.mode; unfold eL
 by_cases m0 : T.n.mode = 0
 · rw [if_pos m0]; exact D.s0
 rw [if_neg m0]
 by_cases m1 : T.n.mode = 1
 · rw [if_pos m1]; exact D.s1
 rw [if_neg m1, if_pos (by omega)]; exact D.s2
include he
theorem wh : Kept (cX T l) ((cTr T).map dX) (cK T l).2.2 (cK T l).1 (cK T l).2.1 /\ (∀ d ∈ (cK T l).2.2, EY T.tr.length 0 (eL (gN T) T.n.mode) d) /\ mj (cK T l).1 = true /\ aM (cK T l).2.1 = true /\ (cK T l).2.2.length <= 128000 := by
 obtain ⟨x1, x2, x3, x4⟩ := wF h he; have k := wj (eL (gN T) T.n.mode) 0 (cX T l) _ x1 x2; have o := Ck (eL (gN T) T.n.mode) 0 (cX T l) _ x1 x2; have sl := iw (ql h); have e : ((cTr T).map dX).length = T.tr.length := by rw [List.length_map, qM h]
 rw [e] at k; exact ⟨k.1, k.2.1, o.1, o.2.1, by have := o.2.2.2; unfold cK; omega⟩
theorem uh : (∀ d ∈ (cK T l).2.2, 1 <= d.i 3 /\ ((d.i 1 = 1 \/ d.i 1 = 2 \/ d.i 1 = 6) \/ (0 <= d.i 2 /\ d.i 2 < (T.tr.length : Int)))) /\ al 3 (cK T l).2.2 <= 800000000000000 /\
 (0 <= bf kF (cK T l).2.2 /\ bf kF (cK T l).2.2 <= T.n.fee + nI T) /\ (0 <= bf kR (cK T l).2.2 /\ bf kR (cK T l).2.2 <= T.n.out) /\ (0 <= bf kT (cK T l).2.2 /\ bf kT (cK T l).2.2 <= (cX T l).room) /\
 ∀ i, i < T.tr.length -> (0 <= bf (toB i) (cK T l).2.2 /\ bf (toB i) (cK T l).2.2 <= aZ (ah (cTr T) i)) /\ (0 <= bf (toI i) (cK T l).2.2 /\ bf (toI i) (cK T l).2.2 <= (ah (cTr T) i).i 5) := by
 obtain ⟨k, p, g, c, _⟩ := wh h he; obtain ⟨x1, x2, x3, x4⟩ := wF h he; have g := qG g; have hpp : ∀ d ∈ (cK T l).2.2, 1 <= d.i 3 /\ ((d.i 1 = 1 \/ d.i 1 = 2 \/ d.i 1 = 6) \/ (0 <= d.i 2 /\ d.i 2 < (T.tr.length : Int))) := fun d hd => by
  obtain ⟨_, _, h1, h2, h3, h4⟩ := p d hd; refine ⟨h2, ?_⟩; rw [<- h1] at h4
  by_cases hn : d.i 2 < 0
  · exact .inl (h4.1 hn)
  · exact .inr (by omega)
 have n0 := fun f => kM f (cK T l).2.2 fun d hd => by have := (hpp d hd).1; omega
 have kf := k.fee; have kr := k.bt; have kt := k.room; have kc := k.ax; have e1 : (cX T l).fee = T.n.fee + nI T := rfl; have e2 : (cX T l).bt = T.n.out := rfl; refine ⟨hpp, by omega, ⟨n0 _, by omega⟩, ⟨n0 _, by omega⟩, ⟨n0 _, by omega⟩, fun i hi => ?_⟩; have hl := qM h; have hr := k.row i (by rw [List.length_map]; omega); rw [Dy (by omega)] at hr; have hc := bZ ((bz c).2 _ (uc (l := (cK T l).2.1) (j := i) (by rw [k.len, List.length_map]; omega))); rw [hr] at hc; have b1 : (dX (ah (cTr T) i)).i 1 = aZ (ah (cTr T) i) := rfl; have b2 : (dX (ah (cTr T) i)).i 2 = (ah (cTr T) i).i 5 := rfl; simp only [dM, gU, b1, b2] at hc; exact ⟨⟨n0 _, by omega⟩, ⟨n0 _, by omega⟩⟩
theorem jM : (cI T l).1 = { T.n with fee := T.n.fee + nI T - bf kF (cK T l).2.2, out := T.n.out - bf kR (cK T l).2.2, rin := T.n.rin + bf kT (cK T l).2.2, ba := T.n.ba + ff T l } /\ (cI T l).2.length = T.tr.length /\ cZ (cI T l).2 /\
 (∀ i, i < T.tr.length -> rJ (ah (cTr T) i) (ah (cI T l).2 i) (bf (toB i) (cK T l).2.2) (bf (toI i) (cK T l).2.2)) /\ vj (cK T l).2.2 (cN1 T l) (cTr T) = true := by
 obtain ⟨s1, s2, s3, s4, s5, s6⟩ := uh h he; obtain ⟨k, p, g, c, pl⟩ := wh h he; obtain ⟨a1, a2, a3, a4, a5⟩ := lV h; obtain ⟨c1, c2, c3, c4⟩ := mX h he; have hl := qM h; obtain ⟨d1, d2, d3⟩ := vC (cK T l).2.2 (cN1 T l) (cTr T) (fun d hd => by have := (s1 d hd).1; omega) (fun d hd => by rw [hl]; exact (s1 d hd).2) (fun i hi => by have := s6 i (by omega); omega); have f := h.fee; have o := h.out; have r := h.res; have hpe := h.period; have ad : T.b.advance <= 1099511627776 := (eH h.xx).advance.2; have hg : cZ (cI T l).2 := by
  have hdl : (cI T l).2.length = (cTr T).length := d2; refine ⟨by have := a2.1; omega, fun d hd => ?_⟩; obtain ⟨i, hi, rfl⟩ := nO hd; obtain ⟨_, e1, _, e3, e4, e5, e6⟩ := d3 i (by omega); have := s6 i (by omega); have gi := bW (bX (c := cTr T) (i := i) (by omega) a2.2); have e1' : (ah (cI T l).2 i).i 1 = (ah (cTr T) i).i 1 := e1; have e3' : (ah (cI T l).2 i).i 3 = (ah (cTr T) i).i 3 + bf (toB i) (cK T l).2.2 := e3; have e4' : (ah (cI T l).2 i).i 4 = (ah (cTr T) i).i 4 := e4; have e5' : (ah (cI T l).2 i).i 5 = (ah (cTr T) i).i 5 - bf (toI i) (cK T l).2.2 := e5; have e6' : (ah (cI T l).2 i).i 6 = (ah (cTr T) i).i 6 := e6; refine decide_eq_true ?_
  rw [e1', e3', e4', e5', e6']; unfold aZ at this; omega
 refine ⟨d1, d2.trans hl, hg, fun i hi => d3 i (by omega), ?_⟩; simp only [vj, Bool.and_eq_true, decide_eq_true_eq, List.all_eq_true]; refine ⟨by omega, fun d hd => ?_, ⟨by omega, ?_⟩, a2⟩
 · have := s1 d hd; simp only [Dr, Bool.and_eq_true, Bool.or_eq_true, decide_eq_true_eq, hl]; exact ⟨by omega, this.2⟩
 · simp only [cN1]; omega
theorem Au : cN2 T l = { T.n with fee := T.n.fee + nI T - bf kF (cK T l).2.2, out := T.n.out - bf kR (cK T l).2.2 + m8 T l, rin := T.n.rin + bf kT (cK T l).2.2, ba := T.n.ba + ff T l, aK := T.n.aK + (cP T l).l, aU := T.n.aU + (cP T l).r } := by
 unfold cN2; rw [(jM h he).1]
theorem vn : 0 <= ct (bk unD (cI T l).2) (al 1 (cP T l).bd) (cN2 T l).aK (cN2 T l).aU /\ ct (bk unD (cI T l).2) (al 1 (cP T l).bd) (cN2 T l).aK (cN2 T l).aU <= bk unD (cI T l).2 /\
 ct (bk unD (cI T l).2) (al 1 (cP T l).bd) (cN2 T l).aK (cN2 T l).aU <= al 2 (cP T l).bd /\ (cN2 T l).aK - (cN2 T l).aU = al 2 (cP T l).bd := by
 obtain ⟨p1, p2, p3, p4, p5, p6, p7, p8, p9⟩ := rg h he; have g := (jM h he).2.2.1; have u := (gp _ g.2).2.2.2.1; have t := rK (bk unD (cI T l).2) (al 1 (cP T l).bd) (cN2 T l).aK (cN2 T l).aU; have n1 := fk p1; have hl := h.lost; have e : (cN2 T l).aK - (cN2 T l).aU = al 2 (cP T l).bd := by rw [Au h he]; simp only; omega
 omega
theorem DY : cZ (Az T l) /\ dP (cI T l).2 (Az T l) /\ al 6 (Az T l) = ct (bk unD (cI T l).2) (al 1 (cP T l).bd) (cN2 T l).aK (cN2 T l).aU := by
 have t := vn h he; exact DW (jM h he).2.2.1 t.1 t.2.1
end
end
end Go.Proofs.YtdbkoeefnodejaaGreat
namespace Go.Proofs.YtdbkoeefnodejaaGreat
noncomputable section
open Go Go.Proofs.YtdbkoeefnodejaaGreat.Ev
set_option maxRecDepth 20000
def pk (T : ab) : Bool := @decide (lz T) (Classical.propDecidable _)
theorem mZ {T : ab} : pk T = true ↔ lz T := by unfold pk; simp
theorem CX {l : List Dat} (h : ∀ d ∈ l, iK d) (hl : l.length <= 1000) : (decide (l.length <= 1000) && l.all cD) = true := by
 rw [Bool.and_eq_true, List.all_eq_true]; exact ⟨decide_eq_true hl, fun d hd => decide_eq_true (by have := h d hd; unfold iK at this; omega)⟩
theorem Be {T : ab} (h : lz T) : T.aR.length < 1000000 /\ T.notes.length < 1000000 /\ T.s0.length < 1000000 /\ T.s1.length < 1000000 /\ T.s2.length < 1000000 /\ T.bd.length < 1000000 /\ T.tr.length < 1000000 := by
 have D := eH h.xx; have h0 := iw D.s0; have h1 := iw D.s1; have h2 := iw D.s2; have h3 := sx h; have h4 := gB h; have h5 := wo h; have : (gN T).aR = T.aR := rfl; have := D.OO; simp only [gN] at *
 omega
theorem yI {T : ab} (h : lz T) : (eL (gN T) T.n.mode).length <= 16 := (iw (ql h)).2
def N13 : aA := ⟨T47.tab, 13, ⟨[.np 0 0 0, .af (sB 6)], bo 0, 0⟩, ⟨[.agg [.bool, .int .i64, .int .i64, .int .i64, .int .i64, .int .i64, .int .i64, .int .i64, .int .i64, .int .i64, .int .i64, .buf 17 4, .int .i64, .int .i64, .int .i64, .int .i64, .int .i64, .buf 18 3, .int .i64], .int .i64], [.cells [.int .i64, .int .i64, .int .i64, .buf 9 2, .buf 10 3, .int .i64, .int .i64, .int .i64, .int .i64, .int .i64, .int .i64, .int .i64, .int .i64, .int .i64, .int .i64, .buf 11 2, .buf 12 2, .buf 13 2, .ptr 14 0 0, .buf 16 7, .int .i64, .int .i64, .int .i64, .int .i64, .int .i64, .int .i64, .int .i64, .int .i64, .int .i64, .bool], .gone, .gone, .gone, .gone, .gone, .gone, .gone, .gone, .af (sI 2), .af (sI 3), .af (sI 2), .af (sI 2), .af (sI 2), .cells [.buf 15 5], .af (sB 4), .af (sI 7), .af (sI 4), .af (sI 3)], 0⟩, []⟩
def t13 (m : Nat) : Int × List Dat × au × av × aj × List Dat × List Dat × List Dat × List Dat × List Dat × List Dat × List Dat -> Option (List Un) := fun (a0, a1, a2, a3, a4, a5, a6, a7, a8, a9, a10, a11) =>
 chk (decide (0 <= a0)) <|
 bif a4.ml then
 some (Uns.enc ((⟨false, 0, 0, 0, 0, 0, 0, 0, 0, 0, 0⟩ : ig) : ig) ++ Uns.enc ((⟨0, 0, 0, 0, 0⟩ : fJ) : fJ) ++ [.i 0, .i 5] ++ Uns.enc (a2 : au) ++ Uns.enc (a3 : av) ++ Uns.enc (a4 : aj) ++ [.d a5, .d a6, .d a7, .d a8, .d a9, .d a10, .d a11, .d ([]), .d ([])])
 else
 chk (decide (0 <= a0)) <|
 bif (decide (a4.period >= 600)) then
 some (Uns.enc ((⟨false, 0, 0, 0, 0, 0, 0, 0, 0, 0, 0⟩ : ig) : ig) ++ Uns.enc ((⟨0, 0, 0, 0, 0⟩ : fJ) : fJ) ++ [.i 0, .i 4] ++ Uns.enc (a2 : au) ++ Uns.enc (a3 : av) ++ Uns.enc (a4 : aj) ++ [.d a5, .d a6, .d a7, .d a8, .d a9, .d a10, .d a11, .d ([]), .d ([])])
 else
 chk (decide (0 <= a0) && decide (a5.length < 1000000 /\ a6.length < 1000000 /\ a7.length < 1000000 /\ a8.length < 1000000 /\ a9.length < 1000000 /\ a10.length < 1000000 /\ a11.length < 1000000)) <|
 chk (decide (0 < ([.r [.r a10]] : List Dat).length) && (decide (((ah ([.r [.r a10]] : List Dat) 0).d 0).length <= 1000) && ((ah ([.r [.r a10]] : List Dat) 0).d 0).all cD)) <|
 lt ((al 1 ((ah ([.r [.r a10]] : List Dat) 0).d 0)) : Int) fun x2 =>
 chk (decide (a10.length < 1000000)) <|
 bif (((ay a1 a10).e) != 0) then
 some (Uns.enc ((⟨false, 0, 0, 0, 0, 0, 0, 0, 0, 0, 0⟩ : ig) : ig) ++ Uns.enc ((⟨0, 0, 0, 0, 0⟩ : fJ) : fJ) ++ [.i 0, .i ((ay a1 a10).e)] ++ Uns.enc (a2 : au) ++ Uns.enc (a3 : av) ++ Uns.enc (a4 : aj) ++ [.d a5, .d a6, .d a7, .d a8, .d a9, .d a10, .d a11, .d ([]), .d ([])])
 else
 chk (decide ((1 <= a2.year /\ a2.year <= 9000 /\ 1 <= a2.month /\ a2.month <= 12) /\ (0 <= a4.period /\ a4.period <= 600) /\ (0 <= a4.fee /\ a4.fee <= 1125899906842624) /\ (0 <= x2 /\ x2 <= 1099511627776)) && (decide (a11.length <= 1000) && a11.all aH)) <|
 lt ((bk (fun d => cG a2 a4.period (aZ d) (d.i 2)) a11) : Int) fun x4 =>
 lt (({ a4 with fee := a4.fee + cG a2 a4.period x2 a3.fee }) : aj) fun g5 =>
 chk (decide (0 <= 0) && (decide ((a11.map (dE a2 a4.period)).length <= 1000) && (a11.map (dE a2 a4.period)).all aH)) <|
 lt ((w64 (g5.fee + (al 5 (a11.map (dE a2 a4.period))))) : Int) fun x6 =>
 lt ((w64 ((w64 ((w64 ((w64 (((ay a1 a10).p) + ((ay a1 a10).q))) + ((ay a1 a10).r))) + 0)) + 0)) : Int) fun x9 =>
 chk (decide (0 <= 0) && decide ((-1152921504606846976 <= (w64 (x6 - x9)) /\ (w64 (x6 - x9)) <= 1152921504606846976) /\ ((0 : Int) <= g5.ba /\ g5.ba <= g5.rin /\ g5.rin <= (1152921504606846976 : Int)) /\ (0 <= g5.out /\ g5.out <= 1152921504606846976) /\ (0 <= a3.advance /\ a3.advance <= 1152921504606846976))) <|
 lt ((fh (w64 (x6 - x9)) (g5.rin - g5.ba)) : Int) fun x10 =>
 lt ((AG (w64 (x6 - x9)) (g5.rin - g5.ba) (a3.advance - g5.out)) : Int) fun x11 =>
 lt (({ g5 with ba := g5.ba + fh (w64 (x6 - x9)) (g5.rin - g5.ba) }) : aj) fun g12 =>
 lt ((w64 ((w64 ((w64 ((w64 (((ay a1 a10).p) + ((ay a1 a10).q))) + ((ay a1 a10).r))) + x10)) + x11)) : Int) fun x15 =>
 chk (decide (((0 <= ((ay a1 a10).p) /\ ((ay a1 a10).p) <= 1125899906842624) /\ (0 <= ((ay a1 a10).l) /\ ((ay a1 a10).l) <= 1125899906842624) /\ (0 <= ((ay a1 a10).r) /\ ((ay a1 a10).r) <= 1125899906842624)) /\ (0 <= g12.ba /\ g12.ba <= g12.rin /\ g12.rin <= 1152921504606846976)) && ((decide (((ay a1 a10).bd).length <= 1000) && ((ay a1 a10).bd).all cD) && (decide ((a11.map (dE a2 a4.period)).length <= 1000) && (a11.map (dE a2 a4.period)).all aH))) <|
 lt ((min (((ay a1 a10).p) + ((ay a1 a10).r) + ((ay a1 a10).l)) (bk aZ (a11.map (dE a2 a4.period)))) : Int) fun x16 =>
 lt ((rQ a3.target (al 1 ((ay a1 a10).bd)) (g12.rin - g12.ba)) : Int) fun x17 =>
 chk (decide ((⟨a2, a5, a6, a3, a7, a8, a9⟩ : bg).s0.length < 1000000 /\ (⟨a2, a5, a6, a3, a7, a8, a9⟩ : bg).s1.length < 1000000 /\ (⟨a2, a5, a6, a3, a7, a8, a9⟩ : bg).s2.length < 1000000)) <|
 lt ((eL (⟨a2, a5, a6, a3, a7, a8, a9⟩ : bg) g12.mode) : List Dat) fun l18 =>
 chk (decide (l18.length <= 1000000) && (mj ⟨x15, g12.fee, g12.out, x16, x17⟩ && aM ((a11.map (dE a2 a4.period)).map dX))) <|
 lt (((de 0 l18 ⟨x15, g12.fee, g12.out, x16, x17⟩ ((a11.map (dE a2 a4.period)).map dX)).2.2) : List Dat) fun l24 =>
 chk (decide (0 <= 0) && vj l24 g12 (a11.map (dE a2 a4.period))) <|
 lt (((cA l24 g12 (a11.map (dE a2 a4.period))).1).out : Int) fun x26 =>
 chk (decide (((0 <= ((ay a1 a10).p) /\ ((ay a1 a10).p) <= 1125899906842624) /\ (0 <= ((ay a1 a10).l) /\ ((ay a1 a10).l) <= 1125899906842624) /\ (0 <= ((ay a1 a10).r) /\ ((ay a1 a10).r) <= 1125899906842624)) /\ (0 <= ({ ((cA l24 g12 (a11.map (dE a2 a4.period))).1) with out := (w64 (x26 + x11)) } : aj).aK /\ ({ ((cA l24 g12 (a11.map (dE a2 a4.period))).1) with out := (w64 (x26 + x11)) } : aj).aK <= 1125899906842624) /\ (0 <= ({ ((cA l24 g12 (a11.map (dE a2 a4.period))).1) with out := (w64 (x26 + x11)) } : aj).aU /\ ({ ((cA l24 g12 (a11.map (dE a2 a4.period))).1) with out := (w64 (x26 + x11)) } : aj).aU <= 1125899906842624)) && ((decide (((ay a1 a10).bd).length <= 1000) && ((ay a1 a10).bd).all cD) && (decide (((cA l24 g12 (a11.map (dE a2 a4.period))).2).length <= 1000) && ((cA l24 g12 (a11.map (dE a2 a4.period))).2).all aH))) <|
 lt (({ ({ ((cA l24 g12 (a11.map (dE a2 a4.period))).1) with out := (w64 (x26 + x11)) } : aj) with aK := ({ ((cA l24 g12 (a11.map (dE a2 a4.period))).1) with out := (w64 (x26 + x11)) } : aj).aK + ((ay a1 a10).l), aU := ({ ((cA l24 g12 (a11.map (dE a2 a4.period))).1) with out := (w64 (x26 + x11)) } : aj).aU + ((ay a1 a10).r) }) : aj) fun g27 =>
 lt ((eS (ct (bk unD ((cA l24 g12 (a11.map (dE a2 a4.period))).2)) (al 1 ((ay a1 a10).bd)) (({ ((cA l24 g12 (a11.map (dE a2 a4.period))).1) with out := (w64 (x26 + x11)) } : aj).aK + ((ay a1 a10).l)) (({ ((cA l24 g12 (a11.map (dE a2 a4.period))).1) with out := (w64 (x26 + x11)) } : aj).aU + ((ay a1 a10).r))) ((cA l24 g12 (a11.map (dE a2 a4.period))).2)) : List Dat) fun l28 =>
 chk (decide (0 <= 0) && ((decide (((ay a1 a10).bd).length <= 1000) && ((ay a1 a10).bd).all cD) && (decide (l28.length <= 1000) && l28.all aH))) <|
 lt ((a3.oc == 0 || bC (al 1 ((ay a1 a10).bd)) (bk aZ l28) a3.oc) : Bool) fun x32 =>
 lt ((a3.ic == 0 || bC (min ((ay a1 a10).q) 1099511627776) (min x4 1099511627776) a3.ic) : Bool) fun x33 =>
 lt ((a3.late == 0 || bM (b8 2 ((ay a1 a10).bd) + b8 3 ((ay a1 a10).bd)) (al 1 ((ay a1 a10).bd)) a3.late) : Bool) fun x34 =>
 lt ((a3.lS == 0 || bM (w64 (g27.aK - g27.aU)) (((bO (⟨a2, a5, a6, a3, a7, a8, a9⟩ : bg)).getD (0, 0)).1) a3.lS) : Bool) fun x35 =>
 chk (decide (0 <= g27.aV /\ g27.aV <= 1000000)) <|
 chk (decide (0 <= a0)) <|
 chk (decide (0 <= a0) && (decide (0 <= ({ g27 with mode := (dh g27.mode g27.aV a3.dN x32 x33 x34 x35).1, aV := (dh g27.mode g27.aV a3.dN x32 x33 x34 x35).2, period := (w64 (g27.period + 1)) } : aj).ba /\ ({ g27 with mode := (dh g27.mode g27.aV a3.dN x32 x33 x34 x35).1, aV := (dh g27.mode g27.aV a3.dN x32 x33 x34 x35).2, period := (w64 (g27.period + 1)) } : aj).ba <= ({ g27 with mode := (dh g27.mode g27.aV a3.dN x32 x33 x34 x35).1, aV := (dh g27.mode g27.aV a3.dN x32 x33 x34 x35).2, period := (w64 (g27.period + 1)) } : aj).rin /\ ({ g27 with mode := (dh g27.mode g27.aV a3.dN x32 x33 x34 x35).1, aV := (dh g27.mode g27.aV a3.dN x32 x33 x34 x35).2, period := (w64 (g27.period + 1)) } : aj).rin <= 1152921504606846976) && ((decide (((ay a1 a10).bd).length <= 1000) && ((ay a1 a10).bd).all cD) && (decide (l28.length <= 1000) && l28.all aH)))) <|
 some (Uns.enc ((⟨false, (w64 (a4.period + 1)), a4.mode, (ay a1 a10).p, (ay a1 a10).q, (ay a1 a10).l, (ay a1 a10).r, x10, x11, (cG a2 a4.period x2 a3.fee), x4⟩ : ig) : ig) ++ Uns.enc ((⟨(⟨((de 0 l18 ⟨x15, g12.fee, g12.out, x16, x17⟩ ((a11.map (dE a2 a4.period)).map dX)).1.ax), 0, 0, 0, 0⟩ : fJ).dW, al 1 ((ay a1 a10).bd), ({ g27 with mode := (dh g27.mode g27.aV a3.dN x32 x33 x34 x35).1, aV := (dh g27.mode g27.aV a3.dN x32 x33 x34 x35).2, period := (w64 (g27.period + 1)) } : aj).rin - ({ g27 with mode := (dh g27.mode g27.aV a3.dN x32 x33 x34 x35).1, aV := (dh g27.mode g27.aV a3.dN x32 x33 x34 x35).2, period := (w64 (g27.period + 1)) } : aj).ba, ({ g27 with mode := (dh g27.mode g27.aV a3.dN x32 x33 x34 x35).1, aV := (dh g27.mode g27.aV a3.dN x32 x33 x34 x35).2, period := (w64 (g27.period + 1)) } : aj).out, ({ g27 with mode := (dh g27.mode g27.aV a3.dN x32 x33 x34 x35).1, aV := (dh g27.mode g27.aV a3.dN x32 x33 x34 x35).2, period := (w64 (g27.period + 1)) } : aj).fee⟩ : fJ) : fJ) ++ [.i (({ g27 with mode := (dh g27.mode g27.aV a3.dN x32 x33 x34 x35).1, aV := (dh g27.mode g27.aV a3.dN x32 x33 x34 x35).2, period := (w64 (g27.period + 1)) } : aj).mode), .i 0] ++ Uns.enc (a2 : au) ++ Uns.enc (a3 : av) ++ Uns.enc (({ g27 with mode := (dh g27.mode g27.aV a3.dN x32 x33 x34 x35).1, aV := (dh g27.mode g27.aV a3.dN x32 x33 x34 x35).2, period := (w64 (g27.period + 1)) } : aj) : aj) ++ [.d a5, .d a6, .d a7, .d a8, .d a9, .d ((ay a1 a10).bd), .d l28, .d l24, .d (l28.map Bh)])
def f13 : Int × List Dat × au × av × aj × List Dat × List Dat × List Dat × List Dat × List Dat × List Dat × List Dat -> Bool × List Un := fun (a0, a1, a2, a3, a4, a5, a6, a7, a8, a9, a10, a11) => (decide (0 <= a0) && pk (⟨a2, a3, a4, a5, a6, a7, a8, a9, a10, a11⟩ : ab), Uns.enc (((aY (⟨a2, a3, a4, a5, a6, a7, a8, a9, a10, a11⟩ : ab) a1).ra) : ig) ++ Uns.enc (((aY (⟨a2, a3, a4, a5, a6, a7, a8, a9, a10, a11⟩ : ab) a1).rb) : fJ) ++ [.i ((aY (⟨a2, a3, a4, a5, a6, a7, a8, a9, a10, a11⟩ : ab) a1).next), .i ((aY (⟨a2, a3, a4, a5, a6, a7, a8, a9, a10, a11⟩ : ab) a1).e)] ++ Uns.enc (((aY (⟨a2, a3, a4, a5, a6, a7, a8, a9, a10, a11⟩ : ab) a1).t.a) : au) ++ Uns.enc (((aY (⟨a2, a3, a4, a5, a6, a7, a8, a9, a10, a11⟩ : ab) a1).t.b) : av) ++ Uns.enc (((aY (⟨a2, a3, a4, a5, a6, a7, a8, a9, a10, a11⟩ : ab) a1).t.n) : aj) ++ [.d ((aY (⟨a2, a3, a4, a5, a6, a7, a8, a9, a10, a11⟩ : ab) a1).t.aR), .d ((aY (⟨a2, a3, a4, a5, a6, a7, a8, a9, a10, a11⟩ : ab) a1).t.notes), .d ((aY (⟨a2, a3, a4, a5, a6, a7, a8, a9, a10, a11⟩ : ab) a1).t.s0), .d ((aY (⟨a2, a3, a4, a5, a6, a7, a8, a9, a10, a11⟩ : ab) a1).t.s1), .d ((aY (⟨a2, a3, a4, a5, a6, a7, a8, a9, a10, a11⟩ : ab) a1).t.s2), .d ((aY (⟨a2, a3, a4, a5, a6, a7, a8, a9, a10, a11⟩ : ab) a1).t.bd), .d ((aY (⟨a2, a3, a4, a5, a6, a7, a8, a9, a10, a11⟩ : ab) a1).t.tr), .d ((aY (⟨a2, a3, a4, a5, a6, a7, a8, a9, a10, a11⟩ : ab) a1).H5), .d ((aY (⟨a2, a3, a4, a5, a6, a7, a8, a9, a10, a11⟩ : ab) a1).notes)])
set_option maxHeartbeats 4000000 in
theorem KR (a0 : Int) (a1 : List Dat) (a2 : au) (a3 : av) (a4 : aj) (a5 : List Dat) (a6 : List Dat) (a7 : List Dat) (a8 : List Dat) (a9 : List Dat) (a10 : List Dat) (a11 : List Dat) (hc : (decide (0 <= a0) && pk (⟨a2, a3, a4, a5, a6, a7, a8, a9, a10, a11⟩ : ab)) = true) : ∃ m, t13 m (a0, a1, a2, a3, a4, a5, a6, a7, a8, a9, a10, a11) = some (Uns.enc (((aY (⟨a2, a3, a4, a5, a6, a7, a8, a9, a10, a11⟩ : ab) a1).ra) : ig) ++ Uns.enc (((aY (⟨a2, a3, a4, a5, a6, a7, a8, a9, a10, a11⟩ : ab) a1).rb) : fJ) ++ [.i ((aY (⟨a2, a3, a4, a5, a6, a7, a8, a9, a10, a11⟩ : ab) a1).next), .i ((aY (⟨a2, a3, a4, a5, a6, a7, a8, a9, a10, a11⟩ : ab) a1).e)] ++ Uns.enc (((aY (⟨a2, a3, a4, a5, a6, a7, a8, a9, a10, a11⟩ : ab) a1).t.a) : au) ++ Uns.enc (((aY (⟨a2, a3, a4, a5, a6, a7, a8, a9, a10, a11⟩ : ab) a1).t.b) : av) ++ Uns.enc (((aY (⟨a2, a3, a4, a5, a6, a7, a8, a9, a10, a11⟩ : ab) a1).t.n) : aj) ++ [.d ((aY (⟨a2, a3, a4, a5, a6, a7, a8, a9, a10, a11⟩ : ab) a1).t.aR), .d ((aY (⟨a2, a3, a4, a5, a6, a7, a8, a9, a10, a11⟩ : ab) a1).t.notes), .d ((aY (⟨a2, a3, a4, a5, a6, a7, a8, a9, a10, a11⟩ : ab) a1).t.s0), .d ((aY (⟨a2, a3, a4, a5, a6, a7, a8, a9, a10, a11⟩ : ab) a1).t.s1), .d ((aY (⟨a2, a3, a4, a5, a6, a7, a8, a9, a10, a11⟩ : ab) a1).t.s2), .d ((aY (⟨a2, a3, a4, a5, a6, a7, a8, a9, a10, a11⟩ : ab) a1).t.bd), .d ((aY (⟨a2, a3, a4, a5, a6, a7, a8, a9, a10, a11⟩ : ab) a1).t.tr), .d ((aY (⟨a2, a3, a4, a5, a6, a7, a8, a9, a10, a11⟩ : ab) a1).H5), .d ((aY (⟨a2, a3, a4, a5, a6, a7, a8, a9, a10, a11⟩ : ab) a1).notes)]) := by
 have h0 := of_decide_eq_true (Bool.and_eq_true_iff.1 hc).1; have h := mZ.1 (Bool.and_eq_true_iff.1 hc).2; clear hc; have hl := Be h; have hpl := sx h; have hts := gB h; have hpe : 0 <= a4.period /\ a4.period <= 600 := h.period; have hpa : 0 <= a4.aV /\ a4.aV <= a4.period := h.aV; refine ⟨0, ?_⟩; unfold t13; cases ho : a4.ml with
 | true =>
  have hC : aY (⟨a2, a3, a4, a5, a6, a7, a8, a9, a10, a11⟩ : ab) a1 = noR 5 (⟨a2, a3, a4, a5, a6, a7, a8, a9, a10, a11⟩ : ab) := by unfold aY; rw [show ((⟨a2, a3, a4, a5, a6, a7, a8, a9, a10, a11⟩ : ab)).n.ml = true from ho]; rfl
  rw [hC]; dsimp only; exact cz (decide_eq_true h0) (Pl ho rfl)
 | false =>
 dsimp only; refine cz (decide_eq_true h0) (As ho (cz (decide_eq_true h0) ?_))
 by_cases hp : a4.period >= 600
 · have hC : aY (⟨a2, a3, a4, a5, a6, a7, a8, a9, a10, a11⟩ : ab) a1 = noR 4 (⟨a2, a3, a4, a5, a6, a7, a8, a9, a10, a11⟩ : ab) := by unfold aY; rw [show ((⟨a2, a3, a4, a5, a6, a7, a8, a9, a10, a11⟩ : ab)).n.ml = false from ho, rB, bT hp]
   rw [hC, bT hp]; rfl
 rw [aB hp]; refine cz (Bool.and_eq_true_iff.2 ⟨decide_eq_true h0, decide_eq_true hl⟩) ?_
 refine cz (Bool.and_eq_true_iff.2 ⟨rfl, CX (l := a10) h.EL (Nat.le_trans hpl.2 (by decide))⟩) ?_
 refine jw fun x2 e2 => ?_
 obtain rfl : x2 = al 1 a10 := e2; refine cz (decide_eq_true hl.2.2.2.2.2.1) ?_
 by_cases he : (cP (⟨a2, a3, a4, a5, a6, a7, a8, a9, a10, a11⟩ : ab) a1).e = 0
 case neg =>
  have hC : aY (⟨a2, a3, a4, a5, a6, a7, a8, a9, a10, a11⟩ : ab) a1 = noR (cP (⟨a2, a3, a4, a5, a6, a7, a8, a9, a10, a11⟩ : ab) a1).e (⟨a2, a3, a4, a5, a6, a7, a8, a9, a10, a11⟩ : ab) := by unfold aY; rw [show ((⟨a2, a3, a4, a5, a6, a7, a8, a9, a10, a11⟩ : ab)).n.ml = false from ho, rB, aB hp, jQ he]
  rw [hC]; exact jQ he
 have hC : aY (⟨a2, a3, a4, a5, a6, a7, a8, a9, a10, a11⟩ : ab) a1 = Fg (⟨a2, a3, a4, a5, a6, a7, a8, a9, a10, a11⟩ : ab) a1 := by unfold aY; rw [show ((⟨a2, a3, a4, a5, a6, a7, a8, a9, a10, a11⟩ : ab)).n.ml = false from ho, rB, aB hp, jP he]
 rw [hC]; refine Eq.trans (jP he) ?_
 have hp' : ((⟨a2, a3, a4, a5, a6, a7, a8, a9, a10, a11⟩ : ab)).n.period < 600 := by simp only; omega
 have D := eH h.xx; have b : 0 <= al 1 a10 /\ 0 <= al 2 a10 /\ al 1 a10 + al 2 a10 + a4.aU <= 1099511627776 := jF h; have r0 : 0 <= a4.aU := h.EU; have f : 0 <= a4.fee /\ a4.fee <= 1200000000000 * a4.period := h.fee; have o : 0 <= a4.out /\ a4.out <= a3.advance := h.out; have r : 0 <= a4.ba /\ a4.ba <= a4.rin /\ a4.rin <= 1200000000000 * (a4.period + 1) := h.res; have lo : a4.aK - a4.aU = al 2 a10 := h.lost; obtain ⟨q1, q2, q3, q4, q5, q6, q7, q8, q9⟩ := rg h he; obtain ⟨c1, c2, c3, c4, c5⟩ := lV h; obtain ⟨m1, m2, m3, m4⟩ := mX h he; have m3 : 0 <= ff (⟨a2, a3, a4, a5, a6, a7, a8, a9, a10, a11⟩ : ab) a1 /\ ff (⟨a2, a3, a4, a5, a6, a7, a8, a9, a10, a11⟩ : ab) a1 <= a4.rin - a4.ba := ⟨m3.1, m3.2.1⟩
 have m4 : 0 <= m8 (⟨a2, a3, a4, a5, a6, a7, a8, a9, a10, a11⟩ : ab) a1 /\ m8 (⟨a2, a3, a4, a5, a6, a7, a8, a9, a10, a11⟩ : ab) a1 <= a3.advance - a4.out := m4; obtain ⟨x1, x2, x3, x4⟩ := wF h he; obtain ⟨d1, d2, d3, d4, d5⟩ := jM h he; obtain ⟨t1, t2, t3⟩ := DY h he; have u2 := Au h he; have k := yI h; have ad : 0 <= a3.advance /\ a3.advance <= 1099511627776 := D.advance; have nq := fk q1; have hpa9 : a10.length <= 64 := hpl.2; have hqlen : (cP (⟨a2, a3, a4, a5, a6, a7, a8, a9, a10, a11⟩ : ab) a1).bd.length <= 1000 := by
  have hq : (cP (⟨a2, a3, a4, a5, a6, a7, a8, a9, a10, a11⟩ : ab) a1).bd.length = a10.length := by have := congrArg List.length q2; simpa using this
  omega
 have hpo := CX q1 hqlen; have s5 := (gp _ c2.2).2.1; have st := uh h he; have q3 : al 1 (cP (⟨a2, a3, a4, a5, a6, a7, a8, a9, a10, a11⟩ : ab) a1).bd = al 1 a10 - (cP (⟨a2, a3, a4, a5, a6, a7, a8, a9, a10, a11⟩ : ab) a1).p - (cP (⟨a2, a3, a4, a5, a6, a7, a8, a9, a10, a11⟩ : ab) a1).l := q3; have q4 : al 2 (cP (⟨a2, a3, a4, a5, a6, a7, a8, a9, a10, a11⟩ : ab) a1).bd = al 2 a10 + (cP (⟨a2, a3, a4, a5, a6, a7, a8, a9, a10, a11⟩ : ab) a1).l - (cP (⟨a2, a3, a4, a5, a6, a7, a8, a9, a10, a11⟩ : ab) a1).r := q4; have stT := st.2.2.2.2.1; have stR : 0 <= bf kR (cK (⟨a2, a3, a4, a5, a6, a7, a8, a9, a10, a11⟩ : ab) a1).2.2 /\ bf kR (cK (⟨a2, a3, a4, a5, a6, a7, a8, a9, a10, a11⟩ : ab) a1).2.2 <= a4.out := st.2.2.2.1; have s5l : al 5 (cTr (⟨a2, a3, a4, a5, a6, a7, a8, a9, a10, a11⟩ : ab)) <= 1125899906842624000 := by have := c2.1; omega
 refine cz (Bool.and_eq_true_iff.2 ⟨decide_eq_true ⟨⟨D.year.1, D.year.2, D.month.1, D.month.2⟩, hpe, ⟨f.1, by omega⟩, b.1, by omega⟩, dU (Ab h)⟩) ?_
 refine jw fun x3' e3 => ?_
 obtain rfl : x3' = D2 (⟨a2, a3, a4, a5, a6, a7, a8, a9, a10, a11⟩ : ab) := e3; refine jw fun g4 e4 => ?_
 obtain rfl : g4 = { a4 with fee := a4.fee + nI (⟨a2, a3, a4, a5, a6, a7, a8, a9, a10, a11⟩ : ab) } := e4; refine cz (Bool.and_eq_true_iff.2 ⟨rfl, dU c2⟩) ?_
 refine jw fun x5 e5 => ?_
 obtain rfl : x5 = a4.fee + nI (⟨a2, a3, a4, a5, a6, a7, a8, a9, a10, a11⟩ : ab) + al 5 (cTr (⟨a2, a3, a4, a5, a6, a7, a8, a9, a10, a11⟩ : ab)) := e5.trans (aa (n := a4.fee + nI (⟨a2, a3, a4, a5, a6, a7, a8, a9, a10, a11⟩ : ab) + al 5 (cTr (⟨a2, a3, a4, a5, a6, a7, a8, a9, a10, a11⟩ : ab))) (by omega) (by omega)); refine jw fun x8 e8 => ?_
 obtain rfl : x8 = cIn (⟨a2, a3, a4, a5, a6, a7, a8, a9, a10, a11⟩ : ab) a1 := e8.trans (by
  have i := m1; unfold cIn at i ⊢; rw [show w64 ((ay a1 a10).p + (ay a1 a10).q) = (cP (⟨a2, a3, a4, a5, a6, a7, a8, a9, a10, a11⟩ : ab) a1).p + (cP (⟨a2, a3, a4, a5, a6, a7, a8, a9, a10, a11⟩ : ab) a1).q from aa (by show _ <= (cP (⟨a2, a3, a4, a5, a6, a7, a8, a9, a10, a11⟩ : ab) a1).p + (cP (⟨a2, a3, a4, a5, a6, a7, a8, a9, a10, a11⟩ : ab) a1).q; omega) (by show (cP (⟨a2, a3, a4, a5, a6, a7, a8, a9, a10, a11⟩ : ab) a1).p + (cP (⟨a2, a3, a4, a5, a6, a7, a8, a9, a10, a11⟩ : ab) a1).q <= _; omega)]; rw [show w64 ((cP (⟨a2, a3, a4, a5, a6, a7, a8, a9, a10, a11⟩ : ab) a1).p + (cP (⟨a2, a3, a4, a5, a6, a7, a8, a9, a10, a11⟩ : ab) a1).q + (ay a1 a10).r) = (cP (⟨a2, a3, a4, a5, a6, a7, a8, a9, a10, a11⟩ : ab) a1).p + (cP (⟨a2, a3, a4, a5, a6, a7, a8, a9, a10, a11⟩ : ab) a1).q + (cP (⟨a2, a3, a4, a5, a6, a7, a8, a9, a10, a11⟩ : ab) a1).r from aa (by show _ <= (cP (⟨a2, a3, a4, a5, a6, a7, a8, a9, a10, a11⟩ : ab) a1).p + (cP (⟨a2, a3, a4, a5, a6, a7, a8, a9, a10, a11⟩ : ab) a1).q + (cP (⟨a2, a3, a4, a5, a6, a7, a8, a9, a10, a11⟩ : ab) a1).r; omega) (by show (cP (⟨a2, a3, a4, a5, a6, a7, a8, a9, a10, a11⟩ : ab) a1).p + (cP (⟨a2, a3, a4, a5, a6, a7, a8, a9, a10, a11⟩ : ab) a1).q + (cP (⟨a2, a3, a4, a5, a6, a7, a8, a9, a10, a11⟩ : ab) a1).r <= _; omega)]; have w : w64 ((cP (⟨a2, a3, a4, a5, a6, a7, a8, a9, a10, a11⟩ : ab) a1).p + (cP (⟨a2, a3, a4, a5, a6, a7, a8, a9, a10, a11⟩ : ab) a1).q + (cP (⟨a2, a3, a4, a5, a6, a7, a8, a9, a10, a11⟩ : ab) a1).r) = (cP (⟨a2, a3, a4, a5, a6, a7, a8, a9, a10, a11⟩ : ab) a1).p + (cP (⟨a2, a3, a4, a5, a6, a7, a8, a9, a10, a11⟩ : ab) a1).q + (cP (⟨a2, a3, a4, a5, a6, a7, a8, a9, a10, a11⟩ : ab) a1).r := aa (by omega) (by omega); simp only [Int.add_zero, w])
 have en : w64 (a4.fee + nI (⟨a2, a3, a4, a5, a6, a7, a8, a9, a10, a11⟩ : ab) + al 5 (cTr (⟨a2, a3, a4, a5, a6, a7, a8, a9, a10, a11⟩ : ab)) - cIn (⟨a2, a3, a4, a5, a6, a7, a8, a9, a10, a11⟩ : ab) a1) = kZ (⟨a2, a3, a4, a5, a6, a7, a8, a9, a10, a11⟩ : ab) a1 := aa (by show _ <= kZ (⟨a2, a3, a4, a5, a6, a7, a8, a9, a10, a11⟩ : ab) a1; omega) (by show kZ (⟨a2, a3, a4, a5, a6, a7, a8, a9, a10, a11⟩ : ab) a1 <= _; omega); rw [en]; refine cz (Bool.and_eq_true_iff.2 ⟨rfl, decide_eq_true ⟨by omega, ⟨r.1, r.2.1, by show a4.rin <= _; omega⟩, ⟨o.1, by show a4.out <= _; omega⟩, D.advance.1, by omega⟩⟩) ?_
 refine jw fun x9 e9 => ?_
 obtain rfl : x9 = ff (⟨a2, a3, a4, a5, a6, a7, a8, a9, a10, a11⟩ : ab) a1 := e9; refine jw fun x10 e10 => ?_
 obtain rfl : x10 = m8 (⟨a2, a3, a4, a5, a6, a7, a8, a9, a10, a11⟩ : ab) a1 := e10; refine jw fun g11 e11 => ?_
 obtain rfl : g11 = cN1 (⟨a2, a3, a4, a5, a6, a7, a8, a9, a10, a11⟩ : ab) a1 := e11; refine jw fun x14 e14 => ?_
 obtain rfl : x14 = (cX (⟨a2, a3, a4, a5, a6, a7, a8, a9, a10, a11⟩ : ab) a1).ax := e14.trans (by
  have i := m1; have z : (cX (⟨a2, a3, a4, a5, a6, a7, a8, a9, a10, a11⟩ : ab) a1).ax = cIn (⟨a2, a3, a4, a5, a6, a7, a8, a9, a10, a11⟩ : ab) a1 + ff (⟨a2, a3, a4, a5, a6, a7, a8, a9, a10, a11⟩ : ab) a1 + m8 (⟨a2, a3, a4, a5, a6, a7, a8, a9, a10, a11⟩ : ab) a1 := rfl; rw [z]; unfold cIn at i ⊢; rw [show w64 ((ay a1 a10).p + (ay a1 a10).q) = (cP (⟨a2, a3, a4, a5, a6, a7, a8, a9, a10, a11⟩ : ab) a1).p + (cP (⟨a2, a3, a4, a5, a6, a7, a8, a9, a10, a11⟩ : ab) a1).q from aa (by show _ <= (cP (⟨a2, a3, a4, a5, a6, a7, a8, a9, a10, a11⟩ : ab) a1).p + (cP (⟨a2, a3, a4, a5, a6, a7, a8, a9, a10, a11⟩ : ab) a1).q; omega) (by show (cP (⟨a2, a3, a4, a5, a6, a7, a8, a9, a10, a11⟩ : ab) a1).p + (cP (⟨a2, a3, a4, a5, a6, a7, a8, a9, a10, a11⟩ : ab) a1).q <= _; omega)]; rw [show w64 ((cP (⟨a2, a3, a4, a5, a6, a7, a8, a9, a10, a11⟩ : ab) a1).p + (cP (⟨a2, a3, a4, a5, a6, a7, a8, a9, a10, a11⟩ : ab) a1).q + (ay a1 a10).r) = (cP (⟨a2, a3, a4, a5, a6, a7, a8, a9, a10, a11⟩ : ab) a1).p + (cP (⟨a2, a3, a4, a5, a6, a7, a8, a9, a10, a11⟩ : ab) a1).q + (cP (⟨a2, a3, a4, a5, a6, a7, a8, a9, a10, a11⟩ : ab) a1).r from aa (by show _ <= (cP (⟨a2, a3, a4, a5, a6, a7, a8, a9, a10, a11⟩ : ab) a1).p + (cP (⟨a2, a3, a4, a5, a6, a7, a8, a9, a10, a11⟩ : ab) a1).q + (cP (⟨a2, a3, a4, a5, a6, a7, a8, a9, a10, a11⟩ : ab) a1).r; omega) (by show (cP (⟨a2, a3, a4, a5, a6, a7, a8, a9, a10, a11⟩ : ab) a1).p + (cP (⟨a2, a3, a4, a5, a6, a7, a8, a9, a10, a11⟩ : ab) a1).q + (cP (⟨a2, a3, a4, a5, a6, a7, a8, a9, a10, a11⟩ : ab) a1).r <= _; omega)]; rw [aa (n := (cP (⟨a2, a3, a4, a5, a6, a7, a8, a9, a10, a11⟩ : ab) a1).p + (cP (⟨a2, a3, a4, a5, a6, a7, a8, a9, a10, a11⟩ : ab) a1).q + (cP (⟨a2, a3, a4, a5, a6, a7, a8, a9, a10, a11⟩ : ab) a1).r + ff (⟨a2, a3, a4, a5, a6, a7, a8, a9, a10, a11⟩ : ab) a1) (by omega) (by omega), aa (n := (cP (⟨a2, a3, a4, a5, a6, a7, a8, a9, a10, a11⟩ : ab) a1).p + (cP (⟨a2, a3, a4, a5, a6, a7, a8, a9, a10, a11⟩ : ab) a1).q + (cP (⟨a2, a3, a4, a5, a6, a7, a8, a9, a10, a11⟩ : ab) a1).r + ff (⟨a2, a3, a4, a5, a6, a7, a8, a9, a10, a11⟩ : ab) a1 + m8 (⟨a2, a3, a4, a5, a6, a7, a8, a9, a10, a11⟩ : ab) a1) (by omega) (by omega)])
 have c1r : (0 <= (cN1 (⟨a2, a3, a4, a5, a6, a7, a8, a9, a10, a11⟩ : ab) a1).ba /\ (cN1 (⟨a2, a3, a4, a5, a6, a7, a8, a9, a10, a11⟩ : ab) a1).ba <= (cN1 (⟨a2, a3, a4, a5, a6, a7, a8, a9, a10, a11⟩ : ab) a1).rin /\ (cN1 (⟨a2, a3, a4, a5, a6, a7, a8, a9, a10, a11⟩ : ab) a1).rin <= 1152921504606846976) := by
  show 0 <= a4.ba + ff (⟨a2, a3, a4, a5, a6, a7, a8, a9, a10, a11⟩ : ab) a1 /\ a4.ba + ff (⟨a2, a3, a4, a5, a6, a7, a8, a9, a10, a11⟩ : ab) a1 <= a4.rin /\ a4.rin <= _; omega
 refine cz (Bool.and_eq_true_iff.2 ⟨decide_eq_true ⟨⟨⟨q5, by show (cP (⟨a2, a3, a4, a5, a6, a7, a8, a9, a10, a11⟩ : ab) a1).p <= _; omega⟩, ⟨q6, by show (cP (⟨a2, a3, a4, a5, a6, a7, a8, a9, a10, a11⟩ : ab) a1).l <= _; omega⟩, q7, by show (cP (⟨a2, a3, a4, a5, a6, a7, a8, a9, a10, a11⟩ : ab) a1).r <= _; omega⟩, c1r⟩, Bool.and_eq_true_iff.2 ⟨hpo, dU c2⟩⟩) ?_
 refine jw fun x15 e15 => ?_
 obtain rfl : x15 = (cX (⟨a2, a3, a4, a5, a6, a7, a8, a9, a10, a11⟩ : ab) a1).aq := e15; refine jw fun x16 e16 => ?_
 obtain rfl : x16 = (cX (⟨a2, a3, a4, a5, a6, a7, a8, a9, a10, a11⟩ : ab) a1).room := e16; refine cz (decide_eq_true ⟨hl.2.2.1, hl.2.2.2.1, hl.2.2.2.2.1⟩) ?_
 refine jw fun l17 e17 => ?_
 obtain rfl : l17 = eL (gN (⟨a2, a3, a4, a5, a6, a7, a8, a9, a10, a11⟩ : ab)) ((⟨a2, a3, a4, a5, a6, a7, a8, a9, a10, a11⟩ : ab)).n.mode := e17; refine cz (Bool.and_eq_true_iff.2 ⟨decide_eq_true (by omega), Bool.and_eq_true_iff.2 ⟨x1, x2⟩⟩) ?_
 refine jw fun l23 e23 => ?_
 obtain rfl : l23 = (cK (⟨a2, a3, a4, a5, a6, a7, a8, a9, a10, a11⟩ : ab) a1).2.2 := e23; refine cz d5 ?_
 refine jw fun x25 e25 => ?_
 obtain rfl : x25 = (cI (⟨a2, a3, a4, a5, a6, a7, a8, a9, a10, a11⟩ : ab) a1).1.out := e25; have eo : w64 ((cI (⟨a2, a3, a4, a5, a6, a7, a8, a9, a10, a11⟩ : ab) a1).1.out + m8 (⟨a2, a3, a4, a5, a6, a7, a8, a9, a10, a11⟩ : ab) a1) = (cN2 (⟨a2, a3, a4, a5, a6, a7, a8, a9, a10, a11⟩ : ab) a1).out := by
  refine Eq.trans (aa ?_ ?_) rfl
  · rw [d1]; show _ <= a4.out - bf kR (cK (⟨a2, a3, a4, a5, a6, a7, a8, a9, a10, a11⟩ : ab) a1).2.2 + m8 (⟨a2, a3, a4, a5, a6, a7, a8, a9, a10, a11⟩ : ab) a1; omega
  · rw [d1]; show a4.out - bf kR (cK (⟨a2, a3, a4, a5, a6, a7, a8, a9, a10, a11⟩ : ab) a1).2.2 + m8 (⟨a2, a3, a4, a5, a6, a7, a8, a9, a10, a11⟩ : ab) a1 <= _; omega
 rw [eo]; refine cz (Bool.and_eq_true_iff.2 ⟨decide_eq_true ⟨⟨⟨q5, by show (cP (⟨a2, a3, a4, a5, a6, a7, a8, a9, a10, a11⟩ : ab) a1).p <= _; omega⟩, ⟨q6, by show (cP (⟨a2, a3, a4, a5, a6, a7, a8, a9, a10, a11⟩ : ab) a1).l <= _; omega⟩, q7, by show (cP (⟨a2, a3, a4, a5, a6, a7, a8, a9, a10, a11⟩ : ab) a1).r <= _; omega⟩, ⟨by show 0 <= (cI (⟨a2, a3, a4, a5, a6, a7, a8, a9, a10, a11⟩ : ab) a1).1.aK; rw [d1]; show 0 <= a4.aK; omega, by show (cI (⟨a2, a3, a4, a5, a6, a7, a8, a9, a10, a11⟩ : ab) a1).1.aK <= _; rw [d1]; show a4.aK <= _; omega⟩, by show 0 <= (cI (⟨a2, a3, a4, a5, a6, a7, a8, a9, a10, a11⟩ : ab) a1).1.aU; rw [d1]; exact r0, by show (cI (⟨a2, a3, a4, a5, a6, a7, a8, a9, a10, a11⟩ : ab) a1).1.aU <= _; rw [d1]; show a4.aU <= _; omega⟩, Bool.and_eq_true_iff.2 ⟨hpo, dU d3⟩⟩) ?_
 refine jw fun g26 e26 => ?_
 obtain rfl : g26 = cN2 (⟨a2, a3, a4, a5, a6, a7, a8, a9, a10, a11⟩ : ab) a1 := e26; refine jw fun l27 e27 => ?_
 obtain rfl : l27 = Az (⟨a2, a3, a4, a5, a6, a7, a8, a9, a10, a11⟩ : ab) a1 := e27; refine cz (Bool.and_eq_true_iff.2 ⟨rfl, Bool.and_eq_true_iff.2 ⟨hpo, dU t1⟩⟩) ?_
 refine jw fun x31 e31 => ?_
 refine jw fun x32 e32 => ?_
 refine jw fun x33 e33 => ?_
 refine jw fun x34 e34 => ?_
 have g4 := (vn h he).2.2.2; have el : w64 ((cN2 (⟨a2, a3, a4, a5, a6, a7, a8, a9, a10, a11⟩ : ab) a1).aK - (cN2 (⟨a2, a3, a4, a5, a6, a7, a8, a9, a10, a11⟩ : ab) a1).aU) = (cN2 (⟨a2, a3, a4, a5, a6, a7, a8, a9, a10, a11⟩ : ab) a1).aK - (cN2 (⟨a2, a3, a4, a5, a6, a7, a8, a9, a10, a11⟩ : ab) a1).aU := aa (by omega) (by omega); rw [el, show ((bO (⟨a2, a5, a6, a3, a7, a8, a9⟩ : bg)).getD (0, 0)).1 = al 1 a5 from D.P2] at e34; have n2m : (cN2 (⟨a2, a3, a4, a5, a6, a7, a8, a9, a10, a11⟩ : ab) a1).mode = a4.mode /\ (cN2 (⟨a2, a3, a4, a5, a6, a7, a8, a9, a10, a11⟩ : ab) a1).aV = a4.aV /\ (cN2 (⟨a2, a3, a4, a5, a6, a7, a8, a9, a10, a11⟩ : ab) a1).period = a4.period := by rw [u2]; exact ⟨rfl, rfl, rfl⟩
 have ep : w64 ((cN2 (⟨a2, a3, a4, a5, a6, a7, a8, a9, a10, a11⟩ : ab) a1).period + 1) = a4.period + 1 := by rw [n2m.2.2]; exact aa (by omega) (by omega)
 have ex : dh (cN2 (⟨a2, a3, a4, a5, a6, a7, a8, a9, a10, a11⟩ : ab) a1).mode (cN2 (⟨a2, a3, a4, a5, a6, a7, a8, a9, a10, a11⟩ : ab) a1).aV a3.dN x31 x32 x33 x34 = CV (⟨a2, a3, a4, a5, a6, a7, a8, a9, a10, a11⟩ : ab) a1 := by rw [n2m.1, n2m.2.1, e31, e32, e33, e34]; rfl
 rw [ep, ex]; refine cz (decide_eq_true ?_) ?_
 · rw [n2m.2.1]; omega
 have c2r : (0 <= (cN2 (⟨a2, a3, a4, a5, a6, a7, a8, a9, a10, a11⟩ : ab) a1).ba /\ (cN2 (⟨a2, a3, a4, a5, a6, a7, a8, a9, a10, a11⟩ : ab) a1).ba <= (cN2 (⟨a2, a3, a4, a5, a6, a7, a8, a9, a10, a11⟩ : ab) a1).rin /\ (cN2 (⟨a2, a3, a4, a5, a6, a7, a8, a9, a10, a11⟩ : ab) a1).rin <= 1152921504606846976) := by
  rw [u2]; show 0 <= a4.ba + ff (⟨a2, a3, a4, a5, a6, a7, a8, a9, a10, a11⟩ : ab) a1 /\ a4.ba + ff (⟨a2, a3, a4, a5, a6, a7, a8, a9, a10, a11⟩ : ab) a1 <= a4.rin + bf kT (cK (⟨a2, a3, a4, a5, a6, a7, a8, a9, a10, a11⟩ : ab) a1).2.2 /\ a4.rin + bf kT (cK (⟨a2, a3, a4, a5, a6, a7, a8, a9, a10, a11⟩ : ab) a1).2.2 <= _; omega
 refine cz (decide_eq_true h0) ?_
 refine cz (Bool.and_eq_true_iff.2 ⟨decide_eq_true h0, Bool.and_eq_true_iff.2 ⟨decide_eq_true c2r, Bool.and_eq_true_iff.2 ⟨hpo, dU t1⟩⟩⟩) ?_
 rw [show w64 (a4.period + 1) = a4.period + 1 from aa (by omega) (by omega)]; rfl
theorem Hu : ER 13 (mkE N13.en N13.ex f13) := an ai T47.right (fun m => []) (t := t13) (by kernel_rfl) (fun m => az) (fun m a => by kernel_rfl) fun (a0, a1, a2, a3, a4, a5, a6, a7, a8, a9, a10, a11) hc => KR a0 a1 a2 a3 a4 a5 a6 a7 a8 a9 a10 a11 hc
def T13 : Tb Tryz.prog LQ TE := T47.add 13 _ Hu
end
end Go.Proofs.YtdbkoeefnodejaaGreat
namespace Go.Proofs.YtdbkoeefnodejaaGreat
noncomputable section
open Go Go.Proofs.YtdbkoeefnodejaaGreat.Ev
set_option maxRecDepth 20000
theorem sK (d : Dat) : (fN d).i 0 = d.i 0 /\ (fN d).i 1 = d.i 1 /\ (fN d).i 2 = 0 /\ (fN d).i 3 = 0 /\ (fN d).b 4 = false := ⟨rfl, rfl, rfl, rfl, rfl⟩
theorem vr : ∀ l : List Dat, al 1 (l.map fN) = al 1 l /\ al 2 (l.map fN) = 0
 | [] => ⟨rfl, rfl⟩
 | d :: l => by
  obtain ⟨h1, h2⟩ := vr l; simp only [List.map_cons, al, h1, h2, (sK d).2.1, (sK d).2.2.1]; exact ⟨trivial, rfl⟩
theorem vO : ∀ l : List Dat, al 5 (l.map pB) = 0 /\ al 6 (l.map pB) = 0
 | [] => ⟨rfl, rfl⟩
 | d :: l => by
  obtain ⟨h1, h2⟩ := vO l; simp only [List.map_cons, al, h1, h2, pB, mH, mI]
  decide
theorem F5 {d : bg} (h : (bO d).isSome = true) : lz (mW d) := by
 have D := eH h; obtain ⟨s1, s2⟩ := vr d.aR; obtain ⟨n5, n6⟩ := vO d.notes; refine ⟨h, ?_, fun x hx => ?_, ?_, fun x hx => ?_, ?_, ?_, Int.le_refl _, ?_, ?_, ?_, ?_, ?_, ?_, ?_⟩
 · simp only [mW, List.map_map]; rfl
 · obtain ⟨y, hy, rfl⟩ := List.mem_map.1 (show x ∈ d.notes.map pB from hx); have := D.note y hy; refine ⟨decide_eq_true ?_, ?_⟩
   · show (0 <= y.i 1 /\ y.i 1 <= 1099511627776 /\ (0 : Int) <= 0 /\ (0 : Int) = 0 /\ (0 : Int) <= 0 /\ (0 : Int) + 0 <= y.i 1 /\ (0 : Int) <= 0 /\ (0 : Int) <= 1125899906842624); omega
   · show (0 : Int) <= 1200000000000 * 0; omega
 · simp only [mW, List.map_map]; rfl
 · obtain ⟨y, hy, rfl⟩ := List.mem_map.1 (show x ∈ d.aR.map fN from hx); have := D.EL y hy; obtain ⟨_, e1, e2, e3, e4⟩ := sK y; unfold iK; rw [e1, e2, e3, e4]
   and_intros <;> first | omega | (intro h; cases h; done) | (intro _; rfl)
 · show al 1 (d.aR.map fN) + al 2 (d.aR.map fN) + 0 <= al 1 d.aR; omega
 · show (0 : Int) - 0 = al 2 (d.aR.map fN); omega
 · show (0 : Int) <= 0 /\ (0 : Int) <= 600; omega
 · show (0 : Int) <= 0 /\ (0 : Int) <= 2; omega
 · show (0 : Int) <= 0 /\ (0 : Int) <= 0; omega
 · show (0 : Int) <= 0 /\ (0 : Int) <= 1200000000000 * 0; omega
 · exact ⟨Int.le_refl _, D.advance.1⟩
 · show (0 : Int) <= 0 /\ 0 <= d.b.bH /\ d.b.bH <= 1200000000000 * (0 + 1)
   have := D.bH; omega
 · show al 6 (d.notes.map pB) <= al 2 (d.aR.map fN); omega
theorem Mb {d : bg} (h : (bO d).isSome = true) : dV d = mW d := by unfold dV; rw [if_pos h]
def cT : bg := ⟨⟨2024, 1, 0⟩, [.r [.n 1, .n 100]], [.r [.n 0, .n 100, .n 0]], ⟨0, 0, 0, 0, 0, 0, 0, 0, 0, 0⟩, [.r [.n 3, .n 0], .r [.n 7, .n 0]], [.r [.n 3, .n 0], .r [.n 7, .n 0]], [.r [.n 3, .n 0], .r [.n 7, .n 0]]⟩
theorem tz : (bO cT).isSome = true := by kernel_rfl
theorem zr : dV cT = mW cT := Mb tz
theorem KA : lz (mW cT) := F5 tz
def N12 : aA := ⟨T13.tab, 12, ⟨[], [], 0⟩, ⟨[.agg [.int .i64, .int .i64, .int .i64, .buf 0 2, .buf 1 3, .int .i64, .int .i64, .int .i64, .int .i64, .int .i64, .int .i64, .int .i64, .int .i64, .int .i64, .int .i64, .buf 2 2, .buf 3 2, .buf 4 2]], [.af (sI 2), .af (sI 3), .af (sI 2), .af (sI 2), .af (sI 2)], 0⟩, []⟩
def t12 (m : Nat) : Unit -> Option (List Un) := fun _ =>
 some (Uns.enc ((⟨2024, 1, 0⟩ : au) : au) ++ Uns.enc ((⟨0, 0, 0, 0, 0, 0, 0, 0, 0, 0⟩ : av) : av) ++ [.d ([.r [.n 1, .n 100]] : List Dat), .d ([.r [.n 0, .n 100, .n 0]] : List Dat), .d ([.r [.n 3, .n 0], .r [.n 7, .n 0]] : List Dat), .d ([.r [.n 3, .n 0], .r [.n 7, .n 0]] : List Dat), .d ([.r [.n 3, .n 0], .r [.n 7, .n 0]] : List Dat)])
def f12 : Unit -> Bool × List Un := fun _ => (true, Uns.enc ((cT.a) : au) ++ Uns.enc ((cT.b) : av) ++ [.d (cT.aR), .d (cT.notes), .d (cT.s0), .d (cT.s1), .d (cT.s2)])
theorem Mc : ∃ m, t12 m () = some (Uns.enc ((cT.a) : au) ++ Uns.enc ((cT.b) : av) ++ [.d (cT.aR), .d (cT.notes), .d (cT.s0), .d (cT.s1), .d (cT.s2)]) := by
 exact ⟨0, rfl⟩
theorem Hj : ER 12 (mkE N12.en N12.ex f12) := an ai T13.right (fun m => []) (t := t12) (by kernel_rfl) (fun m => az) (fun m a => by kernel_rfl) fun _ hc => Mc
def T12 : Tb Tryz.prog LQ TE := T13.add 12 _ Hj
def N3 : aA := ⟨T12.tab, 3, ⟨[], [], 0⟩, ⟨[.bool], [], 0⟩, []⟩
def t3 (m : Nat) : Unit -> Option (List Un) := fun _ =>
 chk (decide (cT.aR.length < 1000000 /\ cT.notes.length < 1000000 /\ cT.s0.length < 1000000 /\ cT.s1.length < 1000000 /\ cT.s2.length < 1000000)) <|
 lt (((if (bO cT).isSome then 0 else -1) : Int) : Int) fun x1 =>
 bif ((decide (x1 < 0)) && true) then
 some ([.b false])
 else
 bif ((if (bO cT).isSome then 0 else 2) : Int) != 0 then
 some ([.b false])
 else
 chk (decide (0 <= x1) && pk (dV cT)) <|
 lt (((aY (dV cT) ([.r [.n 1, .n 40, .n 0, .n 0, .n 0, .n 0, .n (bI false)]] : List Dat)).ra) : ig) fun g4 =>
 lt (((aY (dV cT) ([.r [.n 1, .n 40, .n 0, .n 0, .n 0, .n 0, .n (bI false)]] : List Dat)).rb) : fJ) fun g5 =>
 lt (((aY (dV cT) ([.r [.n 1, .n 40, .n 0, .n 0, .n 0, .n 0, .n (bI false)]] : List Dat)).H5) : List Dat) fun l18 =>
 lt (((aY (dV cT) ([.r [.n 1, .n 40, .n 0, .n 0, .n 0, .n 0, .n (bI false)]] : List Dat)).notes) : List Dat) fun l19 =>
 bif ((aY (dV cT) ([.r [.n 1, .n 40, .n 0, .n 0, .n 0, .n 0, .n (bI false)]] : List Dat)).e) == 0 then
 chk (decide (l18.length < 1099511627776)) <|
 bif (gu 4 l18 ([.r [.n 1, .n 7, .n 0, .n 40]] : List Dat)) then
 bif g5.dW == 0 then
 chk (decide (l19.length < 1099511627776)) <|
 bif (gu 3 l19 ([.r [.n 60, .n 0, .n 0]] : List Dat)) then
 bif g5.bd == 60 then
 bif (w64 ((w64 ((w64 ((w64 (g4.aq + g4.lh)) + g4.aU)) + g4.draw)) + g4.advance)) == 40 then
 chk (decide (l18.length <= 1000000) && (l18.all sg && decide (al 3 l18 <= 1152921504606846976))) <|
 bif (w64 ((al 3 l18) + g5.dW)) == 40 then
 bif g4.period == 1 then
 some ([.b (g4.aq == 40)])
 else
 some ([.b false])
 else
 some ([.b false])
 else
 some ([.b false])
 else
 some ([.b false])
 else
 some ([.b false])
 else
 some ([.b false])
 else
 some ([.b false])
 else
 some ([.b false])
def f3 : Unit -> Bool × List Un := fun _ => (true, [.b (true)])
theorem ON : ∃ m, t3 m () = some ([.b (true)]) := by
 refine ⟨0, ?_⟩; unfold t3; dsimp only [lt]; refine cz (by kernel_rfl) ?_
 refine As (by kernel_rfl) (As (by kernel_rfl) (cz (Bool.and_eq_true_iff.2 ⟨by kernel_rfl, mZ.2 (zr ▸ KA)⟩) ?_))
 kernel_rfl
theorem NC : ER 3 (mkE N3.en N3.ex f3) := an ai T12.right (fun m => []) (t := t3) (by kernel_rfl) (fun m => az) (fun m a => by kernel_rfl) fun _ hc => ON
def T3 : Tb Tryz.prog LQ TE := T12.add 3 _ NC
end
end Go.Proofs.YtdbkoeefnodejaaGreat
namespace Go.Proofs.YtdbkoeefnodejaaGreat
noncomputable section
open Go Go.Proofs.YtdbkoeefnodejaaGreat.Ev
set_option maxRecDepth 20000
def oj : List Par := []
def N3w : aA := ⟨T3.tab, 3, ⟨List.map Par.vp oj, [], 0⟩, ⟨[.bool], [], 0⟩, []⟩
def t3w (m : Nat) : Unit -> Option (List Un) := fun _ =>
 chk (decide (cT.aR.length < 1000000 /\ cT.notes.length < 1000000 /\ cT.s0.length < 1000000 /\ cT.s1.length < 1000000 /\ cT.s2.length < 1000000)) <|
 lt (((if (bO cT).isSome then 0 else -1) : Int) : Int) fun x1 =>
 bif ((decide (x1 < 0)) && true) then
 some ([.b false])
 else
 bif ((if (bO cT).isSome then 0 else 2) : Int) != 0 then
 some ([.b false])
 else
 chk (decide (0 <= x1) && pk (dV cT)) <|
 lt (((aY (dV cT) ([.r [.n 1, .n 40, .n 0, .n 0, .n 0, .n 0, .n (bI false)]] : List Dat)).ra) : ig) fun g4 =>
 lt (((aY (dV cT) ([.r [.n 1, .n 40, .n 0, .n 0, .n 0, .n 0, .n (bI false)]] : List Dat)).rb) : fJ) fun g5 =>
 lt (((aY (dV cT) ([.r [.n 1, .n 40, .n 0, .n 0, .n 0, .n 0, .n (bI false)]] : List Dat)).H5) : List Dat) fun l18 =>
 lt (((aY (dV cT) ([.r [.n 1, .n 40, .n 0, .n 0, .n 0, .n 0, .n (bI false)]] : List Dat)).notes) : List Dat) fun l19 =>
 bif ((aY (dV cT) ([.r [.n 1, .n 40, .n 0, .n 0, .n 0, .n 0, .n (bI false)]] : List Dat)).e) == 0 then
 chk (decide (l18.length < 1099511627776)) <|
 bif (gu 4 l18 ([.r [.n 1, .n 7, .n 0, .n 40]] : List Dat)) then
 bif g5.dW == 0 then
 chk (decide (l19.length < 1099511627776)) <|
 bif (gu 3 l19 ([.r [.n 60, .n 0, .n 0]] : List Dat)) then
 bif g5.bd == 60 then
 bif (w64 ((w64 ((w64 ((w64 (g4.aq + g4.lh)) + g4.aU)) + g4.draw)) + g4.advance)) == 40 then
 chk (decide (l18.length <= 1000000) && (l18.all sg && decide (al 3 l18 <= 1152921504606846976))) <|
 bif (w64 ((al 3 l18) + g5.dW)) == 40 then
 bif g4.period == 1 then
 some ([.b (g4.aq == 40)])
 else
 some ([.b false])
 else
 some ([.b false])
 else
 some ([.b false])
 else
 some ([.b false])
 else
 some ([.b false])
 else
 some ([.b false])
 else
 some ([.b false])
 else
 some ([.b false])
theorem L9  : ∃ m, t3w m () = some [.b true] := by
 refine ⟨0, ?_⟩; unfold t3w; dsimp only [lt]; refine cz (by kernel_rfl) ?_
 refine As (by kernel_rfl) (As (by kernel_rfl) (cz (Bool.and_eq_true_iff.2 ⟨by kernel_rfl, mZ.2 (zr ▸ KA)⟩) ?_))
 kernel_rfl
set_option maxRecDepth 20000 in
theorem qA {HH : Type} {enc : TypeId × Value -> HH} {w : World} {base : Nat} {vs : List Value} {ds : List (DataW HH)} {ps : List MemPlace} (hsh : w.ShapedOpen Tryz.prog)
 (hd : DataW.TrodAll enc Tryz.prog w 0 (fun _ => true) true Tryz.f3.params.toList vs ds ps) {us' : List TypeId} {gs : List (DataW HH)} (hz : (DataW.weightsEach Tryz.prog (Tryz.f3.params.toList ++ us') (ds ++ gs)).all (· <= reachBytes) = true) (hval : ∀ (j : Nat) t v, Tryz.f3.params.toList[j]? = some t -> vs[j]? = some v -> Value.okWide Tryz.prog w .any base t v) :
 Calls Tryz.prog 3 vs.toArray w fun e w' => e = .returned (.bool true) /\ RowKit.Below w.heap.size w w' :=
 FV Seat.mix Seat.names FA (pars := oj) (by kernel_rfl) (fun us h => by
  change WfU [] us at h; obtain rfl := FK h; obtain ⟨m, hm⟩ := L9; have G : N3w.Bl Tryz.prog LQ KN (Uns.enc ()) ([]) = t3w m () := by kernel_rfl
  exact N3w.Kz ai T3.right (W := []) (by kernel_rfl) (by kernel_rfl) (by kernel_rfl) az (G.trans hm)) hsh hd hz hval
end
end Go.Proofs.YtdbkoeefnodejaaGreat
