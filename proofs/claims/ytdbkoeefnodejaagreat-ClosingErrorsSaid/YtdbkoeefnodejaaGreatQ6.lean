/- Part of a proof: Loss, Closing, ClosePlain, Close, Runs, Lines, Lost, CallPlain, Call, Bound, WClosingErrors. Conditions: none. -/
import Derived.Test.YtdbkoeefnodejaaGreatQ5
set_option linter.unusedVariables false
set_option linter.unusedSimpArgs false
set_option linter.unnecessarySimpa false
set_option linter.unusedSectionVars false
namespace Go.Proofs.YtdbkoeefnodejaaGreat
noncomputable section
open Go Go.Proofs.YtdbkoeefnodejaaGreat.Ev
set_option maxRecDepth 20000
def cN (u p l r : Int) : Int := min (min (max (u - p) 0) (max (l - r) 0)) (max u 0)
def Qu : aD := ⟨T45.tab, 108, ⟨[.int .i64, .int .i64, .int .i64, .int .i64], [], 0⟩, ⟨[.int .i64], [], 0⟩, []⟩
def t108 (m : Nat) : Int × Int × Int × Int -> Option (List Un) := fun (a0, a1, a2, a3) =>
 lt ((if (w64 (a0 - a1)) < 0 then 0 else (w64 (a0 - a1))) : Int) fun x1 =>
 lt ((if (w64 (a2 - a3)) < 0 then 0 else (w64 (a2 - a3))) : Int) fun x2 =>
 lt ((if a0 < 0 then 0 else a0) : Int) fun x3 =>
 some ([.i (if x3 < (if x2 < x1 then x2 else x1) then x3 else (if x2 < x1 then x2 else x1))])
def f108 : Int × Int × Int × Int -> Bool × List Un := fun (a0, a1, a2, a3) => (decide ((-1152921504606846976 <= a0 /\ a0 <= 1152921504606846976) /\ (-1152921504606846976 <= a1 /\ a1 <= 1152921504606846976) /\ (-1152921504606846976 <= a2 /\ a2 <= 1152921504606846976) /\ (-1152921504606846976 <= a3 /\ a3 <= 1152921504606846976)), [.i (cN a0 a1 a2 a3)])
theorem KA (a0 : Int) (a1 : Int) (a2 : Int) (a3 : Int) (hc : (decide ((-1152921504606846976 <= a0 /\ a0 <= 1152921504606846976) /\ (-1152921504606846976 <= a1 /\ a1 <= 1152921504606846976) /\ (-1152921504606846976 <= a2 /\ a2 <= 1152921504606846976) /\ (-1152921504606846976 <= a3 /\ a3 <= 1152921504606846976))) = true) : ∃ m, t108 m (a0, a1, a2, a3) = some ([.i (cN a0 a1 a2 a3)]) := by
 have h := zak hc; refine ⟨0, ?_⟩; unfold t108 cN; simp only [lt_eq]; rw [aa (n := a0 - a1) (by omega) (by omega), aa (n := a2 - a3) (by omega) (by omega)]
 congr 3
 omega
theorem Is : ER 108 (mkE Qu.en Qu.ex f108) := aq ak T45.right (fun m => []) (t := t108) (by kernel_rfl) (fun m => aA) (fun m a => by kernel_rfl) fun (a0, a1, a2, a3) hc => KA a0 a1 a2 a3 hc
def Mq : Tb Tryz.prog LQ TE := T45.add 108 _ Is
def cg (n : Int) : Nat -> List Int
 | 0 => []
 | k + 1 => n :: cg (n + 1) k
theorem gg : ∀ (k : Nat) (n : Int), (cg n k).length = k
 | 0, _ => rfl
 | k + 1, n => by simp [cg, gg k]
theorem xR : ∀ (k j : Nat) (n : Int), j < k -> (cg n k).getD j 0 = n + j
 | 0, j, n, h => by omega
 | k + 1, 0, n, h => by simp [cg]
 | k + 1, j + 1, n, h => by
  simp only [cg, zaw, xR k j (n + 1) (by omega)]; omega
theorem zQ {c : List Dat} {i : Nat} (h : i < c.length) : (cg 0 c.length).getD i 0 = (i : Int) := by rw [xR _ _ _ h]; omega
theorem bV {c : List Dat} {i : Nat} (h : i < c.length) (hg : ∀ d ∈ c, aH d = true) : aH (ae c i) = true := hg _ (mD h)
theorem Hk {d : Dat} (h : aH d = true) : w64 (w64 (d.i 1 - w64 (d.i 3 - d.i 4)) - d.i 6) = aK d := by
 have := bW h; rw [aa (n := d.i 3 - d.i 4) (by omega) (by omega), aa (n := d.i 1 - _) (by omega) (by omega), aa (by omega) (by omega)]; rfl
theorem yl (j : Nat) : ∀ (c : List Dat) (i : Nat), i < c.length -> af j (c.drop i) = (ae c i).i j + af j (c.drop (i + 1))
 | [], i, h => by simp at h
 | d :: c, 0, _ => by simp [af, ae]
 | d :: c, i + 1, h => by
  have := yl j c i (by simpa using h); simpa [ae] using this
def MO : aD := ⟨Mq.tab, 144, ⟨[.buf 0 1], [.dG 1 7 0, .ag (sI 7)], 2⟩, ⟨[.int .i64], [.dG 1 7 0, .ag (sI 7)], 2⟩, []⟩
abbrev yT : Type := Int × Int × Int × List Int × List Dat
def sO (m : Nat) (k : yT -> Option (List Un)) : yT -> Option (List Un) := fun (a0, a1, a2, a3, a4) =>
 bif decide (a2 < a1) then
 chk (inb a2 a3.length) <|
 chk (decide (a2.toNat < a3.length)) <|
 bif (!((decide ((a3.getD a2.toNat 0) < 0)) && true)) then
 chk (decide (0 <= (a3.getD a2.toNat 0))) <|
 chk (decide ((a3.getD a2.toNat 0).toNat < a4.length)) <|
 k ((w64 (a0 + ((ae a4 ((a3.getD a2.toNat 0).toNat)).i 6))), a1, (w64 (a2 + 1)), a3, a4)
 else
 k (a0, a1, (w64 (a2 + 1)), a3, a4)
 else
 some ([.i a0, .l a3, .d a4])
def qA (m : Nat) : Nat -> yT -> Option (List Un) := bo (sO m)
theorem rV (m : Nat) (n : Nat) : qA m (n + 1) = sO m (qA m n) := rfl
def CI (F : yT -> Option (List Un)) : aU := ⟨[.lp [0, 1, 0, 1, 1], .blk 0, .code [1, 1, 1]], ⟨frm 22 [(3, .int .i64), (6, .buf 0 1), (7, .int .i64), (8, .int .i64)], [.dG 1 7 0, .ag (sI 7)], 2⟩, onU F⟩
theorem N4 (m : Nat) : ∀ n, HO MO (CI (qA m n)) := ay ak Mq.right (fun k => [CI k]) (fun k h => (aJ h aA)) fun k a => by kernel_rfl
def t144 (m : Nat) : List Int × List Dat -> Option (List Un) := fun (a0, a1) =>
 qA m m (0, (a0.length : Int), 0, a0, a1)
theorem N8 (m : Nat) (c : List Dat) (hl : c.length <= 1000) (hg : ∀ d ∈ c, aH d = true) : ∀ (k i n : Nat) (s : Int), i + k = c.length -> k < n -> 0 <= s -> s <= 1099511627776 * i ->
 qA m n (s, (c.length : Int), (i : Int), cg 0 c.length, c) = some [.i (s + af 6 (c.drop i)), .l (cg 0 c.length), .d c] := by
 intro k
 induction k with
 | zero =>
  intro i n s hi hn s0 s1; obtain ⟨n, rfl⟩ := al n (by omega); rw [rV]; unfold sO; dsimp only; rw [aB (by omega), List.drop_eq_nil_of_le (by omega)]; simp [af]
 | succ k ih =>
  intro i n s hi hn s0 s1; obtain ⟨n, rfl⟩ := al n (by omega); have hk := zQ (c := c) (i := i) (by omega); have hL := gg c.length 0; have hx := bW (bV (i := i) (by omega) hg); have := ih (i + 1) n (s + (ae c i).i 6) (by omega) (by omega) (by omega) (by omega); rw [yl 6 c i (by omega), <- Int.add_assoc]; rw [rV]; unfold sO; dsimp only; simp only [zaC, hk, hL, za6, zaW]; simp (disch := omega) only [TRa, TRi, aa, LNl, LNi, zaa]; simp only [LNl, LNi, zaa] at this ⊢; exact this
def f144 : List Int × List Dat -> Bool × List Un := fun (a0, a1) => ((decide (a0 = cg 0 a1.length)) && (decide (a1.length <= 1000) && a1.all aH), [.i (af 6 a1), .l (a0), .d (a1)])
theorem Ll (a0 : List Int) (a1 : List Dat) (hc : ((decide (a0 = cg 0 a1.length)) && (decide (a1.length <= 1000) && a1.all aH)) = true) : ∃ m, t144 m (a0, a1) = some ([.i (af 6 a1), .l (a0), .d (a1)]) := by
 simp only [zab, zac, zam] at hc; obtain ⟨rfl, h1, h2⟩ := hc; refine ⟨a1.length + 1, ?_⟩; unfold t144; dsimp only; rw [gg]; exact (N8 _ a1 h1 h2 a1.length 0 _ 0 (by omega) (by omega) (by omega) (by simp)).trans (by simp only [za0, zbS])
theorem I5 : ER 144 (mkE MO.en MO.ex f144) := aq ak Mq.right (fun m => [CI (qA m m)]) (t := t144) (by kernel_rfl) (fun m => (aJ (N4 m m) aA)) (fun m a => by kernel_rfl) fun (a0, a1) hc => Ll a0 a1 hc
def Jk : Tb Tryz.prog LQ TE := Mq.add 144 _ I5
def fN (c : List Dat) : Nat -> Nat -> Int -> Int
 | 0, _, o => o
 | k + 1, i, o => fN c k (i + 1) (if 0 < aK (ae c i) /\ (o < 0 \/ (ae c o.toNat).i 0 <= (ae c i).i 0) then (i : Int) else o)
theorem z9 (c : List Dat) : ∀ (k i : Nat) (o : Int), i + k = c.length -> -1 <= o -> o < c.length -> -1 <= fN c k i o /\ fN c k i o < c.length
 | 0, _, o, _, h1, h2 => ⟨h1, h2⟩
 | k + 1, i, o, h, h1, h2 => by
  unfold fN
  split
  . exact z9 c k (i + 1) _ (by omega) (by omega) (by omega)
  . exact z9 c k (i + 1) _ (by omega) (by omega) (by omega)
def Oz : aD := ⟨Jk.tab, 145, ⟨[.buf 0 1], [.dG 1 7 0, .ag (sI 7)], 2⟩, ⟨[.np 1 7 0], [.dG 1 7 0, .ag (sI 7)], 2⟩, []⟩
abbrev Ae : Type := Int × Int × Int × List Int × List Dat
def tc (m : Nat) (k : Ae -> Option (List Un)) : Ae -> Option (List Un) := fun (a0, a1, a2, a3, a4) =>
 bif decide (a2 < a1) then
 chk (inb a2 a3.length) <|
 chk (decide (a2.toNat < a3.length)) <|
 bif (!((decide ((a3.getD a2.toNat 0) < 0)) && true)) then
 chk (decide (0 <= (a3.getD a2.toNat 0))) <|
 chk (decide ((a3.getD a2.toNat 0).toNat < a4.length)) <|
 lt (ae a4 ((a3.getD a2.toNat 0).toNat) : Dat) fun d2 =>
 bif decide ((w64 (w64 ((d2.i 1) - w64 ((d2.i 3) - (d2.i 4))) - (d2.i 6))) > 0) then
 bif ((decide (a0 < 0)) && true) then
 k ((a3.getD a2.toNat 0), a1, (w64 (a2 + 1)), a3, a4)
 else
 chk (decide (0 <= (a3.getD a2.toNat 0))) <|
 chk (decide ((a3.getD a2.toNat 0).toNat < a4.length)) <|
 chk (decide (0 <= a0)) <|
 chk (decide (a0.toNat < a4.length)) <|
 bif (decide (((ae a4 ((a3.getD a2.toNat 0).toNat)).i 0) >= ((ae a4 a0.toNat).i 0))) then
 k ((a3.getD a2.toNat 0), a1, (w64 (a2 + 1)), a3, a4)
 else
 k (a0, a1, (w64 (a2 + 1)), a3, a4)
 else
 k (a0, a1, (w64 (a2 + 1)), a3, a4)
 else
 k (a0, a1, (w64 (a2 + 1)), a3, a4)
 else
 some ([.i a0, .l a3, .d a4])
def qw (m : Nat) : Nat -> Ae -> Option (List Un) := bo (tc m)
theorem sg (m : Nat) (n : Nat) : qw m (n + 1) = tc m (qw m n) := rfl
def Dg (F : Ae -> Option (List Un)) : aU := ⟨[.lp [0, 1, 0, 1, 1], .blk 0, .code [1, 1, 1]], ⟨frm 41 [(3, .np 1 7 0), (6, .buf 0 1), (7, .int .i64), (8, .int .i64)], [.dG 1 7 0, .ag (sI 7)], 2⟩, onU F⟩
theorem OS (m : Nat) : ∀ n, HO Oz (Dg (qw m n)) := ay ak Jk.right (fun k => [Dg k]) (fun k h => (aJ h aA)) fun k a => by kernel_rfl
def t145 (m : Nat) : List Int × List Dat -> Option (List Un) := fun (a0, a1) =>
 qw m m ((-1), (a0.length : Int), 0, a0, a1)
theorem QI (m : Nat) (c : List Dat) (hl : c.length <= 1000) (hg : ∀ d ∈ c, aH d = true) : ∀ (k i n : Nat) (o : Int), i + k = c.length -> k < n -> -1 <= o -> o < c.length ->
 qw m n (o, (c.length : Int), (i : Int), cg 0 c.length, c) = some [.i (fN c k i o), .l (cg 0 c.length), .d c] := by
 intro k
 induction k with
 | zero =>
  intro i n o hi hn o0 o1; obtain ⟨n, rfl⟩ := al n (by omega); rw [sg]; unfold tc; dsimp only; rw [aB (by omega)]; rfl
 | succ k ih =>
  intro i n o hi hn o0 o1; obtain ⟨n, rfl⟩ := al n (by omega); have hk := zQ (c := c) (i := i) (by omega); have hL := gg c.length 0; have hx := bW (bV (i := i) (by omega) hg); have ia := ih (i + 1) n (i : Int) (by omega) (by omega) (by omega) (by omega); have ib := ih (i + 1) n o (by omega) (by omega) (by omega) (by omega); rw [sg]; unfold tc; dsimp only; unfold fN; have e := Hk (bV (c := c) (i := i) (by omega) hg); simp only [lt_eq, zaC, hk, hL, za6, zaW, e, ge_iff_le, gt_iff_lt]
  by_cases h1 : 0 < aK (ae c i)
  . by_cases h2 : o < 0
    . have hc : 0 < aK (ae c i) /\ (o < 0 \/ (ae c o.toNat).i 0 <= (ae c i).i 0) := ⟨h1, .inl h2⟩
      rw [if_pos hc]; simp (disch := omega) only [TRa, TRi, aa, LNl, LNi, zaa]; simp only [zas, zaa] at ia ib ⊢; exact ia
    . by_cases h3 : (ae c o.toNat).i 0 <= (ae c i).i 0
      . have hc : 0 < aK (ae c i) /\ (o < 0 \/ (ae c o.toNat).i 0 <= (ae c i).i 0) := ⟨h1, .inr h3⟩
        rw [if_pos hc]; simp (disch := omega) only [TRa, TRi, aa, LNl, LNi, zaa]; simp only [zas, zaa] at ia ib ⊢; exact ia
      . have hc : ¬ (0 < aK (ae c i) /\ (o < 0 \/ (ae c o.toNat).i 0 <= (ae c i).i 0)) := fun h => h.2.elim h2 h3
        rw [if_neg hc]; simp (disch := omega) only [TRa, TRi, aa, LNl, LNi, zaa]; simp only [zas, zaa] at ia ib ⊢; exact ib
  . have hc : ¬ (0 < aK (ae c i) /\ (o < 0 \/ (ae c o.toNat).i 0 <= (ae c i).i 0)) := fun h => h1 h.1
    rw [if_neg hc]; simp (disch := omega) only [TRa, TRi, aa, LNl, LNi, zaa]; simp only [zas, zaa] at ia ib ⊢; exact ib
def f145 : List Int × List Dat -> Bool × List Un := fun (a0, a1) => ((decide (a0 = cg 0 a1.length)) && (decide (a1.length <= 1000) && a1.all aH), [.i (fN a1 a1.length 0 (-1)), .l (a0), .d (a1)])
theorem Jo (a0 : List Int) (a1 : List Dat) (hc : ((decide (a0 = cg 0 a1.length)) && (decide (a1.length <= 1000) && a1.all aH)) = true) : ∃ m, t145 m (a0, a1) = some ([.i (fN a1 a1.length 0 (-1)), .l (a0), .d (a1)]) := by
 simp only [zab, zac, zam] at hc; obtain ⟨rfl, h1, h2⟩ := hc; refine ⟨a1.length + 1, ?_⟩; unfold t145; dsimp only; rw [gg]; exact QI _ a1 h1 h2 a1.length 0 _ (-1) (by omega) (by omega) (by omega) (by omega)
theorem He : ER 145 (mkE Oz.en Oz.ex f145) := aq ak Jk.right (fun m => [Dg (qw m m)]) (t := t145) (by kernel_rfl) (fun m => (aJ (OS m m) aA)) (fun m a => by kernel_rfl) fun (a0, a1) hc => Jo a0 a1 hc
def LV : Tb Tryz.prog LQ TE := Jk.add 145 _ He
def fG (c : List Dat) : Nat -> Nat -> Int -> Int
 | 0, _, o => o
 | k + 1, i, o => fG c k (i + 1) (if 0 < (ae c i).i 6 /\ (o < 0 \/ (ae c i).i 0 < (ae c o.toNat).i 0) then (i : Int) else o)
theorem Az (c : List Dat) : ∀ (k i : Nat) (o : Int), i + k = c.length -> -1 <= o -> o < c.length -> -1 <= fG c k i o /\ fG c k i o < c.length
 | 0, _, o, _, h1, h2 => ⟨h1, h2⟩
 | k + 1, i, o, h, h1, h2 => by
  unfold fG
  split
  . exact Az c k (i + 1) _ (by omega) (by omega) (by omega)
  . exact Az c k (i + 1) _ (by omega) (by omega) (by omega)
def Px : aD := ⟨LV.tab, 147, ⟨[.buf 0 1], [.dG 1 7 0, .ag (sI 7)], 2⟩, ⟨[.np 1 7 0], [.dG 1 7 0, .ag (sI 7)], 2⟩, []⟩
abbrev zm : Type := Int × Int × Int × List Int × List Dat
def tD (m : Nat) (k : zm -> Option (List Un)) : zm -> Option (List Un) := fun (a0, a1, a2, a3, a4) =>
 bif decide (a2 < a1) then
 chk (inb a2 a3.length) <|
 chk (decide (a2.toNat < a3.length)) <|
 bif (!((decide ((a3.getD a2.toNat 0) < 0)) && true)) then
 chk (decide (0 <= (a3.getD a2.toNat 0))) <|
 chk (decide ((a3.getD a2.toNat 0).toNat < a4.length)) <|
 bif decide (((ae a4 ((a3.getD a2.toNat 0).toNat)).i 6) > 0) then
 bif ((decide (a0 < 0)) && true) then
 k ((a3.getD a2.toNat 0), a1, (w64 (a2 + 1)), a3, a4)
 else
 chk (decide (0 <= (a3.getD a2.toNat 0))) <|
 chk (decide ((a3.getD a2.toNat 0).toNat < a4.length)) <|
 chk (decide (0 <= a0)) <|
 chk (decide (a0.toNat < a4.length)) <|
 bif (decide (((ae a4 ((a3.getD a2.toNat 0).toNat)).i 0) < ((ae a4 a0.toNat).i 0))) then
 k ((a3.getD a2.toNat 0), a1, (w64 (a2 + 1)), a3, a4)
 else
 k (a0, a1, (w64 (a2 + 1)), a3, a4)
 else
 k (a0, a1, (w64 (a2 + 1)), a3, a4)
 else
 k (a0, a1, (w64 (a2 + 1)), a3, a4)
 else
 some ([.i a0, .l a3, .d a4])
def rh (m : Nat) : Nat -> zm -> Option (List Un) := bo (tD m)
theorem rz (m : Nat) (n : Nat) : rh m (n + 1) = tD m (rh m n) := rfl
def CJ (F : zm -> Option (List Un)) : aU := ⟨[.lp [0, 1, 0, 1, 1], .blk 0, .code [1, 1, 1]], ⟨frm 41 [(3, .np 1 7 0), (6, .buf 0 1), (7, .int .i64), (8, .int .i64)], [.dG 1 7 0, .ag (sI 7)], 2⟩, onU F⟩
theorem MM (m : Nat) : ∀ n, HO Px (CJ (rh m n)) := ay ak LV.right (fun k => [CJ k]) (fun k h => (aJ h aA)) fun k a => by kernel_rfl
def t147 (m : Nat) : List Int × List Dat -> Option (List Un) := fun (a0, a1) =>
 rh m m ((-1), (a0.length : Int), 0, a0, a1)
theorem QW (m : Nat) (c : List Dat) (hl : c.length <= 1000) (hg : ∀ d ∈ c, aH d = true) : ∀ (k i n : Nat) (o : Int), i + k = c.length -> k < n -> -1 <= o -> o < c.length ->
 rh m n (o, (c.length : Int), (i : Int), cg 0 c.length, c) = some [.i (fG c k i o), .l (cg 0 c.length), .d c] := by
 intro k
 induction k with
 | zero =>
  intro i n o hi hn o0 o1; obtain ⟨n, rfl⟩ := al n (by omega); rw [rz]; unfold tD; dsimp only; rw [aB (by omega)]; rfl
 | succ k ih =>
  intro i n o hi hn o0 o1; obtain ⟨n, rfl⟩ := al n (by omega); have hk := zQ (c := c) (i := i) (by omega); have hL := gg c.length 0; have hx := bW (bV (i := i) (by omega) hg); have ia := ih (i + 1) n (i : Int) (by omega) (by omega) (by omega) (by omega); have ib := ih (i + 1) n o (by omega) (by omega) (by omega) (by omega); rw [rz]; unfold tD; dsimp only; unfold fG; have e := Hk (bV (c := c) (i := i) (by omega) hg); simp only [lt_eq, zaC, hk, hL, za6, zaW, e, ge_iff_le, gt_iff_lt]
  by_cases h1 : 0 < (ae c i).i 6
  . by_cases h2 : o < 0
    . have hc : 0 < (ae c i).i 6 /\ (o < 0 \/ (ae c i).i 0 < (ae c o.toNat).i 0) := ⟨h1, .inl h2⟩
      rw [if_pos hc]; simp (disch := omega) only [TRa, TRi, aa, LNl, LNi, zaa]; simp only [zas, zaa] at ia ib ⊢; exact ia
    . by_cases h3 : (ae c i).i 0 < (ae c o.toNat).i 0
      . have hc : 0 < (ae c i).i 6 /\ (o < 0 \/ (ae c i).i 0 < (ae c o.toNat).i 0) := ⟨h1, .inr h3⟩
        rw [if_pos hc]; simp (disch := omega) only [TRa, TRi, aa, LNl, LNi, zaa]; simp only [zas, zaa] at ia ib ⊢; exact ia
      . have hc : ¬ (0 < (ae c i).i 6 /\ (o < 0 \/ (ae c i).i 0 < (ae c o.toNat).i 0)) := fun h => h.2.elim h2 h3
        rw [if_neg hc]; simp (disch := omega) only [TRa, TRi, aa, LNl, LNi, zaa]; simp only [zas, zaa] at ia ib ⊢; exact ib
  . have hc : ¬ (0 < (ae c i).i 6 /\ (o < 0 \/ (ae c i).i 0 < (ae c o.toNat).i 0)) := fun h => h1 h.1
    rw [if_neg hc]; simp (disch := omega) only [TRa, TRi, aa, LNl, LNi, zaa]; simp only [zas, zaa] at ia ib ⊢; exact ib
def f147 : List Int × List Dat -> Bool × List Un := fun (a0, a1) => ((decide (a0 = cg 0 a1.length)) && (decide (a1.length <= 1000) && a1.all aH), [.i (fG a1 a1.length 0 (-1)), .l (a0), .d (a1)])
theorem LY (a0 : List Int) (a1 : List Dat) (hc : ((decide (a0 = cg 0 a1.length)) && (decide (a1.length <= 1000) && a1.all aH)) = true) : ∃ m, t147 m (a0, a1) = some ([.i (fG a1 a1.length 0 (-1)), .l (a0), .d (a1)]) := by
 simp only [zab, zac, zam] at hc; obtain ⟨rfl, h1, h2⟩ := hc; refine ⟨a1.length + 1, ?_⟩; unfold t147; dsimp only; rw [gg]; exact QW _ a1 h1 h2 a1.length 0 _ (-1) (by omega) (by omega) (by omega) (by omega)
theorem GM : ER 147 (mkE Px.en Px.ex f147) := aq ak LV.right (fun m => [CJ (rh m m)]) (t := t147) (by kernel_rfl) (fun m => (aJ (MM m m) aA)) (fun m a => by kernel_rfl) fun (a0, a1) hc => LY a0 a1 hc
def Gy : Tb Tryz.prog LQ TE := LV.add 147 _ GM
theorem nm (i : Nat) (y : Dat) : ∀ (l : List Dat) (j : Nat), j < l.length -> af i (l.set j y) = af i l - (ae l j).i i + y.i i
 | [], j, h => by simp at h
 | d :: l, 0, h => by simp only [List.set_cons_zero, af, ae, zaI]; omega
 | d :: l, j + 1, h => by
  have := nm i y l j (by simpa using h); simp only [ae] at this; simp only [zbP, af, ae, zaw, this]; omega
theorem uP {l : List Dat} {j : Nat} {y : Dat} (h : j < l.length) : ae (l.set j y) j = y := by
 unfold ae; rw [zah, List.getElem?_set_self h]; rfl
theorem mF {l : List Dat} {j i : Nat} {y : Dat} (h : i ≠ j) : ae (l.set j y) i = ae l i := by
 unfold ae; rw [zah, zah, List.getElem?_set_ne (by omega)]
def yG (p : Dat -> Prop) [DecidablePred p] : List Dat -> Nat
 | [] => 0
 | d :: l => (if p d then 1 else 0) + yG p l
theorem y8 (p : Dat -> Prop) [DecidablePred p] : ∀ l : List Dat, yG p l <= l.length
 | [] => zao _
 | d :: l => by have := y8 p l; simp only [yG, zaf]; split <;> omega
theorem wb (p : Dat -> Prop) [DecidablePred p] (y : Dat) (hy : ¬ p y) : ∀ (l : List Dat) (j : Nat), j < l.length -> p (ae l j) -> yG p (l.set j y) + 1 = yG p l
 | [], j, h, _ => by simp at h
 | d :: l, 0, h, hp => by
  have hp : p d := hp; simp only [List.set_cons_zero, yG, if_neg hy, if_pos hp]; omega
 | d :: l, j + 1, h, hp => by
  have := wb p y hy l j (by simpa using h) hp; simp only [zbP, yG]; omega
def du (c : List Dat) : Prop := c.length <= 1000 /\ ∀ d ∈ c, aH d = true
theorem cV {c : List Dat} (h : du c) : (decide (c.length <= 1000) && c.all aH) = true := by
 rw [zab, zam]; exact ⟨zad h.1, h.2⟩
theorem nJ {c : List Dat} {j : Nat} {y : Dat} (h : du c) (hy : aH y = true) : du (c.set j y) := ⟨by rw [zbg]; exact h.1, EV h.2 hy⟩
theorem tq (c : List Dat) : ∀ (k i : Nat) (o : Int), i + k = c.length -> (o < 0 \/ 0 < aK (ae c o.toNat)) -> (fN c k i o < 0 -> o < 0 /\ ∀ j, i <= j -> j < c.length -> aK (ae c j) <= 0) /\ (0 <= fN c k i o -> 0 < aK (ae c (fN c k i o).toNat))
 | 0, i, o, h, ho => ⟨fun h1 => ⟨h1, fun j h2 h3 => by omega⟩, fun h1 => by simp only [fN] at h1 ⊢; omega⟩
 | k + 1, i, o, h, ho => by
  unfold fN
  split
  . rename_i hc; obtain ⟨a, b⟩ := tq c k (i + 1) (i : Int) (by omega) (.inr (by rw [zaC]; exact hc.1)); exact ⟨fun h1 => by have := (a h1).1; omega, b⟩
  . rename_i hc; obtain ⟨a, b⟩ := tq c k (i + 1) o (by omega) ho; refine ⟨fun h1 => ⟨(a h1).1, fun j h2 h3 => ?_⟩, b⟩
    by_cases hj : j = i
    . subst hj; have := (a h1).1; omega
    . exact (a h1).2 j (by omega) h3
theorem tv (c : List Dat) : ∀ (k i : Nat) (o : Int), i + k = c.length -> (o < 0 \/ 0 < (ae c o.toNat).i 6) -> (fG c k i o < 0 -> o < 0 /\ ∀ j, i <= j -> j < c.length -> (ae c j).i 6 <= 0) /\ (0 <= fG c k i o -> 0 < (ae c (fG c k i o).toNat).i 6)
 | 0, i, o, h, ho => ⟨fun h1 => ⟨h1, fun j h2 h3 => by omega⟩, fun h1 => by simp only [fG] at h1 ⊢; omega⟩
 | k + 1, i, o, h, ho => by
  unfold fG
  split
  . rename_i hc; obtain ⟨a, b⟩ := tv c k (i + 1) (i : Int) (by omega) (.inr (by rw [zaC]; exact hc.1)); exact ⟨fun h1 => by have := (a h1).1; omega, b⟩
  . rename_i hc; obtain ⟨a, b⟩ := tv c k (i + 1) o (by omega) ho; refine ⟨fun h1 => ⟨(a h1).1, fun j h2 h3 => ?_⟩, b⟩
    by_cases hj : j = i
    . subst hj; have := (a h1).1; omega
    . exact (a h1).2 j (by omega) h3
def sC : Nat -> Int -> List Dat -> List Dat
 | 0, _, c => c
 | k + 1, t, c => if af 6 c < t then (if fN c c.length 0 (-1) < 0 then c else sC k t (c.set (fN c c.length 0 (-1)).toNat (dQ (t - af 6 c) (ae c (fN c c.length 0 (-1)).toNat)))) else c
def qO : Nat -> Int -> List Dat -> List Dat
 | 0, _, c => c
 | k + 1, t, c => if t < af 6 c then (if fG c c.length 0 (-1) < 0 then c else qO k t (c.set (fG c c.length 0 (-1)).toNat (gd (af 6 c - t) (ae c (fG c c.length 0 (-1)).toNat)))) else c
def fL (t : Int) (c : List Dat) : List Dat := qO (c.length + 2) (max t 0) (sC (c.length + 2) (max t 0) c)
theorem G8 (w : Int) (d : Dat) : (dQ w d).i 6 = d.i 6 + nk w d /\ aK (dQ w d) = aK d - nk w d := by
 simp only [dQ, aK, dZ, fy, tX, oL]; exact ⟨trivial, by omega⟩
theorem Je (w : Int) (d : Dat) : (gd w d).i 6 = d.i 6 - my w d := by
 simp only [gd, oL]
def ue (t : Int) (c : List Dat) : Nat := if af 6 c < t then yG (fun d => 0 < aK d) c + 1 else 0
def tS (t : Int) (c : List Dat) : Nat := if t < af 6 c then yG (fun d => 0 < d.i 6) c + 1 else 0
theorem MC {t : Int} {c : List Dat} (hg : du c) (hs : af 6 c < t) (hj : 0 <= fN c c.length 0 (-1)) :
 (fN c c.length 0 (-1)).toNat < c.length /\ du (c.set (fN c c.length 0 (-1)).toNat (dQ (t - af 6 c) (ae c (fN c c.length 0 (-1)).toNat))) /\ ue t (c.set (fN c c.length 0 (-1)).toNat (dQ (t - af 6 c) (ae c (fN c c.length 0 (-1)).toNat))) < ue t c /\
 af 6 (c.set (fN c c.length 0 (-1)).toNat (dQ (t - af 6 c) (ae c (fN c c.length 0 (-1)).toNat))) <= t := by
 have h1 := z9 c c.length 0 (-1) (by omega) (by omega) (by omega); have h2 := (tq c c.length 0 (-1) (by omega) (.inl (by omega))).2 hj; generalize fN c c.length 0 (-1) = o at *
 have h3 : o.toNat < c.length := by omega
 have hn := bV h3 hg.2; have e6 := G8 (t - af 6 c) (ae c o.toNat); have es := nm 6 (dQ (t - af 6 c) (ae c o.toNat)) c o.toNat h3; have hp : nk (t - af 6 c) (ae c o.toNat) = min (t - af 6 c) (aK (ae c o.toNat)) := by unfold nk; omega
 refine ⟨h3, nJ hg (AX _ hn), ?_, by omega⟩; unfold ue; rw [if_pos hs]
 split
 . rename_i hlt; have := wb (fun d => 0 < aK d) (dQ (t - af 6 c) (ae c o.toNat)) (by show ¬ 0 < aK _; omega) c o.toNat h3 h2; omega
 . omega
theorem MB {t : Int} {c : List Dat} (hg : du c) (hs : t < af 6 c) (hj : 0 <= fG c c.length 0 (-1)) :
 (fG c c.length 0 (-1)).toNat < c.length /\ du (c.set (fG c c.length 0 (-1)).toNat (gd (af 6 c - t) (ae c (fG c c.length 0 (-1)).toNat))) /\ tS t (c.set (fG c c.length 0 (-1)).toNat (gd (af 6 c - t) (ae c (fG c c.length 0 (-1)).toNat))) < tS t c /\
 t <= af 6 (c.set (fG c c.length 0 (-1)).toNat (gd (af 6 c - t) (ae c (fG c c.length 0 (-1)).toNat))) := by
 have h1 := Az c c.length 0 (-1) (by omega) (by omega) (by omega); have h2 := (tv c c.length 0 (-1) (by omega) (.inl (by omega))).2 hj; generalize fG c c.length 0 (-1) = o at *
 have h3 : o.toNat < c.length := by omega
 have hn := bV h3 hg.2; have e6 := Je (af 6 c - t) (ae c o.toNat); have es := nm 6 (gd (af 6 c - t) (ae c o.toNat)) c o.toNat h3; have hp : my (af 6 c - t) (ae c o.toNat) = min (af 6 c - t) ((ae c o.toNat).i 6) := by unfold my; omega
 refine ⟨h3, nJ hg (Cx _ hn), ?_, by omega⟩; unfold tS; rw [if_pos hs]
 split
 . rename_i hlt; have := wb (fun d => 0 < d.i 6) (gd (af 6 c - t) (ae c o.toNat)) (by show ¬ 0 < (gd _ _).i 6; omega) c o.toNat h3 h2; omega
 . omega
theorem AP (t : Int) (c : List Dat) : ue t c < c.length + 2 := by
 have := y8 (fun d => 0 < aK d) c; unfold ue; split <;> omega
theorem BB (t : Int) (c : List Dat) : tS t c < c.length + 2 := by
 have := y8 (fun d => 0 < d.i 6) c; unfold tS; split <;> omega
theorem Bl {c : List Dat} (hg : du c) : 0 <= af 6 c /\ af 6 c <= 1125899906842624000 := by
 have := (fE c hg.2).2.2.1; have := hg.1; omega
def Ja : aD := ⟨Gy.tab, 107, ⟨[.int .i64, .buf 0 1], [.dG 1 7 0, .ag (sI 7)], 0⟩, ⟨[.int .i64], [.dG 1 7 0, .ag (sI 7)], 0⟩, []⟩
abbrev zP : Type := Int × Int × List Int × List Dat
abbrev y7 : Type := Int × Int × List Int × List Dat
def Ai (m : Nat) (k : zP -> Option (List Un)) : zP -> Option (List Un) := fun (a0, a1, a2, a3) =>
 bif decide (a1 > a0) then
 chk ((decide (a2 = cg 0 a3.length)) && (decide (a3.length <= 1000) && a3.all aH)) <|
 lt ((fG a3 a3.length 0 (-1)) : Int) fun x6 =>
 bif ((decide (x6 < 0)) && true) then
 some ([.i a1, .l a2, .d a3])
 else
 chk (decide (0 <= x6 /\ x6.toNat < a3.length) && aH (ae a3 x6.toNat)) <|
 lt ((a3.set x6.toNat (gd (w64 (a1 - a0)) (ae a3 x6.toNat))) : List Dat) fun l9 =>
 chk ((decide (a2 = cg 0 l9.length)) && (decide (l9.length <= 1000) && l9.all aH)) <|
 k (a0, (af 6 l9), a2, l9)
 else
 chk ((decide (a2 = cg 0 a3.length)) && (decide (a3.length <= 1000) && a3.all aH)) <|
 some ([.i (af 6 a3), .l a2, .d a3])
def qb (m : Nat) : Nat -> zP -> Option (List Un) := bo (Ai m)
theorem BE (m : Nat) (n : Nat) : qb m (n + 1) = Ai m (qb m n) := rfl
def Dq (F : zP -> Option (List Un)) : aU := ⟨[.lp [0, 1, 0, 1, 1, 1], .blk 2, .code [1, 1, 1, 1]], ⟨frm 47 [(0, .int .i64), (1, .buf 0 1), (7, .int .i64)], [.dG 1 7 0, .ag (sI 7)], 0⟩, onU F⟩
def yK (m : Nat) (k : y7 -> Option (List Un)) : y7 -> Option (List Un) := fun (a0, a1, a2, a3) =>
 bif decide (a1 < a0) then
 chk ((decide (a2 = cg 0 a3.length)) && (decide (a3.length <= 1000) && a3.all aH)) <|
 lt ((fN a3 a3.length 0 (-1)) : Int) fun x2 =>
 bif ((decide (x2 < 0)) && true) then
 some ([.i a1, .l a2, .d a3])
 else
 chk (decide (0 <= x2 /\ x2.toNat < a3.length) && aH (ae a3 x2.toNat)) <|
 lt ((a3.set x2.toNat (dQ (w64 (a0 - a1)) (ae a3 x2.toNat))) : List Dat) fun l5 =>
 chk ((decide (a2 = cg 0 l5.length)) && (decide (l5.length <= 1000) && l5.all aH)) <|
 k (a0, (af 6 l5), a2, l5)
 else
 chk ((decide (a2 = cg 0 a3.length)) && (decide (a3.length <= 1000) && a3.all aH)) <|
 qb m m (a0, (af 6 a3), a2, a3)
def qV (m : Nat) : Nat -> y7 -> Option (List Un) := bo (yK m)
theorem AB (m : Nat) (n : Nat) : qV m (n + 1) = yK m (qV m n) := rfl
def CZ (F : y7 -> Option (List Un)) : aU := ⟨[.lp [0, 1, 0, 1, 1], .blk 0, .code [1, 1, 1]], ⟨frm 47 [(0, .int .i64), (1, .buf 0 1), (5, .int .i64)], [.dG 1 7 0, .ag (sI 7)], 0⟩, onU F⟩
theorem Pp (m : Nat) : ∀ n, HO Ja (Dq (qb m n)) := ay ak Gy.right (fun k => [Dq k]) (fun k h => (aJ h aA)) fun k a => by kernel_rfl
theorem OM (m : Nat) : ∀ n, HO Ja (CZ (qV m n)) := ay ak Gy.right (fun k => [CZ k, Dq (qb m m)]) (fun k h => (aJ h (aJ (Pp m m) aA))) fun k a => by kernel_rfl
def t107 (m : Nat) : Int × List Int × List Dat -> Option (List Un) := fun (a0, a1, a2) =>
 chk ((decide (a1 = cg 0 a2.length)) && (decide (a2.length <= 1000) && a2.all aH)) <|
 qV m m ((if a0 < 0 then 0 else a0), (af 6 a2), a1, a2)
theorem QB (m : Nat) (t : Int) (h0 : 0 <= t) (h1 : t <= 1152921504606846976) : ∀ (k n : Nat) (c : List Dat), tS t c < k -> k <= n -> du c ->
 qb m n (t, af 6 c, cg 0 c.length, c) = some [.i (af 6 (qO k t c)), .l (cg 0 c.length), .d (qO k t c)] := by
 intro k
 induction k with
 | zero => intro n c h; omega
 | succ k ih =>
  intro n c hm hn hg; obtain ⟨n, rfl⟩ := al n (by omega); have hgb := cV hg; have hb := Bl hg; unfold qO; rw [BE]; unfold Ai; dsimp only; simp only [hgb, za6, zaW, gt_iff_lt]
  by_cases hs : t < af 6 c
  . rw [if_pos hs, bz hs, iZ]
    by_cases hj : fG c c.length 0 (-1) < 0
    . rw [if_pos hj]; simp only [lt_eq]; rw [bz hj]
    . rw [if_neg hj]; obtain ⟨a1, a2, a3, a4⟩ := MB hg hs (by omega); have a5 := cV a2; have := ih n _ (by omega) (by omega) a2; rw [zbg] at this; simp only [lt_eq]; have hnr := bV a1 hg.2; rw [aB hj, aa (n := af 6 c - t) (by omega) (by omega), hnr, za6, aV ⟨by omega, a1⟩, a5, zbg, zad rfl, zba, iZ]; exact this
  . rw [if_neg hs, aB hs, iZ]
theorem PT (m : Nat) (t : Int) (h0 : 0 <= t) (h1 : t <= 1152921504606846976) : ∀ (k n : Nat) (c : List Dat), ue t c < k -> k <= n -> c.length + 2 <= m -> du c ->
 qV m n (t, af 6 c, cg 0 c.length, c) = some [.i (af 6 (qO (c.length + 2) t (sC k t c))), .l (cg 0 c.length), .d (qO (c.length + 2) t (sC k t c))] := by
 intro k
 induction k with
 | zero => intro n c h; omega
 | succ k ih =>
  intro n c hm hn hml hg; obtain ⟨n, rfl⟩ := al n (by omega); have hgb := cV hg; have hb := Bl hg; unfold sC; rw [AB]; unfold yK; dsimp only; simp only [hgb, za6, zaW]
  by_cases hs : af 6 c < t
  . rw [if_pos hs, bz hs, iZ]
    by_cases hj : fN c c.length 0 (-1) < 0
    . rw [if_pos hj]; simp only [lt_eq]; rw [bz hj, qO, if_neg (by omega)]
    . rw [if_neg hj]; obtain ⟨a1, a2, a3, a4⟩ := MC hg hs (by omega); have a5 := cV a2; have := ih n _ (by omega) (by omega) (by rw [zbg]; exact hml) a2; rw [zbg] at this; simp only [lt_eq]; have hnr := bV a1 hg.2; rw [aB hj, aa (n := t - af 6 c) (by omega) (by omega), hnr, za6, aV ⟨by omega, a1⟩, a5, zbg, zad rfl, zba, iZ]; exact this
  . rw [if_neg hs, aB hs, iZ]; exact QB m t h0 h1 (c.length + 2) m c (BB t c) hml hg
def f107 : Int × List Int × List Dat -> Bool × List Un := fun (a0, a1, a2) => (decide (a0 <= 1152921504606846976) && ((decide (a1 = cg 0 a2.length)) && (decide (a2.length <= 1000) && a2.all aH)), [.i (af 6 (fL a0 a2)), .l (a1), .d (fL a0 a2)])
theorem J3 (a0 : Int) (a1 : List Int) (a2 : List Dat) (hc : (decide (a0 <= 1152921504606846976) && ((decide (a1 = cg 0 a2.length)) && (decide (a2.length <= 1000) && a2.all aH))) = true) : ∃ m, t107 m (a0, a1, a2) = some ([.i (af 6 (fL a0 a2)), .l (a1), .d (fL a0 a2)]) := by
 simp only [zab, zac, zam] at hc; obtain ⟨h0, rfl, h1, h2⟩ := hc; have hg : du a2 := ⟨h1, h2⟩
 refine ⟨a2.length + 2, ?_⟩; unfold t107 fL; dsimp only; rw [cV hg, zad rfl, lY, zba, iZ]; exact PT _ (max a0 0) (by omega) (by omega) (a2.length + 2) _ a2 (AP _ _) (by omega) (by omega) hg
theorem HD : ER 107 (mkE Ja.en Ja.ex f107) := aq ak Gy.right (fun m => [CZ (qV m m)]) (t := t107) (by kernel_rfl) (fun m => (aJ (OM m m) aA)) (fun m a => by kernel_rfl) fun (a0, a1, a2) hc => J3 a0 a1 a2 hc
def Mg : Tb Tryz.prog LQ TE := Gy.add 107 _ HD
@[ext] structure eZ where
 call : Bool
 period : Int
 mode : Int
 au : Int
 kE : Int
 aL : Int
 aS : Int
 draw : Int
 advance : Int
 fee : Int
 due : Int
instance : Uns eZ := Uns.via (B := Bool × Int × Int × Int × Int × Int × Int × Int × Int × Int × Int) (fun x => (x.call, x.period, x.mode, x.au, x.kE, x.aL, x.aS, x.draw, x.advance, x.fee, x.due)) (fun x => match x with | (call, period, mode, au, kE, aL, aS, draw, advance, fee, due) => ⟨call, period, mode, au, kE, aL, aS, draw, advance, fee, due⟩) (fun _ => rfl)
@[ext] structure dM where
 eH : Int
 ax : Int
 bU : Int
 out : Int
 Ph : Int
instance : Uns dM := Uns.via (B := Int × Int × Int × Int × Int) (fun x => (x.eH, x.ax, x.bU, x.out, x.Ph)) (fun x => match x with | (eH, ax, bU, out, Ph) => ⟨eH, ax, bU, out, Ph⟩) (fun _ => rfl)
def cM (a : ao) (p bal r : Int) : Int := AT bal r a.basis (fx a.year a.month 1 p) (fw a.year a.month 1 p) (gO a.year a.month 1 p) (fx a.year a.month 1 (p + 1)) (fw a.year a.month 1 (p + 1)) (gO a.year a.month 1 (p + 1))
theorem sf {y m p : Int} (h1 : 1 <= y) (h2 : y <= 9000) (h3 : 1 <= m) (h4 : m <= 12) (h5 : 0 <= p) (h6 : p <= 700) : 1 <= fx y m 1 p /\ fx y m 1 p <= 9999 /\ 1 <= fw y m 1 p /\ fw y m 1 p <= 12 /\ gO y m 1 p = 1 /\ bS (fx y m 1 p) (fw y m 1 p) (gO y m 1 p) = true /\ 12 * fx y m 1 p + fw y m 1 p = 12 * y + m + p := by
 have l1 := mu (y := y) (m := m) h1 (by omega) h3 h4; have hs : gB y m 1 p = true := by
  unfold gB; rw [show bS y m 1 = true from dm.2 ⟨by omega, by omega⟩]; simp only [zba, zac]; omega
 unfold fx fw gO; rw [hs, if_pos rfl, if_pos rfl, if_pos rfl]; have l2 := mu (y := (12 * y + m - 1 + p) / 12) (m := (12 * y + m - 1 + p) % 12 + 1) (by omega) (by omega) (by omega) (by omega); have hd : min 1 (cH ((12 * y + m - 1 + p) / 12) ((12 * y + m - 1 + p) % 12 + 1)) = 1 := by omega
 rw [hd]; exact ⟨by omega, by omega, by omega, by omega, rfl, dm.2 ⟨by omega, by omega⟩, by omega⟩
theorem BW {b y m y' m' : Int} (h1 : 1 <= y) (h2 : y <= 9999) (h3 : 1 <= m) (h4 : m <= 12) (h5 : 12 * y' + m' = 12 * y + m + 1) (h6 : 1 <= m') (h7 : m' <= 12) (r1 : bS y m 1 = true) (r2 : bS y' m' 1 = true) : 0 <= jN b y m 1 y' m' 1 /\ jN b y m 1 y' m' 1 <= 731 := by
 have n1 := ql r1; have n2 := ql r2; have a1 := oq h1; have a2 := oq (y := y + 1) (by omega); have q1 := o6 y; have q2 := o6 (y + 1); unfold jN
 split
 . split
   . unfold com; rw [if_neg (by omega)]; omega
   . split
     . rename_i h _ _; have hy : y' = y \/ y' = y + 1 := by omega
       rcases hy with rfl | rfl <;> omega
     . omega
 . omega
theorem FH {n b : Int} (p : Int) (hp : p = 3600000 \/ p = 3650000) (h1 : 0 <= n) (h2 : n <= 1099511627776) (h3 : 0 <= b) (h4 : b <= 3655000) : 0 <= mdV n b p 2 /\ mdV n b p 2 <= 1200000000000 := by
 unfold mdV
 split
 . have hm := zbR h4 h1; have hz := zaZ h1 h3; have e := zbe (n * b) p; have r0 := zbm (n * b) (show p ≠ 0 by omega); have d0 : 0 <= n * b / p := zbw hz (by omega); have d1 : n * b / p <= 1117000000000 := by
    have : n * b < 4018800800000000001 := by omega
    rcases hp with rfl | rfl <;> omega
   unfold mdQ
   split <;> omega
 . omega
theorem pL {a : ao} {p bal : Int} (r : Int) (h1 : 1 <= a.year) (h2 : a.year <= 9000) (h3 : 1 <= a.month) (h4 : a.month <= 12) (h5 : 0 <= p) (h6 : p <= 650) (b0 : 0 <= bal) (b1 : bal <= 1099511627776) : 0 <= cM a p bal r /\ cM a p bal r <= 1200000000000 := by
 obtain ⟨s1, s2, s3, s4, s5, s6, s7⟩ := sf h1 h2 h3 h4 h5 (by omega); obtain ⟨t1, t2, t3, t4, t5, t6, t7⟩ := sf h1 h2 h3 h4 (show 0 <= p + 1 by omega) (by omega); unfold cM AT; rw [s5] at s6 ⊢; rw [t5] at t6 ⊢
 split
 . rename_i hr; have hd := BW (b := a.basis) s1 s2 s3 s4 (by omega) t3 t4 s6 t6; have k0 := zaZ hr.1 hd.1; have k1 := Int.mul_le_mul hr.2 hd.2 hd.1 (show (0 : Int) <= 5000 by omega); exact FH _ (by unfold vw; split <;> omega) b0 b1 k0 (by omega)
 . omega
def dK (a : ao) (p : Int) (d : Dat) : Dat := yL (cM a p (aK d) (d.i 2)) d
theorem BF {d : Dat} (h : aH d = true) : 0 <= aK d /\ aK d <= 1099511627776 := by
 have := bW h; unfold aK; omega
def N43 : aD := ⟨Mg.tab, 43, ⟨[.ptr 0 0 0, .int .i64], br 0, 0⟩, ⟨[.int .i64, .int .i64], br 0, 0⟩, []⟩
abbrev DS : Type := Int × Int × Int × Int × ao × an × ah × List Dat × List Dat × List Dat × List Dat × List Dat × List Dat × List Dat × Int × Int × Int × Int × Int × Int
def zk (m : Nat) (k : DS -> Option (List Un)) : DS -> Option (List Un) := fun (a0, a1, a2, a3, a4, a5, a6, a7, a8, a9, a10, a11, a12, a13, a14, a15, a16, a17, a18, a19) =>
 bif decide (a3 < a2) then
 chk (inb a3 a13.length) <|
 chk (decide (a3.toNat < a13.length)) <|
 lt (ae a13 a3.toNat : Dat) fun d9 =>
 chk (decide (a3.toNat < a13.length)) <|
 lt ((AT (w64 (w64 ((d9.i 1) - w64 ((d9.i 3) - (d9.i 4))) - (d9.i 6))) ((ae a13 a3.toNat).i 2) a4.basis a14 a15 a16 a17 a18 a19) : Int) fun x12 =>
 chk (decide (0 <= x12 /\ x12 <= 1125899906842624) && (decide (0 <= (a3.toNat : Int) /\ (a3.toNat : Int).toNat < a13.length) && aH (ae a13 (a3.toNat : Int).toNat))) <|
 k (a0, (w64 (a1 + x12)), a2, (w64 (a3 + 1)), a4, a5, a6, a7, a8, a9, a10, a11, a12, (a13.set (a3.toNat : Int).toNat (yL x12 (ae a13 (a3.toNat : Int).toNat))), a14, a15, a16, a17, a18, a19)
 else
 some ([.i a0, .i a1] ++ Uns.enc (a4 : ao) ++ Uns.enc (a5 : an) ++ Uns.enc (a6 : ah) ++ [.d a7, .d a8, .d a9, .d a10, .d a11, .d a12, .d a13])
def ui (m : Nat) : Nat -> DS -> Option (List Un) := bo (zk m)
theorem vI (m : Nat) (n : Nat) : ui m (n + 1) = zk m (ui m n) := rfl
def Hj (F : DS -> Option (List Un)) : aU := ⟨[.lp [0, 1, 0, 1, 1, 1, 1, 1], .blk 0, .code [1, 1, 1, 1, 1, 1]], ⟨frm 88 [(0, .ptr 0 0 0), (6, .ptr 9 0 0), (7, .ptr 10 0 0), (8, .int .i64), (10, .int .i64), (49, .int .i64), (50, .int .i64)], br 0 ++ [.cells [.int .i64, .int .i64, .int .i64], .cells [.int .i64, .int .i64, .int .i64]], 0⟩, onU F⟩
theorem PM (m : Nat) : ∀ n, HO N43 (Hj (ui m n)) := ay ak Mg.right (fun k => [Hj k]) (fun k h => (aJ h aA)) fun k a => by kernel_rfl
def t43 (m : Nat) : Int × ao × an × ah × List Dat × List Dat × List Dat × List Dat × List Dat × List Dat × List Dat -> Option (List Un) := fun (a0, a1, a2, a3, a4, a5, a6, a7, a8, a9, a10) =>
 lt ((fx a1.year a1.month 1 a3.period) : Int) fun x1 =>
 lt ((fw a1.year a1.month 1 a3.period) : Int) fun x2 =>
 lt ((gO a1.year a1.month 1 a3.period) : Int) fun x3 =>
 lt ((fx a1.year a1.month 1 (w64 (a3.period + 1))) : Int) fun x4 =>
 lt ((fw a1.year a1.month 1 (w64 (a3.period + 1))) : Int) fun x5 =>
 lt ((gO a1.year a1.month 1 (w64 (a3.period + 1))) : Int) fun x6 =>
 lt ((AT a0 a2.fee a1.basis x1 x2 x3 x4 x5 x6) : Int) fun x7 =>
 ui m m (x7, 0, (a10.length : Int), 0, a1, a2, ({ a3 with fee := (w64 (a3.fee + x7)) } : ah), a4, a5, a6, a7, a8, a9, a10, x1, x2, x3, x4, x5, x6)
theorem K0 (m : Nat) (fe : Int) (xa : ao) (xb : an) (xn : ah) (x1 x2 x3 x4 x5 x6 : List Dat) (p : Int) (hf : ∀ d, aH d = true -> 0 <= cM xa p (aK d) (d.i 2) /\ cM xa p (aK d) (d.i 2) <= 1200000000000) : ∀ (rest pre : List Dat) (n : Nat) (s : Int), rest.length < n -> (pre ++ rest).length <= 1000 -> (∀ d ∈ rest, aH d = true) -> 0 <= s -> s <= 1200000000000 * pre.length ->
 ui m n (fe, s, ((pre ++ rest).length : Int), (pre.length : Int), xa, xb, xn, x1, x2, x3, x4, x5, x6, pre ++ rest, fx xa.year xa.month 1 p, fw xa.year xa.month 1 p, gO xa.year xa.month 1 p, fx xa.year xa.month 1 (p + 1), fw xa.year xa.month 1 (p + 1), gO xa.year xa.month 1 (p + 1)) =
  some ([.i fe, .i (s + bm (fun d => cM xa p (aK d) (d.i 2)) rest)] ++ Uns.enc xa ++ Uns.enc xb ++ Uns.enc xn ++ [.d x1, .d x2, .d x3, .d x4, .d x5, .d x6, .d (pre ++ rest.map (dK xa p))]) := by
 intro rest
 induction rest with
 | nil =>
  intro pre n s hn hl hg s0 s1; obtain ⟨n, rfl⟩ := al n (by simp at hn; omega); rw [vI]; unfold zk; dsimp only; simp [aB, bm]
 | cons x rest ih =>
  intro pre n s hn hl hg s0 s1; obtain ⟨n, rfl⟩ := al n (by simp at hn; omega); simp only [zaf, zai] at hn hl; have hx := bW (hg x (by simp)); have hb := hf x (hg x (by simp)); have hgx := hg x (by simp); have := ih (pre ++ [dK xa p x]) n (s + cM xa p (aK x) (x.i 2)) (by omega) (by simp; omega) (fun d hd => hg d (by simp [hd])) (by omega) (by simp; omega); have e : w64 (w64 (x.i 1 - w64 (x.i 3 - x.i 4)) - x.i 6) = aK x := by rw [aa (n := x.i 3 - x.i 4) (by omega) (by omega), aa (n := x.i 1 - _) (by omega) (by omega), aa (by omega) (by omega)]; rfl
  have e2 : ∀ z, AT z (x.i 2) xa.basis (fx xa.year xa.month 1 p) (fw xa.year xa.month 1 p) (gO xa.year xa.month 1 p) (fx xa.year xa.month 1 (p + 1)) (fw xa.year xa.month 1 (p + 1)) (gO xa.year xa.month 1 (p + 1)) = cM xa p z (x.i 2) := fun z => rfl
  rw [vI]; unfold zk; dsimp only; simp only [bm, zaX, LNi, ar, lt_eq, e, e2, hgx, za6, sR]; rw [show yL (cM xa p (aK x) (x.i 2)) x = dK xa p x from rfl]; simp (disch := omega) only [TRa, TRi, aa, LNl, LNi, zaa, ar]; simp only [LNl, LNi, zaa] at this ⊢; exact this
def f43 : Int × ao × an × ah × List Dat × List Dat × List Dat × List Dat × List Dat × List Dat × List Dat -> Bool × List Un := fun (a0, a1, a2, a3, a4, a5, a6, a7, a8, a9, a10) => (decide ((1 <= a1.year /\ a1.year <= 9000 /\ 1 <= a1.month /\ a1.month <= 12) /\ (0 <= a3.period /\ a3.period <= 600) /\ (0 <= a3.fee /\ a3.fee <= 1125899906842624) /\ (0 <= a0 /\ a0 <= 1099511627776)) && (decide (a10.length <= 1000) && a10.all aH), [.i (cM a1 a3.period a0 a2.fee), .i (bm (fun d => cM a1 a3.period (aK d) (d.i 2)) a10)] ++ Uns.enc ((a1) : ao) ++ Uns.enc ((a2) : an) ++ Uns.enc (({ a3 with fee := a3.fee + cM a1 a3.period a0 a2.fee }) : ah) ++ [.d (a4), .d (a5), .d (a6), .d (a7), .d (a8), .d (a9), .d (a10.map (dK a1 a3.period))])
theorem M6 (a0 : Int) (a1 : ao) (a2 : an) (a3 : ah) (a4 : List Dat) (a5 : List Dat) (a6 : List Dat) (a7 : List Dat) (a8 : List Dat) (a9 : List Dat) (a10 : List Dat) (hc : (decide ((1 <= a1.year /\ a1.year <= 9000 /\ 1 <= a1.month /\ a1.month <= 12) /\ (0 <= a3.period /\ a3.period <= 600) /\ (0 <= a3.fee /\ a3.fee <= 1125899906842624) /\ (0 <= a0 /\ a0 <= 1099511627776)) && (decide (a10.length <= 1000) && a10.all aH)) = true) : ∃ m, t43 m (a0, a1, a2, a3, a4, a5, a6, a7, a8, a9, a10) = some ([.i (cM a1 a3.period a0 a2.fee), .i (bm (fun d => cM a1 a3.period (aK d) (d.i 2)) a10)] ++ Uns.enc ((a1) : ao) ++ Uns.enc ((a2) : an) ++ Uns.enc (({ a3 with fee := a3.fee + cM a1 a3.period a0 a2.fee }) : ah) ++ [.d (a4), .d (a5), .d (a6), .d (a7), .d (a8), .d (a9), .d (a10.map (dK a1 a3.period))]) := by
 simp only [zab, zac, zam] at hc; obtain ⟨⟨⟨h1, h2, h3, h4⟩, ⟨h5, h6⟩, ⟨h7, h8⟩, h9, h10⟩, h11, h12⟩ := hc; have hs := pL a2.fee h1 h2 h3 h4 h5 (show a3.period <= 650 by omega) h9 h10; have hf : ∀ d, aH d = true -> 0 <= cM a1 a3.period (aK d) (d.i 2) /\ cM a1 a3.period (aK d) (d.i 2) <= 1200000000000 := fun d hd => pL _ h1 h2 h3 h4 h5 (by omega) (BF hd).1 (BF hd).2
 refine ⟨a10.length + 1, ?_⟩; unfold t43; dsimp only [lt]; rw [aa (n := a3.period + 1) (by omega) (by omega)]; refine (show ui _ _ (cM a1 a3.period a0 a2.fee, 0, (a10.length : Int), 0, a1, a2, { a3 with fee := w64 (a3.fee + cM a1 a3.period a0 a2.fee) }, a4, a5, a6, a7, a8, a9, a10, _, _, _, _, _, _) = _ from ?_); rw [aa (n := a3.fee + _) (by omega) (by omega)]; exact (K0 _ _ a1 a2 _ a4 a5 a6 a7 a8 a9 a3.period hf a10 [] (a10.length + 1) 0 (by omega) (by simpa using h11) h12 (by omega) (by simp)).trans (by simp only [za0, zaH])
theorem JQ : ER 43 (mkE N43.en N43.ex f43) := aq ak Mg.right (fun m => [Hj (ui m m)]) (t := t43) (by kernel_rfl) (fun m => (aJ (PM m m) aA)) (fun m a => by kernel_rfl) fun (a0, a1, a2, a3, a4, a5, a6, a7, a8, a9, a10) hc => M6 a0 a1 a2 a3 a4 a5 a6 a7 a8 a9 a10 hc
def T43 : Tb Tryz.prog LQ TE := Mg.add 43 _ JQ
def Cd (x : Int) (d : Dat) : Int := max (min x (d.i 5)) 0
def nL (x : Int) (d : Dat) : Dat := .r [.n (d.i 0), .n (d.i 1), .n (d.i 2), .n (d.i 3), .n (d.i 4), .n (d.i 5 - Cd x d), .n (d.i 6)]
def jd (n : ah) (p : Dat) : ah := if p.i 1 = 1 then { n with fee := n.fee - p.i 3 } else if p.i 1 = 2 then { n with out := n.out - p.i 3 } else if p.i 1 = 6 then { n with rin := n.rin + p.i 3 } else n
def kX (c : List Dat) (p : Dat) : List Dat := if p.i 1 = 1 then c else if p.i 1 = 2 then c else if p.i 1 = 6 then c else if p.i 1 = 3 then c.set (p.i 2).toNat (nL (p.i 3) (ae c (p.i 2).toNat)) else c.set (p.i 2).toNat (sG (p.i 3) (ae c (p.i 2).toNat))
def cI : List Dat -> ah -> List Dat -> ah × List Dat
 | [], n, c => (n, c)
 | p :: l, n, c => cI l (jd n p) (kX c p)
def Di (k : Nat) (p : Dat) : Bool := decide (0 <= p.i 3) && (decide (p.i 1 = 1 \/ p.i 1 = 2 \/ p.i 1 = 6) || decide (0 <= p.i 2 /\ p.i 2 < (k : Int)))
theorem sM {k : Nat} {p : Dat} (h : Di k p = true) : 0 <= p.i 3 /\ ((p.i 1 = 1 \/ p.i 1 = 2 \/ p.i 1 = 6) \/ (0 <= p.i 2 /\ p.i 2 < (k : Int))) := by
 simp only [Di, zab, zbf, zac] at h; exact h
def oV (l : List Dat) (n : ah) (c : List Dat) : Bool := decide (l.length <= 1000000) && (l.all (Di c.length) && (decide (af 3 l <= 144115188075855872 /\ (0 <= n.fee /\ n.fee <= 144115188075855872) /\ (0 <= n.out /\ n.out <= 144115188075855872) /\ (0 <= n.rin /\ n.rin <= 144115188075855872)) && (decide (c.length <= 1000) && c.all aH)))
theorem xA (c : List Dat) (p : Dat) : (kX c p).length = c.length := by
 unfold kX; repeat' split
 all_goals simp
theorem Ax {d : Dat} (x : Int) (h : aH d = true) : aH (nL x d) = true := by
 have := bW h; refine zad ?_
 simp only [nL, Cd, dZ, fy, tX, oy, oL]; omega
theorem CM {c : List Dat} {p : Dat} (hp : Di c.length p = true) (h : du c) : du (kX c p) := by
 have hp := sM hp; unfold kX
 by_cases h1 : p.i 1 = 1
 . rw [if_pos h1]; exact h
 rw [if_neg h1]
 by_cases h2 : p.i 1 = 2
 . rw [if_pos h2]; exact h
 rw [if_neg h2]
 by_cases h3 : p.i 1 = 6
 . rw [if_pos h3]; exact h
 rw [if_neg h3]; have hj : (p.i 2).toNat < c.length := by omega
 split
 . exact nJ h (Ax _ (bV hj h.2))
 . exact nJ h (F3 _ (bV hj h.2))
def N48 : aD := ⟨T43.tab, 48, ⟨[.np 0 0 0, .ag (sI 4)], br 0, 0⟩, ⟨[], br 0, 0⟩, []⟩
abbrev Ei : Type := Int × List Dat × Int × Int × ao × an × ah × List Dat × List Dat × List Dat × List Dat × List Dat × List Dat × List Dat
def Am (m : Nat) (k : Ei -> Option (List Un)) : Ei -> Option (List Un) := fun (a0, a1, a2, a3, a4, a5, a6, a7, a8, a9, a10, a11, a12, a13) =>
 bif decide (a3 < a2) then
 chk (inb a3 a1.length) <|
 chk (decide (a3.toNat < a1.length)) <|
 lt (ae a1 a3.toNat : Dat) fun d1 =>
 bif (d1.i 1) == 1 then
 chk (decide (0 <= a0)) <|
 chk (decide (0 <= a0)) <|
 k (a0, a1, a2, (w64 (a3 + 1)), a4, a5, ({ a6 with fee := (w64 (a6.fee - (d1.i 3))) } : ah), a7, a8, a9, a10, a11, a12, a13)
 else
 bif (d1.i 1) == 2 then
 chk (decide (0 <= a0)) <|
 chk (decide (0 <= a0)) <|
 k (a0, a1, a2, (w64 (a3 + 1)), a4, a5, ({ a6 with out := (w64 (a6.out - (d1.i 3))) } : ah), a7, a8, a9, a10, a11, a12, a13)
 else
 bif (d1.i 1) == 6 then
 chk (decide (0 <= a0)) <|
 chk (decide (0 <= 0) && decide ((0 : Int) <= a6.rin /\ (0 : Int) <= (d1.i 3) /\ a6.rin + (d1.i 3) <= (1152921504606846976 : Int))) <|
 k (a0, a1, a2, (w64 (a3 + 1)), a4, a5, ({ a6 with rin := a6.rin + (d1.i 3) }), a7, a8, a9, a10, a11, a12, a13)
 else
 bif (d1.i 1) == 3 then
 chk (decide (0 <= a0)) <|
 chk (inb (d1.i 2) a13.length) <|
 chk (decide ((d1.i 2).toNat < a13.length)) <|
 lt (ae a13 ((d1.i 2).toNat) : Dat) fun d5 =>
 lt ((if (d5.i 5) < (d1.i 3) then (d5.i 5) else (d1.i 3)) : Int) fun x6 =>
 chk (decide ((d1.i 2).toNat < a13.length)) <|
 chk (decide ((d1.i 2).toNat < a13.length)) <|
 lt (ae a13 ((d1.i 2).toNat) : Dat) fun d9 =>
 k (a0, a1, a2, (w64 (a3 + 1)), a4, a5, a6, a7, a8, a9, a10, a11, a12, (List.set a13 ((d1.i 2).toNat) (.r [.n (d9.i 0), .n (d9.i 1), .n (d9.i 2), .n (d9.i 3), .n (d9.i 4), .n (w64 (((ae a13 ((d1.i 2).toNat)).i 5) - (if x6 < 0 then 0 else x6))), .n (d9.i 6)])))
 else
 chk (decide (0 <= a0)) <|
 chk (inb (d1.i 2) a13.length) <|
 chk (decide (0 <= ((d1.i 2).toNat : Int) /\ ((d1.i 2).toNat : Int).toNat < a13.length) && aH (ae a13 ((d1.i 2).toNat : Int).toNat)) <|
 k (a0, a1, a2, (w64 (a3 + 1)), a4, a5, a6, a7, a8, a9, a10, a11, a12, (a13.set ((d1.i 2).toNat : Int).toNat (sG (d1.i 3) (ae a13 ((d1.i 2).toNat : Int).toNat))))
 else
 some (Uns.enc (a4 : ao) ++ Uns.enc (a5 : an) ++ Uns.enc (a6 : ah) ++ [.d a7, .d a8, .d a9, .d a10, .d a11, .d a12, .d a13])
def w7 (m : Nat) : Nat -> Ei -> Option (List Un) := bo (Am m)
theorem uR (m : Nat) (n : Nat) : w7 m (n + 1) = Am m (w7 m n) := rfl
def GW (F : Ei -> Option (List Un)) : aU := ⟨[.lp [0, 1], .blk 0], ⟨frm 67 [(0, .np 0 0 0), (6, .ag (sI 4)), (7, .int .i64), (8, .int .i64)], br 0, 0⟩, onU F⟩
theorem Ql (m : Nat) : ∀ n, HO N48 (GW (w7 m n)) := ay ak T43.right (fun k => [GW k]) (fun k h => (aJ h aA)) fun k a => by kernel_rfl
def t48 (m : Nat) : Int × List Dat × ao × an × ah × List Dat × List Dat × List Dat × List Dat × List Dat × List Dat × List Dat -> Option (List Un) := fun (a0, a1, a2, a3, a4, a5, a6, a7, a8, a9, a10, a11) =>
 w7 m m (a0, a1, (a1.length : Int), 0, a2, a3, a4, a5, a6, a7, a8, a9, a10, a11)
theorem O7 (m : Nat) (p0 : Int) (hp0 : 0 <= p0) (xa : ao) (xb : an) (x1 x2 x3 x4 x5 x6 : List Dat) : ∀ (rest pre : List Dat) (n : Nat) (y : ah) (c : List Dat), rest.length < n -> (pre ++ rest).length <= 1000000 -> (∀ d ∈ rest, Di c.length d = true) -> du c ->
 (-288230376151711744 <= y.fee - af 3 rest /\ y.fee <= 288230376151711744) -> (-288230376151711744 <= y.out - af 3 rest /\ y.out <= 288230376151711744) -> (0 <= y.rin /\ y.rin + af 3 rest <= 576460752303423488) ->
 w7 m n (p0, pre ++ rest, ((pre ++ rest).length : Int), (pre.length : Int), xa, xb, y, x1, x2, x3, x4, x5, x6, c) = some (Uns.enc xa ++ Uns.enc xb ++ Uns.enc (cI rest y c).1 ++ [.d x1, .d x2, .d x3, .d x4, .d x5, .d x6, .d (cI rest y c).2]) := by
 intro rest
 induction rest with
 | nil =>
  intro pre n y c hn hl hp hg f1 f2 f3; obtain ⟨n, rfl⟩ := al n (by simp at hn; omega); rw [uR]; unfold Am; dsimp only; simp [aB, cI]
 | cons x rest ih =>
  intro pre n y c hn hl hp hg f1 f2 f3; obtain ⟨n, rfl⟩ := al n (by simp at hn; omega); simp only [zaf, zai] at hn hl; have hx := sM (hp x (by simp)); have hr := fun d hd => hp d (zaQ _ hd)
  have hs := fl 3 rest fun d hd => (sM (hr d hd)).1
  have hT := CM (hp x (by simp)) hg; have hN : (-288230376151711744 <= (jd y x).fee - af 3 rest /\ (jd y x).fee <= 288230376151711744) /\ (-288230376151711744 <= (jd y x).out - af 3 rest /\ (jd y x).out <= 288230376151711744) /\ (0 <= (jd y x).rin /\ (jd y x).rin + af 3 rest <= 576460752303423488) := by
   simp only [af] at f1 f2 f3; unfold jd
   by_cases h1 : x.i 1 = 1
   . rw [if_pos h1]; simp only; omega
   rw [if_neg h1]
   by_cases h2 : x.i 1 = 2
   . rw [if_pos h2]; simp only; omega
   rw [if_neg h2]
   by_cases h3 : x.i 1 = 6
   . rw [if_pos h3]; simp only; omega
   rw [if_neg h3]; omega
  have := ih (pre ++ [x]) n (jd y x) (kX c x) (by omega) (by simp; omega) (by rw [xA]; exact hr) hT hN.1 hN.2.1 hN.2.2; simp only [af] at f1 f2 f3; simp only [cI]; rw [uR]; unfold Am; dsimp only; unfold jd kX at this ⊢
  by_cases h1 : x.i 1 = 1
  . simp only [if_pos h1] at this ⊢; simp (disch := omega) only [TRa, TRi, aa, LNl, LNi, zaa, ar]; simp only [LNl, LNi, zaa] at this ⊢; exact this
  simp only [if_neg h1] at this ⊢
  by_cases h2 : x.i 1 = 2
  . simp only [if_pos h2] at this ⊢; simp (disch := omega) only [TRa, TRi, aa, LNl, LNi, zaa, ar]; simp only [LNl, LNi, zaa] at this ⊢; exact this
  simp only [if_neg h2] at this ⊢
  by_cases h6 : x.i 1 = 6
  . simp only [if_pos h6] at this ⊢; simp only [show decide ((0 : Nat) <= 0) = true from rfl, zba]; simp (disch := omega) only [TRa, TRi, aa, LNl, LNi, zaa, ar]; simp only [LNl, LNi, zaa] at this ⊢; exact this
  simp only [if_neg h6] at this ⊢; have hj : (x.i 2).toNat < c.length := by omega
  have hd := bW (bV hj hg.2); have hd2 := bV hj hg.2; have hjn : (((x.i 2).toNat : Int)).toNat = (x.i 2).toNat := zaC _
  by_cases h3 : x.i 1 = 3
  . simp only [if_pos h3] at this ⊢; have e : (if (if (ae c (x.i 2).toNat).i 5 < x.i 3 then (ae c (x.i 2).toNat).i 5 else x.i 3) < 0 then 0 else (if (ae c (x.i 2).toNat).i 5 < x.i 3 then (ae c (x.i 2).toNat).i 5 else x.i 3)) = Cd (x.i 3) (ae c (x.i 2).toNat) := by unfold Cd; omega
    have hv : 0 <= Cd (x.i 3) (ae c (x.i 2).toNat) /\ Cd (x.i 3) (ae c (x.i 2).toNat) <= (ae c (x.i 2).toNat).i 5 := by unfold Cd; omega
    simp (disch := omega) only [lt_eq, jl, aV, bz, gF, gC, LNl, LNi, zaa, ar, e]; rw [aa (n := (ae c (x.i 2).toNat).i 5 - _) (by omega) (by omega), aa (by omega) (by omega)]; unfold nL at this; simp only [LNl, LNi, zaa] at this ⊢; exact this
  . simp only [if_neg h3] at this ⊢; simp (disch := omega) only [lt_eq, jl, aV, bz, gF, gC, LNl, LNi, zaa, ar, hd2, za6]; rw [aa (by omega) (by omega)]; simp only [LNl, LNi, zaa] at this ⊢; exact this
def f48 : Int × List Dat × ao × an × ah × List Dat × List Dat × List Dat × List Dat × List Dat × List Dat × List Dat -> Bool × List Un := fun (a0, a1, a2, a3, a4, a5, a6, a7, a8, a9, a10, a11) => (decide (0 <= a0) && oV a1 a4 a11, Uns.enc ((a2) : ao) ++ Uns.enc ((a3) : an) ++ Uns.enc (((cI a1 a4 a11).1) : ah) ++ [.d (a5), .d (a6), .d (a7), .d (a8), .d (a9), .d (a10), .d ((cI a1 a4 a11).2)])
theorem Oi (a0 : Int) (a1 : List Dat) (a2 : ao) (a3 : an) (a4 : ah) (a5 : List Dat) (a6 : List Dat) (a7 : List Dat) (a8 : List Dat) (a9 : List Dat) (a10 : List Dat) (a11 : List Dat) (hc : (decide (0 <= a0) && oV a1 a4 a11) = true) : ∃ m, t48 m (a0, a1, a2, a3, a4, a5, a6, a7, a8, a9, a10, a11) = some (Uns.enc ((a2) : ao) ++ Uns.enc ((a3) : an) ++ Uns.enc (((cI a1 a4 a11).1) : ah) ++ [.d (a5), .d (a6), .d (a7), .d (a8), .d (a9), .d (a10), .d ((cI a1 a4 a11).2)]) := by
 simp only [oV, zab, zac, zam] at hc; obtain ⟨h0, h1, h2, ⟨h3, h4, h5, h6⟩, h7, h8⟩ := hc; have hs := fl 3 a1 fun d hd => (sM (h2 d hd)).1
 refine ⟨a1.length + 1, ?_⟩; exact O7 _ a0 h0 a2 a3 a5 a6 a7 a8 a9 a10 a1 [] (a1.length + 1) a4 a11 (by omega) (by simpa using h1) h2 ⟨h7, h8⟩ (by omega) (by omega) (by omega)
theorem LG : ER 48 (mkE N48.en N48.ex f48) := aq ak T43.right (fun m => [GW (w7 m m)]) (t := t48) (by kernel_rfl) (fun m => (aJ (Ql m m) aA)) (fun m a => by kernel_rfl) fun (a0, a1, a2, a3, a4, a5, a6, a7, a8, a9, a10, a11) hc => Oi a0 a1 a2 a3 a4 a5 a6 a7 a8 a9 a10 a11 hc
def T48 : Tb Tryz.prog LQ TE := T43.add 48 _ LG
def v3 (parts ax has : Int) : Int := max (mdV ax parts 10000 0 - has) 0
def fk (d : Dat) : Dat := .r [.n (d.i 0), .n (aK d), .n (d.i 5)]
theorem Nb (n b p h : Int) : 0 <= mdV n b p h /\ mdV n b p h <= 1152921504606846976 := by
 unfold mdV
 split
 . rename_i hk; simp only [oe, zac] at hk; have : 0 <= n * b / p := zbw (zaZ hk.1 (by omega)) (by omega); refine ⟨?_, by omega⟩; unfold mdQ
   split <;> omega
 . omega
theorem yY {l : List Dat} (h1 : l.length <= 1000) (h2 : ∀ d ∈ l, cw d = true) : 0 <= af 1 l /\ af 1 l <= 1099511627776000 := by
 have := pN 1 1099511627776 l fun d hd => pW (h2 d hd)
 omega
def N46 : aD := ⟨T48.tab, 46, ⟨[.ptr 0 0 0, .agg [.int .i64, .int .i64, .int .i64, .int .i64]], br 0, 9⟩, ⟨[.agg [.int .i64, .int .i64, .int .i64, .int .i64, .buf 9 3]], br 0 ++ [.ag (sI 3)], 9⟩, []⟩
abbrev Et : Type := Int × Int × ao × an × ah × List Dat × List Dat × List Dat × List Dat × List Dat × List Dat × List Dat × Int × Int × Int × Int × Int × Int × Int × Int × List Dat × List Dat
def Ar (m : Nat) (k : Et -> Option (List Un)) : Et -> Option (List Un) := fun (a0, a1, a2, a3, a4, a5, a6, a7, a8, a9, a10, a11, a12, a13, a14, a15, a16, a17, a18, a19, a20, a21) =>
 bif decide (a1 < a0) then
 chk (inb a1 a11.length) <|
 chk (decide (a1.toNat < a11.length)) <|
 lt (ae a11 a1.toNat : Dat) fun d8 =>
 chk (fits (a21.length + 1) 24) <|
 k (a0, (w64 (a1 + 1)), a2, a3, a4, a5, a6, a7, a8, a9, a10, a11, a12, a13, a14, a15, a16, a17, a18, a19, a20, (a21 ++ ([.r [.n (d8.i 0), .n (w64 (w64 ((d8.i 1) - w64 ((d8.i 3) - (d8.i 4))) - (d8.i 6))), .n (d8.i 5)]])))
 else
 some ([.i a16, .i a17, .i a18, .i a19] ++ Uns.enc (a2 : ao) ++ Uns.enc (a3 : an) ++ Uns.enc (a4 : ah) ++ [.d a5, .d a6, .d a7, .d a8, .d a9, .d a10, .d a11, .d a21])
def uL (m : Nat) : Nat -> Et -> Option (List Un) := bo (Ar m)
theorem tR (m : Nat) (n : Nat) : uL m (n + 1) = Ar m (uL m n) := rfl
def GU (F : Et -> Option (List Un)) : aU := ⟨[.lp [0, 1, 0, 1, 1, 1], .blk 0, .code [1, 1, 1, 1]], ⟨frm 78 [(4, .ptr 9 0 0), (9, .ptr 10 0 0), (57, .buf 8 7), (58, .int .i64), (59, .int .i64)], br 0 ++ [.cells [.int .i64, .int .i64, .int .i64, .int .i64, .buf 11 3], .cells [.int .i64, .int .i64, .int .i64, .int .i64, .buf 12 3], .ag (sI 3), .ag (sI 3)], 9⟩, onU F⟩
theorem Qp (m : Nat) : ∀ n, HO N46 (GU (uL m n)) := ay ak T48.right (fun k => [GU k]) (fun k h => (aJ h aA)) fun k a => by kernel_rfl
def t46 (m : Nat) : Int × Int × Int × Int × ao × an × ah × List Dat × List Dat × List Dat × List Dat × List Dat × List Dat × List Dat -> Option (List Un) := fun (a0, a1, a2, a3, a4, a5, a6, a7, a8, a9, a10, a11, a12, a13) =>
 chk (decide (0 <= 0) && (decide (a13.length <= 1000) && a13.all aH)) <|
 lt ((w64 ((w64 (a0 + a3)) + a2)) : Int) fun x1 =>
 chk (decide (0 < ([.r [.r a12]] : List Dat).length) && (decide (((ae ([.r [.r a12]] : List Dat) 0).d 0).length <= 1000) && ((ae ([.r [.r a12]] : List Dat) 0).d 0).all cw)) <|
 lt ((w64 (a6.rin - a6.aG)) : Int) fun x4 =>
 lt ((mdV (af 1 ((ae ([.r [.r a12]] : List Dat) 0).d 0)) a5.target 10000 0) : Int) fun x5 =>
 uL m m ((a13.length : Int), 0, a4, a5, a6, a7, a8, a9, a10, a11, a12, a13, 0, 0, 0, 0, a6.fee, a6.out, (if (bm aK a13) < x1 then (bm aK a13) else x1), (if (w64 (x5 - x4)) < 0 then 0 else (w64 (x5 - x4))), [], [])
theorem Rl (m : Nat) (xa : ao) (xb : an) (xn : ah) (x1 x2 x3 x4 x5 x6 z0 : List Dat) (z1 z2 z3 z4 w1 w2 w3 w4 : Int) : ∀ (rest pre : List Dat) (n : Nat), rest.length < n -> (pre ++ rest).length <= 1000 -> (∀ d ∈ rest, aH d = true) ->
 uL m n (((pre ++ rest).length : Int), (pre.length : Int), xa, xb, xn, x1, x2, x3, x4, x5, x6, pre ++ rest, z1, z2, z3, z4, w1, w2, w3, w4, z0, pre.map fk) =
  some ([.i w1, .i w2, .i w3, .i w4] ++ Uns.enc xa ++ Uns.enc xb ++ Uns.enc xn ++ [.d x1, .d x2, .d x3, .d x4, .d x5, .d x6, .d (pre ++ rest), .d ((pre ++ rest).map fk)]) := by
 intro rest
 induction rest with
 | nil =>
  intro pre n hn hl hg; obtain ⟨n, rfl⟩ := al n (by simp at hn; omega); rw [tR]; unfold Ar; dsimp only; simp [aB]
 | cons x rest ih =>
  intro pre n hn hl hg; obtain ⟨n, rfl⟩ := al n (by simp at hn; omega); simp only [zaf, zai] at hn hl; have e := Hk (hg x (by simp)); have := ih (pre ++ [x]) n (by omega) (by simp; omega) (fun d hd => hg d (by simp [hd])); rw [zbT, show [x].map fk = [.r [.n (x.i 0), .n (aK x), .n (x.i 5)]] from rfl] at this; rw [tR]; unfold Ar; dsimp only; simp only [LNi, ar, lt_eq, e]; simp (disch := omega) only [TRa, TRi, aa, LNl, LNi, zaa, ar]; simp only [LNl, LNi, zaa] at this ⊢; exact this
def f46 : Int × Int × Int × Int × ao × an × ah × List Dat × List Dat × List Dat × List Dat × List Dat × List Dat × List Dat -> Bool × List Un := fun (a0, a1, a2, a3, a4, a5, a6, a7, a8, a9, a10, a11, a12, a13) => (decide (((0 <= a0 /\ a0 <= 1125899906842624) /\ (0 <= a2 /\ a2 <= 1125899906842624) /\ (0 <= a3 /\ a3 <= 1125899906842624)) /\ (0 <= a6.aG /\ a6.aG <= a6.rin /\ a6.rin <= 1152921504606846976)) && ((decide (a12.length <= 1000) && a12.all cw) && (decide (a13.length <= 1000) && a13.all aH)), [.i (a6.fee), .i (a6.out), .i (min (a0 + a3 + a2) (bm aK a13)), .i (v3 a5.target (af 1 a12) (a6.rin - a6.aG))] ++ Uns.enc ((a4) : ao) ++ Uns.enc ((a5) : an) ++ Uns.enc ((a6) : ah) ++ [.d (a7), .d (a8), .d (a9), .d (a10), .d (a11), .d (a12), .d (a13), .d (a13.map fk)])
theorem NU (a0 : Int) (a1 : Int) (a2 : Int) (a3 : Int) (a4 : ao) (a5 : an) (a6 : ah) (a7 : List Dat) (a8 : List Dat) (a9 : List Dat) (a10 : List Dat) (a11 : List Dat) (a12 : List Dat) (a13 : List Dat) (hc : (decide (((0 <= a0 /\ a0 <= 1125899906842624) /\ (0 <= a2 /\ a2 <= 1125899906842624) /\ (0 <= a3 /\ a3 <= 1125899906842624)) /\ (0 <= a6.aG /\ a6.aG <= a6.rin /\ a6.rin <= 1152921504606846976)) && ((decide (a12.length <= 1000) && a12.all cw) && (decide (a13.length <= 1000) && a13.all aH))) = true) : ∃ m, t46 m (a0, a1, a2, a3, a4, a5, a6, a7, a8, a9, a10, a11, a12, a13) = some ([.i (a6.fee), .i (a6.out), .i (min (a0 + a3 + a2) (bm aK a13)), .i (v3 a5.target (af 1 a12) (a6.rin - a6.aG))] ++ Uns.enc ((a4) : ao) ++ Uns.enc ((a5) : an) ++ Uns.enc ((a6) : ah) ++ [.d (a7), .d (a8), .d (a9), .d (a10), .d (a11), .d (a12), .d (a13), .d (a13.map fk)]) := by
 simp only [zab, zac, zam] at hc; obtain ⟨⟨⟨h1, h2, h3⟩, h4, h5, h6⟩, ⟨h7, h8⟩, h9, h10⟩ := hc; have hg : du a13 := ⟨h9, h10⟩
 have hb := yY h7 h8; have hs := (fE a13 h10).1; have hm := Nb (af 1 a12) a5.target 10000 0; have hlb : (decide (a12.length <= 1000) && a12.all cw) = true := by rw [zab, zam]; exact ⟨zad h7, h8⟩
 refine ⟨a13.length + 1, ?_⟩; unfold t46 v3; dsimp only [lt]; refine aR (by rw [cV hg]; rfl) ?_
 refine aR (zan.2 ⟨rfl, hlb⟩) ?_
 change uL _ _ (_, _, _, _, _, _, _, _, _, _, _, _, _, _, _, _, _, _, (if bm aK a13 < w64 (w64 (a0 + a3) + a2) then bm aK a13 else w64 (w64 (a0 + a3) + a2)), (if w64 (mdV (af 1 a12) a5.target 10000 0 - w64 (a6.rin - a6.aG)) < 0 then 0 else w64 (mdV (af 1 a12) a5.target 10000 0 - w64 (a6.rin - a6.aG))), _, _) = _; rw [aa (n := a0 + a3) (by omega) (by omega), aa (n := a0 + a3 + a2) (by omega) (by omega), aa (n := a6.rin - a6.aG) (by omega) (by omega), aa (n := mdV _ _ _ _ - _) (by omega) (by omega)]; rw [show (if bm aK a13 < a0 + a3 + a2 then bm aK a13 else a0 + a3 + a2) = min (a0 + a3 + a2) (bm aK a13) by omega, show ∀ z : Int, (if z < 0 then 0 else z) = max z 0 from fun z => by omega]; exact Rl _ a4 a5 a6 a7 a8 a9 a10 a11 a12 _ _ _ _ _ _ _ _ _ a13 [] (a13.length + 1) (by omega) (by simpa using h9) h10
theorem JY : ER 46 (mkE N46.en N46.ex f46) := aq ak T48.right (fun m => [GU (uL m m)]) (t := t46) (by kernel_rfl) (fun m => (aJ (Qp m m) aA)) (fun m a => by kernel_rfl) fun (a0, a1, a2, a3, a4, a5, a6, a7, a8, a9, a10, a11, a12, a13) hc => NU a0 a1 a2 a3 a4 a5 a6 a7 a8 a9 a10 a11 a12 a13 hc
def T46 : Tb Tryz.prog LQ TE := T48.add 46 _ JY
theorem tO : ∀ (k : Nat) (n : Int), cg n k ++ [n + k] = cg n (k + 1)
 | 0, n => by simp [cg]
 | k + 1, n => by
  have := tO k (n + 1); simp only [cg, zaY, zas, zaa] at this ⊢; rw [<- this, show n + 1 + (k : Int) = n + ((k : Int) + 1) by omega]
theorem vr (u p l r : Int) : 0 <= cN u p l r /\ cN u p l r <= max u 0 /\ cN u p l r <= max (u - p) 0 /\ cN u p l r <= max (l - r) 0 := by unfold cN; omega
def N49 : aD := ⟨T46.tab, 49, ⟨[.ptr 0 0 0, .agg [.int .i64, .int .i64, .int .i64, .int .i64]], br 0, 0⟩, ⟨[], br 0, 0⟩, []⟩
abbrev Ey : Type := Int × Int × Int × ao × an × ah × List Dat × List Dat × List Dat × List Dat × List Dat × List Dat × List Dat × List Int
def zr (m : Nat) (k : Ey -> Option (List Un)) : Ey -> Option (List Un) := fun (a0, a1, a2, a3, a4, a5, a6, a7, a8, a9, a10, a11, a12, a13) =>
 bif decide (a2 < a1) then
 chk (inb a2 a12.length) <|
 chk (fits (a13.length + ([(a2.toNat : Int)]).length) 8) <|
 k (a0, a1, (w64 (a2 + 1)), a3, a4, a5, a6, a7, a8, a9, a10, a11, a12, (a13 ++ ([(a2.toNat : Int)])))
 else
 chk (decide (0 < ([.r [.r a11]] : List Dat).length) && (decide (((ae ([.r [.r a11]] : List Dat) 0).d 0).length <= 1000) && ((ae ([.r [.r a11]] : List Dat) 0).d 0).all cw)) <|
 lt ((af 1 ((ae ([.r [.r a11]] : List Dat) 0).d 0)) : Int) fun x1 =>
 chk (decide ((-1152921504606846976 <= a0 /\ a0 <= 1152921504606846976) /\ (-1152921504606846976 <= x1 /\ x1 <= 1152921504606846976) /\ (-1152921504606846976 <= a5.aL /\ a5.aL <= 1152921504606846976) /\ (-1152921504606846976 <= a5.aS /\ a5.aS <= 1152921504606846976))) <|
 chk (decide ((cN a0 x1 a5.aL a5.aS) <= 1152921504606846976) && ((decide (a13 = cg 0 a12.length)) && (decide (a12.length <= 1000) && a12.all aH))) <|
 some (Uns.enc (a3 : ao) ++ Uns.enc (a4 : an) ++ Uns.enc (a5 : ah) ++ [.d a6, .d a7, .d a8, .d a9, .d a10, .d a11, .d (fL (cN a0 x1 a5.aL a5.aS) a12)])
def wW (m : Nat) : Nat -> Ey -> Option (List Un) := bo (zr m)
theorem tY (m : Nat) (n : Nat) : wW m (n + 1) = zr m (wW m n) := rfl
def I3 (F : Ey -> Option (List Un)) : aU := ⟨[.lp [0, 1, 0, 1, 1, 1, 1, 1], .blk 0, .code [1, 1, 1, 1, 1, 1]], ⟨frm 70 [(0, .ptr 0 0 0), (7, .int .i64), (8, .buf 9 1), (39, .int .i64), (40, .int .i64)], br 0 ++ [.dG 8 7 0], 0⟩, onU F⟩
theorem PD (m : Nat) : ∀ n, HO N49 (I3 (wW m n)) := ay ak T46.right (fun k => [I3 k]) (fun k h => (aJ h aA)) fun k a => by kernel_rfl
def t49 (m : Nat) : Int × Int × Int × Int × ao × an × ah × List Dat × List Dat × List Dat × List Dat × List Dat × List Dat × List Dat -> Option (List Un) := fun (a0, a1, a2, a3, a4, a5, a6, a7, a8, a9, a10, a11, a12, a13) =>
 chk (decide (0 <= 0) && (decide (a13.length <= 1000) && a13.all aH)) <|
 wW m m ((bm unD a13), (a13.length : Int), 0, a4, a5, ({ a6 with aL := (w64 (a6.aL + a2)), aS := (w64 (a6.aS + a3)) } : ah), a7, a8, a9, a10, a11, a12, a13, [])
theorem Qz (m : Nat) (u : Int) (xa : ao) (xb : an) (y : ah) (x1 x2 x3 x4 x5 x6 x7 : List Dat) (hu : 0 <= u /\ u <= 1099511627776000) (h1 : 0 <= y.aL /\ y.aL <= 1152921504606846976) (h2 : 0 <= y.aS /\ y.aS <= 1152921504606846976) (h3 : (decide (x6.length <= 1000) && x6.all cw) = true) (hb : 0 <= af 1 x6 /\ af 1 x6 <= 1099511627776000) (hg : du x7) : ∀ (k i n : Nat), i + k = x7.length -> k < n ->
 wW m n (u, (x7.length : Int), (i : Int), xa, xb, y, x1, x2, x3, x4, x5, x6, x7, cg 0 i) = some (Uns.enc xa ++ Uns.enc xb ++ Uns.enc y ++ [.d x1, .d x2, .d x3, .d x4, .d x5, .d x6, .d (fL (cN u (af 1 x6) y.aL y.aS) x7)]) := by
 intro k
 induction k with
 | zero =>
  intro i n hi hn; obtain ⟨n, rfl⟩ := al n (by omega); have ht := vr u (af 1 x6) y.aL y.aS; have hgb := cV hg; obtain rfl : i = x7.length := by omega
  rw [tY]; unfold zr; dsimp only; rw [aB (by omega)]; dsimp only [lt]; refine aR (zan.2 ⟨rfl, h3⟩) ?_
  change chk (decide ((-1152921504606846976 <= u /\ u <= 1152921504606846976) /\ (-1152921504606846976 <= af 1 x6 /\ af 1 x6 <= 1152921504606846976) /\ (-1152921504606846976 <= y.aL /\ y.aL <= 1152921504606846976) /\ (-1152921504606846976 <= y.aS /\ y.aS <= 1152921504606846976))) (chk (decide (cN u (af 1 x6) y.aL y.aS <= 1152921504606846976) && (decide (cg 0 x7.length = cg 0 x7.length) && (decide (x7.length <= 1000) && x7.all aH))) _) = _; rw [aV (by omega)]; exact aR (by rw [zab, zab]; exact ⟨@zad _ _ (by omega), @zad _ _ rfl, hgb⟩) rfl
 | succ k ih =>
  intro i n hi hn; obtain ⟨n, rfl⟩ := al n (by omega); have hg1 := hg.1; have hL := gg i 0; have := ih (i + 1) n (by omega) (by omega); rw [<- tO i 0] at this; rw [tY]; unfold zr; dsimp only; simp (disch := omega) only [TRa, TRi, aa, LNl, LNi, zaa, hL]; simp only [LNl, LNi, zaa] at this ⊢; exact this
def f49 : Int × Int × Int × Int × ao × an × ah × List Dat × List Dat × List Dat × List Dat × List Dat × List Dat × List Dat -> Bool × List Un := fun (a0, a1, a2, a3, a4, a5, a6, a7, a8, a9, a10, a11, a12, a13) => (decide (((0 <= a0 /\ a0 <= 1125899906842624) /\ (0 <= a2 /\ a2 <= 1125899906842624) /\ (0 <= a3 /\ a3 <= 1125899906842624)) /\ (0 <= a6.aL /\ a6.aL <= 1125899906842624) /\ (0 <= a6.aS /\ a6.aS <= 1125899906842624)) && ((decide (a12.length <= 1000) && a12.all cw) && (decide (a13.length <= 1000) && a13.all aH)), Uns.enc ((a4) : ao) ++ Uns.enc ((a5) : an) ++ Uns.enc (({ a6 with aL := a6.aL + a2, aS := a6.aS + a3 }) : ah) ++ [.d (a7), .d (a8), .d (a9), .d (a10), .d (a11), .d (a12), .d (fL (cN (bm unD a13) (af 1 a12) (a6.aL + a2) (a6.aS + a3)) a13)])
theorem MH (a0 : Int) (a1 : Int) (a2 : Int) (a3 : Int) (a4 : ao) (a5 : an) (a6 : ah) (a7 : List Dat) (a8 : List Dat) (a9 : List Dat) (a10 : List Dat) (a11 : List Dat) (a12 : List Dat) (a13 : List Dat) (hc : (decide (((0 <= a0 /\ a0 <= 1125899906842624) /\ (0 <= a2 /\ a2 <= 1125899906842624) /\ (0 <= a3 /\ a3 <= 1125899906842624)) /\ (0 <= a6.aL /\ a6.aL <= 1125899906842624) /\ (0 <= a6.aS /\ a6.aS <= 1125899906842624)) && ((decide (a12.length <= 1000) && a12.all cw) && (decide (a13.length <= 1000) && a13.all aH))) = true) : ∃ m, t49 m (a0, a1, a2, a3, a4, a5, a6, a7, a8, a9, a10, a11, a12, a13) = some (Uns.enc ((a4) : ao) ++ Uns.enc ((a5) : an) ++ Uns.enc (({ a6 with aL := a6.aL + a2, aS := a6.aS + a3 }) : ah) ++ [.d (a7), .d (a8), .d (a9), .d (a10), .d (a11), .d (a12), .d (fL (cN (bm unD a13) (af 1 a12) (a6.aL + a2) (a6.aS + a3)) a13)]) := by
 simp only [zab, zac, zam] at hc; obtain ⟨⟨⟨h1, h2, h3⟩, h4, h5⟩, ⟨h7, h8⟩, h9, h10⟩ := hc; have hg : du a13 := ⟨h9, h10⟩
 have hb := yY h7 h8; have hs := (fE a13 h10).2.2.2.1; refine ⟨a13.length + 1, ?_⟩; unfold t49; dsimp only; refine aR (by rw [cV hg]; rfl) ?_
 rw [aa (n := a6.aL + a2) (by omega) (by omega), aa (n := a6.aS + a3) (by omega) (by omega)]; exact Qz _ _ a4 a5 { a6 with aL := a6.aL + a2, aS := a6.aS + a3 } a7 a8 a9 a10 a11 a12 a13 (by omega) (by simp only; omega) (by simp only; omega) (by rw [zab, zam]; exact ⟨zad h7, h8⟩) hb hg a13.length 0 (a13.length + 1) (by omega) (by omega)
theorem Jz : ER 49 (mkE N49.en N49.ex f49) := aq ak T46.right (fun m => [I3 (wW m m)]) (t := t49) (by kernel_rfl) (fun m => (aJ (PD m m) aA)) (fun m a => by kernel_rfl) fun (a0, a1, a2, a3, a4, a5, a6, a7, a8, a9, a10, a11, a12, a13) hc => MH a0 a1 a2 a3 a4 a5 a6 a7 a8 a9 a10 a11 a12 a13 hc
def T49 : Tb Tryz.prog LQ TE := T46.add 49 _ Jz
def zz (d : Dat) : Dat := .r [.n (aK d), .n (d.i 5), .n (d.i 6)]
def N53 : aD := ⟨T49.tab, 53, ⟨[.agg [.bool, .int .i64, .int .i64, .int .i64, .int .i64, .int .i64, .int .i64, .int .i64, .int .i64, .int .i64, .int .i64, .buf 9 4, .int .i64, .int .i64, .int .i64, .int .i64, .int .i64, .dU, .int .i64], .np 0 0 0], br 0 ++ [.ag (sI 4)], 10⟩, ⟨[.agg [.bool, .int .i64, .int .i64, .int .i64, .int .i64, .int .i64, .int .i64, .int .i64, .int .i64, .int .i64, .int .i64, .buf 9 4, .int .i64, .int .i64, .int .i64, .int .i64, .int .i64, .buf 10 3, .int .i64]], br 0 ++ [.ag (sI 4), .ag (sI 3)], 10⟩, []⟩
abbrev EA : Type := Int × Int × ao × an × ah × List Dat × List Dat × List Dat × List Dat × List Dat × List Dat × List Dat × List Dat × eZ × dM × Int × eZ × dM × Int × List Dat × List Dat × List Dat
def zW (m : Nat) (k : EA -> Option (List Un)) : EA -> Option (List Un) := fun (a0, a1, a2, a3, a4, a5, a6, a7, a8, a9, a10, a11, a12, a13, a14, a15, a16, a17, a18, a19, a20, a21) =>
 bif decide (a1 < a0) then
 chk (inb a1 a11.length) <|
 chk (decide (a1.toNat < a11.length)) <|
 lt (ae a11 a1.toNat : Dat) fun d3 =>
 chk (fits (a19.length + 1) 24) <|
 k (a0, (w64 (a1 + 1)), a2, a3, a4, a5, a6, a7, a8, a9, a10, a11, a12, a13, a14, a15, a16, a17, a18, (a19 ++ ([.r [.n (w64 (w64 ((d3.i 1) - w64 ((d3.i 3) - (d3.i 4))) - (d3.i 6))), .n (d3.i 5), .n (d3.i 6)]])), a20, a21)
 else
 some (Uns.enc (a13 : eZ) ++ Uns.enc (a14 : dM) ++ [.i a15] ++ Uns.enc (a2 : ao) ++ Uns.enc (a3 : an) ++ Uns.enc (a4 : ah) ++ [.d a5, .d a6, .d a7, .d a8, .d a9, .d a10, .d a11, .d a12, .d a19])
def xo (m : Nat) : Nat -> EA -> Option (List Un) := bo (zW m)
theorem vZ (m : Nat) (n : Nat) : xo m (n + 1) = zW m (xo m n) := rfl
def HM (F : EA -> Option (List Un)) : aU := ⟨[.lp [0, 1, 0, 1, 1], .blk 0, .code [1, 1, 1]], ⟨frm 58 [(2, .ptr 10 0 0), (4, .ptr 11 0 0), (38, .buf 8 7), (39, .int .i64), (40, .int .i64)], br 0 ++ [.ag (sI 4), .cells [.bool, .int .i64, .int .i64, .int .i64, .int .i64, .int .i64, .int .i64, .int .i64, .int .i64, .int .i64, .int .i64, .buf 9 4, .int .i64, .int .i64, .int .i64, .int .i64, .int .i64, .buf 12 3, .int .i64], .cells [.bool, .int .i64, .int .i64, .int .i64, .int .i64, .int .i64, .int .i64, .int .i64, .int .i64, .int .i64, .int .i64, .buf 13 4, .int .i64, .int .i64, .int .i64, .int .i64, .int .i64, .buf 14 3, .int .i64], .ag (sI 3), .ag (sI 4), .ag (sI 3)], 10⟩, onU F⟩
theorem Pz (m : Nat) : ∀ n, HO N53 (HM (xo m n)) := ay ak T49.right (fun k => [HM k]) (fun k h => (aJ h aA)) fun k a => by kernel_rfl
def t53 (m : Nat) : eZ × dM × Int × Int × ao × an × ah × List Dat × List Dat × List Dat × List Dat × List Dat × List Dat × List Dat × List Dat -> Option (List Un) := fun (a0, a1, a2, a3, a4, a5, a6, a7, a8, a9, a10, a11, a12, a13, a14) =>
 chk (decide (0 <= a3)) <|
 chk (decide (0 < ([.r [.r a12]] : List Dat).length) && (decide (((ae ([.r [.r a12]] : List Dat) 0).d 0).length <= 1000) && ((ae ([.r [.r a12]] : List Dat) 0).d 0).all cw)) <|
 chk (decide (0 <= a3)) <|
 chk (decide (0 <= a3)) <|
 chk (decide (0 <= a3)) <|
 chk (decide (0 <= a3)) <|
 chk (decide (0 <= a3)) <|
 xo m m ((a13.length : Int), 0, a4, a5, a6, a7, a8, a9, a10, a11, a12, a13, a14, a0, (⟨a1.eH, (af 1 ((ae ([.r [.r a12]] : List Dat) 0).d 0)), (w64 (a6.rin - a6.aG)), a6.out, a6.fee⟩ : dM), a6.mode, (⟨false, 0, 0, 0, 0, 0, 0, 0, 0, 0, 0⟩ : eZ), (⟨0, 0, 0, 0, 0⟩ : dM), 0, [], [], [])
theorem Ku (m : Nat) (xa : ao) (xb : an) (xn : ah) (x1 x2 x3 x4 x5 x6 py : List Dat) (ra za : eZ) (rb zb : dM) (nx zx : Int) (z1 z2 : List Dat) : ∀ (rest pre : List Dat) (n : Nat), rest.length < n -> (pre ++ rest).length <= 1000 -> (∀ d ∈ rest, aH d = true) ->
 xo m n (((pre ++ rest).length : Int), (pre.length : Int), xa, xb, xn, x1, x2, x3, x4, x5, x6, pre ++ rest, py, ra, rb, nx, za, zb, zx, pre.map zz, z1, z2) =
  some (Uns.enc ra ++ Uns.enc rb ++ [.i nx] ++ Uns.enc xa ++ Uns.enc xb ++ Uns.enc xn ++ [.d x1, .d x2, .d x3, .d x4, .d x5, .d x6, .d (pre ++ rest), .d py, .d ((pre ++ rest).map zz)]) := by
 intro rest
 induction rest with
 | nil =>
  intro pre n hn hl hg; obtain ⟨n, rfl⟩ := al n (by simp at hn; omega); rw [vZ]; unfold zW; dsimp only; simp [aB]
 | cons x rest ih =>
  intro pre n hn hl hg; obtain ⟨n, rfl⟩ := al n (by simp at hn; omega); simp only [zaf, zai] at hn hl; have e := Hk (hg x (by simp)); have := ih (pre ++ [x]) n (by omega) (by simp; omega) (fun d hd => hg d (by simp [hd])); rw [zbT, show [x].map zz = [.r [.n (aK x), .n (x.i 5), .n (x.i 6)]] from rfl] at this; rw [vZ]; unfold zW; dsimp only; simp only [LNi, ar, lt_eq, e]; simp (disch := omega) only [TRa, TRi, aa, LNl, LNi, zaa, ar]; simp only [LNl, LNi, zaa] at this ⊢; exact this
def f53 : eZ × dM × Int × Int × ao × an × ah × List Dat × List Dat × List Dat × List Dat × List Dat × List Dat × List Dat × List Dat -> Bool × List Un := fun (a0, a1, a2, a3, a4, a5, a6, a7, a8, a9, a10, a11, a12, a13, a14) => (decide (0 <= a3) && (decide (0 <= a6.aG /\ a6.aG <= a6.rin /\ a6.rin <= 1152921504606846976) && ((decide (a12.length <= 1000) && a12.all cw) && (decide (a13.length <= 1000) && a13.all aH))), Uns.enc ((a0) : eZ) ++ Uns.enc (((⟨a1.eH, af 1 a12, a6.rin - a6.aG, a6.out, a6.fee⟩ : dM)) : dM) ++ [.i (a6.mode)] ++ Uns.enc ((a4) : ao) ++ Uns.enc ((a5) : an) ++ Uns.enc ((a6) : ah) ++ [.d (a7), .d (a8), .d (a9), .d (a10), .d (a11), .d (a12), .d (a13), .d (a14), .d (a13.map zz)])
theorem Nr (a0 : eZ) (a1 : dM) (a2 : Int) (a3 : Int) (a4 : ao) (a5 : an) (a6 : ah) (a7 : List Dat) (a8 : List Dat) (a9 : List Dat) (a10 : List Dat) (a11 : List Dat) (a12 : List Dat) (a13 : List Dat) (a14 : List Dat) (hc : (decide (0 <= a3) && (decide (0 <= a6.aG /\ a6.aG <= a6.rin /\ a6.rin <= 1152921504606846976) && ((decide (a12.length <= 1000) && a12.all cw) && (decide (a13.length <= 1000) && a13.all aH)))) = true) : ∃ m, t53 m (a0, a1, a2, a3, a4, a5, a6, a7, a8, a9, a10, a11, a12, a13, a14) = some (Uns.enc ((a0) : eZ) ++ Uns.enc (((⟨a1.eH, af 1 a12, a6.rin - a6.aG, a6.out, a6.fee⟩ : dM)) : dM) ++ [.i (a6.mode)] ++ Uns.enc ((a4) : ao) ++ Uns.enc ((a5) : an) ++ Uns.enc ((a6) : ah) ++ [.d (a7), .d (a8), .d (a9), .d (a10), .d (a11), .d (a12), .d (a13), .d (a14), .d (a13.map zz)]) := by
 simp only [zab, zac, zam] at hc; obtain ⟨h0, ⟨h4, h5, h6⟩, ⟨h7, h8⟩, h9, h10⟩ := hc; have hb := yY h7 h8; have hlb : (decide (a12.length <= 1000) && a12.all cw) = true := by rw [zab, zam]; exact ⟨zad h7, h8⟩
 refine ⟨a13.length + 1, ?_⟩; unfold t53; dsimp only [lt]; simp only [aV h0]; refine aR (zan.2 ⟨rfl, hlb⟩) ?_
 rw [aa (n := a6.rin - a6.aG) (by omega) (by omega)]; exact Ku _ a4 a5 a6 a7 a8 a9 a10 a11 a12 a14 a0 _ _ _ _ _ _ _ a13 [] (a13.length + 1) (by omega) (by simpa using h9) h10
theorem L8 : ER 53 (mkE N53.en N53.ex f53) := aq ak T49.right (fun m => [HM (xo m m)]) (t := t53) (by kernel_rfl) (fun m => (aJ (Pz m m) aA)) (fun m a => by kernel_rfl) fun (a0, a1, a2, a3, a4, a5, a6, a7, a8, a9, a10, a11, a12, a13, a14) hc => Nr a0 a1 a2 a3 a4 a5 a6 a7 a8 a9 a10 a11 a12 a13 a14 hc
def T53 : Tb Tryz.prog LQ TE := T49.add 53 _ L8
def bp : List Dat -> List Dat
 | [] => []
 | d :: l => (if 0 < d.i 1 then [.r [.n (d.i 0), .n 0, .n (d.i 1), .n 0, .n 0, .n 0, .n (bI false)]] else []) ++ bp l
def N87 : aD := ⟨T53.tab, 87, ⟨[.np 0 0 0], br 0, 0⟩, ⟨[.agg [.int .i64, .int .i64, .int .i64, .int .i64]], [.cells [.int .i64, .int .i64, .int .i64, .buf 1 2, .buf 2 3, .int .i64, .int .i64, .int .i64, .int .i64, .int .i64, .int .i64, .int .i64, .int .i64, .int .i64, .int .i64, .buf 3 2, .buf 4 2, .buf 5 2, .ptr 6 0 0, .buf 8 7, .int .i64, .int .i64, .int .i64, .int .i64, .int .i64, .int .i64, .int .i64, .int .i64, .int .i64, .bool], .ag (sI 2), .ag (sI 3), .ag (sI 2), .ag (sI 2), .ag (sI 2), .cells [.buf 9 5], .gone, .ag (sI 7), .ag (sB 4)], 0⟩, []⟩
abbrev E3 : Type := Int × Int × Int × ao × an × ah × List Dat × List Dat × List Dat × List Dat × List Dat × List Dat × Int × Int × Int × Int × List Dat × List Dat × List Dat
def zM (m : Nat) (k : E3 -> Option (List Un)) : E3 -> Option (List Un) := fun (a0, a1, a2, a3, a4, a5, a6, a7, a8, a9, a10, a11, a12, a13, a14, a15, a16, a17, a18) =>
 bif decide (a2 < a1) then
 chk (inb a2 a17.length) <|
 chk (decide (a2.toNat < a17.length)) <|
 lt (ae a17 a2.toNat : Dat) fun d2 =>
 bif decide ((d2.i 1) > 0) then
 chk (fits (a16.length + 1) 56) <|
 k (a0, a1, (w64 (a2 + 1)), a3, a4, a5, a6, a7, a8, a9, a10, a11, a12, a13, a14, a15, (a16 ++ ([.r [.n (d2.i 0), .n 0, .n (d2.i 1), .n 0, .n 0, .n 0, .n (bI false)]])), a17, a18)
 else
 k (a0, a1, (w64 (a2 + 1)), a3, a4, a5, a6, a7, a8, a9, a10, a11, a12, a13, a14, a15, a16, a17, a18)
 else
 chk (decide (0 <= a0)) <|
 chk (decide (a18.length < 1000000)) <|
 some ([.i ((av a16 a18).p), .i ((av a16 a18).q), .i ((av a16 a18).l), .i ((av a16 a18).r)] ++ Uns.enc (a3 : ao) ++ Uns.enc (a4 : an) ++ Uns.enc (a5 : ah) ++ [.d a6, .d a7, .d a8, .d a9, .d a10, .d a11, .d ((av a16 a18).ax)])
def yd (m : Nat) : Nat -> E3 -> Option (List Un) := bo (zM m)
theorem wC (m : Nat) (n : Nat) : yd m (n + 1) = zM m (yd m n) := rfl
def Iu (F : E3 -> Option (List Un)) : aU := ⟨[.lp [0, 1, 0, 1, 1], .blk 0, .code [1, 1, 1]], ⟨frm 43 [(0, .np 0 0 0), (2, .ptr 9 0 0), (3, .buf 10 7), (12, .buf 11 5), (13, .int .i64), (14, .int .i64)], [.cells [.int .i64, .int .i64, .int .i64, .buf 1 2, .buf 2 3, .int .i64, .int .i64, .int .i64, .int .i64, .int .i64, .int .i64, .int .i64, .int .i64, .int .i64, .int .i64, .buf 3 2, .buf 4 2, .buf 5 2, .ptr 6 0 0, .buf 8 7, .int .i64, .int .i64, .int .i64, .int .i64, .int .i64, .int .i64, .int .i64, .int .i64, .int .i64, .bool], .ag (sI 2), .ag (sI 3), .ag (sI 2), .ag (sI 2), .ag (sI 2), .cells [.buf 12 5], .gone, .ag (sI 7), .cells [.int .i64, .int .i64, .int .i64, .int .i64], .ag (sB 6), .ag (sB 4), .ag (sB 4)], 0⟩, onU F⟩
theorem Re (m : Nat) : ∀ n, HO N87 (Iu (yd m n)) := ay ak T53.right (fun k => [Iu k]) (fun k h => (aJ h aA)) fun k a => by kernel_rfl
def t87 (m : Nat) : Int × ao × an × ah × List Dat × List Dat × List Dat × List Dat × List Dat × List Dat × List Dat -> Option (List Un) := fun (a0, a1, a2, a3, a4, a5, a6, a7, a8, a9, a10) =>
 chk (decide (0 <= a0)) <|
 chk (decide (0 < ([.r [.r a9]] : List Dat).length) && decide (((ae ([.r [.r a9]] : List Dat) 0).d 0).length < 1000000)) <|
 lt (((ae ([.r [.r a9]] : List Dat) 0).d 0) : List Dat) fun l1 =>
 yd m m (a0, (l1.length : Int), 0, a1, a2, a3, a4, a5, a6, a7, a8, a10, 0, 0, 0, 0, [], l1, a9)
theorem Nx (m : Nat) (p0 : Int) (hp0 : 0 <= p0) (xa : ao) (xb : an) (xn : ah) (x1 x2 x3 x4 x5 x6 pl : List Dat) (hpl : pl.length < 1000000) (z1 z2 z3 z4 : Int) : ∀ (rest pre acc : List Dat) (n : Nat), rest.length < n -> (pre ++ rest).length < 1000000 -> acc.length <= pre.length ->
 yd m n (p0, ((pre ++ rest).length : Int), (pre.length : Int), xa, xb, xn, x1, x2, x3, x4, x5, x6, z1, z2, z3, z4, acc, pre ++ rest, pl) =
  some ([.i (av (acc ++ bp rest) pl).p, .i (av (acc ++ bp rest) pl).q, .i (av (acc ++ bp rest) pl).l, .i (av (acc ++ bp rest) pl).r] ++ Uns.enc xa ++ Uns.enc xb ++ Uns.enc xn ++ [.d x1, .d x2, .d x3, .d x4, .d x5, .d x6, .d (av (acc ++ bp rest) pl).ax]) := by
 intro rest
 induction rest with
 | nil =>
  intro pre acc n hn hl ha; obtain ⟨n, rfl⟩ := al n (by simp at hn; omega); rw [wC]; unfold zM; dsimp only; rw [aB (by simp), aV hp0, aV hpl, bp, zaK]
 | cons x rest ih =>
  intro pre acc n hn hl ha; obtain ⟨n, rfl⟩ := al n (by simp at hn; omega); simp only [zaf, zai] at hn hl; have := fun acc h => ih (pre ++ [x]) acc n (by omega) (by simp; omega) h
  unfold bp; rw [wC]; unfold zM; dsimp only
  by_cases h1 : x.i 1 > 0
  . have := this (acc ++ [.r [.n (x.i 0), .n 0, .n (x.i 1), .n 0, .n 0, .n 0, .n (bI false)]]) (by simp; omega); rw [if_pos h1, <- zaA]; simp (disch := omega) only [TRa, aa, LNi, zaa, ar, zai, zaf, zaB]; simp only [zai, zaf, zaB, zaA, zaY, zaH, LNi, zaa] at this ⊢; exact this
  . have := this acc (by simp; omega); rw [if_neg h1, zaH]; simp (disch := omega) only [TRa, TRi, aa, LNl, LNi, zaa, ar]; simp only [LNl, LNi, zaa] at this ⊢; exact this
def f87 : Int × ao × an × ah × List Dat × List Dat × List Dat × List Dat × List Dat × List Dat × List Dat -> Bool × List Un := fun (a0, a1, a2, a3, a4, a5, a6, a7, a8, a9, a10) => (decide (0 <= a0) && decide (a9.length < 1000000), [.i ((av (bp a9) a9).p), .i ((av (bp a9) a9).q), .i ((av (bp a9) a9).l), .i ((av (bp a9) a9).r)] ++ Uns.enc ((a1) : ao) ++ Uns.enc ((a2) : an) ++ Uns.enc ((a3) : ah) ++ [.d (a4), .d (a5), .d (a6), .d (a7), .d (a8), .d (a10), .d ((av (bp a9) a9).ax)])
theorem NS (a0 : Int) (a1 : ao) (a2 : an) (a3 : ah) (a4 : List Dat) (a5 : List Dat) (a6 : List Dat) (a7 : List Dat) (a8 : List Dat) (a9 : List Dat) (a10 : List Dat) (hc : (decide (0 <= a0) && decide (a9.length < 1000000)) = true) : ∃ m, t87 m (a0, a1, a2, a3, a4, a5, a6, a7, a8, a9, a10) = some ([.i ((av (bp a9) a9).p), .i ((av (bp a9) a9).q), .i ((av (bp a9) a9).l), .i ((av (bp a9) a9).r)] ++ Uns.enc ((a1) : ao) ++ Uns.enc ((a2) : an) ++ Uns.enc ((a3) : ah) ++ [.d (a4), .d (a5), .d (a6), .d (a7), .d (a8), .d (a10), .d ((av (bp a9) a9).ax)]) := by
 simp only [zab, zac] at hc; obtain ⟨h0, h⟩ := hc; refine ⟨a9.length + 1, ?_⟩; unfold t87; dsimp only [lt]; refine aR (zad h0) ?_
 refine aR (zan.2 ⟨rfl, zad h⟩) ?_
 exact Nx _ a0 h0 a1 a2 a3 a4 a5 a6 a7 a8 a10 a9 h _ _ _ _ a9 [] [] (a9.length + 1) (by omega) (by simpa using h) (by simp)
theorem JA : ER 87 (mkE N87.en N87.ex f87) := aq ak T53.right (fun m => [Iu (yd m m)]) (t := t87) (by kernel_rfl) (fun m => (aJ (Re m m) aA)) (fun m a => by kernel_rfl) fun (a0, a1, a2, a3, a4, a5, a6, a7, a8, a9, a10) hc => NS a0 a1 a2 a3 a4 a5 a6 a7 a8 a9 a10 hc
def T87 : Tb Tryz.prog LQ TE := T53.add 87 _ JA
def Ij (d : Dat) : Dat := .r [.n (d.i 0), .n (d.i 1), .n (d.i 2), .n (d.i 3)]
def jv : List Dat -> List Dat
 | [] => []
 | d :: l => (if 0 < d.i 3 then [Ij d] else []) ++ jv l
def fq : Int -> List Dat -> List Dat
 | _, [] => []
 | i, d :: c => .r [.n 0, .n 3, .n i, .n (d.i 5)] :: .r [.n 0, .n 7, .n i, .n (aK d)] :: fq (i + 1) c
def fp (fee out : Int) (c : List Dat) : List Dat := jv (.r [.n 0, .n 1, .n (-1), .n fee] :: .r [.n 0, .n 2, .n (-1), .n out] :: fq 0 c)
theorem A0 : ∀ (c : List Dat) (i : Int), (fq i c).length = 2 * c.length
 | [], _ => rfl
 | d :: c, i => by simp only [fq, zaf, A0 c]; omega
def N85 : aD := ⟨T87.tab, 85, ⟨[.np 0 0 0], br 0, 9⟩, ⟨[.buf 9 4], br 0 ++ [.ag (sI 4)], 9⟩, []⟩
abbrev EH : Type := Int × Int × ao × an × ah × List Dat × List Dat × List Dat × List Dat × List Dat × List Dat × List Dat × List Dat × List Dat
abbrev EM : Type := Int × Int × ao × an × ah × List Dat × List Dat × List Dat × List Dat × List Dat × List Dat × List Dat × List Dat
def Aa (m : Nat) (k : EH -> Option (List Un)) : EH -> Option (List Un) := fun (a0, a1, a2, a3, a4, a5, a6, a7, a8, a9, a10, a11, a12, a13) =>
 bif decide (a1 < a0) then
 chk (inb a1 a13.length) <|
 chk (decide (a1.toNat < a13.length)) <|
 lt (ae a13 a1.toNat : Dat) fun d4 =>
 bif decide ((d4.i 3) > 0) then
 chk (fits (a12.length + 1) 32) <|
 k (a0, (w64 (a1 + 1)), a2, a3, a4, a5, a6, a7, a8, a9, a10, a11, (a12 ++ ([.r [.n (d4.i 0), .n (d4.i 1), .n (d4.i 2), .n (d4.i 3)]])), a13)
 else
 k (a0, (w64 (a1 + 1)), a2, a3, a4, a5, a6, a7, a8, a9, a10, a11, a12, a13)
 else
 some (Uns.enc (a2 : ao) ++ Uns.enc (a3 : an) ++ Uns.enc (a4 : ah) ++ [.d a5, .d a6, .d a7, .d a8, .d a9, .d a10, .d a11, .d a12])
def yb (m : Nat) : Nat -> EH -> Option (List Un) := bo (Aa m)
theorem ud (m : Nat) (n : Nat) : yb m (n + 1) = Aa m (yb m n) := rfl
def G7 (F : EH -> Option (List Un)) : aU := ⟨[.lp [0, 1, 0, 1, 1, 1, 1], .blk 2, .code [1, 1, 1, 1, 1]], ⟨frm 57 [(6, .buf 9 4), (42, .buf 10 4), (43, .int .i64), (44, .int .i64)], br 0 ++ [.ag (sI 4), .ag (sI 4)], 9⟩, onU F⟩
def z6 (m : Nat) (k : EM -> Option (List Un)) : EM -> Option (List Un) := fun (a0, a1, a2, a3, a4, a5, a6, a7, a8, a9, a10, a11, a12) =>
 bif decide (a1 < a0) then
 chk (inb a1 a11.length) <|
 chk (decide (a1.toNat < a11.length)) <|
 lt (ae a11 a1.toNat : Dat) fun d1 =>
 chk (fits (a12.length + 2) 32) <|
 k (a0, (w64 (a1 + 1)), a2, a3, a4, a5, a6, a7, a8, a9, a10, a11, (a12 ++ ([.r [.n 0, .n 3, .n a1, .n (d1.i 5)], .r [.n 0, .n 7, .n a1, .n (w64 (w64 ((d1.i 1) - w64 ((d1.i 3) - (d1.i 4))) - (d1.i 6)))]])))
 else
 yb m m ((a12.length : Int), 0, a2, a3, a4, a5, a6, a7, a8, a9, a10, a11, [], a12)
def xx (m : Nat) : Nat -> EM -> Option (List Un) := bo (z6 m)
theorem uk (m : Nat) (n : Nat) : xx m (n + 1) = z6 m (xx m n) := rfl
def GK (F : EM -> Option (List Un)) : aU := ⟨[.lp [0, 1, 0, 1, 1], .blk 0, .code [1, 1, 1]], ⟨frm 57 [(3, .buf 9 4), (23, .buf 8 7), (24, .int .i64), (25, .int .i64)], br 0 ++ [.ag (sI 4)], 9⟩, onU F⟩
theorem Qf (m : Nat) : ∀ n, HO N85 (G7 (yb m n)) := ay ak T87.right (fun k => [G7 k]) (fun k h => (aJ h aA)) fun k a => by kernel_rfl
theorem QJ (m : Nat) : ∀ n, HO N85 (GK (xx m n)) := ay ak T87.right (fun k => [GK k, G7 (yb m m)]) (fun k h => (aJ h (aJ (Qf m m) aA))) fun k a => by kernel_rfl
def t85 (m : Nat) : Int × ao × an × ah × List Dat × List Dat × List Dat × List Dat × List Dat × List Dat × List Dat -> Option (List Un) := fun (a0, a1, a2, a3, a4, a5, a6, a7, a8, a9, a10) =>
 chk (decide (0 <= a0)) <|
 chk (decide (0 <= a0)) <|
 chk (decide (0 <= a0)) <|
 xx m m ((a10.length : Int), 0, a1, a2, a3, a4, a5, a6, a7, a8, a9, a10, ([.r [.n 0, .n 1, .n (-1), .n a3.fee], .r [.n 0, .n 2, .n (-1), .n a3.out]] : List Dat))
section
variable (m : Nat) (xa : ao) (xb : an) (xn : ah) (x1 x2 x3 x4 x5 x6 x7 : List Dat)
theorem PG : ∀ (rest pre acc : List Dat) (n : Nat), rest.length < n -> (pre ++ rest).length <= 3000 -> acc.length <= pre.length ->
 yb m n (((pre ++ rest).length : Int), (pre.length : Int), xa, xb, xn, x1, x2, x3, x4, x5, x6, x7, acc, pre ++ rest) = some (Uns.enc xa ++ Uns.enc xb ++ Uns.enc xn ++ [.d x1, .d x2, .d x3, .d x4, .d x5, .d x6, .d x7, .d (acc ++ jv rest)]) := by
 intro rest
 induction rest with
 | nil =>
  intro pre acc n hn hl ha; obtain ⟨n, rfl⟩ := al n (by simp at hn; omega); rw [ud]; unfold Aa; dsimp only; rw [aB (by simp), jv, zaK]
 | cons x rest ih =>
  intro pre acc n hn hl ha; obtain ⟨n, rfl⟩ := al n (by simp at hn; omega); simp only [zaf, zai] at hn hl; have := fun acc h => ih (pre ++ [x]) acc n (by omega) (by simp; omega) h
  unfold jv; rw [ud]; unfold Aa; dsimp only
  by_cases h1 : x.i 3 > 0
  . have := this (acc ++ [Ij x]) (by simp; omega); unfold Ij at this ⊢; rw [if_pos h1, <- zaA]; simp (disch := omega) only [TRa, aa, LNi, zaa, ar, zai, zaf, zaB]; simp only [zai, zaf, zaB, zaA, zaY, zaH, LNi, zaa] at this ⊢; exact this
  . have := this acc (by simp; omega); rw [if_neg h1, zaH]; simp (disch := omega) only [TRa, TRi, aa, LNl, LNi, zaa, ar]; simp only [LNl, LNi, zaa] at this ⊢; exact this
theorem Qh (hm : 3000 < m) : ∀ (rest pre acc : List Dat) (n : Nat), rest.length < n -> (pre ++ rest).length <= 1000 -> (∀ d ∈ rest, aH d = true) -> acc.length = 2 + 2 * pre.length ->
 xx m n (((pre ++ rest).length : Int), (pre.length : Int), xa, xb, xn, x1, x2, x3, x4, x5, x6, pre ++ rest, acc) = some (Uns.enc xa ++ Uns.enc xb ++ Uns.enc xn ++ [.d x1, .d x2, .d x3, .d x4, .d x5, .d x6, .d (pre ++ rest), .d (jv (acc ++ fq pre.length rest))]) := by
 intro rest
 induction rest with
 | nil =>
  intro pre acc n hn hl hg ha; obtain ⟨n, rfl⟩ := al n (by simp at hn; omega); simp only [zaK] at hl; rw [uk]; unfold z6; dsimp only; rw [aB (by simp)]; refine (PG m xa xb xn x1 x2 x3 x4 x5 x6 (pre ++ []) acc [] [] m (by omega) (by simp; omega) (by simp)).trans ?_
  simp only [fq, zaK, zaH]
 | cons x rest ih =>
  intro pre acc n hn hl hg ha; obtain ⟨n, rfl⟩ := al n (by simp at hn; omega); simp only [zaf, zai] at hn hl; have e := Hk (hg x (by simp)); have := ih (pre ++ [x]) (acc ++ [.r [.n 0, .n 3, .n (pre.length : Int), .n (x.i 5)], .r [.n 0, .n 7, .n (pre.length : Int), .n (aK x)]]) n (by omega) (by simp; omega) (fun d hd => hg d (by simp [hd])) (by simp; omega); unfold fq; rw [uk]; unfold z6; dsimp only; simp only [LNi, ar, lt_eq, e]; simp (disch := omega) only [TRa, TRi, aa, LNl, LNi, zaa, ar]; simp only [LNl, LNi, zaa] at this ⊢; exact this
end
def f85 : Int × ao × an × ah × List Dat × List Dat × List Dat × List Dat × List Dat × List Dat × List Dat -> Bool × List Un := fun (a0, a1, a2, a3, a4, a5, a6, a7, a8, a9, a10) => (decide (0 <= a0) && (decide (a10.length <= 1000) && a10.all aH), Uns.enc ((a1) : ao) ++ Uns.enc ((a2) : an) ++ Uns.enc ((a3) : ah) ++ [.d (a4), .d (a5), .d (a6), .d (a7), .d (a8), .d (a9), .d (a10), .d (fp a3.fee a3.out a10)])
theorem Oc (a0 : Int) (a1 : ao) (a2 : an) (a3 : ah) (a4 : List Dat) (a5 : List Dat) (a6 : List Dat) (a7 : List Dat) (a8 : List Dat) (a9 : List Dat) (a10 : List Dat) (hc : (decide (0 <= a0) && (decide (a10.length <= 1000) && a10.all aH)) = true) : ∃ m, t85 m (a0, a1, a2, a3, a4, a5, a6, a7, a8, a9, a10) = some (Uns.enc ((a1) : ao) ++ Uns.enc ((a2) : an) ++ Uns.enc ((a3) : ah) ++ [.d (a4), .d (a5), .d (a6), .d (a7), .d (a8), .d (a9), .d (a10), .d (fp a3.fee a3.out a10)]) := by
 simp only [zab, zac, zam] at hc; refine ⟨3001 + a10.length, ?_⟩; unfold t85; dsimp only; simp only [aV hc.1]; exact Qh _ a1 a2 a3 a4 a5 a6 a7 a8 a9 (by omega) a10 [] _ _ (by omega) (by simpa using hc.2.1) hc.2.2 rfl
theorem Mi : ER 85 (mkE N85.en N85.ex f85) := aq ak T87.right (fun m => [GK (xx m m)]) (t := t85) (by kernel_rfl) (fun m => (aJ (QJ m m) aA)) (fun m a => by kernel_rfl) fun (a0, a1, a2, a3, a4, a5, a6, a7, a8, a9, a10) hc => Oc a0 a1 a2 a3 a4 a5 a6 a7 a8 a9 a10 hc
def T85 : Tb Tryz.prog LQ TE := T87.add 85 _ Mi
def Gi (a b p : Int) : Bool := decide (0 <= a /\ a <= 1099511627776 /\ 0 <= b /\ b <= 1099511627776 /\ 0 <= p /\ p <= 100000)
def bH (a b p : Int) : Bool := Gi a b p && decide (b * p <= a * 10000)
def bK (a b p : Int) : Bool := Gi a b p && decide (a * 10000 <= b * p)
def PO : aD := ⟨T85.tab, 110, ⟨[.int .i64, .int .i64, .int .i64], [], 0⟩, ⟨[.bool], [], 0⟩, []⟩
def t110 (m : Nat) : Int × Int × Int -> Option (List Un) := fun (a0, a1, a2) =>
 bif decide (a0 >= 0) then
 bif (decide (a0 <= 1099511627776)) then
 bif decide (a1 >= 0) then
 bif (decide (a1 <= 1099511627776)) then
 bif decide (a2 >= 0) then
 bif decide (a2 <= 100000) then
 some ([.b (decide ((w64 (a0 * 10000)) >= (w64 (a1 * a2))))])
 else
 some ([.b false])
 else
 some ([.b false])
 else
 some ([.b false])
 else
 some ([.b false])
 else
 some ([.b false])
 else
 some ([.b false])
def f110 : Int × Int × Int -> Bool × List Un := fun (a0, a1, a2) => (true, [.b (bH a0 a1 a2)])
theorem KZ (a0 : Int) (a1 : Int) (a2 : Int) : ∃ m, t110 m (a0, a1, a2) = some ([.b (bH a0 a1 a2)]) := by
 unfold t110 bH Gi; dsimp only [ge_iff_le]
 by_cases h : 0 <= a0 /\ a0 <= 1099511627776 /\ 0 <= a1 /\ a1 <= 1099511627776 /\ 0 <= a2 /\ a2 <= 100000
 . obtain ⟨h1, h2, h3, h4, h5, h6⟩ := h; have hm := Int.mul_le_mul h4 h6 h5 (show (0 : Int) <= 1099511627776 by omega); have hm0 := zaZ h3 h5; refine ⟨0, ?_⟩; rw [zad (show 0 <= a0 /\ a0 <= 1099511627776 /\ 0 <= a1 /\ a1 <= 1099511627776 /\ 0 <= a2 /\ a2 <= 100000 from ⟨h1, h2, h3, h4, h5, h6⟩)]; simp (disch := omega) only [TRa, aa, zba]
 . refine ⟨0, ?_⟩; rw [zaL h]
   by_cases h1 : 0 <= a0
   . by_cases h2 : a0 <= 1099511627776
     . by_cases h3 : 0 <= a1
       . by_cases h4 : a1 <= 1099511627776
         . by_cases h5 : 0 <= a2
           . simp [h1, h2, h3, h4, h5, show ¬ a2 <= 100000 by omega]
           . simp [h1, h2, h3, h4, h5]
         . simp [h1, h2, h3, h4]
       . simp [h1, h2, h3]
     . simp [h1, h2]
   . simp [h1]
theorem Ir : ER 110 (mkE PO.en PO.ex f110) := aq ak T85.right (fun m => []) (t := t110) (by kernel_rfl) (fun m => aA) (fun m a => by kernel_rfl) fun (a0, a1, a2) hc => KZ a0 a1 a2
def Ol : Tb Tryz.prog LQ TE := T85.add 110 _ Ir
def P0 : aD := ⟨Ol.tab, 111, ⟨[.int .i64, .int .i64, .int .i64], [], 0⟩, ⟨[.bool], [], 0⟩, []⟩
def t111 (m : Nat) : Int × Int × Int -> Option (List Un) := fun (a0, a1, a2) =>
 bif decide (a0 >= 0) then
 bif (decide (a0 <= 1099511627776)) then
 bif decide (a1 >= 0) then
 bif (decide (a1 <= 1099511627776)) then
 bif decide (a2 >= 0) then
 bif decide (a2 <= 100000) then
 some ([.b (decide ((w64 (a0 * 10000)) <= (w64 (a1 * a2))))])
 else
 some ([.b false])
 else
 some ([.b false])
 else
 some ([.b false])
 else
 some ([.b false])
 else
 some ([.b false])
 else
 some ([.b false])
def f111 : Int × Int × Int -> Bool × List Un := fun (a0, a1, a2) => (true, [.b (bK a0 a1 a2)])
theorem Jj (a0 : Int) (a1 : Int) (a2 : Int) : ∃ m, t111 m (a0, a1, a2) = some ([.b (bK a0 a1 a2)]) := by
 unfold t111 bK Gi; dsimp only [ge_iff_le]
 by_cases h : 0 <= a0 /\ a0 <= 1099511627776 /\ 0 <= a1 /\ a1 <= 1099511627776 /\ 0 <= a2 /\ a2 <= 100000
 . obtain ⟨h1, h2, h3, h4, h5, h6⟩ := h; have hm := Int.mul_le_mul h4 h6 h5 (show (0 : Int) <= 1099511627776 by omega); have hm0 := zaZ h3 h5; refine ⟨0, ?_⟩; rw [zad (show 0 <= a0 /\ a0 <= 1099511627776 /\ 0 <= a1 /\ a1 <= 1099511627776 /\ 0 <= a2 /\ a2 <= 100000 from ⟨h1, h2, h3, h4, h5, h6⟩)]; simp (disch := omega) only [TRa, aa, zba]
 . refine ⟨0, ?_⟩; rw [zaL h]
   by_cases h1 : 0 <= a0
   . by_cases h2 : a0 <= 1099511627776
     . by_cases h3 : 0 <= a1
       . by_cases h4 : a1 <= 1099511627776
         . by_cases h5 : 0 <= a2
           . simp [h1, h2, h3, h4, h5, show ¬ a2 <= 100000 by omega]
           . simp [h1, h2, h3, h4, h5]
         . simp [h1, h2, h3, h4]
       . simp [h1, h2, h3]
     . simp [h1, h2]
   . simp [h1]
theorem HS : ER 111 (mkE P0.en P0.ex f111) := aq ak Ol.right (fun m => []) (t := t111) (by kernel_rfl) (fun m => aA) (fun m a => by kernel_rfl) fun (a0, a1, a2) hc => Jj a0 a1 a2
def Nq : Tb Tryz.prog LQ TE := Ol.add 111 _ HS
def N51 : aD := ⟨Nq.tab, 51, ⟨[.agg [.int .i64, .int .i64, .int .i64, .int .i64, .int .i64], .agg [.int .i64, .int .i64, .int .i64, .int .i64, .int .i64, .int .i64, .int .i64]], [], 0⟩, ⟨[.agg [.bool, .bool, .bool, .bool]], [], 0⟩, []⟩
def t51 (m : Nat) : Int × Int × Int × Int × Int × Int × Int × Int × Int × Int × Int × Int -> Option (List Un) := fun (a0, a1, a2, a3, a4, a5, a6, a7, a8, a9, a10, a11) =>
 bif a0 == 0 then
 bif a1 == 0 then
 bif a2 == 0 then
 bif a3 == 0 then
 some ([.b true, .b true, .b true, .b true])
 else
 some ([.b true, .b true, .b true, .b (bK a11 a6 a3)])
 else
 bif a3 == 0 then
 some ([.b true, .b true, .b (bK a10 a5 a2), .b true])
 else
 some ([.b true, .b true, .b (bK a10 a5 a2), .b (bK a11 a6 a3)])
 else
 bif a2 == 0 then
 bif a3 == 0 then
 some ([.b true, .b (bH a8 a9 a1), .b true, .b true])
 else
 some ([.b true, .b (bH a8 a9 a1), .b true, .b (bK a11 a6 a3)])
 else
 bif a3 == 0 then
 some ([.b true, .b (bH a8 a9 a1), .b (bK a10 a5 a2), .b true])
 else
 some ([.b true, .b (bH a8 a9 a1), .b (bK a10 a5 a2), .b (bK a11 a6 a3)])
 else
 bif a1 == 0 then
 bif a2 == 0 then
 bif a3 == 0 then
 some ([.b (bH a5 a7 a0), .b true, .b true, .b true])
 else
 some ([.b (bH a5 a7 a0), .b true, .b true, .b (bK a11 a6 a3)])
 else
 bif a3 == 0 then
 some ([.b (bH a5 a7 a0), .b true, .b (bK a10 a5 a2), .b true])
 else
 some ([.b (bH a5 a7 a0), .b true, .b (bK a10 a5 a2), .b (bK a11 a6 a3)])
 else
 bif a2 == 0 then
 bif a3 == 0 then
 some ([.b (bH a5 a7 a0), .b (bH a8 a9 a1), .b true, .b true])
 else
 some ([.b (bH a5 a7 a0), .b (bH a8 a9 a1), .b true, .b (bK a11 a6 a3)])
 else
 bif a3 == 0 then
 some ([.b (bH a5 a7 a0), .b (bH a8 a9 a1), .b (bK a10 a5 a2), .b true])
 else
 some ([.b (bH a5 a7 a0), .b (bH a8 a9 a1), .b (bK a10 a5 a2), .b (bK a11 a6 a3)])
def f51 : Int × Int × Int × Int × Int × Int × Int × Int × Int × Int × Int × Int -> Bool × List Un := fun (a0, a1, a2, a3, a4, a5, a6, a7, a8, a9, a10, a11) => (true, [.b ((a0 == 0 || bH a5 a7 a0)), .b ((a1 == 0 || bH a8 a9 a1)), .b ((a2 == 0 || bK a10 a5 a2)), .b ((a3 == 0 || bK a11 a6 a3))])
theorem M3 (a0 : Int) (a1 : Int) (a2 : Int) (a3 : Int) (a4 : Int) (a5 : Int) (a6 : Int) (a7 : Int) (a8 : Int) (a9 : Int) (a10 : Int) (a11 : Int) : ∃ m, t51 m (a0, a1, a2, a3, a4, a5, a6, a7, a8, a9, a10, a11) = some ([.b ((a0 == 0 || bH a5 a7 a0)), .b ((a1 == 0 || bH a8 a9 a1)), .b ((a2 == 0 || bK a10 a5 a2)), .b ((a3 == 0 || bK a11 a6 a3))]) := by
 refine ⟨0, ?_⟩; unfold t51; dsimp only; cases a0 == 0 <;> cases a1 == 0 <;> cases a2 == 0 <;> cases a3 == 0 <;> rfl
theorem Lm : ER 51 (mkE N51.en N51.ex f51) := aq ak Nq.right (fun m => []) (t := t51) (by kernel_rfl) (fun m => aA) (fun m a => by kernel_rfl) fun (a0, a1, a2, a3, a4, a5, a6, a7, a8, a9, a10, a11) hc => M3 a0 a1 a2 a3 a4 a5 a6 a7 a8 a9 a10 a11
def T51 : Tb Tryz.prog LQ TE := Nq.add 51 _ Lm
def N86 : aD := ⟨T51.tab, 86, ⟨[.agg [.int .i64, .int .i64, .int .i64, .int .i64, .int .i64], .agg [.int .i64, .int .i64, .int .i64, .int .i64, .int .i64, .int .i64, .int .i64]], [], 0⟩, ⟨[.bool], [], 0⟩, []⟩
def t86 (m : Nat) : Int × Int × Int × Int × Int × Int × Int × Int × Int × Int × Int × Int -> Option (List Un) := fun (a0, a1, a2, a3, a4, a5, a6, a7, a8, a9, a10, a11) =>
 bif a4 != 0 then
 some ([.b (bK a5 a6 a4)])
 else
 some ([.b false])
def f86 : Int × Int × Int × Int × Int × Int × Int × Int × Int × Int × Int × Int -> Bool × List Un := fun (a0, a1, a2, a3, a4, a5, a6, a7, a8, a9, a10, a11) => (true, [.b ((a4 != 0 && bK a5 a6 a4))])
theorem Pm (a0 : Int) (a1 : Int) (a2 : Int) (a3 : Int) (a4 : Int) (a5 : Int) (a6 : Int) (a7 : Int) (a8 : Int) (a9 : Int) (a10 : Int) (a11 : Int) : ∃ m, t86 m (a0, a1, a2, a3, a4, a5, a6, a7, a8, a9, a10, a11) = some ([.b ((a4 != 0 && bK a5 a6 a4))]) := by
 refine ⟨0, ?_⟩; unfold t86; dsimp only; cases a4 != 0 <;> rfl
theorem K5 : ER 86 (mkE N86.en N86.ex f86) := aq ak T51.right (fun m => []) (t := t86) (by kernel_rfl) (fun m => aA) (fun m a => by kernel_rfl) fun (a0, a1, a2, a3, a4, a5, a6, a7, a8, a9, a10, a11) hc => Pm a0 a1 a2 a3 a4 a5 a6 a7 a8 a9 a10 a11
def T86 : Tb Tryz.prog LQ TE := T51.add 86 _ K5
def fZ (need has : Int) : Int := max (min (max need 0) has) 0
def Cv (need has may : Int) : Int := max (min (max need 0 - fZ need has) may) 0
def N44 : aD := ⟨T86.tab, 44, ⟨[.int .i64, .np 0 0 20, .int .i64, .int .i64], br 0, 0⟩, ⟨[.int .i64, .int .i64], br 0, 0⟩, []⟩
def t44 (m : Nat) : Int × Int × Int × Int × ao × an × ah × List Dat × List Dat × List Dat × List Dat × List Dat × List Dat × List Dat -> Option (List Un) := fun (a0, a1, a2, a3, a4, a5, a6, a7, a8, a9, a10, a11, a12, a13) =>
 lt ((if a0 < 0 then 0 else a0) : Int) fun x1 =>
 bif (!((decide (a1 < 0)) && true)) then
 chk (decide (0 <= a1)) <|
 lt ((w64 (a6.rin - a6.aG)) : Int) fun x3 =>
 lt ((if x3 < x1 then x3 else x1) : Int) fun x4 =>
 lt ((if x4 < 0 then 0 else x4) : Int) fun x5 =>
 chk (decide (0 <= a1)) <|
 chk (decide (0 <= a1)) <|
 lt ((if (w64 (a3 - a2)) < (w64 (x1 - x5)) then (w64 (a3 - a2)) else (w64 (x1 - x5))) : Int) fun x6 =>
 some ([.i x5, .i (if x6 < 0 then 0 else x6)] ++ Uns.enc (a4 : ao) ++ Uns.enc (a5 : an) ++ Uns.enc (({ a6 with aG := (w64 (a6.aG + x5)) } : ah) : ah) ++ [.d a7, .d a8, .d a9, .d a10, .d a11, .d a12, .d a13])
 else
 lt ((if (w64 (a3 - a2)) < (w64 (x1 - 0)) then (w64 (a3 - a2)) else (w64 (x1 - 0))) : Int) fun x8 =>
 some ([.i 0, .i (if x8 < 0 then 0 else x8)] ++ Uns.enc (a4 : ao) ++ Uns.enc (a5 : an) ++ Uns.enc (a6 : ah) ++ [.d a7, .d a8, .d a9, .d a10, .d a11, .d a12, .d a13])
def f44 : Int × Int × Int × Int × ao × an × ah × List Dat × List Dat × List Dat × List Dat × List Dat × List Dat × List Dat -> Bool × List Un := fun (a0, a1, a2, a3, a4, a5, a6, a7, a8, a9, a10, a11, a12, a13) => (decide (0 <= a1) && decide ((-1152921504606846976 <= a0 /\ a0 <= 1152921504606846976) /\ ((0 : Int) <= a6.aG /\ a6.aG <= a6.rin /\ a6.rin <= (1152921504606846976 : Int)) /\ (0 <= a2 /\ a2 <= 1152921504606846976) /\ (0 <= a3 /\ a3 <= 1152921504606846976)), [.i (fZ a0 (a6.rin - a6.aG)), .i (Cv a0 (a6.rin - a6.aG) (a3 - a2))] ++ Uns.enc ((a4) : ao) ++ Uns.enc ((a5) : an) ++ Uns.enc (({ a6 with aG := a6.aG + fZ a0 (a6.rin - a6.aG) }) : ah) ++ [.d (a7), .d (a8), .d (a9), .d (a10), .d (a11), .d (a12), .d (a13)])
theorem On (a0 : Int) (a1 : Int) (a2 : Int) (a3 : Int) (a4 : ao) (a5 : an) (a6 : ah) (a7 : List Dat) (a8 : List Dat) (a9 : List Dat) (a10 : List Dat) (a11 : List Dat) (a12 : List Dat) (a13 : List Dat) (hc : (decide (0 <= a1) && decide ((-1152921504606846976 <= a0 /\ a0 <= 1152921504606846976) /\ ((0 : Int) <= a6.aG /\ a6.aG <= a6.rin /\ a6.rin <= (1152921504606846976 : Int)) /\ (0 <= a2 /\ a2 <= 1152921504606846976) /\ (0 <= a3 /\ a3 <= 1152921504606846976))) = true) : ∃ m, t44 m (a0, a1, a2, a3, a4, a5, a6, a7, a8, a9, a10, a11, a12, a13) = some ([.i (fZ a0 (a6.rin - a6.aG)), .i (Cv a0 (a6.rin - a6.aG) (a3 - a2))] ++ Uns.enc ((a4) : ao) ++ Uns.enc ((a5) : an) ++ Uns.enc (({ a6 with aG := a6.aG + fZ a0 (a6.rin - a6.aG) }) : ah) ++ [.d (a7), .d (a8), .d (a9), .d (a10), .d (a11), .d (a12), .d (a13)]) := by
 simp only [zab, zac] at hc; obtain ⟨h0, ⟨h1, h2⟩, ⟨h3, h4, h5⟩, ⟨h6, h7⟩, h8, h9⟩ := hc; refine ⟨0, ?_⟩; unfold t44; dsimp only; simp only [za6, lt_eq, zaL (show ¬ a1 < 0 by omega), Bool.not_false, zaG, zad h0, iZ]; rw [aa (n := a6.rin - a6.aG) (by omega) (by omega), aa (n := a3 - a2) (by omega) (by omega)]; have e : (if (if a6.rin - a6.aG < (if a0 < 0 then 0 else a0) then a6.rin - a6.aG else (if a0 < 0 then 0 else a0)) < 0 then 0 else (if a6.rin - a6.aG < (if a0 < 0 then 0 else a0) then a6.rin - a6.aG else (if a0 < 0 then 0 else a0))) = fZ a0 (a6.rin - a6.aG) := by unfold fZ; omega
 have hd : 0 <= fZ a0 (a6.rin - a6.aG) /\ fZ a0 (a6.rin - a6.aG) <= 1152921504606846976 /\ fZ a0 (a6.rin - a6.aG) <= max a0 0 /\ fZ a0 (a6.rin - a6.aG) <= a6.rin - a6.aG := by unfold fZ; omega
 rw [e, show (if a0 < 0 then 0 else a0) = max a0 0 by omega, aa (n := max a0 0 - _) (by omega) (by omega), aa (n := a6.aG + _) (by omega) (by omega)]; rw [show (if (if a3 - a2 < max a0 0 - fZ a0 (a6.rin - a6.aG) then a3 - a2 else max a0 0 - fZ a0 (a6.rin - a6.aG)) < 0 then 0 else (if a3 - a2 < max a0 0 - fZ a0 (a6.rin - a6.aG) then a3 - a2 else max a0 0 - fZ a0 (a6.rin - a6.aG))) = Cv a0 (a6.rin - a6.aG) (a3 - a2) by unfold Cv; omega]
theorem LK : ER 44 (mkE N44.en N44.ex f44) := aq ak T86.right (fun m => []) (t := t44) (by kernel_rfl) (fun m => aA) (fun m a => by kernel_rfl) fun (a0, a1, a2, a3, a4, a5, a6, a7, a8, a9, a10, a11, a12, a13) hc => On a0 a1 a2 a3 a4 a5 a6 a7 a8 a9 a10 a11 a12 a13 hc
def T44 : Tb Tryz.prog LQ TE := T86.add 44 _ LK
def fD (d : aP) (m : Int) : List Dat := if m = 0 then d.s0 else if m = 1 then d.s1 else if m = 2 then d.s2 else []
def N47 : aD := ⟨T44.tab, 47, ⟨[.agg [.int .i64, .int .i64, .int .i64, .ag (sI 2), .ag (sI 3), .int .i64, .int .i64, .int .i64, .int .i64, .int .i64, .int .i64, .int .i64, .int .i64, .int .i64, .int .i64, .ag (sI 2), .ag (sI 2), .ag (sI 2)], .agg [.int .i64, .int .i64]], [], 0⟩, ⟨[.buf 0 2], [.ag (sI 2)], 0⟩, []⟩
def t47 (m : Nat) : aP × Int × Int -> Option (List Un) := fun (a0, a1, a2) =>
 bif decide (a1 < 0) then
 some ([.d ([])])
 else
 bif decide (a1 >= 3) then
 some ([.d ([])])
 else
 chk (inb a1 3) <|
 chk (decide (a1.toNat < 3)) <|
 chk (decide ((List.getD [a0.s0, a0.s1, a0.s2] a1.toNat []).length < 1000000)) <|
 some ([.d (List.getD [a0.s0, a0.s1, a0.s2] a1.toNat [])])
def f47 : aP × Int × Int -> Bool × List Un := fun (a0, a1, a2) => (decide (a0.s0.length < 1000000 /\ a0.s1.length < 1000000 /\ a0.s2.length < 1000000), [.d (fD a0 a1)])
theorem O8 (a0 : aP) (a1 : Int) (a2 : Int) (hc : (decide (a0.s0.length < 1000000 /\ a0.s1.length < 1000000 /\ a0.s2.length < 1000000)) = true) : ∃ m, t47 m (a0, a1, a2) = some ([.d (fD a0 a1)]) := by
 obtain ⟨h1, h2, h3⟩ := zak hc; refine ⟨0, ?_⟩; unfold t47 fD; dsimp only
 by_cases c0 : a1 < 0
 . rw [bz c0, if_neg (by omega), if_neg (by omega), if_neg (by omega)]
 by_cases c3 : a1 >= 3
 . rw [aB c0, bz c3, if_neg (by omega), if_neg (by omega), if_neg (by omega)]
 rw [aB c0, aB c3, jl (by omega) (by omega), aV (by omega)]; obtain rfl | rfl | rfl : a1 = 0 \/ a1 = 1 \/ a1 = 2 := by omega
 . exact (aV h1).trans rfl
 . exact (aV h2).trans rfl
 . exact (aV h3).trans rfl
theorem Lr : ER 47 (mkE N47.en N47.ex f47) := aq ak T44.right (fun m => []) (t := t47) (by kernel_rfl) (fun m => aA) (fun m a => by kernel_rfl) fun (a0, a1, a2) hc => O8 a0 a1 a2 hc
def T47 : Tb Tryz.prog LQ TE := T44.add 47 _ Lr
def gA (d : Dat) : Prop := 0 <= d.i 1 /\ 0 <= d.i 2 /\ d.i 1 + d.i 2 <= 1099511627776 /\ (0 <= d.i 3 /\ d.i 3 <= 12) /\ (d.b 4 = true -> d.i 1 = 0) /\ (d.b 4 = false -> d.i 2 = 0)
theorem A4 {p q r s l : Int} (h : gJ p q r s l = true) : (0 <= p /\ p <= 1099511627776) /\ (0 <= q /\ q <= 1099511627776) /\ (0 <= r /\ r <= 1099511627776) /\ (0 <= s /\ s <= 1099511627776) /\ 0 <= l /\ l <= 12 := by
 simp only [gJ, zab, zac] at h; omega
theorem G2 {x d : Dat} (hx : gA x) (hl : gJ (d.i 1) (d.i 2) (d.i 3) (d.i 4) (d.i 5) = true) (hm : wR x d = true) : gA (jZ x d) /\ (jZ x d).i 1 = x.i 1 - (d.i 1 + d.i 2) - fS (x.i 1) (d.i 1) (d.i 2) (d.b 6) /\ (jZ x d).i 2 = x.i 2 + fS (x.i 1) (d.i 1) (d.i 2) (d.b 6) - d.i 4 /\
 0 <= fS (x.i 1) (d.i 1) (d.i 2) (d.b 6) /\ d.i 1 + d.i 2 + fS (x.i 1) (d.i 1) (d.i 2) (d.b 6) <= x.i 1 /\ d.i 4 <= x.i 2 + fS (x.i 1) (d.i 1) (d.i 2) (d.b 6) := by
 obtain ⟨x1, x2, x3, x4, x5, x6⟩ := hx; have l := A4 hl; have e1 : (jZ x d).i 1 = pC (x.i 1) (d.i 1) (d.i 2) (d.b 6) := rfl; have e2 : (jZ x d).i 2 = og (x.i 1) (x.i 2) (d.i 1) (d.i 2) (d.i 4) (d.b 6) := rfl; have e3 : (jZ x d).i 3 = oz (x.i 1) (x.b 4) (d.i 1) (d.i 2) (d.i 5) (d.b 6) := rfl; have e4 : (jZ x d).b 4 = (d.b 6 || x.b 4) := FM _; unfold gA; rw [e1, e2, e3, e4]; unfold wR qL at hm; unfold pC og oz fS; generalize d.i 1 = p at *
 generalize d.i 2 = q at *
 generalize d.i 3 = r at *
 generalize d.i 4 = s at *
 generalize d.i 5 = t at *
 generalize x.i 1 = b at *
 generalize x.i 2 = o at *
 clear e1 e2 e3 e4 hl; cases hb : x.b 4
 . have := x6 hb; simp only [hb, zap, show w64 (b - p) = b - p from aa (by omega) (by omega), show w64 (b - p - q) = b - p - q from aa (by omega) (by omega)] at hm; simp only [show w64 (p + q) = p + q from aa (by omega) (by omega), show w64 (b - (p + q)) = b - (p + q) from aa (by omega) (by omega)]
   by_cases hn : b - p - q < 0
   . rw [zad hn] at hm; cases hm
   rw [zaL hn, zap] at hm; cases hd : d.b 6
   . simp only [hd, zap, zaE] at hm; subst hm; simp only [zap, Bool.or_self, zbo, zbG, show w64 o = o from aa (by omega) (by omega)]; have hz : 0 <= (bif b - (p + q) == 0 then 0 else t) /\ (bif b - (p + q) == 0 then 0 else t) <= 12 := by cases (b - (p + q) == 0) <;> simp only [zaG, zap] <;> omega
     and_intros <;> first | trivial | omega | (intro h; cases h; done) | (intro _; omega)
   . simp only [hd, zaG, show w64 (o + (b - p - q)) = o + (b - p - q) from aa (by omega) (by omega)] at hm; have hr : s <= o + (b - p - q) := by
      by_cases hs : s <= o + (b - p - q)
      . exact hs
      . rw [zaL hs, zap, zaE] at hm; omega
     simp only [zaG, Bool.or_false, show w64 (o + (b - (p + q))) = o + (b - (p + q)) from aa (by omega) (by omega), show w64 (o + (b - (p + q)) - s) = o + (b - (p + q)) - s from aa (by omega) (by omega)]
     and_intros <;> first | trivial | omega | (intro h; cases h; done) | (intro _; omega)
 . have := x5 hb; subst this; rw [hb] at hm; simp only [zaG, zab, zaE, Bool.not_eq_true', zac] at hm; obtain ⟨rfl, rfl, h3, h4, h5, h6⟩ := hm; rw [h5]; simp only [zaG, zap, Bool.false_or, show w64 0 = 0 by decide, zbo, zbG, show w64 (o - s) = o - s from aa (by omega) (by omega)]
   and_intros <;> first | trivial | omega | (intro h; cases h; done) | (intro _; omega)
theorem pM {β : Type} (f : Dat -> β) (y : Dat) : ∀ (l : List Dat) (j : Nat), j < l.length -> f y = f (ae l j) -> (l.set j y).map f = l.map f
 | [], j, h, _ => by simp at h
 | d :: l, 0, _, h => by simp only [List.set_cons_zero, zaX, h]; rfl
 | d :: l, j + 1, h, hy => by simp only [zbP, zaX, pM f y l j (by simpa using h) hy]
theorem ga {l : List Dat} (h : ∀ d ∈ l, gA d) : 0 <= af 1 l /\ 0 <= af 2 l := ⟨fl 1 l fun d hd => (h d hd).1, fl 2 l fun d hd => (h d hd).2.1⟩
theorem yh : ∀ (t l : List Dat) (last p q s r : Int) (x : HP), (∀ d ∈ l, gA d) -> gf last t = true -> cW l p q s r t = some x -> af 1 l + af 2 l <= 1099511627776 -> (0 <= p /\ p + af 1 l <= 4398046511104) -> (0 <= s /\ s + af 1 l <= 4398046511104) -> (0 <= r /\ r + af 1 l + af 2 l <= 4398046511104) -> (0 <= q /\ q + 1099511627776 * t.length <= 1125899906842624) ->
 (∀ d ∈ x.ax, gA d) /\ x.ax.map (fun d => d.i 0) = l.map (fun d => d.i 0) /\ af 1 x.ax = af 1 l - (x.p - p) - (x.l - s) /\ af 2 x.ax = af 2 l + (x.l - s) - (x.r - r) /\ p <= x.p /\ s <= x.l /\ r <= x.r /\ (q <= x.q /\ x.q <= q + 1099511627776 * t.length) /\ x.e = 0
 | [], l, last, p, q, s, r, x, hl, ht, h, b1, b2, b3, b4, b5 => by
  simp only [cW, zaj] at h; subst h; exact ⟨hl, rfl, by simp, by simp, by simp, by simp, by simp, by simp, rfl⟩
 | d :: t, l, last, p, q, s, r, x, hl, ht, h, b1, b2, b3, b4, b5 => by
  simp only [gf] at ht
  split at ht
  . cases ht
  . split at ht
    . rename_i hT; unfold cW at h
      split at h
      . cases h
      . rename_i hi
        split at h
        . rename_i hm; rcases tG (d.i 0) l 0 with hj | ⟨hj1, hj2⟩
          . omega
          . have hj : (eh (d.i 0) 0 l).toNat < l.length := by omega
            generalize (eh (d.i 0) 0 l).toNat = j at *
            obtain ⟨r1, r2, r3, r4, r5, r6⟩ := G2 (hl _ (mD hj)) hT hm; have lt := A4 hT; have s1 := nm 1 (jZ (ae l j) d) l j hj; have s2 := nm 2 (jZ (ae l j) d) l j hj; have hl' := EV (p := gA) (j := j) hl r1; obtain ⟨n1, n2⟩ := ga hl; obtain ⟨n3, n4⟩ := ga hl'; rw [r2] at s1; rw [r3] at s2; simp only [zaf, zas, zaa] at b5; generalize fS ((ae l j).i 1) (d.i 1) (d.i 2) (d.b 6) = z at *
            rw [show w64 (d.i 1 + d.i 2) = d.i 1 + d.i 2 from aa (by omega) (by omega), show w64 (p + (d.i 1 + d.i 2)) = p + (d.i 1 + d.i 2) from aa (by omega) (by omega), show w64 (q + d.i 3) = q + d.i 3 from aa (by omega) (by omega), show w64 (s + z) = s + z from aa (by omega) (by omega), show w64 (r + d.i 4) = r + d.i 4 from aa (by omega) (by omega)] at h; obtain ⟨c1, c2, c3, c4, c5, c6, c7, c8, c9⟩ := yh t _ _ _ _ _ _ x hl' ht h (by omega) (by omega) (by omega) (by omega) (by omega); refine ⟨c1, c2.trans (pM _ _ _ _ hj rfl), by omega, by omega, by omega, by omega, by omega, ?_, c9⟩; simp only [zaf, zas, zaa]; omega
        . cases h
    . cases ht
theorem Fa {t l : List Dat} (hl : ∀ d ∈ l, gA d) (b : af 1 l + af 2 l <= 1099511627776) (he : (av t l).e = 0) :
 (∀ d ∈ (av t l).ax, gA d) /\ (av t l).ax.map (fun d => d.i 0) = l.map (fun d => d.i 0) /\ af 1 (av t l).ax = af 1 l - (av t l).p - (av t l).l /\ af 2 (av t l).ax = af 2 l + (av t l).l - (av t l).r /\
 0 <= (av t l).p /\ 0 <= (av t l).l /\ 0 <= (av t l).r /\ 0 <= (av t l).q /\ (av t l).q <= 70368744177664 := by
 unfold av at he ⊢
 split at he
 . rename_i ht; rw [if_pos ht]; simp only [kO, zab, zac] at ht; cases hx : cW l 0 0 0 0 t with
   | none => rw [hx] at he; cases he
   | some x =>
    obtain ⟨n1, n2⟩ := ga hl; obtain ⟨c1, c2, c3, c4, c5, c6, c7, c8, c9⟩ := yh t l 0 0 0 0 0 x hl ht.2 hx b (by omega) (by omega) (by omega) (by omega); simp only [zby]; exact ⟨c1, c2, by omega, by omega, c5, c6, c7, c8.1, by omega⟩
 . cases he
theorem mG (f : Dat -> Bool) : ∀ l : List Dat, (∀ d ∈ l, 0 <= d.i 3) -> 0 <= aT f l
 | [], _ => zb7 0
 | d :: l, h => by
  have := h d (by simp); have := mG f l fun x hx => h x (by simp [hx])
  simp only [aT]; cases f d <;> simp only [zaG, zap] <;> omega
def oU (d e : Dat) (b s : Int) : Prop := e.i 0 = d.i 0 /\ e.i 1 = d.i 1 /\ e.i 2 = d.i 2 /\ e.i 3 = d.i 3 + b /\ e.i 4 = d.i 4 /\ e.i 5 = d.i 5 - s /\ e.i 6 = d.i 6
def amt (f : Dat -> Bool) (d : Dat) : Int := bif f d then d.i 3 else 0
theorem dR (f : Dat -> Bool) (d : Dat) (l : List Dat) : aT f (d :: l) = amt f d + aT f l := rfl
theorem IE {n : ah} {x : Dat} {c : List Dat} (h3 : 0 <= x.i 3) (hk : (x.i 1 = 1 \/ x.i 1 = 2 \/ x.i 1 = 6) \/ (0 <= x.i 2 /\ x.i 2 < (c.length : Int))) (hb : ∀ i, i < c.length -> amt (toB i) x <= aK (ae c i) /\ amt (toI i) x <= (ae c i).i 5) :
 jd n x = { n with fee := n.fee - amt kF x, out := n.out - amt kR x, rin := n.rin + amt kT x } /\ ∀ i, i < c.length -> oU (ae c i) (ae (kX c x) i) (amt (toB i) x) (amt (toI i) x) := by
 have zero : ∀ i, kI x = false -> kB x = false -> oU (ae c i) (ae c i) (amt (toB i) x) (amt (toI i) x) := fun i h1 h2 => by
  simp only [amt, toB, toI, h1, h2, zbH, zap]; exact ⟨rfl, rfl, rfl, by omega, rfl, by omega, rfl⟩
 unfold jd kX
 by_cases h1 : x.i 1 = 1
 . have a1 : kF x = true := by simp [kF, h1]
   have a2 : kR x = false := by simp [kR, h1]
   have a3 : kT x = false := by simp [kT, h1]
   have a4 : kI x = false := by simp [kI, h1]
   have a5 : kB x = false := by simp [kB, a1]
   rw [if_pos h1, if_pos h1]; refine ⟨?_, fun i hi => zero i a4 a5⟩; simp only [amt, a1, a2, a3, zaG, zap, zbo, zbG]
 rw [if_neg h1, if_neg h1]; have a1 : kF x = false := mX h1
 by_cases h2 : x.i 1 = 2
 . have a2 : kR x = true := by simp [kR, h2]
   have a3 : kT x = false := by simp [kT, h2]
   have a4 : kI x = false := by simp [kI, h2]
   have a5 : kB x = false := by simp [kB, a2]
   rw [if_pos h2, if_pos h2]; refine ⟨?_, fun i hi => zero i a4 a5⟩; simp only [amt, a1, a2, a3, zaG, zap, zbo, zbG]
 rw [if_neg h2, if_neg h2]; have a2 : kR x = false := mX h2
 by_cases h6 : x.i 1 = 6
 . have a3 : kT x = true := by simp [kT, h6]
   have a4 : kI x = false := by simp [kI, h6]
   have a5 : kB x = false := by simp [kB, a3]
   rw [if_pos h6, if_pos h6]; refine ⟨?_, fun i hi => zero i a4 a5⟩; simp only [amt, a1, a2, a3, zaG, zap, zbo, zbG]
 rw [if_neg h6, if_neg h6]; have a3 : kT x = false := mX h6; refine ⟨by simp only [amt, a1, a2, a3, zap, zbo, zbG], fun i hi => ?_⟩; have hj : (x.i 2).toNat < c.length := by omega
 have hx2 : x.i 2 = ((x.i 2).toNat : Int) := by omega
 generalize (x.i 2).toNat = j at *
 have hbj := hb j hj
 by_cases h3' : x.i 1 = 3
 . have a4 : kI x = true := by simp [kI, h3']
   have a5 : kB x = false := by simp [kB, a4]
   rw [if_pos h3']; simp only [amt, toB, toI, a4, a5, zbH, zba, zap, hx2] at hbj ⊢
   by_cases hij : i = j
   . subst hij; rw [beq_self_eq_true, zaG] at hbj ⊢; rw [uP hj]; refine ⟨rfl, rfl, rfl, by simp only [nL, fy]; omega, rfl, ?_, rfl⟩; simp only [nL, oy, Cd]; omega
   . rw [show ((j : Int) == (i : Int)) = false from mX (by omega), zap, mF hij]; exact ⟨rfl, rfl, rfl, by omega, rfl, by omega, rfl⟩
 . have a4 : kI x = false := mX h3'; have a5 : kB x = true := by simp [kB, a1, a2, a3, a4]
   rw [if_neg h3']; simp only [amt, toB, toI, a4, a5, zbH, zba, zap, hx2] at hbj ⊢
   by_cases hij : i = j
   . subst hij; rw [beq_self_eq_true, zaG] at hbj ⊢; rw [uP hj]; refine ⟨rfl, rfl, rfl, ?_, rfl, by simp only [sG, oy]; omega, rfl⟩; simp only [sG, fy, nk]; omega
   . rw [show ((j : Int) == (i : Int)) = false from mX (by omega), zap, mF hij]; exact ⟨rfl, rfl, rfl, by omega, rfl, by omega, rfl⟩
theorem qW : ∀ (p : List Dat) (n : ah) (c : List Dat), (∀ d ∈ p, 0 <= d.i 3) -> (∀ d ∈ p, (d.i 1 = 1 \/ d.i 1 = 2 \/ d.i 1 = 6) \/ (0 <= d.i 2 /\ d.i 2 < (c.length : Int))) -> (∀ i, i < c.length -> aT (toB i) p <= aK (ae c i) /\ aT (toI i) p <= (ae c i).i 5) ->
 (cI p n c).1 = { n with fee := n.fee - aT kF p, out := n.out - aT kR p, rin := n.rin + aT kT p } /\ (cI p n c).2.length = c.length /\ ∀ i, i < c.length -> oU (ae c i) (ae (cI p n c).2 i) (aT (toB i) p) (aT (toI i) p)
 | [], n, c, _, _, _ => by
  refine ⟨by simp [cI, aT], rfl, fun i hi => ⟨rfl, rfl, rfl, ?_, rfl, ?_, rfl⟩⟩ <;> simp [cI, aT]
 | x :: p, n, c, h0, hk, hb => by
  have n0 := fun f => mG f p fun d hd => h0 d (zaQ _ hd)
  have hx0 := h0 x (by simp); have m0 : ∀ f, 0 <= amt f x := fun f => by unfold amt; cases f x <;> simp only [zaG, zap] <;> omega
  obtain ⟨o1, o2⟩ := IE (n := n) hx0 (hk x (by simp)) fun i hi => by
   have := hb i hi; rw [dR, dR] at this; have := n0 (toB i); have := n0 (toI i); omega
  have hl := xA c x; obtain ⟨i1, i2, i3⟩ := qW p (jd n x) (kX c x) (fun d hd => h0 d (zaQ _ hd)) (fun d hd => by rw [hl]; exact hk d (zaQ _ hd)) fun i hi => by
   rw [hl] at hi; have := hb i hi; rw [dR, dR] at this; obtain ⟨_, e1, _, e3, e4, e5, e6⟩ := o2 i hi; unfold aK at this ⊢; omega
  refine ⟨?_, i2.trans hl, fun i hi => ?_⟩
  . show (cI p (jd n x) (kX c x)).1 = _; rw [i1, o1]; simp only [dR, Int.sub_sub, Int.add_assoc]
  . obtain ⟨e0, e1, e2, e3, e4, e5, e6⟩ := o2 i hi; obtain ⟨f0, f1, f2, f3, f4, f5, f6⟩ := i3 i (by rw [hl]; exact hi); rw [dR, dR]; exact ⟨f0.trans e0, f1.trans e1, f2.trans e2, by show (ae (cI p (jd n x) (kX c x)).2 i).i 3 = _; omega, f4.trans e4, by show (ae (cI p (jd n x) (kX c x)).2 i).i 5 = _; omega, f6.trans e6⟩
def gz (d e : Dat) : Prop := e.i 0 = d.i 0 /\ e.i 1 = d.i 1 /\ e.i 2 = d.i 2 /\ e.i 3 = d.i 3 /\ e.i 4 = d.i 4 /\ e.i 5 = d.i 5
theorem gz.refl (d : Dat) : gz d d := ⟨rfl, rfl, rfl, rfl, rfl, rfl⟩
theorem gz.trans {a b c : Dat} (h : gz a b) (k : gz b c) : gz a c := ⟨k.1.trans h.1, k.2.1.trans h.2.1, k.2.2.1.trans h.2.2.1, k.2.2.2.1.trans h.2.2.2.1, k.2.2.2.2.1.trans h.2.2.2.2.1, k.2.2.2.2.2.trans h.2.2.2.2.2⟩
structure eU (c c' : List Dat) : Prop where
 len : c'.length = c.length
 row : ∀ i, i < c.length -> gz (ae c i) (ae c' i)
theorem eU.refl (c : List Dat) : eU c c := ⟨rfl, fun _ _ => .refl _⟩
theorem eU.trans {a b c : List Dat} (h : eU a b) (k : eU b c) : eU a c := ⟨k.len.trans h.len, fun i hi => (h.row i hi).trans (k.row i (by rw [h.len]; exact hi))⟩
theorem eU.set {c : List Dat} {j : Nat} {y : Dat} (hj : j < c.length) (h : gz (ae c j) y) : eU c (c.set j y) := ⟨zbg, fun i hi => by
 by_cases e : i = j
 . subst e; rw [uP hj]; exact h
 . rw [mF e]; exact .refl _⟩
theorem B3 (w : Int) (d : Dat) : gz d (dQ w d) := ⟨rfl, rfl, rfl, rfl, rfl, rfl⟩
theorem Cj (w : Int) (d : Dat) : gz d (gd w d) := ⟨rfl, rfl, rfl, rfl, rfl, rfl⟩
theorem qZ (f : Dat -> Int) : ∀ c : List Dat, (∀ d ∈ c, f d = 0) -> bm f c = 0
 | [], _ => rfl
 | d :: c, h => by simp only [bm, h d (by simp), qZ f c fun x hx => h x (by simp [hx])]; rfl
theorem pZ (j : Nat) : ∀ c : List Dat, (∀ d ∈ c, d.i j = 0) -> af j c = 0
 | [], _ => rfl
 | d :: c, h => by simp only [af, h d (by simp), pZ j c fun x hx => h x (by simp [hx])]; rfl
theorem Md {c : List Dat} {j : Nat} {y : Dat} (hj : j < c.length) (h : gz (ae c j) y) : bm unD (c.set j y) = bm unD c := by
 obtain ⟨_, h1, _, h3, h4, _⟩ := h; rw [BY _ _ _ _ hj]; unfold unD; omega
theorem Ed (t : Int) : ∀ (k : Nat) (c : List Dat), du c -> ue t c < k -> du (sC k t c) /\ eU c (sC k t c) /\ (af 6 c <= t -> af 6 (sC k t c) = min t (bm unD c)) /\ (t <= af 6 c -> sC k t c = c)
 | 0, c, _, h => by omega
 | k + 1, c, hg, h => by
  have hu := fE c hg.2; unfold sC
  by_cases hs : af 6 c < t
  . rw [if_pos hs]
    by_cases hj : fN c c.length 0 (-1) < 0
    . rw [if_pos hj]; refine ⟨hg, .refl c, fun _ => ?_, fun _ => rfl⟩; have h0 := ((tq c c.length 0 (-1) (by omega) (.inl (by omega))).1 hj).2; have : bm aK c = 0 := qZ _ _ fun d hd => by
       obtain ⟨i, hi, rfl⟩ := gG hd; have := h0 i (by omega) hi; have := (BF (bV hi hg.2)).1; omega
      omega
    . rw [if_neg hj]; obtain ⟨a1, a2, a3, a4⟩ := MC hg hs (by omega); have hw := B3 (t - af 6 c) (ae c (fN c c.length 0 (-1)).toNat); have hun := Md a1 hw; have has := eU.set a1 hw; generalize c.set (fN c c.length 0 (-1)).toNat (dQ (t - af 6 c) (ae c (fN c c.length 0 (-1)).toNat)) = c' at *
      obtain ⟨b1, b2, b3, b4⟩ := Ed t k c' a2 (by omega); exact ⟨b1, has.trans b2, fun _ => by rw [b3 a4, hun], fun _ => by omega⟩
  . rw [if_neg hs]; exact ⟨hg, .refl c, fun _ => by omega, fun _ => rfl⟩
theorem Ep (t : Int) (h0 : 0 <= t) : ∀ (k : Nat) (c : List Dat), du c -> tS t c < k -> du (qO k t c) /\ eU c (qO k t c) /\ (t <= af 6 c -> af 6 (qO k t c) = t) /\ (af 6 c <= t -> qO k t c = c)
 | 0, c, _, h => by omega
 | k + 1, c, hg, h => by
  have hu := fE c hg.2; unfold qO
  by_cases hs : t < af 6 c
  . rw [if_pos hs]
    by_cases hj : fG c c.length 0 (-1) < 0
    . have h0 := ((tv c c.length 0 (-1) (by omega) (.inl (by omega))).1 hj).2; have : af 6 c = 0 := pZ _ _ fun d hd => by
       obtain ⟨i, hi, rfl⟩ := gG hd; have := h0 i (by omega) hi; have := (bW (bV hi hg.2)).2.2.2.2.1; omega
      omega
    . rw [if_neg hj]; obtain ⟨a1, a2, a3, a4⟩ := MB hg hs (by omega); have has := eU.set a1 (Cj (af 6 c - t) (ae c (fG c c.length 0 (-1)).toNat)); generalize c.set (fG c c.length 0 (-1)).toNat (gd (af 6 c - t) (ae c (fG c c.length 0 (-1)).toNat)) = c' at *
      obtain ⟨b1, b2, b3, b4⟩ := Ep t h0 k c' a2 (by omega); exact ⟨b1, has.trans b2, fun _ => b3 a4, fun _ => by omega⟩
  . rw [if_neg hs]; exact ⟨hg, .refl c, fun _ => by omega, fun _ => rfl⟩
theorem Fp {t : Int} {c : List Dat} (hg : du c) (h0 : 0 <= t) (h1 : t <= bm unD c) : du (fL t c) /\ eU c (fL t c) /\ af 6 (fL t c) = t := by
 obtain ⟨a1, a2, a3, a4⟩ := Ed t (c.length + 2) c hg (AP t c); unfold fL; rw [show max t 0 = t by omega]; obtain ⟨b1, b2, b3, b4⟩ := Ep t h0 (c.length + 2) (sC (c.length + 2) t c) a1 (by have := BB t (sC (c.length + 2) t c); rwa [a2.len] at this); refine ⟨b1, a2.trans b2, ?_⟩
 by_cases hs : af 6 c <= t
 . have := a3 hs; rw [b4 (by omega)]; omega
 . rw [a4 (by omega)] at b3 ⊢; exact b3 (by omega)
structure QP (d : aP) : Prop where
 year : 1 <= d.a.year /\ d.a.year <= 9000
 month : 1 <= d.a.month /\ d.a.month <= 12
 basis : 0 <= d.a.basis /\ d.a.basis <= 2
 fee : 0 <= d.b.fee /\ d.b.fee <= 5000
 bU : 0 <= d.b.bU /\ d.b.bU <= 1099511627776
 target : 0 <= d.b.target /\ d.b.target <= 10000
 advance : 0 <= d.b.advance /\ d.b.advance <= 1099511627776
 eE : 0 <= d.b.eE /\ d.b.eE <= 600
 oc : 0 <= d.b.oc /\ d.b.oc <= 100000
 ic : 0 <= d.b.ic /\ d.b.ic <= 100000
 late : 0 <= d.b.late /\ d.b.late <= 100000
 kL : 0 <= d.b.kL /\ d.b.kL <= 100000
 clean : 0 <= d.b.clean /\ d.b.clean <= 100000
 OG : ((bu d).getD (0, 0)).1 = af 1 d.aC
 ax : 0 <= af 1 d.aC /\ af 1 d.aC <= 1099511627776
 QU : 1 <= d.aC.length /\ d.aC.length <= 64
 sA : ∀ x ∈ d.aC, 0 <= x.i 1 /\ x.i 1 <= 1099511627776
 ids : (d.aC.map fun x => x.i 0).Pairwise (· < ·)
 pos : ∀ x ∈ d.aC, 0 < x.i 0
 RF : 1 <= d.notes.length /\ d.notes.length <= 8
 note : ∀ x ∈ d.notes, (0 <= x.i 0 /\ x.i 0 <= 7) /\ (1 <= x.i 1 /\ x.i 1 <= 1099511627776) /\ (0 <= x.i 2 /\ x.i 2 <= 5000)
 sumn : af 1 d.notes <= af 1 d.aC
 s0 : di d.s0 = true
 s1 : di d.s1 = true
 s2 : di d.s2 = true
theorem xp : ∀ (l : List Dat) (last all r : Int), 0 <= all -> gE last all l = some r -> r = all + af 1 l /\ (all <= 1099511627776 -> r <= 1099511627776) /\ (∀ x ∈ l, 0 <= x.i 1 /\ x.i 1 <= 1099511627776 /\ last < x.i 0) /\ (l.map fun x => x.i 0).Pairwise (· < ·)
 | [], last, all, r, h0, h => by
  simp only [gE, zaj] at h; subst h; exact ⟨by simp [af], fun h => h, fun x hx => by simp at hx, List.Pairwise.nil⟩
 | d :: l, last, all, r, h0, h => by
  unfold gE at h
  split at h
  . cases h
  . rename_i hl
    split at h
    . rename_i hb; obtain ⟨h1, h2, h3, h4⟩ := xp l _ _ _ (by omega) h; refine ⟨by simp only [af]; omega, fun _ => h2 (by omega), fun x hx => ?_, ?_⟩
      . rcases zaV.1 hx with rfl | hx
        . omega
        . have := h3 x hx; omega
      . simp only [zaX, List.pairwise_cons]; refine ⟨fun y hy => ?_, h4⟩; obtain ⟨x, hx, rfl⟩ := za3.1 hy; exact (h3 x hx).2.2
    . cases h
theorem xk (most : Int) (hm : most <= 1099511627776) : ∀ (l : List Dat) (all r : Int), 0 <= all -> jA most all l = some r -> r = all + af 1 l /\ (all <= most -> r <= most) /\ ∀ x ∈ l, (0 <= x.i 0 /\ x.i 0 <= 7) /\ (1 <= x.i 1 /\ x.i 1 <= 1099511627776) /\ (0 <= x.i 2 /\ x.i 2 <= 5000)
 | [], all, r, h0, h => by
  simp only [jA, zaj] at h; subst h; exact ⟨by simp [af], fun h => h, fun x hx => by simp at hx⟩
 | d :: l, all, r, h0, h => by
  unfold jA at h
  split at h
  . rename_i hb; obtain ⟨h1, h2, h3⟩ := xk most hm l _ _ (by omega) h; refine ⟨by simp only [af]; omega, fun _ => h2 (by omega), fun x hx => ?_⟩; rcases zaV.1 hx with rfl | hx
    . omega
    . exact h3 x hx
  . cases h
theorem cr {d : aP} (h : (bu d).isSome = true) : QP d := by
 unfold bu at h
 split at h
 . cases h
 . rename_i p hp
   split at h
   . cases h
   . rename_i n hn
     split at h
     . rename_i hc; have hs : bu d = some (p, n) := by unfold bu; simp only [hp, hn, if_pos hc]
       simp only [zab, kh, zac] at hc; obtain ⟨⟨t1, t2, t3, t4, t5, t6, t7, t8, t9, t10, t11, t12, t13⟩, s0, s1, s2⟩ := hc; unfold ev at hp
       split at hp
       . rename_i hl; obtain ⟨l1, l2, l3, l4⟩ := xp _ _ _ _ (by omega) hp; have l2 := l2 (by omega); unfold iw at hn
         split at hn
         . rename_i hnl; obtain ⟨n1, n2, n3⟩ := xk p (by omega) _ _ _ (by omega) hn; have h0 := fl 1 d.aC fun x hx => (l3 x hx).1
           have n2 := n2 (by omega); exact ⟨t6, t7, t8, t9, t10, t11, t12, t13, t1, t2, t3, t4, t5, by rw [hs]; show p = _; omega, by omega, hl, fun x hx => ⟨(l3 x hx).1, (l3 x hx).2.1⟩, l4, fun x hx => (l3 x hx).2.2, hnl, n3, by omega, s0, s1, s2⟩
         . cases hn
       . cases hp
     . cases h
def gj (T : ab) : aP := ⟨T.a, T.aC, T.notes, T.b, T.s0, T.s1, T.s2⟩
structure de (T : ab) : Prop where
 lK : (bu (gj T)).isSome = true
 HL : T.tr.map (fun d => (d.i 0, d.i 1, d.i 2)) = T.notes.map (fun d => (d.i 0, d.i 1, d.i 2))
 Js : ∀ d ∈ T.tr, aH d = true /\ d.i 5 <= 1200000000000 * T.n.period
 ids : T.ax.map (fun d => d.i 0) = T.aC.map (fun d => d.i 0)
 sA : ∀ d ∈ T.ax, gA d
 bal : af 1 T.ax + af 2 T.ax + T.n.aS <= af 1 T.aC
 lost : T.n.aL - T.n.aS = af 2 T.ax
 sD : 0 <= T.n.aS
 period : 0 <= T.n.period /\ T.n.period <= 600
 mode : 0 <= T.n.mode /\ T.n.mode <= 2
 aX : 0 <= T.n.aX /\ T.n.aX <= T.n.period
 fee : 0 <= T.n.fee /\ T.n.fee <= 1200000000000 * T.n.period
 out : 0 <= T.n.out /\ T.n.out <= T.b.advance
 res : 0 <= T.n.aG /\ T.n.aG <= T.n.rin /\ T.n.rin <= 1200000000000 * (T.n.period + 1)
 down : af 6 T.tr <= af 2 T.ax
section
variable (T : ab) (l : List Dat)
def cP : HP := av l T.ax
def pA : Int := cM T.a T.n.period (af 1 T.ax) T.b.fee
def DL : Int := bm (fun d => cM T.a T.n.period (aK d) (d.i 2)) T.tr
def cTr : List Dat := T.tr.map (dK T.a T.n.period)
def cIn : Int := (cP T l).p + (cP T l).q + (cP T l).r
def mO : Int := T.n.fee + pA T + af 5 (cTr T) - cIn T l
def fV : Int := fZ (mO T l) (T.n.rin - T.n.aG)
def oP : Int := Cv (mO T l) (T.n.rin - T.n.aG) (T.b.advance - T.n.out)
def cN1 : ah := { T.n with fee := T.n.fee + pA T, aG := T.n.aG + fV T l }
def cX : bj := ⟨cIn T l + fV T l + oP T l, T.n.fee + pA T, T.n.out, min ((cP T l).p + (cP T l).r + (cP T l).l) (bm aK (cTr T)), v3 T.b.target (af 1 (cP T l).ax) (T.n.rin - (T.n.aG + fV T l))⟩
def dk : bj × List Dat × List Dat := dL 0 (fD (gj T) T.n.mode) (cX T l) ((cTr T).map fk)
def dv : ah × List Dat := cI (dk T l).2.2 (cN1 T l) (cTr T)
def cN2 : ah := { (dv T l).1 with out := (dv T l).1.out + oP T l, aL := (dv T l).1.aL + (cP T l).l, aS := (dv T l).1.aS + (cP T l).r }
def lq : List Dat := fL (cN (bm unD (dv T l).2) (af 1 (cP T l).ax) (cN2 T l).aL (cN2 T l).aS) (dv T l).2
def uD : Int × Int := cO T.n.mode T.n.aX T.b.eE (T.b.oc == 0 || bH (af 1 (cP T l).ax) (bm aK (lq T l)) T.b.oc) (T.b.ic == 0 || bH (min (cP T l).q 1099511627776) (min (DL T) 1099511627776) T.b.ic)
 (T.b.late == 0 || bK (cf 2 (cP T l).ax + cf 3 (cP T l).ax) (af 1 (cP T l).ax) T.b.late) (T.b.kL == 0 || bK ((cN2 T l).aL - (cN2 T l).aS) (af 1 T.aC) T.b.kL)
def cN3 : ah := { cN2 T l with mode := (uD T l).1, aX := (uD T l).2, period := T.n.period + 1 }
end
structure fR where
 ra : eZ
 rb : dM
 next : Int
 e : Int
 t : ab
 wI : List Dat
 notes : List Dat
def noR (e : Int) (T : ab) : fR := ⟨⟨false, 0, 0, 0, 0, 0, 0, 0, 0, 0, 0⟩, ⟨0, 0, 0, 0, 0⟩, 0, e, T, [], []⟩
def bC (T : ab) (l : List Dat) : fR :=
 ⟨⟨false, T.n.period + 1, T.n.mode, (cP T l).p, (cP T l).q, (cP T l).l, (cP T l).r, fV T l, oP T l, pA T, DL T⟩, ⟨(dk T l).1.az, af 1 (cP T l).ax, (cN2 T l).rin - (cN2 T l).aG, (cN2 T l).out, (cN2 T l).fee⟩, (uD T l).1, 0,
  { T with n := cN3 T l, ax := (cP T l).ax, tr := lq T l }, (dk T l).2.2, (lq T l).map zz⟩
def bf (T : ab) (l : List Dat) : fR := bif T.n.dt then noR 5 T else bif decide (T.n.period >= 600) then noR 4 T else bif (cP T l).e != 0 then noR (cP T l).e T else bC T l
theorem AO (f : Dat -> Dat) {l : List Dat} {i : Nat} (h : i < l.length) : ae (l.map f) i = f (ae l i) := by
 rw [eG (by simpa using h), eG h, List.getElem_map]
theorem AA (a : ao) (p : Int) : ∀ l : List Dat, af 5 (l.map (dK a p)) = af 5 l + bm (fun d => cM a p (aK d) (d.i 2)) l /\ af 6 (l.map (dK a p)) = af 6 l /\ bm aK (l.map (dK a p)) = bm aK l
 | [] => ⟨rfl, rfl, rfl⟩
 | d :: l => by
  obtain ⟨h1, h2, h3⟩ := AA a p l; have e5 : (dK a p d).i 5 = d.i 5 + cM a p (aK d) (d.i 2) := rfl; have e6 : (dK a p d).i 6 = d.i 6 := rfl; have eb : aK (dK a p d) = aK d := rfl; simp only [zaX, af, bm, h1, h2, h3, e5, e6, eb]
  and_intros <;> first | trivial | omega
theorem Eb (f : Dat -> Int) (b : Int) : ∀ l : List Dat, (∀ d ∈ l, 0 <= f d /\ f d <= b) -> 0 <= bm f l /\ bm f l <= b * l.length
 | [], _ => by simp [bm]
 | d :: l, h => by
  have h1 := h d (by simp); have h2 := Eb f b l fun x hx => h x (by simp [hx])
  simp only [bm, zaf, zas, zbZ]; omega
theorem Ii {n b : Int} (h1 : 0 <= n) (h2 : n <= 1099511627776) (h3 : 0 <= b) (h4 : b <= 10000) : mdV n b 10000 0 = n * b / 10000 /\ 0 <= mdV n b 10000 0 /\ mdV n b 10000 0 <= n := by
 have hm := zbR h4 h1; have hz := zaZ h1 h3; have i := Qj (n := n) (b := b) (p := 10000) (h := 0) h1 (by omega) h3 (by omega) (by omega) (by omega) (by omega) (by omega) (by omega); rw [i.2.1, MV]; omega
theorem ju {l : List Dat} (h : di l = true) : 1 <= l.length /\ l.length <= 16 := by
 simp only [di, zab, zac] at h; omega
theorem FO {T : ab} {i : Nat} (hi : i < (cTr T).length) : ae ((cTr T).map fk) i = fk (ae (cTr T) i) := AO _ hi
section
variable {T : ab} {l : List Dat} (h : de T) (hp : T.n.period < 600) (he : (cP T l).e = 0)
include h
theorem yq : T.tr.length = T.notes.length := by
 have := congrArg List.length h.HL; simpa using this
theorem cL : T.tr.length <= 8 /\ 1 <= T.tr.length := by
 have := (cr h.lK).RF; rw [yq h]; exact ⟨this.2, this.1⟩
theorem dA : du T.tr := ⟨by have := cL h; omega, fun d hd => (h.Js d hd).1⟩
theorem dg : T.ax.length = T.aC.length /\ T.ax.length <= 64 := by
 have := congrArg List.length h.ids; have := (cr h.lK).QU; simp only [za5, gj] at *
 omega
theorem dP : 0 <= af 1 T.ax /\ 0 <= af 2 T.ax /\ af 1 T.ax + af 2 T.ax + T.n.aS <= 1099511627776 := by
 have h1 := ga h.sA; have h2 := (cr h.lK).ax.2; have h3 := h.bal; have : af 1 (gj T).aC = af 1 T.aC := rfl; omega
theorem ky : (0 <= pA T /\ pA T <= 1200000000000) /\ du (cTr T) /\ (∀ d ∈ cTr T, d.i 5 <= 1200000000000 * (T.n.period + 1)) /\ (DL T = af 5 (cTr T) - af 5 T.tr /\ 0 <= DL T /\ DL T <= 1200000000000 * T.tr.length) /\ bm aK (cTr T) = bm aK T.tr /\ af 6 (cTr T) = af 6 T.tr := by
 have D := cr h.lK; obtain ⟨b1, b2, b3⟩ := dP h; have r0 := h.sD; have hs : ∀ d ∈ T.tr, 0 <= cM T.a T.n.period (aK d) (d.i 2) /\ cM T.a T.n.period (aK d) (d.i 2) <= 1200000000000 := fun d hd =>
  pL _ D.year.1 D.year.2 D.month.1 D.month.2 h.period.1 (by have := h.period.2; omega) (BF (h.Js d hd).1).1 (BF (h.Js d hd).1).2
 obtain ⟨a1, a2, a3⟩ := AA T.a T.n.period T.tr; have sd := Eb (fun d => cM T.a T.n.period (aK d) (d.i 2)) 1200000000000 T.tr hs; have hsh : ∀ d ∈ cTr T, aH d = true /\ d.i 5 <= 1200000000000 * (T.n.period + 1) := fun d hd => by
  obtain ⟨x, hx, rfl⟩ := za3.1 hd; obtain ⟨g, g5⟩ := h.Js x hx; have g' := bW g; have := hs x hx; have := h.period; have e5 : (dK T.a T.n.period x).i 5 = x.i 5 + cM T.a T.n.period (aK x) (x.i 2) := rfl; refine ⟨zad ?_, by omega⟩; rw [e5]; show (0 <= x.i 1 /\ x.i 1 <= 1099511627776 /\ 0 <= x.i 3 /\ x.i 4 = 0 /\ 0 <= x.i 6 /\ x.i 3 + x.i 6 <= x.i 1 /\ _); omega
 refine ⟨pL _ D.year.1 D.year.2 D.month.1 D.month.2 h.period.1 (by have := h.period.2; omega) b1 (by omega), ⟨by simp only [cTr, za5]; have := cL h; omega, fun d hd => (hsh d hd).1⟩, fun d hd => (hsh d hd).2, ⟨?_, sd.1, sd.2⟩, a3, a2⟩; show bm _ T.tr = af 5 (T.tr.map (dK T.a T.n.period)) - af 5 T.tr; omega
theorem oY : (cTr T).length = T.tr.length := by simp [cTr]
include he
theorem jR : (∀ d ∈ (cP T l).ax, gA d) /\ (cP T l).ax.map (fun d => d.i 0) = T.ax.map (fun d => d.i 0) /\ af 1 (cP T l).ax = af 1 T.ax - (cP T l).p - (cP T l).l /\ af 2 (cP T l).ax = af 2 T.ax + (cP T l).l - (cP T l).r /\
 0 <= (cP T l).p /\ 0 <= (cP T l).l /\ 0 <= (cP T l).r /\ 0 <= (cP T l).q /\ (cP T l).q <= 70368744177664 := by
 have b := dP h; have r0 := h.sD; exact Fa h.sA (by omega) he
theorem lF : (0 <= cIn T l /\ cIn T l <= 75000000000000) /\ (-1000000000000000 <= mO T l /\ mO T l <= 10000000000000000) /\ (0 <= fV T l /\ fV T l <= T.n.rin - T.n.aG /\ fV T l <= max (mO T l) 0) /\ (0 <= oP T l /\ oP T l <= T.b.advance - T.n.out) := by
 obtain ⟨p1, p2, p3, p4, p5, p6, p7, p8, p9⟩ := jR h he; obtain ⟨a1, a2, a3, a4, a5⟩ := ky h; have n1 := ga p1; have b := dP h; have r0 := h.sD; have hi : 0 <= cIn T l /\ cIn T l <= 75000000000000 := by unfold cIn; omega
 have s5 := (fE (cTr T) a2.2).2.1; have hl := cL h; have f := h.fee; have p := h.period; have s5' : af 5 (cTr T) <= 1200000000000 * 601 * 8 := by
  have := pN 5 (1200000000000 * 601) (cTr T) fun d hd => ⟨(bW (a2.2 d hd)).2.2.2.2.2.2.1, by have := a3 d hd; omega⟩
  have := oY h; omega
 have hn : -1000000000000000 <= mO T l /\ mO T l <= 10000000000000000 := by unfold mO; omega
 have r := h.res; have o := h.out; refine ⟨hi, hn, ?_, ?_⟩
 . unfold fV fZ; omega
 . unfold oP Cv; omega
theorem sV : nO (cX T l) = true /\ aY ((cTr T).map fk) = true /\ ((cX T l).room <= 1099511627776 /\ (cX T l).az <= 800000000000000) := by
 obtain ⟨p1, p2, p3, p4, p5, p6, p7, p8, p9⟩ := jR h he; obtain ⟨a1, a2, a3, a4, a5⟩ := ky h; obtain ⟨c1, c2, c3, c4⟩ := lF h he; have n1 := ga p1; have b := dP h; have D := cr h.lK; have r := h.res; have o := h.out; have hpe := h.period; have f := h.fee; have r0 := h.sD; have sb := (fE (cTr T) a2.2).1; have tg : 0 <= T.b.target /\ T.b.target <= 10000 := D.target; have ad : T.b.advance <= 1099511627776 := D.advance.2; have g := Ii (n := af 1 (cP T l).ax) (b := T.b.target) n1.1 (by omega) tg.1 tg.2; refine ⟨zad ?_, u7 (by rw [za5]; exact a2.1) fun d hd => ?_, ?_, ?_⟩
 . simp only [cX, v3]; omega
 . obtain ⟨x, hx, rfl⟩ := za3.1 hd; have g := bW (a2.2 x hx); have gb := BF (a2.2 x hx); simp only [kj, fk, zab, dZ, iC]; clear p1 p2 p3 p4 p5 p6 p7 p8 p9 a1 a3 a4 a5 c1 c2 c3 c4 D r o f r0 sb tg ad b n1 hpe; exact ⟨rfl, zad (by omega)⟩
 . simp only [cX, v3]; omega
 . simp only [cX]; omega
end
theorem BH {m p c : Int} {o i a s : Bool} (hm : 0 <= m /\ m <= 2) (hp : 0 <= p) : (0 <= (cO m p c o i a s).1 /\ (cO m p c o i a s).1 <= 2) /\ 0 <= (cO m p c o i a s).2 /\ (cO m p c o i a s).2 <= p + 1 := by
 unfold cO
 repeat' split
 all_goals (simp only; omega)
section
variable {T : ab} {l : List Dat} (h : de T) (hp : T.n.period < 600) (he : (cP T l).e = 0)
include h
theorem ru : di (fD (gj T) T.n.mode) = true := by
 have D := cr h.lK; have m := h.mode; unfold fD
 by_cases m0 : T.n.mode = 0
 . rw [if_pos m0]; exact D.s0
 rw [if_neg m0]
 by_cases m1 : T.n.mode = 1
 . rw [if_pos m1]; exact D.s1
 rw [if_neg m1, if_pos (by omega)]; exact D.s2
include he
theorem xh : Kept (cX T l) ((cTr T).map fk) (dk T l).2.2 (dk T l).1 (dk T l).2.1 /\ (∀ d ∈ (dk T l).2.2, Hw T.tr.length 0 (fD (gj T) T.n.mode) d) /\ nO (dk T l).1 = true /\ aY (dk T l).2.1 = true /\ (dk T l).2.2.length <= 128000 := by
 obtain ⟨x1, x2, x3, x4⟩ := sV h he; have k := xI (fD (gj T) T.n.mode) 0 (cX T l) _ x1 x2; have o := DU (fD (gj T) T.n.mode) 0 (cX T l) _ x1 x2; have sl := ju (ru h); have e : ((cTr T).map fk).length = T.tr.length := by rw [za5, oY h]
 rw [e] at k; exact ⟨k.1, k.2.1, o.1, o.2.1, by have := o.2.2.2; unfold dk; omega⟩
theorem oK : (∀ d ∈ (dk T l).2.2, 1 <= d.i 3 /\ ((d.i 1 = 1 \/ d.i 1 = 2 \/ d.i 1 = 6) \/ (0 <= d.i 2 /\ d.i 2 < (T.tr.length : Int)))) /\ af 3 (dk T l).2.2 <= 800000000000000 /\
 (0 <= aT kF (dk T l).2.2 /\ aT kF (dk T l).2.2 <= T.n.fee + pA T) /\ (0 <= aT kR (dk T l).2.2 /\ aT kR (dk T l).2.2 <= T.n.out) /\ (0 <= aT kT (dk T l).2.2 /\ aT kT (dk T l).2.2 <= (cX T l).room) /\
 ∀ i, i < T.tr.length -> (0 <= aT (toB i) (dk T l).2.2 /\ aT (toB i) (dk T l).2.2 <= aK (ae (cTr T) i)) /\ (0 <= aT (toI i) (dk T l).2.2 /\ aT (toI i) (dk T l).2.2 <= (ae (cTr T) i).i 5) := by
 obtain ⟨k, p, g, c, _⟩ := xh h he; obtain ⟨x1, x2, x3, x4⟩ := sV h he; have g := te g; have hpp : ∀ d ∈ (dk T l).2.2, 1 <= d.i 3 /\ ((d.i 1 = 1 \/ d.i 1 = 2 \/ d.i 1 = 6) \/ (0 <= d.i 2 /\ d.i 2 < (T.tr.length : Int))) := fun d hd => by
  obtain ⟨_, _, h1, h2, h3, h4⟩ := p d hd; refine ⟨h2, ?_⟩; rw [<- h1] at h4
  by_cases hn : d.i 2 < 0
  . exact .inl (h4.1 hn)
  . exact .inr (by omega)
 have n0 := fun f => mG f (dk T l).2.2 fun d hd => by have := (hpp d hd).1; omega
 have kf := k.fee; have kr := k.bJ; have kt := k.room; have kc := k.az; have e1 : (cX T l).fee = T.n.fee + pA T := rfl; have e2 : (cX T l).bJ = T.n.out := rfl; refine ⟨hpp, by omega, ⟨n0 _, by omega⟩, ⟨n0 _, by omega⟩, ⟨n0 _, by omega⟩, fun i hi => ?_⟩; have hl := oY h; have hr := k.row i (by rw [za5]; omega); rw [FO (by omega)] at hr; have hc := cu ((bP c).2 _ (mD (l := (dk T l).2.1) (j := i) (by rw [k.len, za5]; omega))); rw [hr] at hc; have b1 : (fk (ae (cTr T) i)).i 1 = aK (ae (cTr T) i) := rfl; have b2 : (fk (ae (cTr T) i)).i 2 = (ae (cTr T) i).i 5 := rfl; simp only [dZ, iC, b1, b2] at hc; exact ⟨⟨n0 _, by omega⟩, ⟨n0 _, by omega⟩⟩
theorem jw : (dv T l).1 = { T.n with fee := T.n.fee + pA T - aT kF (dk T l).2.2, out := T.n.out - aT kR (dk T l).2.2, rin := T.n.rin + aT kT (dk T l).2.2, aG := T.n.aG + fV T l } /\ (dv T l).2.length = T.tr.length /\ du (dv T l).2 /\
 (∀ i, i < T.tr.length -> oU (ae (cTr T) i) (ae (dv T l).2 i) (aT (toB i) (dk T l).2.2) (aT (toI i) (dk T l).2.2)) /\ oV (dk T l).2.2 (cN1 T l) (cTr T) = true := by
 obtain ⟨s1, s2, s3, s4, s5, s6⟩ := oK h he; obtain ⟨k, p, g, c, pl⟩ := xh h he; obtain ⟨a1, a2, a3, a4, a5⟩ := ky h; obtain ⟨c1, c2, c3, c4⟩ := lF h he; have hl := oY h; obtain ⟨d1, d2, d3⟩ := qW (dk T l).2.2 (cN1 T l) (cTr T) (fun d hd => by have := (s1 d hd).1; omega) (fun d hd => by rw [hl]; exact (s1 d hd).2) (fun i hi => by have := s6 i (by omega); omega); have f := h.fee; have o := h.out; have r := h.res; have hpe := h.period; have ad : T.b.advance <= 1099511627776 := (cr h.lK).advance.2; have hg : du (dv T l).2 := by
  have hdl : (dv T l).2.length = (cTr T).length := d2; refine ⟨by have := a2.1; omega, fun d hd => ?_⟩; obtain ⟨i, hi, rfl⟩ := gG hd; obtain ⟨_, e1, _, e3, e4, e5, e6⟩ := d3 i (by omega); have := s6 i (by omega); have gi := bW (bV (c := cTr T) (i := i) (by omega) a2.2); have e1' : (ae (dv T l).2 i).i 1 = (ae (cTr T) i).i 1 := e1; have e3' : (ae (dv T l).2 i).i 3 = (ae (cTr T) i).i 3 + aT (toB i) (dk T l).2.2 := e3; have e4' : (ae (dv T l).2 i).i 4 = (ae (cTr T) i).i 4 := e4; have e5' : (ae (dv T l).2 i).i 5 = (ae (cTr T) i).i 5 - aT (toI i) (dk T l).2.2 := e5; have e6' : (ae (dv T l).2 i).i 6 = (ae (cTr T) i).i 6 := e6; refine zad ?_
  rw [e1', e3', e4', e5', e6']; unfold aK at this; omega
 refine ⟨d1, d2.trans hl, hg, fun i hi => d3 i (by omega), ?_⟩; simp only [oV, zab, zac, zam]; refine ⟨by omega, fun d hd => ?_, ⟨by omega, ?_⟩, a2⟩
 . have := s1 d hd; simp only [Di, zab, zbf, zac, hl]; exact ⟨by omega, this.2⟩
 . simp only [cN1]; omega
theorem o3 : cN2 T l = { T.n with fee := T.n.fee + pA T - aT kF (dk T l).2.2, out := T.n.out - aT kR (dk T l).2.2 + oP T l, rin := T.n.rin + aT kT (dk T l).2.2, aG := T.n.aG + fV T l, aL := T.n.aL + (cP T l).l, aS := T.n.aS + (cP T l).r } := by
 unfold cN2; rw [(jw h he).1]
theorem qS : 0 <= cN (bm unD (dv T l).2) (af 1 (cP T l).ax) (cN2 T l).aL (cN2 T l).aS /\ cN (bm unD (dv T l).2) (af 1 (cP T l).ax) (cN2 T l).aL (cN2 T l).aS <= bm unD (dv T l).2 /\
 cN (bm unD (dv T l).2) (af 1 (cP T l).ax) (cN2 T l).aL (cN2 T l).aS <= af 2 (cP T l).ax /\ (cN2 T l).aL - (cN2 T l).aS = af 2 (cP T l).ax := by
 obtain ⟨p1, p2, p3, p4, p5, p6, p7, p8, p9⟩ := jR h he; have g := (jw h he).2.2.1; have u := (fE _ g.2).2.2.2.1; have t := vr (bm unD (dv T l).2) (af 1 (cP T l).ax) (cN2 T l).aL (cN2 T l).aS; have n1 := ga p1; have hl := h.lost; have e : (cN2 T l).aL - (cN2 T l).aS = af 2 (cP T l).ax := by rw [o3 h he]; simp only; omega
 omega
theorem qz : du (lq T l) /\ eU (dv T l).2 (lq T l) /\ af 6 (lq T l) = cN (bm unD (dv T l).2) (af 1 (cP T l).ax) (cN2 T l).aL (cN2 T l).aS := by
 have t := qS h he; exact Fp (jw h he).2.2.1 t.1 t.2.1
theorem Fh : (lq T l).length = T.tr.length /\ ∀ i, i < T.tr.length -> (ae (lq T l) i).i 0 = (ae T.tr i).i 0 /\ (ae (lq T l) i).i 1 = (ae T.tr i).i 1 /\ (ae (lq T l) i).i 2 = (ae T.tr i).i 2 /\ (ae (lq T l) i).i 3 = (ae T.tr i).i 3 + aT (toB i) (dk T l).2.2 /\ (ae (lq T l) i).i 4 = (ae T.tr i).i 4 /\
 (ae (lq T l) i).i 5 = (ae T.tr i).i 5 + cM T.a T.n.period (aK (ae T.tr i)) ((ae T.tr i).i 2) - aT (toI i) (dk T l).2.2 /\ ae (cTr T) i = dK T.a T.n.period (ae T.tr i) := by
 obtain ⟨d1, d2, d3, d4, d5⟩ := jw h he; obtain ⟨g, s, _⟩ := qz h he; refine ⟨s.len.trans d2, fun i hi => ?_⟩; obtain ⟨r0, r1, r2, r3, r4, r5⟩ := s.row i (by omega); obtain ⟨e0, e1, e2, e3, e4, e5, e6⟩ := d4 i hi; have hr : ae (cTr T) i = dK T.a T.n.period (ae T.tr i) := AO _ hi; rw [hr] at e0 e1 e2 e3 e4 e5; have q5 : (dK T.a T.n.period (ae T.tr i)).i 5 = (ae T.tr i).i 5 + cM T.a T.n.period (aK (ae T.tr i)) ((ae T.tr i).i 2) := rfl; rw [q5] at e5; exact ⟨r0.trans e0, r1.trans e1, r2.trans e2, r3.trans e3, r4.trans e4, r5.trans e5, hr⟩
include hp
theorem Ci : de (bC T l).t := by
 obtain ⟨p1, p2, p3, p4, p5, p6, p7, p8, p9⟩ := jR h he; obtain ⟨a1, a2, a3, a4, a5⟩ := ky h; obtain ⟨c1, c2, c3, c4⟩ := lF h he; obtain ⟨s1, s2, s3, s4, s5, s6⟩ := oK h he; obtain ⟨x1, x2, x3, x4⟩ := sV h he; obtain ⟨t1, t2, t3⟩ := qz h he; obtain ⟨g1, g2, g3, g4⟩ := qS h he; obtain ⟨r1, r2⟩ := Fh h he; have e := o3 h he; have n := BH (c := T.b.eE) (o := (T.b.oc == 0 || bH (af 1 (cP T l).ax) (bm aK (lq T l)) T.b.oc)) (i := (T.b.ic == 0 || bH (min (cP T l).q 1099511627776) (min (DL T) 1099511627776) T.b.ic))
  (a := (T.b.late == 0 || bK (cf 2 (cP T l).ax + cf 3 (cP T l).ax) (af 1 (cP T l).ax) T.b.late)) (s := (T.b.kL == 0 || bK ((cN2 T l).aL - (cN2 T l).aS) (af 1 T.aC) T.b.kL)) h.mode h.aX.1
 have bl := h.bal; have r0 := h.sD; have pe := h.period; have pa := h.aX; have fe := h.fee; have ou := h.out; have re := h.res; refine ⟨h.lK, ?_, fun d hd => ?_, p2.trans h.ids, p1, ?_, g4, ?_, ?_, n.1, ?_, ?_, ?_, ?_, ?_⟩
 . refine Eq.trans ?_ h.HL; refine List.ext_getElem (by simp [bC, r1]) fun i h1 h2 => ?_
   simp only [za5] at h1 h2; have hi : i < T.tr.length := h2; have := r2 i hi; rw [eG (show i < (lq T l).length by omega), eG hi] at this; simp only [List.getElem_map]; exact Prod.ext this.1 (Prod.ext this.2.1 this.2.2.1)
 . refine ⟨t1.2 d hd, ?_⟩; obtain ⟨i, hi, rfl⟩ := gG (show d ∈ lq T l from hd); have hi : i < T.tr.length := by omega
   have := (r2 i hi).2.2.2.2.2.1; have q := a3 _ (mD (l := cTr T) (j := i) (by rw [oY h]; exact hi)); rw [(r2 i hi).2.2.2.2.2.2] at q; have q5 : (dK T.a T.n.period (ae T.tr i)).i 5 = (ae T.tr i).i 5 + cM T.a T.n.period (aK (ae T.tr i)) ((ae T.tr i).i 2) := rfl; rw [q5] at q; have := (s6 i hi).2.1; show (ae (lq T l) i).i 5 <= 1200000000000 * (T.n.period + 1)
   omega
 . show af 1 (cP T l).ax + af 2 (cP T l).ax + (cN2 T l).aS <= af 1 T.aC; rw [e]; simp only; omega
 . show 0 <= (cN2 T l).aS; rw [e]; simp only; omega
 . show 0 <= T.n.period + 1 /\ T.n.period + 1 <= 600; omega
 . show 0 <= (uD T l).2 /\ (uD T l).2 <= T.n.period + 1; exact ⟨n.2.1, by have := n.2.2; unfold uD; omega⟩
 . show 0 <= (cN2 T l).fee /\ (cN2 T l).fee <= 1200000000000 * (T.n.period + 1)
   rw [e]; simp only; omega
 . show 0 <= (cN2 T l).out /\ (cN2 T l).out <= T.b.advance; rw [e]; simp only; omega
 . show 0 <= (cN2 T l).aG /\ (cN2 T l).aG <= (cN2 T l).rin /\ (cN2 T l).rin <= 1200000000000 * (T.n.period + 1 + 1)
   rw [e]; simp only; omega
 . show af 6 (lq T l) <= af 2 (cP T l).ax; omega
end
def fP (T : ab) : Bool := @decide (de T) (Classical.propDecidable _)
theorem eB {T : ab} : fP T = true ↔ de T := by unfold fP; simp
theorem nM {l : List Dat} (h : ∀ d ∈ l, gA d) (hl : l.length <= 1000) : (decide (l.length <= 1000) && l.all cw) = true := by
 rw [zab, zam]; exact ⟨zad hl, fun d hd => zad (by have := h d hd; unfold gA at this; omega)⟩
theorem jL {T : ab} (h : de T) : T.aC.length < 1000000 /\ T.notes.length < 1000000 /\ T.s0.length < 1000000 /\ T.s1.length < 1000000 /\ T.s2.length < 1000000 /\ T.ax.length < 1000000 /\ T.tr.length < 1000000 := by
 have D := cr h.lK; have h0 := ju D.s0; have h1 := ju D.s1; have h2 := ju D.s2; have h3 := dg h; have h4 := cL h; have h5 := yq h; have : (gj T).aC = T.aC := rfl; have := D.QU; simp only [gj] at *
 omega
theorem Bg {T : ab} (h : de T) : (fD (gj T) T.n.mode).length <= 16 := (ju (ru h)).2
def N13 : aD := ⟨T47.tab, 13, ⟨[.np 0 0 0, .ag (sB 6)], br 0, 0⟩, ⟨[.agg [.bool, .int .i64, .int .i64, .int .i64, .int .i64, .int .i64, .int .i64, .int .i64, .int .i64, .int .i64, .int .i64, .buf 17 4, .int .i64, .int .i64, .int .i64, .int .i64, .int .i64, .buf 18 3, .int .i64], .int .i64], [.cells [.int .i64, .int .i64, .int .i64, .buf 9 2, .buf 10 3, .int .i64, .int .i64, .int .i64, .int .i64, .int .i64, .int .i64, .int .i64, .int .i64, .int .i64, .int .i64, .buf 11 2, .buf 12 2, .buf 13 2, .ptr 14 0 0, .buf 16 7, .int .i64, .int .i64, .int .i64, .int .i64, .int .i64, .int .i64, .int .i64, .int .i64, .int .i64, .bool], .gone, .gone, .gone, .gone, .gone, .gone, .gone, .gone, .ag (sI 2), .ag (sI 3), .ag (sI 2), .ag (sI 2), .ag (sI 2), .cells [.buf 15 5], .ag (sB 4), .ag (sI 7), .ag (sI 4), .ag (sI 3)], 0⟩, []⟩
def t13 (m : Nat) : Int × List Dat × ao × an × ah × List Dat × List Dat × List Dat × List Dat × List Dat × List Dat × List Dat -> Option (List Un) := fun (a0, a1, a2, a3, a4, a5, a6, a7, a8, a9, a10, a11) =>
 chk (decide (0 <= a0)) <|
 bif a4.dt then
 some (Uns.enc ((⟨false, 0, 0, 0, 0, 0, 0, 0, 0, 0, 0⟩ : eZ) : eZ) ++ Uns.enc ((⟨0, 0, 0, 0, 0⟩ : dM) : dM) ++ [.i 0, .i 5] ++ Uns.enc (a2 : ao) ++ Uns.enc (a3 : an) ++ Uns.enc (a4 : ah) ++ [.d a5, .d a6, .d a7, .d a8, .d a9, .d a10, .d a11, .d ([]), .d ([])])
 else
 chk (decide (0 <= a0)) <|
 bif (decide (a4.period >= 600)) then
 some (Uns.enc ((⟨false, 0, 0, 0, 0, 0, 0, 0, 0, 0, 0⟩ : eZ) : eZ) ++ Uns.enc ((⟨0, 0, 0, 0, 0⟩ : dM) : dM) ++ [.i 0, .i 4] ++ Uns.enc (a2 : ao) ++ Uns.enc (a3 : an) ++ Uns.enc (a4 : ah) ++ [.d a5, .d a6, .d a7, .d a8, .d a9, .d a10, .d a11, .d ([]), .d ([])])
 else
 chk (decide (0 <= a0) && decide (a5.length < 1000000 /\ a6.length < 1000000 /\ a7.length < 1000000 /\ a8.length < 1000000 /\ a9.length < 1000000 /\ a10.length < 1000000 /\ a11.length < 1000000)) <|
 chk (decide (0 < ([.r [.r a10]] : List Dat).length) && (decide (((ae ([.r [.r a10]] : List Dat) 0).d 0).length <= 1000) && ((ae ([.r [.r a10]] : List Dat) 0).d 0).all cw)) <|
 lt ((af 1 ((ae ([.r [.r a10]] : List Dat) 0).d 0)) : Int) fun x2 =>
 chk (decide (a10.length < 1000000)) <|
 bif (((av a1 a10).e) != 0) then
 some (Uns.enc ((⟨false, 0, 0, 0, 0, 0, 0, 0, 0, 0, 0⟩ : eZ) : eZ) ++ Uns.enc ((⟨0, 0, 0, 0, 0⟩ : dM) : dM) ++ [.i 0, .i ((av a1 a10).e)] ++ Uns.enc (a2 : ao) ++ Uns.enc (a3 : an) ++ Uns.enc (a4 : ah) ++ [.d a5, .d a6, .d a7, .d a8, .d a9, .d a10, .d a11, .d ([]), .d ([])])
 else
 chk (decide ((1 <= a2.year /\ a2.year <= 9000 /\ 1 <= a2.month /\ a2.month <= 12) /\ (0 <= a4.period /\ a4.period <= 600) /\ (0 <= a4.fee /\ a4.fee <= 1125899906842624) /\ (0 <= x2 /\ x2 <= 1099511627776)) && (decide (a11.length <= 1000) && a11.all aH)) <|
 lt ((bm (fun d => cM a2 a4.period (aK d) (d.i 2)) a11) : Int) fun x4 =>
 lt (({ a4 with fee := a4.fee + cM a2 a4.period x2 a3.fee }) : ah) fun g5 =>
 chk (decide (0 <= 0) && (decide ((a11.map (dK a2 a4.period)).length <= 1000) && (a11.map (dK a2 a4.period)).all aH)) <|
 lt ((w64 (g5.fee + (af 5 (a11.map (dK a2 a4.period))))) : Int) fun x6 =>
 lt ((w64 ((w64 ((w64 ((w64 (((av a1 a10).p) + ((av a1 a10).q))) + ((av a1 a10).r))) + 0)) + 0)) : Int) fun x9 =>
 chk (decide (0 <= 0) && decide ((-1152921504606846976 <= (w64 (x6 - x9)) /\ (w64 (x6 - x9)) <= 1152921504606846976) /\ ((0 : Int) <= g5.aG /\ g5.aG <= g5.rin /\ g5.rin <= (1152921504606846976 : Int)) /\ (0 <= g5.out /\ g5.out <= 1152921504606846976) /\ (0 <= a3.advance /\ a3.advance <= 1152921504606846976))) <|
 lt ((fZ (w64 (x6 - x9)) (g5.rin - g5.aG)) : Int) fun x10 =>
 lt ((Cv (w64 (x6 - x9)) (g5.rin - g5.aG) (a3.advance - g5.out)) : Int) fun x11 =>
 lt (({ g5 with aG := g5.aG + fZ (w64 (x6 - x9)) (g5.rin - g5.aG) }) : ah) fun g12 =>
 lt ((w64 ((w64 ((w64 ((w64 (((av a1 a10).p) + ((av a1 a10).q))) + ((av a1 a10).r))) + x10)) + x11)) : Int) fun x15 =>
 chk (decide (((0 <= ((av a1 a10).p) /\ ((av a1 a10).p) <= 1125899906842624) /\ (0 <= ((av a1 a10).l) /\ ((av a1 a10).l) <= 1125899906842624) /\ (0 <= ((av a1 a10).r) /\ ((av a1 a10).r) <= 1125899906842624)) /\ (0 <= g12.aG /\ g12.aG <= g12.rin /\ g12.rin <= 1152921504606846976)) && ((decide (((av a1 a10).ax).length <= 1000) && ((av a1 a10).ax).all cw) && (decide ((a11.map (dK a2 a4.period)).length <= 1000) && (a11.map (dK a2 a4.period)).all aH))) <|
 lt ((min (((av a1 a10).p) + ((av a1 a10).r) + ((av a1 a10).l)) (bm aK (a11.map (dK a2 a4.period)))) : Int) fun x16 =>
 lt ((v3 a3.target (af 1 ((av a1 a10).ax)) (g12.rin - g12.aG)) : Int) fun x17 =>
 chk (decide ((⟨a2, a5, a6, a3, a7, a8, a9⟩ : aP).s0.length < 1000000 /\ (⟨a2, a5, a6, a3, a7, a8, a9⟩ : aP).s1.length < 1000000 /\ (⟨a2, a5, a6, a3, a7, a8, a9⟩ : aP).s2.length < 1000000)) <|
 lt ((fD (⟨a2, a5, a6, a3, a7, a8, a9⟩ : aP) g12.mode) : List Dat) fun l18 =>
 chk (decide (l18.length <= 1000000) && (nO ⟨x15, g12.fee, g12.out, x16, x17⟩ && aY ((a11.map (dK a2 a4.period)).map fk))) <|
 lt (((dL 0 l18 ⟨x15, g12.fee, g12.out, x16, x17⟩ ((a11.map (dK a2 a4.period)).map fk)).2.2) : List Dat) fun l24 =>
 chk (decide (0 <= 0) && oV l24 g12 (a11.map (dK a2 a4.period))) <|
 lt (((cI l24 g12 (a11.map (dK a2 a4.period))).1).out : Int) fun x26 =>
 chk (decide (((0 <= ((av a1 a10).p) /\ ((av a1 a10).p) <= 1125899906842624) /\ (0 <= ((av a1 a10).l) /\ ((av a1 a10).l) <= 1125899906842624) /\ (0 <= ((av a1 a10).r) /\ ((av a1 a10).r) <= 1125899906842624)) /\ (0 <= ({ ((cI l24 g12 (a11.map (dK a2 a4.period))).1) with out := (w64 (x26 + x11)) } : ah).aL /\ ({ ((cI l24 g12 (a11.map (dK a2 a4.period))).1) with out := (w64 (x26 + x11)) } : ah).aL <= 1125899906842624) /\ (0 <= ({ ((cI l24 g12 (a11.map (dK a2 a4.period))).1) with out := (w64 (x26 + x11)) } : ah).aS /\ ({ ((cI l24 g12 (a11.map (dK a2 a4.period))).1) with out := (w64 (x26 + x11)) } : ah).aS <= 1125899906842624)) && ((decide (((av a1 a10).ax).length <= 1000) && ((av a1 a10).ax).all cw) && (decide (((cI l24 g12 (a11.map (dK a2 a4.period))).2).length <= 1000) && ((cI l24 g12 (a11.map (dK a2 a4.period))).2).all aH))) <|
 lt (({ ({ ((cI l24 g12 (a11.map (dK a2 a4.period))).1) with out := (w64 (x26 + x11)) } : ah) with aL := ({ ((cI l24 g12 (a11.map (dK a2 a4.period))).1) with out := (w64 (x26 + x11)) } : ah).aL + ((av a1 a10).l), aS := ({ ((cI l24 g12 (a11.map (dK a2 a4.period))).1) with out := (w64 (x26 + x11)) } : ah).aS + ((av a1 a10).r) }) : ah) fun g27 =>
 lt ((fL (cN (bm unD ((cI l24 g12 (a11.map (dK a2 a4.period))).2)) (af 1 ((av a1 a10).ax)) (({ ((cI l24 g12 (a11.map (dK a2 a4.period))).1) with out := (w64 (x26 + x11)) } : ah).aL + ((av a1 a10).l)) (({ ((cI l24 g12 (a11.map (dK a2 a4.period))).1) with out := (w64 (x26 + x11)) } : ah).aS + ((av a1 a10).r))) ((cI l24 g12 (a11.map (dK a2 a4.period))).2)) : List Dat) fun l28 =>
 chk (decide (0 <= 0) && ((decide (((av a1 a10).ax).length <= 1000) && ((av a1 a10).ax).all cw) && (decide (l28.length <= 1000) && l28.all aH))) <|
 lt ((a3.oc == 0 || bH (af 1 ((av a1 a10).ax)) (bm aK l28) a3.oc) : Bool) fun x32 =>
 lt ((a3.ic == 0 || bH (min ((av a1 a10).q) 1099511627776) (min x4 1099511627776) a3.ic) : Bool) fun x33 =>
 lt ((a3.late == 0 || bK (cf 2 ((av a1 a10).ax) + cf 3 ((av a1 a10).ax)) (af 1 ((av a1 a10).ax)) a3.late) : Bool) fun x34 =>
 lt ((a3.kL == 0 || bK (w64 (g27.aL - g27.aS)) (((bu (⟨a2, a5, a6, a3, a7, a8, a9⟩ : aP)).getD (0, 0)).1) a3.kL) : Bool) fun x35 =>
 chk (decide (0 <= g27.aX /\ g27.aX <= 1000000)) <|
 chk (decide (0 <= a0)) <|
 chk (decide (0 <= a0) && (decide (0 <= ({ g27 with mode := (cO g27.mode g27.aX a3.eE x32 x33 x34 x35).1, aX := (cO g27.mode g27.aX a3.eE x32 x33 x34 x35).2, period := (w64 (g27.period + 1)) } : ah).aG /\ ({ g27 with mode := (cO g27.mode g27.aX a3.eE x32 x33 x34 x35).1, aX := (cO g27.mode g27.aX a3.eE x32 x33 x34 x35).2, period := (w64 (g27.period + 1)) } : ah).aG <= ({ g27 with mode := (cO g27.mode g27.aX a3.eE x32 x33 x34 x35).1, aX := (cO g27.mode g27.aX a3.eE x32 x33 x34 x35).2, period := (w64 (g27.period + 1)) } : ah).rin /\ ({ g27 with mode := (cO g27.mode g27.aX a3.eE x32 x33 x34 x35).1, aX := (cO g27.mode g27.aX a3.eE x32 x33 x34 x35).2, period := (w64 (g27.period + 1)) } : ah).rin <= 1152921504606846976) && ((decide (((av a1 a10).ax).length <= 1000) && ((av a1 a10).ax).all cw) && (decide (l28.length <= 1000) && l28.all aH)))) <|
 some (Uns.enc ((⟨false, (w64 (a4.period + 1)), a4.mode, (av a1 a10).p, (av a1 a10).q, (av a1 a10).l, (av a1 a10).r, x10, x11, (cM a2 a4.period x2 a3.fee), x4⟩ : eZ) : eZ) ++ Uns.enc ((⟨(⟨((dL 0 l18 ⟨x15, g12.fee, g12.out, x16, x17⟩ ((a11.map (dK a2 a4.period)).map fk)).1.az), 0, 0, 0, 0⟩ : dM).eH, af 1 ((av a1 a10).ax), ({ g27 with mode := (cO g27.mode g27.aX a3.eE x32 x33 x34 x35).1, aX := (cO g27.mode g27.aX a3.eE x32 x33 x34 x35).2, period := (w64 (g27.period + 1)) } : ah).rin - ({ g27 with mode := (cO g27.mode g27.aX a3.eE x32 x33 x34 x35).1, aX := (cO g27.mode g27.aX a3.eE x32 x33 x34 x35).2, period := (w64 (g27.period + 1)) } : ah).aG, ({ g27 with mode := (cO g27.mode g27.aX a3.eE x32 x33 x34 x35).1, aX := (cO g27.mode g27.aX a3.eE x32 x33 x34 x35).2, period := (w64 (g27.period + 1)) } : ah).out, ({ g27 with mode := (cO g27.mode g27.aX a3.eE x32 x33 x34 x35).1, aX := (cO g27.mode g27.aX a3.eE x32 x33 x34 x35).2, period := (w64 (g27.period + 1)) } : ah).fee⟩ : dM) : dM) ++ [.i (({ g27 with mode := (cO g27.mode g27.aX a3.eE x32 x33 x34 x35).1, aX := (cO g27.mode g27.aX a3.eE x32 x33 x34 x35).2, period := (w64 (g27.period + 1)) } : ah).mode), .i 0] ++ Uns.enc (a2 : ao) ++ Uns.enc (a3 : an) ++ Uns.enc (({ g27 with mode := (cO g27.mode g27.aX a3.eE x32 x33 x34 x35).1, aX := (cO g27.mode g27.aX a3.eE x32 x33 x34 x35).2, period := (w64 (g27.period + 1)) } : ah) : ah) ++ [.d a5, .d a6, .d a7, .d a8, .d a9, .d ((av a1 a10).ax), .d l28, .d l24, .d (l28.map zz)])
def f13 : Int × List Dat × ao × an × ah × List Dat × List Dat × List Dat × List Dat × List Dat × List Dat × List Dat -> Bool × List Un := fun (a0, a1, a2, a3, a4, a5, a6, a7, a8, a9, a10, a11) => (decide (0 <= a0) && fP (⟨a2, a3, a4, a5, a6, a7, a8, a9, a10, a11⟩ : ab), Uns.enc (((bf (⟨a2, a3, a4, a5, a6, a7, a8, a9, a10, a11⟩ : ab) a1).ra) : eZ) ++ Uns.enc (((bf (⟨a2, a3, a4, a5, a6, a7, a8, a9, a10, a11⟩ : ab) a1).rb) : dM) ++ [.i ((bf (⟨a2, a3, a4, a5, a6, a7, a8, a9, a10, a11⟩ : ab) a1).next), .i ((bf (⟨a2, a3, a4, a5, a6, a7, a8, a9, a10, a11⟩ : ab) a1).e)] ++ Uns.enc (((bf (⟨a2, a3, a4, a5, a6, a7, a8, a9, a10, a11⟩ : ab) a1).t.a) : ao) ++ Uns.enc (((bf (⟨a2, a3, a4, a5, a6, a7, a8, a9, a10, a11⟩ : ab) a1).t.b) : an) ++ Uns.enc (((bf (⟨a2, a3, a4, a5, a6, a7, a8, a9, a10, a11⟩ : ab) a1).t.n) : ah) ++ [.d ((bf (⟨a2, a3, a4, a5, a6, a7, a8, a9, a10, a11⟩ : ab) a1).t.aC), .d ((bf (⟨a2, a3, a4, a5, a6, a7, a8, a9, a10, a11⟩ : ab) a1).t.notes), .d ((bf (⟨a2, a3, a4, a5, a6, a7, a8, a9, a10, a11⟩ : ab) a1).t.s0), .d ((bf (⟨a2, a3, a4, a5, a6, a7, a8, a9, a10, a11⟩ : ab) a1).t.s1), .d ((bf (⟨a2, a3, a4, a5, a6, a7, a8, a9, a10, a11⟩ : ab) a1).t.s2), .d ((bf (⟨a2, a3, a4, a5, a6, a7, a8, a9, a10, a11⟩ : ab) a1).t.ax), .d ((bf (⟨a2, a3, a4, a5, a6, a7, a8, a9, a10, a11⟩ : ab) a1).t.tr), .d ((bf (⟨a2, a3, a4, a5, a6, a7, a8, a9, a10, a11⟩ : ab) a1).wI), .d ((bf (⟨a2, a3, a4, a5, a6, a7, a8, a9, a10, a11⟩ : ab) a1).notes)])
set_option maxHeartbeats 4000000 in
theorem Om (a0 : Int) (a1 : List Dat) (a2 : ao) (a3 : an) (a4 : ah) (a5 : List Dat) (a6 : List Dat) (a7 : List Dat) (a8 : List Dat) (a9 : List Dat) (a10 : List Dat) (a11 : List Dat) (hc : (decide (0 <= a0) && fP (⟨a2, a3, a4, a5, a6, a7, a8, a9, a10, a11⟩ : ab)) = true) : ∃ m, t13 m (a0, a1, a2, a3, a4, a5, a6, a7, a8, a9, a10, a11) = some (Uns.enc (((bf (⟨a2, a3, a4, a5, a6, a7, a8, a9, a10, a11⟩ : ab) a1).ra) : eZ) ++ Uns.enc (((bf (⟨a2, a3, a4, a5, a6, a7, a8, a9, a10, a11⟩ : ab) a1).rb) : dM) ++ [.i ((bf (⟨a2, a3, a4, a5, a6, a7, a8, a9, a10, a11⟩ : ab) a1).next), .i ((bf (⟨a2, a3, a4, a5, a6, a7, a8, a9, a10, a11⟩ : ab) a1).e)] ++ Uns.enc (((bf (⟨a2, a3, a4, a5, a6, a7, a8, a9, a10, a11⟩ : ab) a1).t.a) : ao) ++ Uns.enc (((bf (⟨a2, a3, a4, a5, a6, a7, a8, a9, a10, a11⟩ : ab) a1).t.b) : an) ++ Uns.enc (((bf (⟨a2, a3, a4, a5, a6, a7, a8, a9, a10, a11⟩ : ab) a1).t.n) : ah) ++ [.d ((bf (⟨a2, a3, a4, a5, a6, a7, a8, a9, a10, a11⟩ : ab) a1).t.aC), .d ((bf (⟨a2, a3, a4, a5, a6, a7, a8, a9, a10, a11⟩ : ab) a1).t.notes), .d ((bf (⟨a2, a3, a4, a5, a6, a7, a8, a9, a10, a11⟩ : ab) a1).t.s0), .d ((bf (⟨a2, a3, a4, a5, a6, a7, a8, a9, a10, a11⟩ : ab) a1).t.s1), .d ((bf (⟨a2, a3, a4, a5, a6, a7, a8, a9, a10, a11⟩ : ab) a1).t.s2), .d ((bf (⟨a2, a3, a4, a5, a6, a7, a8, a9, a10, a11⟩ : ab) a1).t.ax), .d ((bf (⟨a2, a3, a4, a5, a6, a7, a8, a9, a10, a11⟩ : ab) a1).t.tr), .d ((bf (⟨a2, a3, a4, a5, a6, a7, a8, a9, a10, a11⟩ : ab) a1).wI), .d ((bf (⟨a2, a3, a4, a5, a6, a7, a8, a9, a10, a11⟩ : ab) a1).notes)]) := by
 have h0 := zak (zan.1 hc).1; have h := eB.1 (zan.1 hc).2; clear hc; have hl := jL h; have hpl := dg h; have hts := cL h; have hpe : 0 <= a4.period /\ a4.period <= 600 := h.period; have hpa : 0 <= a4.aX /\ a4.aX <= a4.period := h.aX; refine ⟨0, ?_⟩; unfold t13; cases ho : a4.dt with
 | true =>
  have hC : bf (⟨a2, a3, a4, a5, a6, a7, a8, a9, a10, a11⟩ : ab) a1 = noR 5 (⟨a2, a3, a4, a5, a6, a7, a8, a9, a10, a11⟩ : ab) := by unfold bf; rw [show ((⟨a2, a3, a4, a5, a6, a7, a8, a9, a10, a11⟩ : ab)).n.dt = true from ho]; rfl
  rw [hC]; dsimp only; exact aR (zad h0) (jG ho rfl)
 | false =>
 dsimp only; refine aR (zad h0) (jD ho (aR (zad h0) ?_))
 by_cases hp : a4.period >= 600
 . have hC : bf (⟨a2, a3, a4, a5, a6, a7, a8, a9, a10, a11⟩ : ab) a1 = noR 4 (⟨a2, a3, a4, a5, a6, a7, a8, a9, a10, a11⟩ : ab) := by unfold bf; rw [show ((⟨a2, a3, a4, a5, a6, a7, a8, a9, a10, a11⟩ : ab)).n.dt = false from ho, jY, bz hp]
   rw [hC, bz hp]; rfl
 rw [aB hp]; refine aR (zan.2 ⟨zad h0, zad hl⟩) ?_
 refine aR (zan.2 ⟨rfl, nM (l := a10) h.sA (zax hpl.2 (by decide))⟩) ?_
 refine gR fun x2 e2 => ?_
 obtain rfl : x2 = af 1 a10 := e2; refine aR (zad hl.2.2.2.2.2.1) ?_
 by_cases he : (cP (⟨a2, a3, a4, a5, a6, a7, a8, a9, a10, a11⟩ : ab) a1).e = 0
 case neg =>
  have hC : bf (⟨a2, a3, a4, a5, a6, a7, a8, a9, a10, a11⟩ : ab) a1 = noR (cP (⟨a2, a3, a4, a5, a6, a7, a8, a9, a10, a11⟩ : ab) a1).e (⟨a2, a3, a4, a5, a6, a7, a8, a9, a10, a11⟩ : ab) := by unfold bf; rw [show ((⟨a2, a3, a4, a5, a6, a7, a8, a9, a10, a11⟩ : ab)).n.dt = false from ho, jY, aB hp, lx he]
  rw [hC]; exact lx he
 have hC : bf (⟨a2, a3, a4, a5, a6, a7, a8, a9, a10, a11⟩ : ab) a1 = bC (⟨a2, a3, a4, a5, a6, a7, a8, a9, a10, a11⟩ : ab) a1 := by unfold bf; rw [show ((⟨a2, a3, a4, a5, a6, a7, a8, a9, a10, a11⟩ : ab)).n.dt = false from ho, jY, aB hp, lI he]
 rw [hC]; refine Eq.trans (lI he) ?_
 have hp' : ((⟨a2, a3, a4, a5, a6, a7, a8, a9, a10, a11⟩ : ab)).n.period < 600 := by simp only; omega
 have D := cr h.lK; have b : 0 <= af 1 a10 /\ 0 <= af 2 a10 /\ af 1 a10 + af 2 a10 + a4.aS <= 1099511627776 := dP h; have r0 : 0 <= a4.aS := h.sD; have f : 0 <= a4.fee /\ a4.fee <= 1200000000000 * a4.period := h.fee; have o : 0 <= a4.out /\ a4.out <= a3.advance := h.out; have r : 0 <= a4.aG /\ a4.aG <= a4.rin /\ a4.rin <= 1200000000000 * (a4.period + 1) := h.res; have lo : a4.aL - a4.aS = af 2 a10 := h.lost; obtain ⟨q1, q2, q3, q4, q5, q6, q7, q8, q9⟩ := jR h he; obtain ⟨c1, c2, c3, c4, c5⟩ := ky h; obtain ⟨m1, m2, m3, m4⟩ := lF h he; have m3 : 0 <= fV (⟨a2, a3, a4, a5, a6, a7, a8, a9, a10, a11⟩ : ab) a1 /\ fV (⟨a2, a3, a4, a5, a6, a7, a8, a9, a10, a11⟩ : ab) a1 <= a4.rin - a4.aG := ⟨m3.1, m3.2.1⟩
 have m4 : 0 <= oP (⟨a2, a3, a4, a5, a6, a7, a8, a9, a10, a11⟩ : ab) a1 /\ oP (⟨a2, a3, a4, a5, a6, a7, a8, a9, a10, a11⟩ : ab) a1 <= a3.advance - a4.out := m4; obtain ⟨x1, x2, x3, x4⟩ := sV h he; obtain ⟨d1, d2, d3, d4, d5⟩ := jw h he; obtain ⟨t1, t2, t3⟩ := qz h he; have u2 := o3 h he; have k := Bg h; have ad : 0 <= a3.advance /\ a3.advance <= 1099511627776 := D.advance; have nq := ga q1; have hpa9 : a10.length <= 64 := hpl.2; have hqlen : (cP (⟨a2, a3, a4, a5, a6, a7, a8, a9, a10, a11⟩ : ab) a1).ax.length <= 1000 := by
  have hq : (cP (⟨a2, a3, a4, a5, a6, a7, a8, a9, a10, a11⟩ : ab) a1).ax.length = a10.length := by have := congrArg List.length q2; simpa using this
  omega
 have hpo := nM q1 hqlen; have s5 := (fE _ c2.2).2.1; have st := oK h he; have q3 : af 1 (cP (⟨a2, a3, a4, a5, a6, a7, a8, a9, a10, a11⟩ : ab) a1).ax = af 1 a10 - (cP (⟨a2, a3, a4, a5, a6, a7, a8, a9, a10, a11⟩ : ab) a1).p - (cP (⟨a2, a3, a4, a5, a6, a7, a8, a9, a10, a11⟩ : ab) a1).l := q3; have q4 : af 2 (cP (⟨a2, a3, a4, a5, a6, a7, a8, a9, a10, a11⟩ : ab) a1).ax = af 2 a10 + (cP (⟨a2, a3, a4, a5, a6, a7, a8, a9, a10, a11⟩ : ab) a1).l - (cP (⟨a2, a3, a4, a5, a6, a7, a8, a9, a10, a11⟩ : ab) a1).r := q4; have stT := st.2.2.2.2.1; have stR : 0 <= aT kR (dk (⟨a2, a3, a4, a5, a6, a7, a8, a9, a10, a11⟩ : ab) a1).2.2 /\ aT kR (dk (⟨a2, a3, a4, a5, a6, a7, a8, a9, a10, a11⟩ : ab) a1).2.2 <= a4.out := st.2.2.2.1; have s5l : af 5 (cTr (⟨a2, a3, a4, a5, a6, a7, a8, a9, a10, a11⟩ : ab)) <= 1125899906842624000 := by have := c2.1; omega
 refine aR (zan.2 ⟨zad ⟨⟨D.year.1, D.year.2, D.month.1, D.month.2⟩, hpe, ⟨f.1, by omega⟩, b.1, by omega⟩, cV (dA h)⟩) ?_
 refine gR fun x3' e3 => ?_
 obtain rfl : x3' = DL (⟨a2, a3, a4, a5, a6, a7, a8, a9, a10, a11⟩ : ab) := e3; refine gR fun g4 e4 => ?_
 obtain rfl : g4 = { a4 with fee := a4.fee + pA (⟨a2, a3, a4, a5, a6, a7, a8, a9, a10, a11⟩ : ab) } := e4; refine aR (zan.2 ⟨rfl, cV c2⟩) ?_
 refine gR fun x5 e5 => ?_
 obtain rfl : x5 = a4.fee + pA (⟨a2, a3, a4, a5, a6, a7, a8, a9, a10, a11⟩ : ab) + af 5 (cTr (⟨a2, a3, a4, a5, a6, a7, a8, a9, a10, a11⟩ : ab)) := e5.trans (aa (n := a4.fee + pA (⟨a2, a3, a4, a5, a6, a7, a8, a9, a10, a11⟩ : ab) + af 5 (cTr (⟨a2, a3, a4, a5, a6, a7, a8, a9, a10, a11⟩ : ab))) (by omega) (by omega)); refine gR fun x8 e8 => ?_
 obtain rfl : x8 = cIn (⟨a2, a3, a4, a5, a6, a7, a8, a9, a10, a11⟩ : ab) a1 := e8.trans (by
  have i := m1; unfold cIn at i ⊢; rw [show w64 ((av a1 a10).p + (av a1 a10).q) = (cP (⟨a2, a3, a4, a5, a6, a7, a8, a9, a10, a11⟩ : ab) a1).p + (cP (⟨a2, a3, a4, a5, a6, a7, a8, a9, a10, a11⟩ : ab) a1).q from aa (by show _ <= (cP (⟨a2, a3, a4, a5, a6, a7, a8, a9, a10, a11⟩ : ab) a1).p + (cP (⟨a2, a3, a4, a5, a6, a7, a8, a9, a10, a11⟩ : ab) a1).q; omega) (by show (cP (⟨a2, a3, a4, a5, a6, a7, a8, a9, a10, a11⟩ : ab) a1).p + (cP (⟨a2, a3, a4, a5, a6, a7, a8, a9, a10, a11⟩ : ab) a1).q <= _; omega)]; rw [show w64 ((cP (⟨a2, a3, a4, a5, a6, a7, a8, a9, a10, a11⟩ : ab) a1).p + (cP (⟨a2, a3, a4, a5, a6, a7, a8, a9, a10, a11⟩ : ab) a1).q + (av a1 a10).r) = (cP (⟨a2, a3, a4, a5, a6, a7, a8, a9, a10, a11⟩ : ab) a1).p + (cP (⟨a2, a3, a4, a5, a6, a7, a8, a9, a10, a11⟩ : ab) a1).q + (cP (⟨a2, a3, a4, a5, a6, a7, a8, a9, a10, a11⟩ : ab) a1).r from aa (by show _ <= (cP (⟨a2, a3, a4, a5, a6, a7, a8, a9, a10, a11⟩ : ab) a1).p + (cP (⟨a2, a3, a4, a5, a6, a7, a8, a9, a10, a11⟩ : ab) a1).q + (cP (⟨a2, a3, a4, a5, a6, a7, a8, a9, a10, a11⟩ : ab) a1).r; omega) (by show (cP (⟨a2, a3, a4, a5, a6, a7, a8, a9, a10, a11⟩ : ab) a1).p + (cP (⟨a2, a3, a4, a5, a6, a7, a8, a9, a10, a11⟩ : ab) a1).q + (cP (⟨a2, a3, a4, a5, a6, a7, a8, a9, a10, a11⟩ : ab) a1).r <= _; omega)]; have w : w64 ((cP (⟨a2, a3, a4, a5, a6, a7, a8, a9, a10, a11⟩ : ab) a1).p + (cP (⟨a2, a3, a4, a5, a6, a7, a8, a9, a10, a11⟩ : ab) a1).q + (cP (⟨a2, a3, a4, a5, a6, a7, a8, a9, a10, a11⟩ : ab) a1).r) = (cP (⟨a2, a3, a4, a5, a6, a7, a8, a9, a10, a11⟩ : ab) a1).p + (cP (⟨a2, a3, a4, a5, a6, a7, a8, a9, a10, a11⟩ : ab) a1).q + (cP (⟨a2, a3, a4, a5, a6, a7, a8, a9, a10, a11⟩ : ab) a1).r := aa (by omega) (by omega); simp only [zbG, w])
 have en : w64 (a4.fee + pA (⟨a2, a3, a4, a5, a6, a7, a8, a9, a10, a11⟩ : ab) + af 5 (cTr (⟨a2, a3, a4, a5, a6, a7, a8, a9, a10, a11⟩ : ab)) - cIn (⟨a2, a3, a4, a5, a6, a7, a8, a9, a10, a11⟩ : ab) a1) = mO (⟨a2, a3, a4, a5, a6, a7, a8, a9, a10, a11⟩ : ab) a1 := aa (by show _ <= mO (⟨a2, a3, a4, a5, a6, a7, a8, a9, a10, a11⟩ : ab) a1; omega) (by show mO (⟨a2, a3, a4, a5, a6, a7, a8, a9, a10, a11⟩ : ab) a1 <= _; omega); rw [en]; refine aR (zan.2 ⟨rfl, zad ⟨by omega, ⟨r.1, r.2.1, by show a4.rin <= _; omega⟩, ⟨o.1, by show a4.out <= _; omega⟩, D.advance.1, by omega⟩⟩) ?_
 refine gR fun x9 e9 => ?_
 obtain rfl : x9 = fV (⟨a2, a3, a4, a5, a6, a7, a8, a9, a10, a11⟩ : ab) a1 := e9; refine gR fun x10 e10 => ?_
 obtain rfl : x10 = oP (⟨a2, a3, a4, a5, a6, a7, a8, a9, a10, a11⟩ : ab) a1 := e10; refine gR fun g11 e11 => ?_
 obtain rfl : g11 = cN1 (⟨a2, a3, a4, a5, a6, a7, a8, a9, a10, a11⟩ : ab) a1 := e11; refine gR fun x14 e14 => ?_
 obtain rfl : x14 = (cX (⟨a2, a3, a4, a5, a6, a7, a8, a9, a10, a11⟩ : ab) a1).az := e14.trans (by
  have i := m1; have z : (cX (⟨a2, a3, a4, a5, a6, a7, a8, a9, a10, a11⟩ : ab) a1).az = cIn (⟨a2, a3, a4, a5, a6, a7, a8, a9, a10, a11⟩ : ab) a1 + fV (⟨a2, a3, a4, a5, a6, a7, a8, a9, a10, a11⟩ : ab) a1 + oP (⟨a2, a3, a4, a5, a6, a7, a8, a9, a10, a11⟩ : ab) a1 := rfl; rw [z]; unfold cIn at i ⊢; rw [show w64 ((av a1 a10).p + (av a1 a10).q) = (cP (⟨a2, a3, a4, a5, a6, a7, a8, a9, a10, a11⟩ : ab) a1).p + (cP (⟨a2, a3, a4, a5, a6, a7, a8, a9, a10, a11⟩ : ab) a1).q from aa (by show _ <= (cP (⟨a2, a3, a4, a5, a6, a7, a8, a9, a10, a11⟩ : ab) a1).p + (cP (⟨a2, a3, a4, a5, a6, a7, a8, a9, a10, a11⟩ : ab) a1).q; omega) (by show (cP (⟨a2, a3, a4, a5, a6, a7, a8, a9, a10, a11⟩ : ab) a1).p + (cP (⟨a2, a3, a4, a5, a6, a7, a8, a9, a10, a11⟩ : ab) a1).q <= _; omega)]; rw [show w64 ((cP (⟨a2, a3, a4, a5, a6, a7, a8, a9, a10, a11⟩ : ab) a1).p + (cP (⟨a2, a3, a4, a5, a6, a7, a8, a9, a10, a11⟩ : ab) a1).q + (av a1 a10).r) = (cP (⟨a2, a3, a4, a5, a6, a7, a8, a9, a10, a11⟩ : ab) a1).p + (cP (⟨a2, a3, a4, a5, a6, a7, a8, a9, a10, a11⟩ : ab) a1).q + (cP (⟨a2, a3, a4, a5, a6, a7, a8, a9, a10, a11⟩ : ab) a1).r from aa (by show _ <= (cP (⟨a2, a3, a4, a5, a6, a7, a8, a9, a10, a11⟩ : ab) a1).p + (cP (⟨a2, a3, a4, a5, a6, a7, a8, a9, a10, a11⟩ : ab) a1).q + (cP (⟨a2, a3, a4, a5, a6, a7, a8, a9, a10, a11⟩ : ab) a1).r; omega) (by show (cP (⟨a2, a3, a4, a5, a6, a7, a8, a9, a10, a11⟩ : ab) a1).p + (cP (⟨a2, a3, a4, a5, a6, a7, a8, a9, a10, a11⟩ : ab) a1).q + (cP (⟨a2, a3, a4, a5, a6, a7, a8, a9, a10, a11⟩ : ab) a1).r <= _; omega)]; rw [aa (n := (cP (⟨a2, a3, a4, a5, a6, a7, a8, a9, a10, a11⟩ : ab) a1).p + (cP (⟨a2, a3, a4, a5, a6, a7, a8, a9, a10, a11⟩ : ab) a1).q + (cP (⟨a2, a3, a4, a5, a6, a7, a8, a9, a10, a11⟩ : ab) a1).r + fV (⟨a2, a3, a4, a5, a6, a7, a8, a9, a10, a11⟩ : ab) a1) (by omega) (by omega), aa (n := (cP (⟨a2, a3, a4, a5, a6, a7, a8, a9, a10, a11⟩ : ab) a1).p + (cP (⟨a2, a3, a4, a5, a6, a7, a8, a9, a10, a11⟩ : ab) a1).q + (cP (⟨a2, a3, a4, a5, a6, a7, a8, a9, a10, a11⟩ : ab) a1).r + fV (⟨a2, a3, a4, a5, a6, a7, a8, a9, a10, a11⟩ : ab) a1 + oP (⟨a2, a3, a4, a5, a6, a7, a8, a9, a10, a11⟩ : ab) a1) (by omega) (by omega)])
 have c1r : (0 <= (cN1 (⟨a2, a3, a4, a5, a6, a7, a8, a9, a10, a11⟩ : ab) a1).aG /\ (cN1 (⟨a2, a3, a4, a5, a6, a7, a8, a9, a10, a11⟩ : ab) a1).aG <= (cN1 (⟨a2, a3, a4, a5, a6, a7, a8, a9, a10, a11⟩ : ab) a1).rin /\ (cN1 (⟨a2, a3, a4, a5, a6, a7, a8, a9, a10, a11⟩ : ab) a1).rin <= 1152921504606846976) := by
  show 0 <= a4.aG + fV (⟨a2, a3, a4, a5, a6, a7, a8, a9, a10, a11⟩ : ab) a1 /\ a4.aG + fV (⟨a2, a3, a4, a5, a6, a7, a8, a9, a10, a11⟩ : ab) a1 <= a4.rin /\ a4.rin <= _; omega
 refine aR (zan.2 ⟨zad ⟨⟨⟨q5, by show (cP (⟨a2, a3, a4, a5, a6, a7, a8, a9, a10, a11⟩ : ab) a1).p <= _; omega⟩, ⟨q6, by show (cP (⟨a2, a3, a4, a5, a6, a7, a8, a9, a10, a11⟩ : ab) a1).l <= _; omega⟩, q7, by show (cP (⟨a2, a3, a4, a5, a6, a7, a8, a9, a10, a11⟩ : ab) a1).r <= _; omega⟩, c1r⟩, zan.2 ⟨hpo, cV c2⟩⟩) ?_
 refine gR fun x15 e15 => ?_
 obtain rfl : x15 = (cX (⟨a2, a3, a4, a5, a6, a7, a8, a9, a10, a11⟩ : ab) a1).au := e15; refine gR fun x16 e16 => ?_
 obtain rfl : x16 = (cX (⟨a2, a3, a4, a5, a6, a7, a8, a9, a10, a11⟩ : ab) a1).room := e16; refine aR (zad ⟨hl.2.2.1, hl.2.2.2.1, hl.2.2.2.2.1⟩) ?_
 refine gR fun l17 e17 => ?_
 obtain rfl : l17 = fD (gj (⟨a2, a3, a4, a5, a6, a7, a8, a9, a10, a11⟩ : ab)) ((⟨a2, a3, a4, a5, a6, a7, a8, a9, a10, a11⟩ : ab)).n.mode := e17; refine aR (zan.2 ⟨zad (by omega), zan.2 ⟨x1, x2⟩⟩) ?_
 refine gR fun l23 e23 => ?_
 obtain rfl : l23 = (dk (⟨a2, a3, a4, a5, a6, a7, a8, a9, a10, a11⟩ : ab) a1).2.2 := e23; refine aR d5 ?_
 refine gR fun x25 e25 => ?_
 obtain rfl : x25 = (dv (⟨a2, a3, a4, a5, a6, a7, a8, a9, a10, a11⟩ : ab) a1).1.out := e25; have eo : w64 ((dv (⟨a2, a3, a4, a5, a6, a7, a8, a9, a10, a11⟩ : ab) a1).1.out + oP (⟨a2, a3, a4, a5, a6, a7, a8, a9, a10, a11⟩ : ab) a1) = (cN2 (⟨a2, a3, a4, a5, a6, a7, a8, a9, a10, a11⟩ : ab) a1).out := by
  refine Eq.trans (aa ?_ ?_) rfl
  . rw [d1]; show _ <= a4.out - aT kR (dk (⟨a2, a3, a4, a5, a6, a7, a8, a9, a10, a11⟩ : ab) a1).2.2 + oP (⟨a2, a3, a4, a5, a6, a7, a8, a9, a10, a11⟩ : ab) a1; omega
  . rw [d1]; show a4.out - aT kR (dk (⟨a2, a3, a4, a5, a6, a7, a8, a9, a10, a11⟩ : ab) a1).2.2 + oP (⟨a2, a3, a4, a5, a6, a7, a8, a9, a10, a11⟩ : ab) a1 <= _; omega
 rw [eo]; refine aR (zan.2 ⟨zad ⟨⟨⟨q5, by show (cP (⟨a2, a3, a4, a5, a6, a7, a8, a9, a10, a11⟩ : ab) a1).p <= _; omega⟩, ⟨q6, by show (cP (⟨a2, a3, a4, a5, a6, a7, a8, a9, a10, a11⟩ : ab) a1).l <= _; omega⟩, q7, by show (cP (⟨a2, a3, a4, a5, a6, a7, a8, a9, a10, a11⟩ : ab) a1).r <= _; omega⟩, ⟨by show 0 <= (dv (⟨a2, a3, a4, a5, a6, a7, a8, a9, a10, a11⟩ : ab) a1).1.aL; rw [d1]; show 0 <= a4.aL; omega, by show (dv (⟨a2, a3, a4, a5, a6, a7, a8, a9, a10, a11⟩ : ab) a1).1.aL <= _; rw [d1]; show a4.aL <= _; omega⟩, by show 0 <= (dv (⟨a2, a3, a4, a5, a6, a7, a8, a9, a10, a11⟩ : ab) a1).1.aS; rw [d1]; exact r0, by show (dv (⟨a2, a3, a4, a5, a6, a7, a8, a9, a10, a11⟩ : ab) a1).1.aS <= _; rw [d1]; show a4.aS <= _; omega⟩, zan.2 ⟨hpo, cV d3⟩⟩) ?_
 refine gR fun g26 e26 => ?_
 obtain rfl : g26 = cN2 (⟨a2, a3, a4, a5, a6, a7, a8, a9, a10, a11⟩ : ab) a1 := e26; refine gR fun l27 e27 => ?_
 obtain rfl : l27 = lq (⟨a2, a3, a4, a5, a6, a7, a8, a9, a10, a11⟩ : ab) a1 := e27; refine aR (zan.2 ⟨rfl, zan.2 ⟨hpo, cV t1⟩⟩) ?_
 refine gR fun x31 e31 => ?_
 refine gR fun x32 e32 => ?_
 refine gR fun x33 e33 => ?_
 refine gR fun x34 e34 => ?_
 have g4 := (qS h he).2.2.2; have el : w64 ((cN2 (⟨a2, a3, a4, a5, a6, a7, a8, a9, a10, a11⟩ : ab) a1).aL - (cN2 (⟨a2, a3, a4, a5, a6, a7, a8, a9, a10, a11⟩ : ab) a1).aS) = (cN2 (⟨a2, a3, a4, a5, a6, a7, a8, a9, a10, a11⟩ : ab) a1).aL - (cN2 (⟨a2, a3, a4, a5, a6, a7, a8, a9, a10, a11⟩ : ab) a1).aS := aa (by omega) (by omega); rw [el, show ((bu (⟨a2, a5, a6, a3, a7, a8, a9⟩ : aP)).getD (0, 0)).1 = af 1 a5 from D.OG] at e34; have n2m : (cN2 (⟨a2, a3, a4, a5, a6, a7, a8, a9, a10, a11⟩ : ab) a1).mode = a4.mode /\ (cN2 (⟨a2, a3, a4, a5, a6, a7, a8, a9, a10, a11⟩ : ab) a1).aX = a4.aX /\ (cN2 (⟨a2, a3, a4, a5, a6, a7, a8, a9, a10, a11⟩ : ab) a1).period = a4.period := by rw [u2]; exact ⟨rfl, rfl, rfl⟩
 have ep : w64 ((cN2 (⟨a2, a3, a4, a5, a6, a7, a8, a9, a10, a11⟩ : ab) a1).period + 1) = a4.period + 1 := by rw [n2m.2.2]; exact aa (by omega) (by omega)
 have ex : cO (cN2 (⟨a2, a3, a4, a5, a6, a7, a8, a9, a10, a11⟩ : ab) a1).mode (cN2 (⟨a2, a3, a4, a5, a6, a7, a8, a9, a10, a11⟩ : ab) a1).aX a3.eE x31 x32 x33 x34 = uD (⟨a2, a3, a4, a5, a6, a7, a8, a9, a10, a11⟩ : ab) a1 := by rw [n2m.1, n2m.2.1, e31, e32, e33, e34]; rfl
 rw [ep, ex]; refine aR (zad ?_) ?_
 . rw [n2m.2.1]; omega
 have c2r : (0 <= (cN2 (⟨a2, a3, a4, a5, a6, a7, a8, a9, a10, a11⟩ : ab) a1).aG /\ (cN2 (⟨a2, a3, a4, a5, a6, a7, a8, a9, a10, a11⟩ : ab) a1).aG <= (cN2 (⟨a2, a3, a4, a5, a6, a7, a8, a9, a10, a11⟩ : ab) a1).rin /\ (cN2 (⟨a2, a3, a4, a5, a6, a7, a8, a9, a10, a11⟩ : ab) a1).rin <= 1152921504606846976) := by
  rw [u2]; show 0 <= a4.aG + fV (⟨a2, a3, a4, a5, a6, a7, a8, a9, a10, a11⟩ : ab) a1 /\ a4.aG + fV (⟨a2, a3, a4, a5, a6, a7, a8, a9, a10, a11⟩ : ab) a1 <= a4.rin + aT kT (dk (⟨a2, a3, a4, a5, a6, a7, a8, a9, a10, a11⟩ : ab) a1).2.2 /\ a4.rin + aT kT (dk (⟨a2, a3, a4, a5, a6, a7, a8, a9, a10, a11⟩ : ab) a1).2.2 <= _; omega
 refine aR (zad h0) ?_
 refine aR (zan.2 ⟨zad h0, zan.2 ⟨zad c2r, zan.2 ⟨hpo, cV t1⟩⟩⟩) ?_
 rw [show w64 (a4.period + 1) = a4.period + 1 from aa (by omega) (by omega)]; rfl
theorem EX : ER 13 (mkE N13.en N13.ex f13) := aq ak T47.right (fun m => []) (t := t13) (by kernel_rfl) (fun m => aA) (fun m a => by kernel_rfl) fun (a0, a1, a2, a3, a4, a5, a6, a7, a8, a9, a10, a11) hc => Om a0 a1 a2 a3 a4 a5 a6 a7 a8 a9 a10 a11 hc
def T13 : Tb Tryz.prog LQ TE := T47.add 13 _ EX
theorem uY (d : Dat) : (gX d).i 0 = d.i 0 /\ (gX d).i 1 = d.i 1 /\ (gX d).i 2 = 0 /\ (gX d).i 3 = 0 /\ (gX d).b 4 = false := ⟨rfl, rfl, rfl, rfl, rfl⟩
theorem yr : ∀ l : List Dat, af 1 (l.map gX) = af 1 l /\ af 2 (l.map gX) = 0
 | [] => ⟨rfl, rfl⟩
 | d :: l => by
  obtain ⟨h1, h2⟩ := yr l; simp only [zaX, af, h1, h2, (uY d).2.1, (uY d).2.2.1]; exact ⟨trivial, rfl⟩
theorem yf : ∀ l : List Dat, af 5 (l.map rE) = 0 /\ af 6 (l.map rE) = 0
 | [] => ⟨rfl, rfl⟩
 | d :: l => by
  obtain ⟨h1, h2⟩ := yf l; simp only [zaX, af, h1, h2, rE, oy, oL]
  decide
theorem AE {d : aP} (h : (bu d).isSome = true) : de (kp d) := by
 have D := cr h; obtain ⟨s1, s2⟩ := yr d.aC; obtain ⟨n5, n6⟩ := yf d.notes; refine ⟨h, ?_, fun x hx => ?_, ?_, fun x hx => ?_, ?_, ?_, zb7 _, ?_, ?_, ?_, ?_, ?_, ?_, ?_⟩
 . simp only [kp, List.map_map]; rfl
 . obtain ⟨y, hy, rfl⟩ := za3.1 (show x ∈ d.notes.map rE from hx); have := D.note y hy; refine ⟨zad ?_, ?_⟩
   . show (0 <= y.i 1 /\ y.i 1 <= 1099511627776 /\ (0 : Int) <= 0 /\ (0 : Int) = 0 /\ (0 : Int) <= 0 /\ (0 : Int) + 0 <= y.i 1 /\ (0 : Int) <= 0 /\ (0 : Int) <= 1125899906842624); omega
   . show (0 : Int) <= 1200000000000 * 0; omega
 . simp only [kp, List.map_map]; rfl
 . obtain ⟨y, hy, rfl⟩ := za3.1 (show x ∈ d.aC.map gX from hx); have := D.sA y hy; obtain ⟨_, e1, e2, e3, e4⟩ := uY y; unfold gA; rw [e1, e2, e3, e4]
   and_intros <;> first | omega | (intro h; cases h; done) | (intro _; rfl)
 . show af 1 (d.aC.map gX) + af 2 (d.aC.map gX) + 0 <= af 1 d.aC; omega
 . show (0 : Int) - 0 = af 2 (d.aC.map gX); omega
 . show (0 : Int) <= 0 /\ (0 : Int) <= 600; omega
 . show (0 : Int) <= 0 /\ (0 : Int) <= 2; omega
 . show (0 : Int) <= 0 /\ (0 : Int) <= 0; omega
 . show (0 : Int) <= 0 /\ (0 : Int) <= 1200000000000 * 0; omega
 . exact ⟨zb7 _, D.advance.1⟩
 . show (0 : Int) <= 0 /\ 0 <= d.b.bU /\ d.b.bU <= 1200000000000 * (0 + 1)
   have := D.bU; omega
 . show af 6 (d.notes.map rE) <= af 2 (d.aC.map gX); omega
theorem Hf {d : aP} (h : (bu d).isSome = true) : dT d = kp d := by unfold dT; rw [if_pos h]
def fJ : aP := ⟨⟨2024, 1, 0⟩, [.r [.n 1, .n 100]], [.r [.n 0, .n 100, .n 0]], ⟨0, 0, 0, 0, 0, 0, 0, 0, 0, 0⟩, [.r [.n 3, .n 0], .r [.n 7, .n 0]], [.r [.n 3, .n 0], .r [.n 7, .n 0]], [.r [.n 3, .n 0], .r [.n 7, .n 0]]⟩
theorem v8 : (bu fJ).isSome = true := by kernel_rfl
theorem I4 : dT fJ = kp fJ := Hf v8
theorem Qn : de (kp fJ) := AE v8
def N12 : aD := ⟨T13.tab, 12, ⟨[], [], 0⟩, ⟨[.agg [.int .i64, .int .i64, .int .i64, .buf 0 2, .buf 1 3, .int .i64, .int .i64, .int .i64, .int .i64, .int .i64, .int .i64, .int .i64, .int .i64, .int .i64, .int .i64, .buf 2 2, .buf 3 2, .buf 4 2]], [.ag (sI 2), .ag (sI 3), .ag (sI 2), .ag (sI 2), .ag (sI 2)], 0⟩, []⟩
def t12 (m : Nat) : Unit -> Option (List Un) := fun _ =>
 some (Uns.enc ((⟨2024, 1, 0⟩ : ao) : ao) ++ Uns.enc ((⟨0, 0, 0, 0, 0, 0, 0, 0, 0, 0⟩ : an) : an) ++ [.d ([.r [.n 1, .n 100]] : List Dat), .d ([.r [.n 0, .n 100, .n 0]] : List Dat), .d ([.r [.n 3, .n 0], .r [.n 7, .n 0]] : List Dat), .d ([.r [.n 3, .n 0], .r [.n 7, .n 0]] : List Dat), .d ([.r [.n 3, .n 0], .r [.n 7, .n 0]] : List Dat)])
def f12 : Unit -> Bool × List Un := fun _ => (true, Uns.enc ((fJ.a) : ao) ++ Uns.enc ((fJ.b) : an) ++ [.d (fJ.aC), .d (fJ.notes), .d (fJ.s0), .d (fJ.s1), .d (fJ.s2)])
theorem M1 : ∃ m, t12 m () = some (Uns.enc ((fJ.a) : ao) ++ Uns.enc ((fJ.b) : an) ++ [.d (fJ.aC), .d (fJ.notes), .d (fJ.s0), .d (fJ.s1), .d (fJ.s2)]) := by
 exact ⟨0, rfl⟩
theorem J2 : ER 12 (mkE N12.en N12.ex f12) := aq ak T13.right (fun m => []) (t := t12) (by kernel_rfl) (fun m => aA) (fun m a => by kernel_rfl) fun _ hc => M1
def T12 : Tb Tryz.prog LQ TE := T13.add 12 _ J2
def N3 : aD := ⟨T12.tab, 3, ⟨[], [], 0⟩, ⟨[.bool], [], 0⟩, []⟩
def t3 (m : Nat) : Unit -> Option (List Un) := fun _ =>
 chk (decide (fJ.aC.length < 1000000 /\ fJ.notes.length < 1000000 /\ fJ.s0.length < 1000000 /\ fJ.s1.length < 1000000 /\ fJ.s2.length < 1000000)) <|
 lt (((if (bu fJ).isSome then 0 else -1) : Int) : Int) fun x1 =>
 bif ((decide (x1 < 0)) && true) then
 some ([.b false])
 else
 bif ((if (bu fJ).isSome then 0 else 2) : Int) != 0 then
 some ([.b false])
 else
 chk (decide (0 <= x1) && fP (dT fJ)) <|
 lt (((bf (dT fJ) ([.r [.n 1, .n 40, .n 0, .n 0, .n 0, .n 0, .n (bI false)]] : List Dat)).ra) : eZ) fun g4 =>
 lt (((bf (dT fJ) ([.r [.n 1, .n 40, .n 0, .n 0, .n 0, .n 0, .n (bI false)]] : List Dat)).rb) : dM) fun g5 =>
 lt (((bf (dT fJ) ([.r [.n 1, .n 40, .n 0, .n 0, .n 0, .n 0, .n (bI false)]] : List Dat)).wI) : List Dat) fun l18 =>
 lt (((bf (dT fJ) ([.r [.n 1, .n 40, .n 0, .n 0, .n 0, .n 0, .n (bI false)]] : List Dat)).notes) : List Dat) fun l19 =>
 bif ((bf (dT fJ) ([.r [.n 1, .n 40, .n 0, .n 0, .n 0, .n 0, .n (bI false)]] : List Dat)).e) == 0 then
 chk (decide (l18.length < 1099511627776)) <|
 bif (jO 4 l18 ([.r [.n 1, .n 7, .n 0, .n 40]] : List Dat)) then
 bif g5.eH == 0 then
 chk (decide (l19.length < 1099511627776)) <|
 bif (jO 3 l19 ([.r [.n 60, .n 0, .n 0]] : List Dat)) then
 bif g5.ax == 60 then
 bif (w64 ((w64 ((w64 ((w64 (g4.au + g4.kE)) + g4.aS)) + g4.draw)) + g4.advance)) == 40 then
 chk (decide (l18.length <= 1000000) && (l18.all mq && decide (af 3 l18 <= 1152921504606846976))) <|
 bif (w64 ((af 3 l18) + g5.eH)) == 40 then
 bif g4.period == 1 then
 some ([.b (g4.au == 40)])
 else
 some ([.b false])
 else
 some ([.b false])
 else
 some ([.b false])
 else
 some ([.b false])
 else
 some ([.b false])
 else
 some ([.b false])
 else
 some ([.b false])
 else
 some ([.b false])
def f3 : Unit -> Bool × List Un := fun _ => (true, [.b (true)])
theorem QZ : ∃ m, t3 m () = some ([.b (true)]) := by
 refine ⟨0, ?_⟩; unfold t3; dsimp only [lt]; refine aR (by kernel_rfl) ?_
 refine jD (by kernel_rfl) (jD (by kernel_rfl) (aR (zan.2 ⟨by kernel_rfl, eB.2 (I4 ▸ Qn)⟩) ?_))
 kernel_rfl
theorem Pq : ER 3 (mkE N3.en N3.ex f3) := aq ak T12.right (fun m => []) (t := t3) (by kernel_rfl) (fun m => aA) (fun m a => by kernel_rfl) fun _ hc => QZ
def T3 : Tb Tryz.prog LQ TE := T12.add 3 _ Pq
theorem CG (k : cT) : (bu (aQ k)).isSome = true := by rw [AM]; rfl
theorem Gn {T : ab} {l : List Dat} (ho : T.n.dt = false) (hp : T.n.period < 600) (he : (cP T l).e = 0) : bf T l = bC T l := by
 unfold bf; rw [ho, jY, aB (by omega), lI he]
def nN (d : Dat) : Dat := .r [.n (d.i 0), .n (d.i 1)]
def qB (p q r s t u : List Int) (l : List Dat) : List Dat := ofL p q r s t u (l.map fun d => d.i 2) 0 (l.map nN)
theorem tQ (id : Int) (x : Dat) (hx : x.i 0 = id) : ∀ (pre : List Dat) (rest : List Dat) (i : Int), (∀ d ∈ pre, d.i 0 ≠ id) -> eh id i (pre ++ x :: rest) = i + pre.length
 | [], rest, i, _ => by simp only [zaH, eh, if_pos hx, zaB]; omega
 | d :: pre, rest, i, h => by
  have := tQ id x hx pre rest (i + 1) fun y hy => h y (by simp [hy])
  simp only [zaY, eh, if_neg (h d (by simp)), this, zaf, zas]; omega
theorem Rv {p q r s t u : List Int} {i : Int} {x n : Dat} (hx : gA x) (hb : 0 < x.i 1) (hn : n.i 0 = x.i 0 /\ n.i 1 = x.i 1) : gJ ((ki p q r s t u i n).i 1) ((ki p q r s t u i n).i 2) ((ki p q r s t u i n).i 3) ((ki p q r s t u i n).i 4) ((ki p q r s t u i n).i 5) = true /\ wR x (ki p q r s t u i n) = true /\ (ki p q r s t u i n).i 0 = x.i 0 := by
 obtain ⟨n0, n1⟩ := hn; obtain ⟨x1, x2, x3, x4, x5, x6⟩ := hx; have h4 : x.b 4 = false := by
  cases hc : x.b 4
  . rfl
  . have := x5 hc; omega
 unfold ki; rw [n0, n1]; dsimp only; have b1 := ba (a := bn p i) (show (0 : Int) <= x.i 1 / 4 by omega); generalize within (bn p i) 0 (x.i 1 / 4) = y at *
 have b2 : 0 <= (if within (bn q i) 0 (2 * (x.i 1 - y)) > x.i 1 - y then 0 else within (bn q i) 0 (2 * (x.i 1 - y))) /\ (if within (bn q i) 0 (2 * (x.i 1 - y)) > x.i 1 - y then 0 else within (bn q i) 0 (2 * (x.i 1 - y))) <= x.i 1 - y := by
  have := ba (a := bn q i) (show (0 : Int) <= 2 * (x.i 1 - y) by omega)
  split <;> omega
 generalize (if within (bn q i) 0 (2 * (x.i 1 - y)) > x.i 1 - y then 0 else within (bn q i) 0 (2 * (x.i 1 - y))) = z at *
 have b3 := ba (a := bn r i) (show (0 : Int) <= 1 + x.i 1 / 50 by omega); generalize within (bn r i) 0 (1 + x.i 1 / 50) = v at *
 have b4 := ba (a := bn s i) (show (0 : Int) <= x.i 1 - y - z by omega); generalize within (bn s i) 0 (x.i 1 - y - z) = c at *
 have b5 := ba (a := bn t i) (show (0 : Int) <= 24 by omega); generalize within (bn t i) 0 24 = w at *
 generalize w64 ((BitVec.ofInt 64 (bn u i) &&& BitVec.ofInt 64 7).toNat) = e; refine ⟨?_, ?_, rfl⟩
 . show gJ y z v (if e = 7 then c else 0) (if 0 < w - 12 then w - 12 else 0) = true; simp only [gJ, zab, zac]; refine ⟨by omega, by omega, by omega, by omega, by omega, by omega, ?_, ?_, ?_, ?_⟩ <;> split <;> omega
 . show qL (x.i 1) (x.i 2) (x.b 4) y z v (if e = 7 then c else 0) (if 0 < w - 12 then w - 12 else 0) (bI (decide (e = 7)) != 0) = true; rw [FM, h4]; unfold qL; rw [zap, show w64 (x.i 1 - y) = x.i 1 - y from aa (by omega) (by omega), show w64 (x.i 1 - y - z) = x.i 1 - y - z from aa (by omega) (by omega), zaL (show ¬ x.i 1 - y - z < 0 by omega), zap, show w64 (x.i 2 + (x.i 1 - y - z)) = x.i 2 + (x.i 1 - y - z) from aa (by omega) (by omega)]
   by_cases he : e = 7
   . rw [zad he, zaG, if_pos he, zad (show c <= x.i 2 + (x.i 1 - y - z) by omega)]; rfl
   . rw [zaL he, zap, if_neg he]; rfl
theorem PJ {s lost : List Int} {j : Nat} {x n : Dat} (hx : gA x) (hb : ¬ 0 < x.i 1) (hn : n.i 0 = x.i 0) (hl : lost.getD j 0 = x.i 2) : gJ ((ku s lost j n).i 1) ((ku s lost j n).i 2) ((ku s lost j n).i 3) ((ku s lost j n).i 4) ((ku s lost j n).i 5) = true /\ wR x (ku s lost j n) = true /\ (ku s lost j n).i 0 = x.i 0 := by
 obtain ⟨x1, x2, x3, x4, x5, x6⟩ := hx; have e0 : x.i 1 = 0 := by omega
 unfold ku; rw [hn, zaC, hl]; have hc : ∃ c, (if (j : Int) < (lost.length : Int) /\ 0 < x.i 2 then within (bn s j) 0 (x.i 2) else 0) = c /\ 0 <= c /\ c <= x.i 2 := by
  refine ⟨_, rfl, ?_, ?_⟩ <;> split
  . exact (ba x2).1
  . omega
  . exact (ba x2).2
  . omega
 obtain ⟨c, hc, c0, c1⟩ := hc; rw [hc]; refine ⟨?_, ?_, rfl⟩
 . show gJ 0 0 0 c 0 = true; simp only [gJ, zab, zac]
   and_intros <;> omega
 . show qL (x.i 1) (x.i 2) (x.b 4) 0 0 0 c 0 (bI false != 0) = true; rw [FM]; unfold qL; cases h4 : x.b 4
   . have := x6 h4; have : c = 0 := by omega
     subst this; rw [e0]; rfl
   . simp only [zaG, beq_self_eq_true, zba, Bool.not_false]; exact zad c1
theorem CA (p q r s t u lost : List Int) : ∀ (rest pre : List Dat) (last a b c d : Int), (∀ x ∈ rest, gA x) -> (∀ x ∈ pre, x.i 0 <= last) -> ((pre ++ rest).map fun x => x.i 0).Pairwise (· < ·) -> (∀ x ∈ rest, last < x.i 0 /\ 0 < x.i 0) -> (∀ j, j < rest.length -> lost.getD (pre.length + j) 0 = (ae rest j).i 2) -> 0 <= last ->
 gf last (ofL p q r s t u lost pre.length (rest.map nN)) = true /\ ∃ y, cW (pre ++ rest) a b c d (ofL p q r s t u lost pre.length (rest.map nN)) = some y /\ y.e = 0
 | [], pre, last, a, b, c, d, _, _, _, _, _, _ => ⟨rfl, ⟨a, b, c, d, 0, pre ++ []⟩, rfl, rfl⟩
 | x :: rest, pre, last, a, b, c, d, hl, hp, hw, hlt, hlo, h0 => by
  have hx := hl x (by simp); have hx0 := hlt x (by simp); have hlo' : ∀ j, j < rest.length -> lost.getD (pre.length + 1 + j) 0 = (ae rest j).i 2 := fun j hj => by
   have := hlo (j + 1) (by simpa using hj); rw [show pre.length + 1 + j = pre.length + (j + 1) by omega, this]; rfl
  have hl0 : lost.getD pre.length 0 = x.i 2 := hlo 0 (by simp); have hw2 : ∀ z ∈ rest, x.i 0 < z.i 0 := by
   rw [zbT, List.pairwise_append] at hw; have := (List.pairwise_cons.1 hw.2.1).1; intro z hz; exact this _ (za3.2 ⟨z, hz, rfl⟩)
  have step : ∀ (y : Dat) (a b c d : Int), y.i 0 = x.i 0 -> gf (x.i 0) (ofL p q r s t u lost ((pre.length : Int) + 1) (rest.map nN)) = true /\ ∃ z, cW (pre ++ y :: rest) a b c d (ofL p q r s t u lost ((pre.length : Int) + 1) (rest.map nN)) = some z /\ z.e = 0 := fun y a b c d hy => by
   have := CA p q r s t u lost rest (pre ++ [y]) (x.i 0) a b c d (fun z hz => hl z (by simp [hz])) (fun z hz => by
    rcases zbk.1 hz with hz | hz
    . have := hp z hz; omega
    . rw [zbt.1 hz]; omega) (by simpa [hy] using hw) (fun z hz => by have := hw2 z hz; omega) (by simpa using hlo') (by omega)
   simpa using this
  have skip : gf last (ofL p q r s t u lost ((pre.length : Int) + 1) (rest.map nN)) = true /\ ∃ z, cW (pre ++ x :: rest) a b c d (ofL p q r s t u lost ((pre.length : Int) + 1) (rest.map nN)) = some z /\ z.e = 0 := by
   have h1 := CA p q r s t u lost rest (pre ++ [x]) last a b c d; refine ⟨?_, (step x a b c d rfl).2⟩; have tm : ∀ (l : List Dat), gf (x.i 0) l = true -> gf last l = true := fun l h => by
    cases l with
    | nil => rfl
    | cons w l =>
     unfold gf at h ⊢
     split at h
     . cases h
     . rw [if_neg (by omega)]; exact h
   exact tm _ (step x a b c d rfl).1
  have line : ∀ e : Dat, gJ (e.i 1) (e.i 2) (e.i 3) (e.i 4) (e.i 5) = true /\ wR x e = true /\ e.i 0 = x.i 0 -> gf last (e :: ofL p q r s t u lost ((pre.length : Int) + 1) (rest.map nN)) = true /\ ∃ y, cW (pre ++ x :: rest) a b c d (e :: ofL p q r s t u lost ((pre.length : Int) + 1) (rest.map nN)) = some y /\ y.e = 0 := fun e he => by
   obtain ⟨e1, e2, e3⟩ := he; have hi : eh (e.i 0) 0 (pre ++ x :: rest) = (pre.length : Int) := by
    rw [e3, tQ (x.i 0) x rfl pre rest 0 fun z hz => by have := hp z hz; omega]; omega
   refine ⟨?_, ?_⟩
   . unfold gf; rw [e3, if_neg (by omega), if_pos e1]; exact (step x a b c d rfl).1
   . unfold cW; rw [hi, if_neg (by omega), zaC, ar, if_pos e2, sR]; exact (step (jZ x e) _ _ _ _ rfl).2
  simp only [zaX]; unfold ofL
  split
  . simpa using skip
  . by_cases hb : 0 < (nN x).i 1
    . rw [if_pos hb, zbX]; exact line _ (Rv hx hb ⟨rfl, rfl⟩)
    . rw [if_neg hb, zbX]; exact line _ (PJ hx hb rfl hl0)
theorem H8 {T : ab} (h : de T) (p q r s t u : List Int) : (cP T (qB p q r s t u T.ax)).e = 0 := by
 have D := cr h.lK; have hl := dg h; have hpos : ∀ x ∈ T.ax, 0 < x.i 0 := fun x hx => by
  have hm : x.i 0 ∈ T.ax.map (fun d => d.i 0) := za3.2 ⟨x, hx, rfl⟩; rw [h.ids] at hm; obtain ⟨y, hy, e⟩ := za3.1 hm; have := D.pos y hy; omega
 obtain ⟨a1, y, a2, a3⟩ := CA p q r s t u (T.ax.map fun d => d.i 2) T.ax [] 0 0 0 0 0 h.sA (fun x hx => by cases hx) (by
  have e := h.ids; rw [zaH, e]; exact D.ids) (fun x hx => by have := hpos x hx; omega) (fun j hj => by
   rw [zaB, zaD, eG hj, zah]; simp [hj]) (by omega)
 have hlen := Eh p q r s t u (T.ax.map fun d => d.i 2) (T.ax.map nN) 0; unfold cP av qB; have ht : kO (ofL p q r s t u (T.ax.map fun d => d.i 2) 0 (T.ax.map nN)) = true := by
  simp only [kO, zab, zac]; exact ⟨by rw [za5] at hlen; omega, a1⟩
 rw [if_pos ht]; rw [show cW T.ax 0 0 0 0 (ofL p q r s t u (T.ax.map fun d => d.i 2) 0 (T.ax.map nN)) = some y from a2]; exact a3
def N20 : aD := ⟨T3.tab, 20, ⟨[.np 0 0 0, .agg [.ints .i64, .ints .i64, .ints .i64, .ints .i64, .ints .i64, .ints .i64]], br 0, 9⟩, ⟨[.buf 9 7], br 0 ++ [.ag (sB 6)], 9⟩, []⟩
abbrev E8 : Type := Int × Int × ao × an × ah × List Dat × List Dat × List Dat × List Dat × List Dat × List Dat × List Dat × List Int × List Int × List Int × List Int × List Int × List Int × List Dat × List Int × List Dat
def ze (m : Nat) (k : E8 -> Option (List Un)) : E8 -> Option (List Un) := fun (a0, a1, a2, a3, a4, a5, a6, a7, a8, a9, a10, a11, a12, a13, a14, a15, a16, a17, a18, a19, a20) =>
 bif decide (a1 < a0) then
 chk (inb a1 a20.length) <|
 chk (decide (a1.toNat < a20.length)) <|
 lt (ae a20 a1.toNat : Dat) fun d2 =>
 chk (fits (a18.length + 1) 16) <|
 chk (fits (a19.length + 1) 8) <|
 k (a0, (w64 (a1 + 1)), a2, a3, a4, a5, a6, a7, a8, a9, a10, a11, a12, a13, a14, a15, a16, a17, (a18 ++ ([.r [.n (d2.i 0), .n (d2.i 1)]])), (a19 ++ ([(d2.i 2)])), a20)
 else
 chk (decide (a18.length < 1000000) && (a18.all (fun d => decide (d.i 1 <= 1152921504606846976)) && a19.all fun y => decide (y <= 2305843009213693952))) <|
 some (Uns.enc (a2 : ao) ++ Uns.enc (a3 : an) ++ Uns.enc (a4 : ah) ++ [.d a5, .d a6, .d a7, .d a8, .d a9, .d a10, .d a11, .d (ofL a12 a13 a14 a15 a16 a17 a19 0 a18)])
def yp (m : Nat) : Nat -> E8 -> Option (List Un) := bo (ze m)
theorem tV (m : Nat) (n : Nat) : yp m (n + 1) = ze m (yp m n) := rfl
def Ib (F : E8 -> Option (List Un)) : aU := ⟨[.lp [0, 1, 0, 1, 1, 1], .blk 0, .code [1, 1, 1, 1]], ⟨frm 34 [(3, .ptr 9 0 0), (5, .buf 10 2), (6, .buf 11 1), (13, .buf 12 5), (14, .int .i64), (15, .int .i64)], br 0 ++ [.cells [.ints .i64, .ints .i64, .ints .i64, .ints .i64, .ints .i64, .ints .i64], .ag (sI 2), .ints .i64, .ag (sB 4)], 9⟩, onU F⟩
theorem PH (m : Nat) : ∀ n, HO N20 (Ib (yp m n)) := ay ak T3.right (fun k => [Ib k]) (fun k h => (aJ h aA)) fun k a => by kernel_rfl
def t20 (m : Nat) : Int × List Int × List Int × List Int × List Int × List Int × List Int × ao × an × ah × List Dat × List Dat × List Dat × List Dat × List Dat × List Dat × List Dat -> Option (List Un) := fun (a0, a1, a2, a3, a4, a5, a6, a7, a8, a9, a10, a11, a12, a13, a14, a15, a16) =>
 chk (decide (0 <= a0)) <|
 chk (decide (0 < ([.r [.r a15]] : List Dat).length) && decide (((ae ([.r [.r a15]] : List Dat) 0).d 0).length < 1000000)) <|
 lt (((ae ([.r [.r a15]] : List Dat) 0).d 0) : List Dat) fun l1 =>
 yp m m ((l1.length : Int), 0, a7, a8, a9, a10, a11, a12, a13, a14, a15, a16, a1, a2, a3, a4, a5, a6, [], [], l1)
theorem M7 (m : Nat) (xa : ao) (xb : an) (xn : ah) (x1 x2 x3 x4 x5 x6 x7 : List Dat) (p q r s t u : List Int) : ∀ (rest pre : List Dat) (n : Nat), rest.length < n -> (pre ++ rest).length < 1000 -> (∀ d ∈ pre ++ rest, d.i 1 <= 1152921504606846976 /\ d.i 2 <= 1152921504606846976) ->
 yp m n (((pre ++ rest).length : Int), (pre.length : Int), xa, xb, xn, x1, x2, x3, x4, x5, x6, x7, p, q, r, s, t, u, pre.map nN, pre.map (fun d => d.i 2), pre ++ rest) = some (Uns.enc xa ++ Uns.enc xb ++ Uns.enc xn ++ [.d x1, .d x2, .d x3, .d x4, .d x5, .d x6, .d x7, .d (qB p q r s t u (pre ++ rest))]) := by
 intro rest
 induction rest with
 | nil =>
  intro pre n hn hl hb; obtain ⟨n, rfl⟩ := al n (by simp at hn; omega); rw [tV]; unfold ze; dsimp only; simp only [zaK] at hl hb ⊢; have h1 : (pre.map nN).all (fun d => decide (d.i 1 <= 1152921504606846976)) = true := zam.2 fun d hd => by
   obtain ⟨x, hx, rfl⟩ := za3.1 hd; exact zad (hb x hx).1
  have h2 : (pre.map (fun d => d.i 2)).all (fun y => decide (y <= 2305843009213693952)) = true := zam.2 fun d hd => by
   obtain ⟨x, hx, rfl⟩ := za3.1 hd; exact zad (by have := (hb x hx).2; omega)
  rw [aB (by omega), h1, h2, zb8, za6, aV (by rw [za5]; omega)]; rfl
 | cons x rest ih =>
  intro pre n hn hl hb; obtain ⟨n, rfl⟩ := al n (by simp at hn; omega); have := ih (pre ++ [x]) n (by simp at hn; omega) (by simpa using hl) (by simpa using hb); simp only [zaf, zai] at hn hl; rw [zbT, zbT, show [x].map nN = [.r [.n (x.i 0), .n (x.i 1)]] from rfl, show [x].map (fun d => d.i 2) = [x.i 2] from rfl] at this; rw [tV]; unfold ze; dsimp only; simp (disch := omega) only [TRa, TRi, aa, LNl, LNi, zaa, ar]; simp only [LNl, LNi, zaa] at this ⊢; exact this
def f20 : Int × List Int × List Int × List Int × List Int × List Int × List Int × ao × an × ah × List Dat × List Dat × List Dat × List Dat × List Dat × List Dat × List Dat -> Bool × List Un := fun (a0, a1, a2, a3, a4, a5, a6, a7, a8, a9, a10, a11, a12, a13, a14, a15, a16) => (decide (0 <= a0) && (decide (a15.length < 1000) && a15.all (fun d => decide (d.i 1 <= 1152921504606846976 /\ d.i 2 <= 1152921504606846976))), Uns.enc ((a7) : ao) ++ Uns.enc ((a8) : an) ++ Uns.enc ((a9) : ah) ++ [.d (a10), .d (a11), .d (a12), .d (a13), .d (a14), .d (a15), .d (a16), .d (qB a1 a2 a3 a4 a5 a6 a15)])
theorem Nl (a0 : Int) (a1 : List Int) (a2 : List Int) (a3 : List Int) (a4 : List Int) (a5 : List Int) (a6 : List Int) (a7 : ao) (a8 : an) (a9 : ah) (a10 : List Dat) (a11 : List Dat) (a12 : List Dat) (a13 : List Dat) (a14 : List Dat) (a15 : List Dat) (a16 : List Dat) (hc : (decide (0 <= a0) && (decide (a15.length < 1000) && a15.all (fun d => decide (d.i 1 <= 1152921504606846976 /\ d.i 2 <= 1152921504606846976)))) = true) : ∃ m, t20 m (a0, a1, a2, a3, a4, a5, a6, a7, a8, a9, a10, a11, a12, a13, a14, a15, a16) = some (Uns.enc ((a7) : ao) ++ Uns.enc ((a8) : an) ++ Uns.enc ((a9) : ah) ++ [.d (a10), .d (a11), .d (a12), .d (a13), .d (a14), .d (a15), .d (a16), .d (qB a1 a2 a3 a4 a5 a6 a15)]) := by
 simp only [zab, zac, zam] at hc; obtain ⟨h0, h1, h2⟩ := hc; refine ⟨a15.length + 1, ?_⟩; unfold t20; dsimp only [lt]; refine aR (zad h0) (aR (zan.2 ⟨rfl, zad (show a15.length < 1000000 by omega)⟩) ?_); exact M7 _ a7 a8 a9 a10 a11 a12 a13 a14 a15 a16 a1 a2 a3 a4 a5 a6 a15 [] (a15.length + 1) (by omega) (by simpa using h1) h2
theorem Jc : ER 20 (mkE N20.en N20.ex f20) := aq ak T3.right (fun m => [Ib (yp m m)]) (t := t20) (by kernel_rfl) (fun m => (aJ (PH m m) aA)) (fun m a => by kernel_rfl) fun (a0, a1, a2, a3, a4, a5, a6, a7, a8, a9, a10, a11, a12, a13, a14, a15, a16) hc => Nl a0 a1 a2 a3 a4 a5 a6 a7 a8 a9 a10 a11 a12 a13 a14 a15 a16 hc
def T20 : Tb Tryz.prog LQ TE := T3.add 20 _ Jc
theorem vQ {T : ab} (h : de T) (ho : T.n.dt = false) (hp : T.n.period < 600) {l : List Dat} (he : (cP T l).e = 0) : bf T l = bC T l /\ de (bC T l).t /\ (bC T l).t.n.dt = false /\ (bC T l).t.n.period = T.n.period + 1 /\ (bC T l).t.n.mode = (bC T l).next /\ (0 <= (bC T l).next /\ (bC T l).next <= 2) /\ (T.n.mode = 2 -> (bC T l).next = 2) /\ (bC T l).ra.mode = T.n.mode /\ (bC T l).ra.period = T.n.period + 1 := by
 have u := o3 h he; refine ⟨Gn ho hp he, Ci h hp he, ?_, rfl, rfl, (BH h.mode h.aX.1).1, fun hm => ?_, rfl, rfl⟩
 . show (cN2 T l).dt = false; rw [u]; exact ho
 . show (cO _ _ _ _ _ _ _).1 = 2; unfold cO; rw [if_pos (.inl hm)]
theorem Hc {T : ab} (h : de T) : (decide (T.ax.length < 1000) && T.ax.all (fun d => decide (d.i 1 <= 1152921504606846976 /\ d.i 2 <= 1152921504606846976))) = true := by
 rw [zab, zam]; have := dg h; exact ⟨zad (by omega), fun d hd => zad (by have := h.sA d hd; unfold gA at this; omega)⟩
theorem vv : ∀ (rest pre : List Dat) (last p : Int), (∀ x ∈ rest, gA x) -> (∀ x ∈ pre, x.i 0 <= last) -> (rest.map fun x => x.i 0).Pairwise (· < ·) -> (∀ x ∈ rest, last < x.i 0) -> (0 <= p /\ p + af 1 rest <= 2199023255552) -> (∀ x ∈ pre, x.i 1 = 0) ->
 gf last (bp rest) = true /\ ∃ y, cW (pre ++ rest) p 0 0 0 (bp rest) = some y /\ y.e = 0 /\ y.p = p + af 1 rest /\ y.q = 0 /\ y.l = 0 /\ y.r = 0
 | [], pre, last, p, _, _, _, _, _, _ => ⟨rfl, ⟨p, 0, 0, 0, 0, pre ++ []⟩, rfl, rfl, by simp [af], rfl, rfl, rfl⟩
 | x :: rest, pre, last, p, hl, hp, hw, hlt, hs, h0 => by
  have hx := hl x (by simp); obtain ⟨x1, x2, x3, x4, x5, x6⟩ := hx; have hx0 := hlt x (by simp); rw [zaX, List.pairwise_cons] at hw; have n1 := fl 1 rest fun d hd => (hl d (by simp [hd])).1
  simp only [af] at hs; have K : ∀ (z : Dat) (q : Int), z.i 0 = x.i 0 -> z.i 1 = 0 -> (0 <= q /\ q + af 1 rest <= 2199023255552) -> gf (x.i 0) (bp rest) = true /\ ∃ y, cW (pre ++ z :: rest) q 0 0 0 (bp rest) = some y /\ y.e = 0 /\ y.p = q + af 1 rest /\ y.q = 0 /\ y.l = 0 /\ y.r = 0 := fun z q hz hz1 hq => by
   have := vv rest (pre ++ [z]) (x.i 0) q (fun d hd => hl d (by simp [hd])) (fun d hd => by
    rcases zbk.1 hd with hd | hd
    . have := hp d hd; omega
    . rw [zbt.1 hd]; omega) hw.2 (fun d hd => hw.1 _ (za3.2 ⟨d, hd, rfl⟩)) hq (fun d hd => by
    rcases zbk.1 hd with hd | hd
    . exact h0 d hd
    . rw [zbt.1 hd]; exact hz1)
   simpa using this
  unfold bp
  by_cases hb : 0 < x.i 1
  . rw [if_pos hb, zbX]; have h4 : x.b 4 = false := by
     cases hc : x.b 4
     . rfl
     . have := x5 hc; omega
    have hi : eh ((Dat.r [.n (x.i 0), .n 0, .n (x.i 1), .n 0, .n 0, .n 0, .n (bI false)]).i 0) 0 (pre ++ x :: rest) = (pre.length : Int) := by
     show eh (x.i 0) 0 (pre ++ x :: rest) = _; rw [tQ (x.i 0) x rfl pre rest 0 fun z hz => by have := hp z hz; omega]; omega
    have m1 : wR x (.r [.n (x.i 0), .n 0, .n (x.i 1), .n 0, .n 0, .n 0, .n (bI false)]) = true := by
     show qL (x.i 1) (x.i 2) (x.b 4) 0 (x.i 1) 0 0 0 (bI false != 0) = true; rw [FM, h4]; unfold qL; rw [zap, zap, show w64 (x.i 1 - 0) = x.i 1 from (aa (by omega) (by omega)).trans (by omega), show w64 (x.i 1 - x.i 1) = 0 from (aa (by omega) (by omega)).trans (by omega)]; rfl
    have hd1 : (jZ x (.r [.n (x.i 0), .n 0, .n (x.i 1), .n 0, .n 0, .n 0, .n (bI false)])).i 1 = 0 := by
     show pC (x.i 1) 0 (x.i 1) (bI false != 0) = 0; rw [FM]; unfold pC; rw [zap, show w64 (0 + x.i 1) = x.i 1 from (aa (by omega) (by omega)).trans (by omega)]; exact (aa (by omega) (by omega)).trans (by omega)
    have hloss : fS (x.i 1) 0 (x.i 1) (bI false != 0) = 0 := by rw [FM]; rfl
    obtain ⟨k1, y, k2, k3, k4, k5⟩ := K (jZ x (Dat.r [.n (x.i 0), .n 0, .n (x.i 1), .n 0, .n 0, .n 0, .n (bI false)])) (p + x.i 1) rfl hd1 (by omega); refine ⟨?_, y, ?_, k3, by simp only [af]; omega, k5⟩
    . unfold gf; show (if x.i 0 <= last then false else if gJ 0 (x.i 1) 0 0 0 = true then gf (x.i 0) (bp rest) else false) = true; rw [if_neg (by omega), if_pos, k1]; simp only [gJ, zab, zac]; omega
    . unfold cW; rw [hi, if_neg (by omega), zaC, ar, if_pos m1, sR]; show cW _ (w64 (p + w64 (0 + x.i 1))) (w64 (0 + 0)) (w64 (0 + fS (x.i 1) 0 (x.i 1) (bI false != 0))) (w64 (0 + 0)) _ = _; rw [hloss, show w64 (0 + x.i 1) = x.i 1 from (aa (by omega) (by omega)).trans (by omega), show w64 (p + x.i 1) = p + x.i 1 from aa (by omega) (by omega), show w64 (0 + 0) = (0 : Int) by decide]; exact k2
  . rw [if_neg hb, zaH]; obtain ⟨k1, y, k2, k3, k4, k5⟩ := K x p rfl (by omega) (by omega); refine ⟨?_, y, k2, k3, by simp only [af]; omega, k5⟩; cases hr : bp rest with
    | nil => rfl
    | cons w l =>
     rw [hr] at k1; unfold gf at k1 ⊢
     split at k1
     . cases k1
     . rw [if_neg (by omega)]; exact k1
theorem xG : ∀ l : List Dat, (bp l).length <= l.length
 | [] => zao _
 | d :: l => by
  have := xG l; unfold bp
  split <;> simp <;> omega
theorem zT {T : ab} (h : de T) : (cP T (bp T.ax)).e = 0 /\ (cP T (bp T.ax)).p = af 1 T.ax /\ (cP T (bp T.ax)).q = 0 /\ (cP T (bp T.ax)).l = 0 /\ (cP T (bp T.ax)).r = 0 := by
 have D := cr h.lK; have hl := dg h; have b := dP h; have r0 := h.sD; have hpos : ∀ x ∈ T.ax, 0 < x.i 0 := fun x hx => by
  have hm : x.i 0 ∈ T.ax.map (fun d => d.i 0) := za3.2 ⟨x, hx, rfl⟩; rw [h.ids] at hm; obtain ⟨y, hy, e⟩ := za3.1 hm; have := D.pos y hy; omega
 obtain ⟨a1, y, a2, a3, a4, a5, a6, a7⟩ := vv T.ax [] 0 0 h.sA (fun x hx => by cases hx) (by have e := h.ids; rw [e]; exact D.ids) hpos (by omega) (fun x hx => by cases hx); have ht : kO (bp T.ax) = true := by
  simp only [kO, zab, zac]; exact ⟨by have := xG T.ax; omega, a1⟩
 have hP : cP T (bp T.ax) = y := by
  unfold cP av; rw [if_pos ht, show cW T.ax 0 0 0 0 (bp T.ax) = some y from a2]; rfl
 rw [hP]; exact ⟨a3, by omega, a5, a6, a7⟩
theorem xN : ∀ l : List Dat, (∀ d ∈ l, 0 <= d.i 3) -> af 3 (jv l) = af 3 l /\ ∀ d ∈ jv l, 1 <= d.i 3
 | [], _ => ⟨rfl, fun d hd => by cases hd⟩
 | d :: l, h => by
  obtain ⟨i1, i2⟩ := xN l fun x hx => h x (by simp [hx])
  have hd := h d (by simp); unfold jv
  by_cases h0 : 0 < d.i 3
  . rw [if_pos h0]; refine ⟨by simp only [zbX, af, i1]; rfl, fun x hx => ?_⟩; rcases zbk.1 hx with hx | hx
    . rw [zbt.1 hx]; show 1 <= d.i 3; omega
    . exact i2 x hx
  . rw [if_neg h0]; refine ⟨by simp only [zaH, af, i1]; omega, fun x hx => i2 x (by simpa using hx)⟩
theorem nC (f : Dat -> Bool) (hf : ∀ d, f (Ij d) = f d) : ∀ l : List Dat, (∀ d ∈ l, 0 <= d.i 3) -> aT f (jv l) = aT f l
 | [], _ => rfl
 | d :: l, h => by
  have i1 := nC f hf l fun x hx => h x (by simp [hx])
  have hd := h d (by simp); unfold jv
  by_cases h0 : 0 < d.i 3
  . rw [if_pos h0, zbX, dR, dR, i1]; unfold amt; rw [hf]; rfl
  . rw [if_neg h0, zaH, dR, i1]; have : amt f d = 0 := by unfold amt; cases f d <;> simp only [zaG, zap]; omega
    omega
theorem xY {Q : Dat -> Prop} (hQ : ∀ d, Q d -> Q (Ij d)) : ∀ l : List Dat, (∀ d ∈ l, Q d) -> ∀ d ∈ jv l, Q d
 | [], _, d, hd => by cases hd
 | x :: l, h, d, hd => by
  unfold jv at hd; rcases zbk.1 hd with hd | hd
  . split at hd
    . rw [zbt.1 hd]; exact hQ _ (h x (by simp))
    . cases hd
  . exact xY hQ l (fun y hy => h y (by simp [hy])) d hd
theorem xV : ∀ l : List Dat, (jv l).length <= l.length
 | [] => zao _
 | d :: l => by
  have := xV l; unfold jv
  split <;> simp <;> omega
theorem B5 : ∀ (c : List Dat) (i : Int), (∀ d ∈ c, aH d = true) -> ∀ d ∈ fq i c, 0 <= d.i 3 /\ (d.i 1 = 3 \/ d.i 1 = 7) /\ i <= d.i 2 /\ d.i 2 < i + c.length
 | [], i, _, d, hd => by cases hd
 | x :: c, i, h, d, hd => by
  have hx := h x (by simp); have gx := bW hx; have bx := BF hx; unfold fq at hd; simp only [zaf, zas, zaa]; rcases zaV.1 hd with rfl | hd
  . exact ⟨gx.2.2.2.2.2.2.1, .inl rfl, by show i <= i; omega, by show i < _; omega⟩
  . rcases zaV.1 hd with rfl | hd
    . exact ⟨bx.1, .inr rfl, by show i <= i; omega, by show i < _; omega⟩
    . obtain ⟨a, b, c', d'⟩ := B5 c (i + 1) (fun y hy => h y (by simp [hy])) d hd; exact ⟨a, b, by omega, by omega⟩
theorem DF (i : Nat) : ∀ (c : List Dat) (j : Nat), aT (toI i) (fq j c) = (if j <= i /\ i < j + c.length then (ae c (i - j)).i 5 else 0) /\ aT (toB i) (fq j c) = (if j <= i /\ i < j + c.length then aK (ae c (i - j)) else 0)
 | [], j => by simp [fq, aT]; omega
 | x :: c, j => by
  obtain ⟨h1, h2⟩ := DF i c (j + 1); have cj : ((j : Int) + 1) = ((j + 1 : Nat) : Int) := by omega
  have e1 : amt (toI i) (.r [.n 0, .n 3, .n (j : Int), .n (x.i 5)]) = if j = i then x.i 5 else 0 := by
   show (bif true && ((j : Int) == (i : Int)) then x.i 5 else 0) = _
   by_cases h : j = i
   . rw [if_pos h, mb (by omega)]; rfl
   . rw [if_neg h, mX (by omega)]; rfl
  have e2 : amt (toI i) (.r [.n 0, .n 7, .n (j : Int), .n (aK x)]) = 0 := rfl; have e3 : amt (toB i) (.r [.n 0, .n 3, .n (j : Int), .n (x.i 5)]) = 0 := rfl; have e4 : amt (toB i) (.r [.n 0, .n 7, .n (j : Int), .n (aK x)]) = if j = i then aK x else 0 := by
   show (bif true && ((j : Int) == (i : Int)) then aK x else 0) = _
   by_cases h : j = i
   . rw [if_pos h, mb (by omega)]; rfl
   . rw [if_neg h, mX (by omega)]; rfl
  simp only [fq, dR, e1, e2, e3, e4, cj, h1, h2, zaf]
  by_cases h : j = i
  . subst h; have c1 : ¬ (j + 1 <= j /\ j < j + 1 + c.length) := by omega
    have c2 : j <= j /\ j < j + (c.length + 1) := by omega
    rw [if_pos rfl, if_pos rfl, if_neg c1, if_neg c1, if_pos c2, if_pos c2, Nat.sub_self]; exact ⟨by show x.i 5 + (0 + 0) = x.i 5; omega, by show 0 + (aK x + 0) = aK x; omega⟩
  . rw [if_neg h, if_neg h]
    by_cases hi : j + 1 <= i /\ i < j + 1 + c.length
    . have c2 : j <= i /\ i < j + (c.length + 1) := by omega
      rw [if_pos hi, if_pos hi, if_pos c2, if_pos c2, show i - j = (i - (j + 1)) + 1 by omega]; exact ⟨by show 0 + (0 + _) = (ae c _).i 5; omega, by show 0 + (0 + _) = aK (ae c _); omega⟩
    . have c2 : ¬ (j <= i /\ i < j + (c.length + 1)) := by omega
      rw [if_neg hi, if_neg hi, if_neg c2, if_neg c2]; exact ⟨rfl, rfl⟩
theorem Hu : ∀ (c : List Dat) (j : Int), aT kF (fq j c) = 0 /\ aT kR (fq j c) = 0 /\ aT kT (fq j c) = 0 /\ af 3 (fq j c) = af 5 c + bm aK c
 | [], j => ⟨rfl, rfl, rfl, rfl⟩
 | x :: c, j => by
  obtain ⟨h1, h2, h3, h4⟩ := Hu c (j + 1); refine ⟨?_, ?_, ?_, ?_⟩
  . show 0 + (0 + aT kF (fq (j + 1) c)) = 0; omega
  . show 0 + (0 + aT kR (fq (j + 1) c)) = 0; omega
  . show 0 + (0 + aT kT (fq (j + 1) c)) = 0; omega
  . show x.i 5 + (aK x + af 3 (fq (j + 1) c)) = x.i 5 + af 5 c + (aK x + bm aK c); omega
theorem DO {fee out : Int} {c : List Dat} (h0 : 0 <= fee) (h1 : 0 <= out) (hg : du c) : af 3 (fp fee out c) = fee + out + af 5 c + bm aK c /\ aT kF (fp fee out c) = fee /\ aT kR (fp fee out c) = out /\ aT kT (fp fee out c) = 0 /\
 (∀ i, i < c.length -> aT (toI i) (fp fee out c) = (ae c i).i 5 /\ aT (toB i) (fp fee out c) = aK (ae c i)) /\ (∀ d ∈ fp fee out c, 1 <= d.i 3 /\ ((d.i 1 = 1 \/ d.i 1 = 2 \/ d.i 1 = 6) \/ (0 <= d.i 2 /\ d.i 2 < (c.length : Int)))) /\ (fp fee out c).length <= 2 + 2 * c.length := by
 have hn := B5 c 0 hg.2; have hm : ∀ d ∈ (Dat.r [.n 0, .n 1, .n (-1), .n fee] :: Dat.r [.n 0, .n 2, .n (-1), .n out] :: fq 0 c), 0 <= d.i 3 := fun d hd => by
  rcases zaV.1 hd with rfl | hd
  . exact h0
  . rcases zaV.1 hd with rfl | hd
    . exact h1
    . exact (hn d hd).1
 obtain ⟨k1, k2, k3, k4⟩ := Hu c 0; obtain ⟨s1, s2⟩ := xN _ hm; unfold fp; refine ⟨?_, ?_, ?_, ?_, fun i hi => ⟨?_, ?_⟩, fun d hd => ⟨s2 d hd, ?_⟩, ?_⟩
 . rw [s1]; show fee + (out + af 3 (fq 0 c)) = _; omega
 . rw [nC kF (fun _ => rfl) _ hm]; show fee + (0 + aT kF (fq 0 c)) = _; omega
 . rw [nC kR (fun _ => rfl) _ hm]; show 0 + (out + aT kR (fq 0 c)) = _; omega
 . rw [nC kT (fun _ => rfl) _ hm]; show 0 + (0 + aT kT (fq 0 c)) = _; omega
 . rw [nC (toI i) (fun _ => rfl) _ hm]; have := (DF i c 0).1; rw [if_pos (by omega), Nat.sub_zero] at this; show 0 + (0 + aT (toI i) (fq 0 c)) = _; have e : aT (toI i) (fq 0 c) = aT (toI i) (fq ((0 : Nat) : Int) c) := rfl; omega
 . rw [nC (toB i) (fun _ => rfl) _ hm]; have := (DF i c 0).2; rw [if_pos (by omega), Nat.sub_zero] at this; show 0 + (0 + aT (toB i) (fq 0 c)) = _; have e : aT (toB i) (fq 0 c) = aT (toB i) (fq ((0 : Nat) : Int) c) := rfl; omega
 . refine xY (Q := fun d => (d.i 1 = 1 \/ d.i 1 = 2 \/ d.i 1 = 6) \/ (0 <= d.i 2 /\ d.i 2 < (c.length : Int))) (fun d h => h) _ (fun d hd => ?_) d hd; rcases zaV.1 hd with rfl | hd
   . exact .inl (.inl rfl)
   . rcases zaV.1 hd with rfl | hd
     . exact .inl (.inr (.inl rfl))
     . have := hn d hd; exact .inr ⟨by omega, by omega⟩
 . have := xV (Dat.r [.n 0, .n 1, .n (-1), .n fee] :: Dat.r [.n 0, .n 2, .n (-1), .n out] :: fq 0 c); simp only [zaf, A0] at this; omega
section
variable (T : ab)
def vP : List Dat := fp T.n.fee T.n.out T.tr
def vD : ah × List Dat := cI (vP T) { T.n with aG := T.n.rin } T.tr
def uB : Bool := T.b.clean != 0 && bK (af 1 T.ax) (((bu (gj T)).getD (0, 0)).1) T.b.clean
def dw : fR :=
 ⟨⟨true, T.n.period, T.n.mode, af 1 T.ax, 0, 0, 0, T.n.rin - T.n.aG, 0, 0, 0⟩, ⟨af 1 T.ax + (T.n.rin - T.n.aG) - af 3 (vP T), af 1 (cP T (bp T.ax)).ax, (vD T).1.rin - (vD T).1.aG, (vD T).1.out, (vD T).1.fee⟩, (vD T).1.mode, 0,
  { T with n := { (vD T).1 with dt := true }, ax := (cP T (bp T.ax)).ax, tr := (vD T).2 }, vP T, (vD T).2.map zz⟩
def bN : fR := bif T.n.dt then noR 5 T else bif !uB T then noR 6 T else bif decide (af 1 T.ax + (T.n.rin - T.n.aG) < af 3 (vP T)) then noR 6 T else dw T
end
section
variable {T : ab} (h : de T)
include h
theorem ng : af 3 (vP T) = T.n.fee + T.n.out + af 5 T.tr + bm aK T.tr /\ (0 <= af 3 (vP T) /\ af 3 (vP T) <= 100000000000000000) /\ (vP T).length <= 18 /\ (∀ d ∈ vP T, 1 <= d.i 3 /\ ((d.i 1 = 1 \/ d.i 1 = 2 \/ d.i 1 = 6) \/ (0 <= d.i 2 /\ d.i 2 < (T.tr.length : Int)))) := by
 have f := h.fee; have o := h.out; have p := h.period; have ad : T.b.advance <= 1099511627776 := (cr h.lK).advance.2; obtain ⟨k1, k2, k3, k4, k5, k6, k7⟩ := DO f.1 o.1 (dA h); have s := fE _ (dA h).2; have tl := cL h; have k1 : af 3 (vP T) = T.n.fee + T.n.out + af 5 T.tr + bm aK T.tr := k1; have k7 : (vP T).length <= 2 + 2 * T.tr.length := k7; exact ⟨k1, by omega, by omega, k6⟩
theorem kK : (vD T).1 = { T.n with fee := 0, out := 0, aG := T.n.rin } /\ (vD T).2.length = T.tr.length /\ (∀ i, i < T.tr.length -> oU (ae T.tr i) (ae (vD T).2 i) (aK (ae T.tr i)) ((ae T.tr i).i 5)) /\ oV (vP T) { T.n with aG := T.n.rin } T.tr = true := by
 have f := h.fee; have o := h.out; have r := h.res; have p := h.period; have ad : T.b.advance <= 1099511627776 := (cr h.lK).advance.2; have g := dA h; obtain ⟨k1, k2, k3, k4, k5, k6, k7⟩ := DO f.1 o.1 g; obtain ⟨c1, c2, c3, c4⟩ := ng h; obtain ⟨d1, d2, d3⟩ := qW (vP T) { T.n with aG := T.n.rin } T.tr (fun d hd => by have := (c4 d hd).1; omega) (fun d hd => (c4 d hd).2) fun i hi => by
  have := k5 i hi; exact ⟨Int.le_of_eq this.2, Int.le_of_eq this.1⟩
 refine ⟨d1.trans ?_, d2, fun i hi => ?_, ?_⟩
 . have k2 : aT kF (vP T) = T.n.fee := k2; have k3 : aT kR (vP T) = T.n.out := k3; have k4 : aT kT (vP T) = 0 := k4; rw [k2, k3, k4]; simp only [Int.sub_self, zbG]
 . have := d3 i hi; have k := k5 i hi; have ka : aT (toI i) (vP T) = (ae T.tr i).i 5 := k.1; have kb : aT (toB i) (vP T) = aK (ae T.tr i) := k.2; rw [ka, kb] at this; exact this
 . simp only [oV, zab, zac, zam]; refine ⟨by omega, fun d hd => ?_, ⟨by omega, by omega, by omega, by omega⟩, g⟩; have := c4 d hd; simp only [Di, zab, zbf, zac]; exact ⟨by omega, this.2⟩
theorem o4 : ∀ i, i < T.tr.length -> (ae (vD T).2 i).i 0 = (ae T.tr i).i 0 /\ (ae (vD T).2 i).i 1 = (ae T.tr i).i 1 /\ (ae (vD T).2 i).i 2 = (ae T.tr i).i 2 /\ aK (ae (vD T).2 i) = 0 /\ (ae (vD T).2 i).i 5 = 0 /\ (ae (vD T).2 i).i 6 = (ae T.tr i).i 6 /\ aH (ae (vD T).2 i) = true := fun i hi => by
 obtain ⟨e0, e1, e2, e3, e4, e5, e6⟩ := (kK h).2.2.1 i hi; have g := bW (bV hi (dA h).2); have b := BF (bV hi (dA h).2); have hb : aK (ae (vD T).2 i) = 0 := by unfold aK at e3 ⊢; omega
 refine ⟨e0, e1, e2, hb, by omega, e6, zad ?_⟩; unfold aK at hb b; omega
theorem qQ : du (vD T).2 := by
 have l := (kK h).2.1; refine ⟨by have := cL h; omega, fun d hd => ?_⟩; obtain ⟨i, hi, rfl⟩ := gG hd; exact (o4 h i (by omega)).2.2.2.2.2.2
theorem xW : de (dw T).t := by
 obtain ⟨s1, s2, s3, s4, s5⟩ := zT h; obtain ⟨p1, p2, p3, p4, p5, p6, p7, p8, p9⟩ := jR h s1; obtain ⟨d1, d2, d3, d4⟩ := kK h; have r := o4 h; have g := qQ h; have bl := h.bal; have lo := h.lost; have pe := h.period; have re := h.res; have r0 := h.sD; have ad : 0 <= T.b.advance := (cr h.lK).advance.1; have n1 := dP h; refine ⟨h.lK, ?_, fun d hd => ⟨g.2 d hd, ?_⟩, p2.trans h.ids, p1, ?_, ?_, ?_, ?_, ?_, ?_, ?_, ?_, ?_, ?_⟩
 . refine Eq.trans ?_ h.HL; refine List.ext_getElem (by simp [dw, d2]) fun i h1 h2 => ?_
   simp only [za5] at h1 h2; have hi : i < T.tr.length := h2; have := r i hi; rw [eG (show i < (vD T).2.length by omega), eG hi] at this; simp only [List.getElem_map]; exact Prod.ext this.1 (Prod.ext this.2.1 this.2.2.1)
 . obtain ⟨i, hi, rfl⟩ := gG (show d ∈ (vD T).2 from hd); have := (r i (by omega)).2.2.2.2.1; rw [this]; show 0 <= 1200000000000 * (vD T).1.period; rw [d1]; show 0 <= 1200000000000 * T.n.period; omega
 all_goals
  first
  | (show af 1 (cP T (bp T.ax)).ax + af 2 (cP T (bp T.ax)).ax + (vD T).1.aS <= af 1 T.aC
   rw [d1]; show _ + _ + T.n.aS <= _; omega)
  | (show (vD T).1.aL - (vD T).1.aS = af 2 (cP T (bp T.ax)).ax
   rw [d1]; show T.n.aL - T.n.aS = _; omega)
  | (show 0 <= (vD T).1.aS; rw [d1]; exact r0)
  | (show 0 <= (vD T).1.period /\ (vD T).1.period <= 600; rw [d1]; exact pe)
  | (show 0 <= (vD T).1.mode /\ (vD T).1.mode <= 2; rw [d1]; exact h.mode)
  | (show 0 <= (vD T).1.aX /\ (vD T).1.aX <= (vD T).1.period; rw [d1]; exact h.aX)
  | (show 0 <= (vD T).1.fee /\ (vD T).1.fee <= 1200000000000 * (vD T).1.period; rw [d1]; show (0 : Int) <= 0 /\ 0 <= 1200000000000 * T.n.period; omega)
  | (show 0 <= (vD T).1.out /\ (vD T).1.out <= T.b.advance; rw [d1]; show (0 : Int) <= 0 /\ 0 <= T.b.advance; omega)
  | (show 0 <= (vD T).1.aG /\ (vD T).1.aG <= (vD T).1.rin /\ (vD T).1.rin <= 1200000000000 * ((vD T).1.period + 1); rw [d1]; show 0 <= T.n.rin /\ T.n.rin <= T.n.rin /\ T.n.rin <= 1200000000000 * (T.n.period + 1); omega)
  | (show af 6 (vD T).2 <= af 2 (cP T (bp T.ax)).ax
   have e : af 6 (vD T).2 = af 6 T.tr := by
    have hl : (vD T).2.map (fun d => d.i 6) = T.tr.map (fun d => d.i 6) := by
     refine List.ext_getElem (by simp [d2]) fun i h1 h2 => ?_
     simp only [za5] at h1 h2; have := (r i h2).2.2.2.2.2.1; rw [eG (show i < (vD T).2.length by omega), eG h2] at this; simpa using this
    have q : ∀ l : List Dat, af 6 l = (l.map (fun d => d.i 6)).foldr (· + ·) 0 := fun l => by
     induction l with
     | nil => rfl
     | cons x l ih => simp only [af, zaX, List.foldr_cons, ih]
    rw [q, q, hl]
   have dn := h.down; omega)
end
def N33 : aD := ⟨T20.tab, 33, ⟨[.np 0 0 0], br 0, 0⟩, ⟨[.agg [.bool, .int .i64, .int .i64, .int .i64, .int .i64, .int .i64, .int .i64, .int .i64, .int .i64, .int .i64, .int .i64, .buf 10 4, .int .i64, .int .i64, .int .i64, .int .i64, .int .i64, .buf 11 3, .int .i64], .int .i64], [.cells [.int .i64, .int .i64, .int .i64, .buf 1 2, .buf 2 3, .int .i64, .int .i64, .int .i64, .int .i64, .int .i64, .int .i64, .int .i64, .int .i64, .int .i64, .int .i64, .buf 3 2, .buf 4 2, .buf 5 2, .ptr 6 0 0, .buf 8 7, .int .i64, .int .i64, .int .i64, .int .i64, .int .i64, .int .i64, .int .i64, .int .i64, .int .i64, .bool], .ag (sI 2), .ag (sI 3), .ag (sI 2), .ag (sI 2), .ag (sI 2), .cells [.buf 9 5], .gone, .ag (sI 7), .ag (sB 4), .ag (sI 4), .ag (sI 3)], 0⟩, []⟩
def t33 (m : Nat) : Int × ao × an × ah × List Dat × List Dat × List Dat × List Dat × List Dat × List Dat × List Dat -> Option (List Un) := fun (a0, a1, a2, a3, a4, a5, a6, a7, a8, a9, a10) =>
 chk (decide (0 <= a0)) <|
 bif a3.dt then
 some (Uns.enc ((⟨false, 0, 0, 0, 0, 0, 0, 0, 0, 0, 0⟩ : eZ) : eZ) ++ Uns.enc ((⟨0, 0, 0, 0, 0⟩ : dM) : dM) ++ [.i 0, .i 5] ++ Uns.enc (a1 : ao) ++ Uns.enc (a2 : an) ++ Uns.enc (a3 : ah) ++ [.d a4, .d a5, .d a6, .d a7, .d a8, .d a10, .d a9, .d ([]), .d ([])])
 else
 chk (decide (0 <= a0) && (decide (a10.length <= 1000) && a10.all aH)) <|
 chk (decide (0 <= a0)) <|
 chk (decide (0 <= a0) && ((decide (a9.length <= 1000) && a9.all cw) && (decide (a10.length <= 1000) && a10.all aH))) <|
 bif !(a2.clean != 0 && bK (af 1 a9) (((bu (⟨a1, a4, a5, a2, a6, a7, a8⟩ : aP)).getD (0, 0)).1) a2.clean) then
 some (Uns.enc ((⟨false, 0, 0, 0, 0, 0, 0, 0, 0, 0, 0⟩ : eZ) : eZ) ++ Uns.enc ((⟨0, 0, 0, 0, 0⟩ : dM) : dM) ++ [.i 0, .i 6] ++ Uns.enc (a1 : ao) ++ Uns.enc (a2 : an) ++ Uns.enc (a3 : ah) ++ [.d a4, .d a5, .d a6, .d a7, .d a8, .d a10, .d a9, .d ([]), .d ([])])
 else
 chk (decide (0 <= a0)) <|
 chk (decide (0 < ([.r [.r a9]] : List Dat).length) && (decide (((ae ([.r [.r a9]] : List Dat) 0).d 0).length <= 1000) && ((ae ([.r [.r a9]] : List Dat) 0).d 0).all cw)) <|
 chk (decide (0 <= a0)) <|
 chk (decide ((fp a3.fee a3.out a10).length <= 1000000) && ((fp a3.fee a3.out a10).all mq && decide (af 3 (fp a3.fee a3.out a10) <= 1152921504606846976))) <|
 bif (decide ((w64 ((af 1 ((ae ([.r [.r a9]] : List Dat) 0).d 0)) + (w64 (a3.rin - a3.aG)))) < (af 3 (fp a3.fee a3.out a10)))) then
 some (Uns.enc ((⟨false, 0, 0, 0, 0, 0, 0, 0, 0, 0, 0⟩ : eZ) : eZ) ++ Uns.enc ((⟨0, 0, 0, 0, 0⟩ : dM) : dM) ++ [.i 0, .i 6] ++ Uns.enc (a1 : ao) ++ Uns.enc (a2 : an) ++ Uns.enc (a3 : ah) ++ [.d a4, .d a5, .d a6, .d a7, .d a8, .d a10, .d a9, .d ([]), .d ([])])
 else
 chk (decide (0 <= a0)) <|
 chk (decide (0 <= a0)) <|
 chk (decide (0 <= a0) && decide (a9.length < 1000000)) <|
 chk (decide (a3.period = a3.period)) <|
 chk (decide (a3.mode = a3.mode)) <|
 chk (decide (0 <= a0)) <|
 lt ((w64 (a3.rin - a3.aG)) : Int) fun x8 =>
 lt ((w64 (a3.rin - a3.aG)) : Int) fun x9 =>
 lt ((if x9 < x8 then x9 else x8) : Int) fun x10 =>
 lt ((if x10 < 0 then 0 else x10) : Int) fun x11 =>
 chk (decide (a3.period = a3.period)) <|
 chk (decide (a3.mode = a3.mode)) <|
 chk (decide ((fp a3.fee a3.out a10).length <= 1000000) && ((fp a3.fee a3.out a10).all mq && decide (af 3 (fp a3.fee a3.out a10) <= 1152921504606846976))) <|
 chk (decide (0 <= a0) && oV (fp a3.fee a3.out a10) ({ a3 with aG := (w64 (a3.aG + x11)) } : ah) a10) <|
 lt (((cI (fp a3.fee a3.out a10) ({ a3 with aG := (w64 (a3.aG + x11)) } : ah) a10).1) : ah) fun g18 =>
 lt (((cI (fp a3.fee a3.out a10) ({ a3 with aG := (w64 (a3.aG + x11)) } : ah) a10).2) : List Dat) fun l19 =>
 chk (decide (0 <= a0)) <|
 chk (decide (0 <= a0) && (decide (0 <= ({ g18 with dt := true } : ah).aG /\ ({ g18 with dt := true } : ah).aG <= ({ g18 with dt := true } : ah).rin /\ ({ g18 with dt := true } : ah).rin <= 1152921504606846976) && ((decide (((av (bp a9) a9).ax).length <= 1000) && ((av (bp a9) a9).ax).all cw) && (decide (l19.length <= 1000) && l19.all aH)))) <|
 some (Uns.enc ((⟨true, a3.period, a3.mode, (av (bp a9) a9).p, (av (bp a9) a9).q, (av (bp a9) a9).l, (av (bp a9) a9).r, x11, 0, 0, 0⟩ : eZ) : eZ) ++ Uns.enc ((⟨(⟨(w64 ((w64 ((w64 ((w64 ((w64 (((av (bp a9) a9).p) + ((av (bp a9) a9).q))) + ((av (bp a9) a9).r))) + x11)) + 0)) - (af 3 (fp a3.fee a3.out a10)))), 0, 0, 0, 0⟩ : dM).eH, af 1 ((av (bp a9) a9).ax), ({ g18 with dt := true } : ah).rin - ({ g18 with dt := true } : ah).aG, ({ g18 with dt := true } : ah).out, ({ g18 with dt := true } : ah).fee⟩ : dM) : dM) ++ [.i (({ g18 with dt := true } : ah).mode), .i 0] ++ Uns.enc (a1 : ao) ++ Uns.enc (a2 : an) ++ Uns.enc (({ g18 with dt := true } : ah) : ah) ++ [.d a4, .d a5, .d a6, .d a7, .d a8, .d l19, .d ((av (bp a9) a9).ax), .d (fp a3.fee a3.out a10), .d (l19.map zz)])
def f33 : Int × ao × an × ah × List Dat × List Dat × List Dat × List Dat × List Dat × List Dat × List Dat -> Bool × List Un := fun (a0, a1, a2, a3, a4, a5, a6, a7, a8, a9, a10) => (decide (0 <= a0) && fP (⟨a1, a2, a3, a4, a5, a6, a7, a8, a9, a10⟩ : ab), Uns.enc (((bN (⟨a1, a2, a3, a4, a5, a6, a7, a8, a9, a10⟩ : ab)).ra) : eZ) ++ Uns.enc (((bN (⟨a1, a2, a3, a4, a5, a6, a7, a8, a9, a10⟩ : ab)).rb) : dM) ++ [.i ((bN (⟨a1, a2, a3, a4, a5, a6, a7, a8, a9, a10⟩ : ab)).next), .i ((bN (⟨a1, a2, a3, a4, a5, a6, a7, a8, a9, a10⟩ : ab)).e)] ++ Uns.enc (((bN (⟨a1, a2, a3, a4, a5, a6, a7, a8, a9, a10⟩ : ab)).t.a) : ao) ++ Uns.enc (((bN (⟨a1, a2, a3, a4, a5, a6, a7, a8, a9, a10⟩ : ab)).t.b) : an) ++ Uns.enc (((bN (⟨a1, a2, a3, a4, a5, a6, a7, a8, a9, a10⟩ : ab)).t.n) : ah) ++ [.d ((bN (⟨a1, a2, a3, a4, a5, a6, a7, a8, a9, a10⟩ : ab)).t.aC), .d ((bN (⟨a1, a2, a3, a4, a5, a6, a7, a8, a9, a10⟩ : ab)).t.notes), .d ((bN (⟨a1, a2, a3, a4, a5, a6, a7, a8, a9, a10⟩ : ab)).t.s0), .d ((bN (⟨a1, a2, a3, a4, a5, a6, a7, a8, a9, a10⟩ : ab)).t.s1), .d ((bN (⟨a1, a2, a3, a4, a5, a6, a7, a8, a9, a10⟩ : ab)).t.s2), .d ((bN (⟨a1, a2, a3, a4, a5, a6, a7, a8, a9, a10⟩ : ab)).t.tr), .d ((bN (⟨a1, a2, a3, a4, a5, a6, a7, a8, a9, a10⟩ : ab)).t.ax), .d ((bN (⟨a1, a2, a3, a4, a5, a6, a7, a8, a9, a10⟩ : ab)).wI), .d ((bN (⟨a1, a2, a3, a4, a5, a6, a7, a8, a9, a10⟩ : ab)).notes)])
set_option maxHeartbeats 4000000 in
theorem MS (a0 : Int) (a1 : ao) (a2 : an) (a3 : ah) (a4 : List Dat) (a5 : List Dat) (a6 : List Dat) (a7 : List Dat) (a8 : List Dat) (a9 : List Dat) (a10 : List Dat) (hc : (decide (0 <= a0) && fP (⟨a1, a2, a3, a4, a5, a6, a7, a8, a9, a10⟩ : ab)) = true) : ∃ m, t33 m (a0, a1, a2, a3, a4, a5, a6, a7, a8, a9, a10) = some (Uns.enc (((bN (⟨a1, a2, a3, a4, a5, a6, a7, a8, a9, a10⟩ : ab)).ra) : eZ) ++ Uns.enc (((bN (⟨a1, a2, a3, a4, a5, a6, a7, a8, a9, a10⟩ : ab)).rb) : dM) ++ [.i ((bN (⟨a1, a2, a3, a4, a5, a6, a7, a8, a9, a10⟩ : ab)).next), .i ((bN (⟨a1, a2, a3, a4, a5, a6, a7, a8, a9, a10⟩ : ab)).e)] ++ Uns.enc (((bN (⟨a1, a2, a3, a4, a5, a6, a7, a8, a9, a10⟩ : ab)).t.a) : ao) ++ Uns.enc (((bN (⟨a1, a2, a3, a4, a5, a6, a7, a8, a9, a10⟩ : ab)).t.b) : an) ++ Uns.enc (((bN (⟨a1, a2, a3, a4, a5, a6, a7, a8, a9, a10⟩ : ab)).t.n) : ah) ++ [.d ((bN (⟨a1, a2, a3, a4, a5, a6, a7, a8, a9, a10⟩ : ab)).t.aC), .d ((bN (⟨a1, a2, a3, a4, a5, a6, a7, a8, a9, a10⟩ : ab)).t.notes), .d ((bN (⟨a1, a2, a3, a4, a5, a6, a7, a8, a9, a10⟩ : ab)).t.s0), .d ((bN (⟨a1, a2, a3, a4, a5, a6, a7, a8, a9, a10⟩ : ab)).t.s1), .d ((bN (⟨a1, a2, a3, a4, a5, a6, a7, a8, a9, a10⟩ : ab)).t.s2), .d ((bN (⟨a1, a2, a3, a4, a5, a6, a7, a8, a9, a10⟩ : ab)).t.tr), .d ((bN (⟨a1, a2, a3, a4, a5, a6, a7, a8, a9, a10⟩ : ab)).t.ax), .d ((bN (⟨a1, a2, a3, a4, a5, a6, a7, a8, a9, a10⟩ : ab)).wI), .d ((bN (⟨a1, a2, a3, a4, a5, a6, a7, a8, a9, a10⟩ : ab)).notes)]) := by
 have h0 := zak (zan.1 hc).1; have h := eB.1 (zan.1 hc).2; clear hc; have hl := jL h; have hpl := dg h; have hts := cL h; have gn := dA h; have pe : 0 <= a3.period /\ a3.period <= 600 := h.period; have r : 0 <= a3.aG /\ a3.aG <= a3.rin /\ a3.rin <= 1200000000000 * (a3.period + 1) := h.res; have b : 0 <= af 1 a9 /\ 0 <= af 2 a9 /\ af 1 a9 + af 2 a9 + a3.aS <= 1099511627776 := dP h; have r0 : 0 <= a3.aS := h.sD; have hg := nM (l := a9) h.sA (zax hpl.2 (by decide)); obtain ⟨c1, c2, c3, c4⟩ := ng h; obtain ⟨d1, d2, d3, d4⟩ := kK h; have g := qQ h; have cn := xW h; obtain ⟨s1, s2, s3, s4, s5⟩ := zT h; have hz : w64 (a3.rin - a3.aG) = a3.rin - a3.aG := aa (by omega) (by omega); have hw : w64 (af 1 ((ae ([.r [.r a9]] : List Dat) 0).d 0) + w64 (a3.rin - a3.aG)) = af 1 a9 + (a3.rin - a3.aG) := by
  rw [hz]; exact aa (n := af 1 a9 + (a3.rin - a3.aG)) (by omega) (by omega)
 have pg : (decide ((fp a3.fee a3.out a10).length <= 1000000) && ((fp a3.fee a3.out a10).all mq && decide (af 3 (fp a3.fee a3.out a10) <= 1152921504606846976))) = true := by
  simp only [zab, zac, zam]; refine ⟨zax c3 (by decide), fun d hd => zad (by have := (c4 d hd).1; omega), ?_⟩; have e : af 3 (fp a3.fee a3.out a10) <= 100000000000000000 := c2.2; omega
 refine ⟨0, ?_⟩; unfold t33; refine aR (zad h0) ?_
 by_cases ho : a3.dt = true
 . have hC : bN (⟨a1, a2, a3, a4, a5, a6, a7, a8, a9, a10⟩ : ab) = noR 5 (⟨a1, a2, a3, a4, a5, a6, a7, a8, a9, a10⟩ : ab) := by unfold bN; rw [show ((⟨a1, a2, a3, a4, a5, a6, a7, a8, a9, a10⟩ : ab)).n.dt = true from ho]; rfl
   rw [hC]; exact jG ho rfl
 replace ho : a3.dt = false := by simpa using ho
 refine jD ho ?_
 refine aR (zan.2 ⟨zad h0, cV gn⟩) ?_
 refine aR (zad h0) ?_
 refine aR (zan.2 ⟨zad h0, zan.2 ⟨hg, cV gn⟩⟩) ?_
 have hcl : (a2.clean != 0 && bK (af 1 a9) (((bu (⟨a1, a4, a5, a2, a6, a7, a8⟩ : aP)).getD (0, 0)).1) a2.clean) = uB (⟨a1, a2, a3, a4, a5, a6, a7, a8, a9, a10⟩ : ab) := rfl; rw [hcl]; cases hv : uB (⟨a1, a2, a3, a4, a5, a6, a7, a8, a9, a10⟩ : ab) with
 | false =>
  have hC : bN (⟨a1, a2, a3, a4, a5, a6, a7, a8, a9, a10⟩ : ab) = noR 6 (⟨a1, a2, a3, a4, a5, a6, a7, a8, a9, a10⟩ : ab) := by unfold bN; rw [show ((⟨a1, a2, a3, a4, a5, a6, a7, a8, a9, a10⟩ : ab)).n.dt = false from ho, hv]; rfl
  rw [hC]; rfl
 | true =>
 refine aR (zad h0) (aR (zan.2 ⟨rfl, hg⟩) (aR (zad h0) (aR pg ?_))); rw [hw]
 by_cases hs : af 1 a9 + (a3.rin - a3.aG) < af 3 (fp a3.fee a3.out a10)
 . have hC : bN (⟨a1, a2, a3, a4, a5, a6, a7, a8, a9, a10⟩ : ab) = noR 6 (⟨a1, a2, a3, a4, a5, a6, a7, a8, a9, a10⟩ : ab) := by unfold bN; rw [show ((⟨a1, a2, a3, a4, a5, a6, a7, a8, a9, a10⟩ : ab)).n.dt = false from ho, hv]; exact bz hs
   rw [hC, bz hs]; rfl
 have hC : bN (⟨a1, a2, a3, a4, a5, a6, a7, a8, a9, a10⟩ : ab) = dw (⟨a1, a2, a3, a4, a5, a6, a7, a8, a9, a10⟩ : ab) := by unfold bN; rw [show ((⟨a1, a2, a3, a4, a5, a6, a7, a8, a9, a10⟩ : ab)).n.dt = false from ho, hv]; exact aB hs
 rw [hC, aB hs]; refine aR (zad h0) (aR (zad h0) (aR (zan.2 ⟨zad h0, zad hl.2.2.2.2.2.1⟩) (aR (zad rfl) (aR (zad rfl) (aR (zad h0) ?_))))); rw [hz]; refine gR fun x8 e8 => gR fun x9 e9 => gR fun x10 e10 => gR fun x11 e11 => ?_
 obtain rfl : x11 = a3.rin - a3.aG := by
  have e10 : x10 = a3.rin - a3.aG := by rw [e10, e8, e9]; exact if_neg (by omega)
  rw [e11, e10]; exact if_neg (by omega)
 clear e8 e9 e10 e11; refine aR (zad rfl) (aR (zad rfl) (aR pg ?_)); rw [show w64 (a3.aG + (a3.rin - a3.aG)) = a3.rin from (aa (by omega) (by omega)).trans (by omega)]; refine aR (zan.2 ⟨zad h0, d4⟩) ?_
 refine gR fun g18 e18 => ?_
 obtain rfl : g18 = (vD (⟨a1, a2, a3, a4, a5, a6, a7, a8, a9, a10⟩ : ab)).1 := e18; refine gR fun l19 e19 => ?_
 obtain rfl : l19 = (vD (⟨a1, a2, a3, a4, a5, a6, a7, a8, a9, a10⟩ : ab)).2 := e19; refine aR (zad h0) ?_
 refine aR (zan.2 ⟨zad h0, zan.2 ⟨zad ?_, zan.2 ⟨nM (l := (cP (⟨a1, a2, a3, a4, a5, a6, a7, a8, a9, a10⟩ : ab) (bp ((⟨a1, a2, a3, a4, a5, a6, a7, a8, a9, a10⟩ : ab)).ax)).ax) cn.sA ?_, cV g⟩⟩⟩) ?_
 . rw [d1]; show 0 <= a3.rin /\ a3.rin <= a3.rin /\ a3.rin <= _; omega
 . have := (dg cn).2; exact zax this (by decide)
 rw [show (av (bp a9) a9).p = af 1 a9 from s2, show (av (bp a9) a9).q = 0 from s3, show (av (bp a9) a9).l = 0 from s4, show (av (bp a9) a9).r = 0 from s5]; have e1 : w64 (w64 (w64 (w64 (w64 (af 1 a9 + 0) + 0) + (a3.rin - a3.aG)) + 0) - af 3 (fp a3.fee a3.out a10)) = af 1 a9 + (a3.rin - a3.aG) - af 3 (vP (⟨a1, a2, a3, a4, a5, a6, a7, a8, a9, a10⟩ : ab)) := by
  have c2' : 0 <= af 3 (fp a3.fee a3.out a10) /\ af 3 (fp a3.fee a3.out a10) <= 100000000000000000 := c2; have w1 : w64 (af 1 a9) = af 1 a9 := aa (by omega) (by omega); simp only [zbG, w1]; rw [aa (n := af 1 a9 + (a3.rin - a3.aG)) (by omega) (by omega), aa (n := af 1 a9 + (a3.rin - a3.aG)) (by omega) (by omega)]; exact aa (n := af 1 a9 + (a3.rin - a3.aG) - af 3 (fp a3.fee a3.out a10)) (by omega) (by omega)
 rw [e1]; rfl
theorem E4 : ER 33 (mkE N33.en N33.ex f33) := aq ak T20.right (fun m => []) (t := t33) (by kernel_rfl) (fun m => aA) (fun m a => by kernel_rfl) fun (a0, a1, a2, a3, a4, a5, a6, a7, a8, a9, a10) hc => MS a0 a1 a2 a3 a4 a5 a6 a7 a8 a9 a10 hc
def T33 : Tb Tryz.prog LQ TE := T20.add 33 _ E4
def RN : fR -> List Un := fun r => Uns.enc (r.ra : eZ) ++ Uns.enc (r.rb : dM) ++ [.i r.next, .i r.e] ++ Uns.enc (r.t.a : ao) ++ Uns.enc (r.t.b : an) ++ Uns.enc (r.t.n : ah) ++ [.d r.t.aC, .d r.t.notes, .d r.t.s0, .d r.t.s1, .d r.t.s2, .d r.t.ax, .d r.t.tr, .d r.wI, .d r.notes]
def RS : Int × List Dat × ao × an × ah × List Dat × List Dat × List Dat × List Dat × List Dat × List Dat × List Dat -> Bool × fR := fun (a0, a1, a2, a3, a4, a5, a6, a7, a8, a9, a10, a11) => (decide (0 <= a0) && fP (⟨a2, a3, a4, a5, a6, a7, a8, a9, a10, a11⟩ : ab), (bf (⟨a2, a3, a4, a5, a6, a7, a8, a9, a10, a11⟩ : ab) a1))
theorem HG : ER 13 (mkB N13.en N13.ex RS RN) := rebind EX fun (a0, a1, a2, a3, a4, a5, a6, a7, a8, a9, a10, a11) => rfl
def RB : Tb Tryz.prog LQ TE := T33.add 13 _ HG
def RM : fR -> List Un := fun r => Uns.enc (r.ra : eZ) ++ Uns.enc (r.rb : dM) ++ [.i r.next, .i r.e] ++ Uns.enc (r.t.a : ao) ++ Uns.enc (r.t.b : an) ++ Uns.enc (r.t.n : ah) ++ [.d r.t.aC, .d r.t.notes, .d r.t.s0, .d r.t.s1, .d r.t.s2, .d r.t.tr, .d r.t.ax, .d r.wI, .d r.notes]
def RJ : Int × ao × an × ah × List Dat × List Dat × List Dat × List Dat × List Dat × List Dat × List Dat -> Bool × fR := fun (a0, a1, a2, a3, a4, a5, a6, a7, a8, a9, a10) => (decide (0 <= a0) && fP (⟨a1, a2, a3, a4, a5, a6, a7, a8, a9, a10⟩ : ab), (bN (⟨a1, a2, a3, a4, a5, a6, a7, a8, a9, a10⟩ : ab)))
theorem Iv : ER 33 (mkB N33.en N33.ex RJ RM) := rebind E4 fun (a0, a1, a2, a3, a4, a5, a6, a7, a8, a9, a10) => rfl
def GD : Tb Tryz.prog LQ TE := RB.add 33 _ Iv
def mB : List Par := [(true, [.int .i64, .int .i64, .int .i64, .int .i64, .int .i64, .int .i64, .int .i64, .int .i64, .int .i64, .int .i64, .int .i64, .int .i64, .int .i64, .ints .i64, .ints .i64, .ints .i64, .ints .i64, .ints .i64, .ints .i64, .ints .i64]), (false, [.ag [.ints .i64, .ints .i64, .ints .i64, .ints .i64, .ints .i64, .ints .i64]]), (false, [.int .i64])]
def N10 : aD := ⟨GD.tab, 10, ⟨List.map Par.vp mB, [], 0⟩, ⟨[.bool], [], 0⟩, [[9, 0, 1, 1, 1, 1, 1, 0, 0, 1, 0, 0, 1, 0, 1, 1, 1, 1, 1], [9, 0, 0, 1, 0, 1, 1, 1, 1, 1, 1, 1, 0, 0, 1, 0, 0, 1, 0, 1, 1, 1, 1, 1]]⟩
abbrev Mv : Type := Int × ao × an × ah × List Dat × eZ × dM × Int × List Dat × List Dat × List Dat × List Dat × List Dat × List Dat × List Dat × List Dat × List Dat
abbrev MA : Type := List Dat × Int × Int × Bool × ao × an × ao × an × ah × List Int × List Dat × List Dat × List Dat × List Dat × List Dat × List Dat × List Dat × List Dat × List Dat × List Dat × List Dat × List Dat × List Dat
abbrev nR : Type := List Dat × Int × Int × ao × an × ao × an × ah × List Dat × List Dat × List Dat × List Dat × List Dat × List Dat × List Dat × List Dat × List Dat × List Dat × List Dat × List Dat
def By (m : Nat) (k0 : nR -> Option (List Un)) : Mv -> Option (List Un) := fun (a0, a1, a2, a3, a4, a5, a6, a7, a8, a9, a10, a11, a12, a13, a14, a15, a16) =>
 chk (decide (0 <= a0) && (decide (a13.length <= 1000) && a13.all aH)) <|
 chk (decide (0 <= a0) && fP (⟨a1, a2, a3, a8, a9, a10, a11, a12, a16, a13⟩ : ab)) <|
 bd ((bf (⟨a1, a2, a3, a8, a9, a10, a11, a12, a16, a13⟩ : ab) a4) : fR) fun r32 =>
 chk (decide (0 <= a0) && fP r32.t) <|
 bd ((bN r32.t) : fR) fun r33 =>
 bif (bm aK a13) == 0 then
 bif (af 5 a13) == 0 then
 bif a5.call then
 chk (decide (a14.length <= 1000000) && (a14.all mq && decide (af 3 a14 <= 1152921504606846976))) <|
 bif (w64 ((w64 ((w64 ((w64 (a5.au + a5.kE)) + a5.aS)) + a5.draw)) + a5.advance)) == (w64 ((af 3 a14) + a6.eH)) then
 chk (decide (0 <= a0)) <|
 bif r33.t.n.dt then
 chk (decide (0 <= a0)) <|
 chk (decide (0 < ([.r [.r r33.t.ax]] : List Dat).length) && (decide (((ae ([.r [.r r33.t.ax]] : List Dat) 0).d 0).length <= 1000) && ((ae ([.r [.r r33.t.ax]] : List Dat) 0).d 0).all cw)) <|
 bif (af 1 ((ae ([.r [.r r33.t.ax]] : List Dat) 0).d 0)) == 0 then
 chk (decide (0 <= a0)) <|
 bif (w64 (r33.t.n.rin - r33.t.n.aG)) == 0 then
 chk (decide (0 <= a0)) <|
 bif r33.t.n.fee == 0 then
 chk (decide (0 <= a0)) <|
 bif r33.t.n.out == 0 then
 bif r32.e == 5 then
 bif r33.e == 5 then
 some ([.b true])
 else
 some ([.b false])
 else
 some ([.b false])
 else
 some ([.b false])
 else
 some ([.b false])
 else
 some ([.b false])
 else
 some ([.b false])
 else
 some ([.b false])
 else
 some ([.b false])
 else
 some ([.b false])
 else
 some ([.b false])
 else
 some ([.b false])
def Mr (F : Mv -> Option (List Un)) : aU := ⟨[.code [0, 0, 1, 0, 1, 1, 1, 1, 1, 1, 1, 0, 0, 1, 0, 0, 1, 0, 1, 1, 1, 1, 1], .code [1, 0, 1, 0, 1, 1, 1, 1, 1, 1, 1, 0, 0, 1, 0, 0, 1, 0, 1, 1, 1, 1, 1], .code [1, 1, 1, 1, 1, 1, 1, 1, 0, 0, 1, 0, 0, 1, 0, 1, 1, 1, 1, 1], .blk 1, .code [1, 1, 0, 0, 1, 0, 1, 1, 1, 1, 1], .lp [0, 1, 0, 1, 1, 1, 1, 1], .blk 0, .code [1, 1, 1, 1, 1, 1]], ⟨frm 263 [(8, .np 0 0 0), (12, .buf 1 7), (20, .ptr 2 0 0)], [.cells [.int .i64, .int .i64, .int .i64, .buf 3 2, .buf 4 3, .int .i64, .int .i64, .int .i64, .int .i64, .int .i64, .int .i64, .int .i64, .int .i64, .int .i64, .int .i64, .buf 5 2, .buf 6 2, .buf 7 2, .ptr 8 0 0, .buf 9 7, .int .i64, .int .i64, .int .i64, .int .i64, .int .i64, .int .i64, .int .i64, .int .i64, .int .i64, .bool], .ag (sB 6), .cells [.bool, .int .i64, .int .i64, .int .i64, .int .i64, .int .i64, .int .i64, .int .i64, .int .i64, .int .i64, .int .i64, .buf 10 4, .int .i64, .int .i64, .int .i64, .int .i64, .int .i64, .buf 11 3, .int .i64], .ag (sI 2), .ag (sI 3), .ag (sI 2), .ag (sI 2), .ag (sI 2), .cells [.buf 12 5], .ag (sI 7), .ag (sI 4), .ag (sI 3), .ag (sB 4)], 0⟩, onU F⟩
def oW (m : Nat) (k0 : nR -> Option (List Un)) : MA -> Option (List Un) := fun (a0, a1, a2, a3, a4, a5, a6, a7, a8, a9, a10, a11, a12, a13, a14, a15, a16, a17, a18, a19, a20, a21, a22) =>
 chk (decide (0 <= a1) && fP (⟨a6, a7, a8, a16, a17, a18, a19, a20, a22, a21⟩ : ab)) <|
 bd ((bN (⟨a6, a7, a8, a16, a17, a18, a19, a20, a22, a21⟩ : ab)) : fR) fun r29 =>
 bif !((r29.e == 0) == a3) then
 some ([.b false])
 else
 bif r29.e != 0 then
 bif r29.e != 6 then
 some ([.b false])
 else
 chk (decide (0 <= a1) && decide (r29.t.ax.length < 1000000 /\ r29.t.tr.length < 1000000)) <|
 chk (decide ((dh r29.t.n r29.t.ax r29.t.tr).length < 1099511627776)) <|
 bif !(l7 (dh r29.t.n r29.t.ax r29.t.tr) a9) then
 some ([.b false])
 else
 bif a3 then
 By m k0 (a1, r29.t.a, r29.t.b, r29.t.n, a10, r29.ra, r29.rb, r29.next, r29.t.aC, r29.t.notes, r29.t.s0, r29.t.s1, r29.t.s2, r29.t.tr, r29.wI, r29.notes, r29.t.ax)
 else
 chk (decide (0 <= a1) && fP r29.t) <|
 bd ((bf r29.t a10) : fR) fun r30 =>
 bif r30.e != 0 then
 some ([.b false])
 else
 k0 (a0, a1, (w64 (a2 + 1)), a4, a5, r30.t.a, r30.t.b, r30.t.n, a11, a12, a13, a14, a15, r30.t.aC, r30.t.notes, r30.t.s0, r30.t.s1, r30.t.s2, r30.t.tr, r30.t.ax)
 else
 bif a3 then
 By m k0 (a1, r29.t.a, r29.t.b, r29.t.n, a10, r29.ra, r29.rb, r29.next, r29.t.aC, r29.t.notes, r29.t.s0, r29.t.s1, r29.t.s2, r29.t.tr, r29.wI, r29.notes, r29.t.ax)
 else
 chk (decide (0 <= a1) && fP r29.t) <|
 bd ((bf r29.t a10) : fR) fun r31 =>
 bif r31.e != 0 then
 some ([.b false])
 else
 k0 (a0, a1, (w64 (a2 + 1)), a4, a5, r31.t.a, r31.t.b, r31.t.n, a11, a12, a13, a14, a15, r31.t.aC, r31.t.notes, r31.t.s0, r31.t.s1, r31.t.s2, r31.t.tr, r31.t.ax)
def Mz (F : MA -> Option (List Un)) : aU := ⟨[.code [0, 1, 1, 1, 1, 1, 0, 0, 1, 0, 0, 1, 0, 1, 1, 1, 1, 1], .code [1, 1, 1, 1, 1, 1, 0, 0, 1, 0, 0, 1, 0, 1, 1, 1, 1, 1], .blk 1, .code [1, 1, 0, 0, 1, 0, 1, 1, 1, 1, 1], .lp [0, 1, 0, 1, 1, 1, 1, 1], .blk 0, .code [1, 1, 1, 1, 1, 1]], ⟨frm 263 [(1, .ag [.ints .i64, .ints .i64, .ints .i64, .ints .i64, .ints .i64, .ints .i64]), (7, .ptr 0 0 0), (8, .np 1 0 0), (10, .int .i64), (11, .buf 2 1), (12, .buf 3 7), (19, .bool)], [.cells [.int .i64, .int .i64, .int .i64, .buf 4 2, .buf 5 3, .int .i64, .int .i64, .int .i64, .int .i64, .int .i64, .int .i64, .int .i64, .int .i64, .int .i64, .int .i64, .buf 6 2, .buf 7 2, .buf 8 2], .cells [.int .i64, .int .i64, .int .i64, .buf 9 2, .buf 10 3, .int .i64, .int .i64, .int .i64, .int .i64, .int .i64, .int .i64, .int .i64, .int .i64, .int .i64, .int .i64, .buf 11 2, .buf 12 2, .buf 13 2, .ptr 14 0 0, .buf 15 7, .int .i64, .int .i64, .int .i64, .int .i64, .int .i64, .int .i64, .int .i64, .int .i64, .int .i64, .bool], .ints .i64, .ag (sB 6), .ag (sI 2), .ag (sI 3), .ag (sI 2), .ag (sI 2), .ag (sI 2), .ag (sI 2), .ag (sI 3), .ag (sI 2), .ag (sI 2), .ag (sI 2), .cells [.buf 16 5], .ag (sI 7), .ag (sB 4)], 0⟩, onU F⟩
def As (m : Nat) (k : nR -> Option (List Un)) : nR -> Option (List Un) := fun (a0, a1, a2, a3, a4, a5, a6, a7, a8, a9, a10, a11, a12, a13, a14, a15, a16, a17, a18, a19) =>
 bif (decide (a2 < (a0.length : Int))) then
 bif decide (a2 < 8) then
 chk (decide (0 <= a1) && decide (a19.length < 1000000 /\ a18.length < 1000000)) <|
 chk (inb a2 a0.length) <|
 chk (decide (a2.toNat < a0.length)) <|
 lt (ae a0 a2.toNat : Dat) fun d15 =>
 chk (decide (0 <= a1) && (decide (a19.length < 1000) && a19.all (fun d => decide (d.i 1 <= 1152921504606846976 /\ d.i 2 <= 1152921504606846976)))) <|
 lt ((qB (d15.l 0) (d15.l 1) (d15.l 2) (d15.l 3) (d15.l 4) (d15.l 5) a19) : List Dat) fun l16 =>
 chk (fits (0 + l16.length) 56) <|
 chk (fits (l16.length + 1) 56) <|
 chk (decide (0 <= a1) && fP (⟨a5, a6, a7, a13, a14, a15, a16, a17, a19, a18⟩ : ab)) <|
 bd ((bf (⟨a5, a6, a7, a13, a14, a15, a16, a17, a19, a18⟩ : ab) (l16 ++ ([.r [.n 1099511627776, .n 0, .n 0, .n 0, .n 0, .n 0, .n (bI false)]]))) : fR) fun r18 =>
 bif r18.e != 3 then
 some ([.b false])
 else
 chk (decide (0 <= a1) && decide (r18.t.ax.length < 1000000 /\ r18.t.tr.length < 1000000)) <|
 chk (decide ((dh r18.t.n r18.t.ax r18.t.tr).length < 1099511627776)) <|
 bif !(l7 (dh r18.t.n r18.t.ax r18.t.tr) (dh a7 a19 a18)) then
 some ([.b false])
 else
 chk (decide (0 <= a1) && (decide (r18.t.tr.length <= 1000) && r18.t.tr.all aH)) <|
 bif decide (a4.clean > 0) then
 chk (decide (0 <= a1)) <|
 chk (decide (0 < ([.r [.r r18.t.ax]] : List Dat).length) && (decide (((ae ([.r [.r r18.t.ax]] : List Dat) 0).d 0).length <= 1000) && ((ae ([.r [.r r18.t.ax]] : List Dat) 0).d 0).all cw)) <|
 bif (decide ((w64 ((af 1 ((ae ([.r [.r r18.t.ax]] : List Dat) 0).d 0)) * 10000)) <= (w64 ((((bu (⟨a3, a8, a9, a4, a10, a11, a12⟩ : aP)).getD (0, 0)).1) * a4.clean)))) then
 chk (decide (0 <= a1)) <|
 chk (decide (0 < ([.r [.r r18.t.ax]] : List Dat).length) && (decide (((ae ([.r [.r r18.t.ax]] : List Dat) 0).d 0).length <= 1000) && ((ae ([.r [.r r18.t.ax]] : List Dat) 0).d 0).all cw)) <|
 chk (decide (0 <= a1)) <|
 chk (decide (0 <= a1)) <|
 chk (decide (0 <= a1)) <|
 oW m k (a0, a1, a2, (decide ((w64 ((af 1 ((ae ([.r [.r r18.t.ax]] : List Dat) 0).d 0)) + (w64 (r18.t.n.rin - r18.t.n.aG)))) >= (w64 ((w64 ((w64 ((bm aK r18.t.tr) + (af 5 r18.t.tr))) + r18.t.n.fee)) + r18.t.n.out)))), a3, a4, r18.t.a, r18.t.b, r18.t.n, (dh a7 a19 a18), l16, a8, a9, a10, a11, a12, r18.t.aC, r18.t.notes, r18.t.s0, r18.t.s1, r18.t.s2, r18.t.tr, r18.t.ax)
 else
 oW m k (a0, a1, a2, false, a3, a4, r18.t.a, r18.t.b, r18.t.n, (dh a7 a19 a18), l16, a8, a9, a10, a11, a12, r18.t.aC, r18.t.notes, r18.t.s0, r18.t.s1, r18.t.s2, r18.t.tr, r18.t.ax)
 else
 oW m k (a0, a1, a2, false, a3, a4, r18.t.a, r18.t.b, r18.t.n, (dh a7 a19 a18), l16, a8, a9, a10, a11, a12, r18.t.aC, r18.t.notes, r18.t.s0, r18.t.s1, r18.t.s2, r18.t.tr, r18.t.ax)
 else
 some ([.b true])
 else
 some ([.b true])
def rC (m : Nat) : Nat -> nR -> Option (List Un) := bo (As m)
theorem ua (m : Nat) (n : Nat) : rC m (n + 1) = As m (rC m n) := rfl
def xF (F : nR -> Option (List Un)) : aU := ⟨[.lp [0, 1, 0, 1, 1, 1, 1, 1], .blk 0, .code [1, 1, 1, 1, 1, 1]], ⟨frm 263 [(1, .ag [.ints .i64, .ints .i64, .ints .i64, .ints .i64, .ints .i64, .ints .i64]), (7, .ptr 0 0 0), (8, .np 1 0 0), (10, .int .i64)], [.cells [.int .i64, .int .i64, .int .i64, .buf 2 2, .buf 3 3, .int .i64, .int .i64, .int .i64, .int .i64, .int .i64, .int .i64, .int .i64, .int .i64, .int .i64, .int .i64, .buf 4 2, .buf 5 2, .buf 6 2], .cells [.int .i64, .int .i64, .int .i64, .buf 7 2, .buf 8 3, .int .i64, .int .i64, .int .i64, .int .i64, .int .i64, .int .i64, .int .i64, .int .i64, .int .i64, .int .i64, .buf 9 2, .buf 10 2, .buf 11 2, .ptr 12 0 0, .buf 13 7, .int .i64, .int .i64, .int .i64, .int .i64, .int .i64, .int .i64, .int .i64, .int .i64, .int .i64, .bool], .ag (sI 2), .ag (sI 3), .ag (sI 2), .ag (sI 2), .ag (sI 2), .ag (sI 2), .ag (sI 3), .ag (sI 2), .ag (sI 2), .ag (sI 2), .cells [.buf 14 5], .ag (sI 7), .ag (sB 4)], 0⟩, onU F⟩
theorem Rj (m : Nat) (k0 : nR -> Option (List Un)) (h0 : HO N10 (xF k0)) : HO N10 (Mr (By m k0)) := wX ak GD.right [] aA fun a => by kernel_rfl
theorem Rr (m : Nat) (k0 : nR -> Option (List Un)) (h0 : HO N10 (xF k0)) : HO N10 (Mz (oW m k0)) := wX ak GD.right [xF k0, Mr (By m k0)] (aJ h0 (aJ (Rj m _ h0) aA)) fun a => by kernel_rfl
theorem PF (m : Nat) : ∀ n, HO N10 (xF (rC m n)) := ay ak GD.right (fun k => [Mz (oW m (k))]) (fun k h => (aJ (Rr m _ h) aA)) fun k a => by kernel_rfl
def t10 (m : Nat) : cT × List Dat × Int -> Option (List Un) := fun (a0, a1, a2) =>
 chk (decide (a0.notes.length <= 140737488355328)) <|
 chk (decide (({ (aQ a0) with b := ({ ((aQ a0).b) with clean := (within a2 0 100000) } : an) } : aP).aC.length < 1000000 /\ ({ (aQ a0) with b := ({ ((aQ a0).b) with clean := (within a2 0 100000) } : an) } : aP).notes.length < 1000000 /\ ({ (aQ a0) with b := ({ ((aQ a0).b) with clean := (within a2 0 100000) } : an) } : aP).s0.length < 1000000 /\ ({ (aQ a0) with b := ({ ((aQ a0).b) with clean := (within a2 0 100000) } : an) } : aP).s1.length < 1000000 /\ ({ (aQ a0) with b := ({ ((aQ a0).b) with clean := (within a2 0 100000) } : an) } : aP).s2.length < 1000000)) <|
 lt (((if (bu ({ (aQ a0) with b := ({ ((aQ a0).b) with clean := (within a2 0 100000) } : an) } : aP)).isSome then 0 else -1) : Int) : Int) fun x1 =>
 bif ((decide (x1 < 0)) && true) then
 some ([.b false])
 else
 bif ((if (bu ({ (aQ a0) with b := ({ ((aQ a0).b) with clean := (within a2 0 100000) } : an) } : aP)).isSome then 0 else 2) : Int) != 0 then
 some ([.b false])
 else
 chk (decide (0 <= x1)) <|
 rC m m (a1, x1, 0, ((aQ a0).a), ({ ((aQ a0).b) with clean := (within a2 0 100000) } : an), ((dT ({ (aQ a0) with b := ({ ((aQ a0).b) with clean := (within a2 0 100000) } : an) } : aP)).a), ((dT ({ (aQ a0) with b := ({ ((aQ a0).b) with clean := (within a2 0 100000) } : an) } : aP)).b), ((dT ({ (aQ a0) with b := ({ ((aQ a0).b) with clean := (within a2 0 100000) } : an) } : aP)).n), (aQ a0).aC, (aQ a0).notes, (aQ a0).s0, (aQ a0).s1, (aQ a0).s2, ((dT ({ (aQ a0) with b := ({ ((aQ a0).b) with clean := (within a2 0 100000) } : an) } : aP)).aC), ((dT ({ (aQ a0) with b := ({ ((aQ a0).b) with clean := (within a2 0 100000) } : an) } : aP)).notes), ((dT ({ (aQ a0) with b := ({ ((aQ a0).b) with clean := (within a2 0 100000) } : an) } : aP)).s0), ((dT ({ (aQ a0) with b := ({ ((aQ a0).b) with clean := (within a2 0 100000) } : an) } : aP)).s1), ((dT ({ (aQ a0) with b := ({ ((aQ a0).b) with clean := (within a2 0 100000) } : an) } : aP)).s2), ((dT ({ (aQ a0) with b := ({ ((aQ a0).b) with clean := (within a2 0 100000) } : an) } : aP)).tr), ((dT ({ (aQ a0) with b := ({ ((aQ a0).b) with clean := (within a2 0 100000) } : an) } : aP)).ax))
theorem ET (n : ah) (ax notes : List Dat) : (dh n ax notes).length = 10 + 5 * ax.length + 3 * notes.length := by
 have h1 : ∀ l : List Dat, (l.flatMap wm).length = 5 * l.length := fun l => by
  induction l with
  | nil => rfl
  | cons x l ih => simp only [List.flatMap_cons, zai, ih, zaf, wm, zaB]; omega
 have h2 : ∀ l : List Dat, (l.flatMap rJ).length = 3 * l.length := fun l => by
  induction l with
  | nil => rfl
  | cons x l ih => simp only [List.flatMap_cons, zai, ih, zaf, rJ, zaB]; omega
 unfold dh; simp only [zai, h1, h2, zaf, zaB]
theorem BQ (id : Int) : ∀ (l : List Dat) (i : Int), (∀ d ∈ l, d.i 0 ≠ id) -> eh id i l = -1
 | [], _, _ => rfl
 | d :: l, i, h => by
  unfold eh; rw [if_neg (h d (by simp))]; exact BQ id l _ fun x hx => h x (by simp [hx])
theorem xy (x : Dat) : ∀ (t l : List Dat) (p q s r : Int), (∀ d ∈ l, d.i 0 ≠ x.i 0) -> cW l p q s r (t ++ [x]) = none
 | [], l, p, q, s, r, h => by
  rw [zaH]; unfold cW; rw [BQ _ l 0 h, if_pos (by decide)]
 | d :: t, l, p, q, s, r, h => by
  rw [zaY]; unfold cW
  split
  . rfl
  . rename_i hi
    split
    . refine xy x t _ _ _ _ _ fun y hy => ?_
      rcases zbD hy with hy | hy
      . exact h y hy
      . rw [hy]; show (ae l _).i 0 ≠ _; refine h _ (mD ?_); have := tG (d.i 0) l 0; omega
    . rfl
theorem GI {T : ab} {x : Dat} (l : List Dat) (h : ∀ d ∈ T.ax, d.i 0 ≠ x.i 0) : (cP T (l ++ [x])).e = 3 := by
 unfold cP av; rw [xy x l T.ax 0 0 0 0 h]
 split <;> rfl
theorem MR {T : ab} {l : List Dat} (h : (cP T l).e = 0) : l.length <= 64 := by
 unfold cP av at h
 split at h
 . rename_i ht; simp only [kO, zab, zac] at ht; exact ht.1
 . cases h
theorem FI {T : ab} {x : Dat} (l : List Dat) (h : ∀ d ∈ T.ax, d.i 0 ≠ x.i 0) (ho : T.n.dt = false) (hp : T.n.period < 600) : bf T (l ++ [x]) = noR 3 T := by
 unfold bf; rw [ho, jY, aB (by omega), lx (show (cP T (l ++ [x])).e ≠ 0 by rw [GI l h]; decide), GI l h]
theorem AV {d : aP} (h : (bu d).isSome = true) {c : Int} (h0 : 0 <= c /\ c <= 100000) : (bu { d with b := { d.b with clean := c } }).isSome = true := by
 unfold bu at h ⊢
 split at h
 . cases h
 . rename_i p hp
   split at h
   . cases h
   . rename_i n hn
     split at h
     . rename_i hc; simp only [hp, hn]; rw [if_pos]
       . rfl
       simp only [zab, kh, zac] at hc ⊢; obtain ⟨⟨t1, t2, t3, t4, t5, t6, t7, t8, t9, t10, t11, t12, t13⟩, s⟩ := hc; exact ⟨⟨t1, t2, t3, t4, h0, t6, t7, t8, t9, t10, t11, t12, t13⟩, s⟩
     . cases h
theorem vz : ∀ (l : List Int) (i : Nat), ∀ d ∈ eO i l, d.i 0 <= 2 * (i + l.length)
 | [], i => by simp [eO]
 | x :: l, i => fun d hd => by
  unfold eO at hd; simp only [zaf]; rcases zaV.1 hd with rfl | hd
  . show 2 * (i : Int) + 1 <= _; omega
  . have := vz l (i + 1) d hd; omega
theorem Dp (k : cT) : ∀ d ∈ dI k, d.i 0 <= 99 := fun d hd => by
 unfold dI iV at hd; rcases zbk.1 hd with hd | hd
 . have := vz _ _ d hd; have : (k.aC.take 10).length <= 10 := by simp; omega
   omega
 . rw [zbt.1 hd]; exact zb7 99
def Gk (T : ab) : Prop := (0 < T.b.clean /\ af 1 T.ax * 10000 <= af 1 T.aC * T.b.clean) /\ bm aK T.tr + af 5 T.tr + T.n.fee + T.n.out <= af 1 T.ax + (T.n.rin - T.n.aG)
theorem ur {T : ab} (h : de T) : uB T = decide (0 < T.b.clean /\ af 1 T.ax * 10000 <= af 1 T.aC * T.b.clean) := by
 have D := cr h.lK; have b := dP h; have r0 := h.sD; have c : 0 <= T.b.clean /\ T.b.clean <= 100000 := D.clean; have p : 0 <= af 1 T.aC /\ af 1 T.aC <= 1099511627776 := D.ax; have hs : ((bu (gj T)).getD (0, 0)).1 = af 1 T.aC := D.OG; unfold uB; rw [hs, Bool.eq_iff_iff]; simp only [bK, Gi, zab, zac, bne_iff_ne]; omega
theorem Il {T : ab} (h : de T) (ho : T.n.dt = false) (hm : Gk T) : bN T = dw T := by
 have := (ng h).1; have hm2 := hm.2; unfold bN; rw [ho, ur h, zad hm.1, jY]; exact aB (by omega)
theorem Gt {T : ab} (h : de T) (ho : T.n.dt = false) (hm : ¬ Gk T) : bN T = noR 6 T := by
 have := (ng h).1; unfold bN; rw [ho, ur h, jY]
 by_cases hc : 0 < T.b.clean /\ af 1 T.ax * 10000 <= af 1 T.aC * T.b.clean
 . rw [zad hc]; refine bz (Int.not_le.1 fun h2 => hm ⟨hc, ?_⟩); omega
 . rw [zaL hc]; rfl
theorem FE {c : List Dat} : (∀ i, i < c.length -> aK (ae c i) = 0 /\ (ae c i).i 5 = 0) -> bm aK c = 0 /\ af 5 c = 0 := fun h => by
 refine ⟨qZ _ _ fun d hd => ?_, pZ _ _ fun d hd => ?_⟩
 . obtain ⟨i, hi, rfl⟩ := gG hd; exact (h i hi).1
 . obtain ⟨i, hi, rfl⟩ := gG hd; exact (h i hi).2
theorem tK (m : Nat) (k : nR -> Option (List Un)) {T : ab} {l : List Dat} (h : de T) (ho : T.n.dt = false) (hpe : T.n.period < 600) (he : (cP T l).e = 0) (hm : ¬ Gk T) (ts : List Dat) (i : Int) (xa : ao) (xb : an) (x1 x2 x3 x4 x5 : List Dat)
 (fin : k (ts, 0, w64 (i + 1), xa, xb, (bC T l).t.a, (bC T l).t.b, (bC T l).t.n, x1, x2, x3, x4, x5, (bC T l).t.aC, (bC T l).t.notes, (bC T l).t.s0, (bC T l).t.s1, (bC T l).t.s2, (bC T l).t.tr, (bC T l).t.ax) = some [.b true]) :
 oW m k (ts, 0, i, false, xa, xb, T.a, T.b, T.n, dh T.n T.ax T.tr, l, x1, x2, x3, x4, x5, T.aC, T.notes, T.s0, T.s1, T.s2, T.tr, T.ax) = some [.b true] := by
 have ll := jL h; have tl := cL h; have pl := dg h; have hnl : (dh T.n T.ax T.tr).length < 1099511627776 := by rw [ET]; omega
 have hll : T.ax.length < 1000000 /\ T.tr.length < 1000000 := ⟨ll.2.2.2.2.2.1, ll.2.2.2.2.2.2⟩
 obtain ⟨hC, hN, hO, hP, hM, hX, hD, hR, hQ⟩ := vQ h ho hpe he; have eT : (⟨T.a, T.b, T.n, T.aC, T.notes, T.s0, T.s1, T.s2, T.ax, T.tr⟩ : ab) = T := rfl; unfold oW; dsimp only; rw [eT]; refine aR (zan.2 ⟨rfl, eB.2 h⟩) ?_
 rw [Gt h ho hm]; dsimp only [bd, noR]; refine jD rfl (jG rfl (jD rfl ?_)); refine aR (zan.2 ⟨rfl, zad hll⟩) (aR (zad hnl) ?_); rw [om]; refine jD rfl (jD rfl ?_); refine aR (zan.2 ⟨rfl, eB.2 h⟩) ?_
 rw [hC]; refine jD rfl ?_
 exact fin
theorem IK (m : Nat) (k : nR -> Option (List Un)) {T : ab} (l : List Dat) (h : de T) (ho : T.n.dt = false) (hm : Gk T) (ts : List Dat) (i : Int) (xa : ao) (xb : an) (w : List Int) (x1 x2 x3 x4 x5 : List Dat) :
 oW m k (ts, 0, i, true, xa, xb, T.a, T.b, T.n, w, l, x1, x2, x3, x4, x5, T.aC, T.notes, T.s0, T.s1, T.s2, T.tr, T.ax) = some [.b true] := by
 have ll := jL h; have tl := cL h; have pl := dg h; have gn := dA h; have D := cr h.lK; have b := dP h; have r0 := h.sD; have r := h.res; have pe := h.period; have f := h.fee; have o := h.out; have ad : T.b.advance <= 1099511627776 := D.advance.2; have po : 0 <= af 1 T.aC /\ af 1 T.aC <= 1099511627776 := D.ax; have eT : (⟨T.a, T.b, T.n, T.aC, T.notes, T.s0, T.s1, T.s2, T.ax, T.tr⟩ : ab) = T := rfl; unfold oW; dsimp only; rw [eT]; refine aR (zan.2 ⟨rfl, eB.2 h⟩) ?_
 rw [Il h ho hm]; have cn := xW h; obtain ⟨c1, c2, c3, c4⟩ := ng h; obtain ⟨d1, d2, d3, d4⟩ := kK h; obtain ⟨z1, z2⟩ := FE (c := (vD T).2) fun j hj => ⟨(o4 h j (by omega)).2.2.2.1, (o4 h j (by omega)).2.2.2.2.1⟩
 obtain ⟨s1, s2, s3, s4, s5⟩ := zT h; have q3 := (jR h s1).2.2.1; have co : bf (dw T).t l = noR 5 (dw T).t := rfl; have cc : bN (dw T).t = noR 5 (dw T).t := rfl; dsimp only [bd]; refine jD rfl (jD rfl (jG rfl ?_)); unfold By; dsimp only [bd]; rw [show (⟨(dw T).t.a, (dw T).t.b, (dw T).t.n, (dw T).t.aC, (dw T).t.notes, (dw T).t.s0, (dw T).t.s1, (dw T).t.s2, (dw T).t.ax, (dw T).t.tr⟩ : ab) = (dw T).t from rfl, co, show (noR 5 (dw T).t).t = (dw T).t from rfl, cc]; refine aR (zan.2 ⟨rfl, cV (qQ h)⟩) (aR (zan.2 ⟨rfl, eB.2 cn⟩) ?_); refine aR (zan.2 ⟨rfl, eB.2 cn⟩) ?_
 refine jG (mb z1) (jG (mb z2) (jG rfl ?_)); have pg : (decide ((vP T).length <= 1000000) && ((vP T).all mq && decide (af 3 (vP T) <= 1152921504606846976))) = true := by
  simp only [zab, zac, zam]; exact ⟨by omega, fun d hd => zad (by have := (c4 d hd).1; omega), by omega⟩
 refine aR pg ?_
 have az : w64 (w64 (w64 (w64 ((dw T).ra.au + (dw T).ra.kE) + (dw T).ra.aS) + (dw T).ra.draw) + (dw T).ra.advance) = w64 (af 3 (dw T).wI + (dw T).rb.eH) := by
  show w64 (w64 (w64 (w64 (af 1 T.ax + 0) + 0) + (T.n.rin - T.n.aG)) + 0) = w64 (af 3 (vP T) + (af 1 T.ax + (T.n.rin - T.n.aG) - af 3 (vP T))); have w1 : w64 (af 1 T.ax) = af 1 T.ax := aa (by omega) (by omega); have w2 : w64 (af 1 T.ax + (T.n.rin - T.n.aG)) = af 1 T.ax + (T.n.rin - T.n.aG) := aa (by omega) (by omega); simp only [zbG, w1, w2]; rw [show af 3 (vP T) + (af 1 T.ax + (T.n.rin - T.n.aG) - af 3 (vP T)) = af 1 T.ax + (T.n.rin - T.n.aG) by omega, w2]
 refine jG (mb az) (aR rfl (jG rfl (aR rfl (aR (zan.2 ⟨rfl, nM (l := (dw T).t.ax) cn.sA (zax (dg cn).2 (by decide))⟩) ?_)))); refine jG (mb (show af 1 (cP T (bp T.ax)).ax = 0 by omega)) (aR rfl ?_); refine jG (mb (show w64 ((vD T).1.rin - (vD T).1.aG) = 0 by rw [d1]; show w64 (T.n.rin - T.n.rin) = 0; rw [Int.sub_self]; rfl)) (aR rfl ?_); refine jG (mb (show (vD T).1.fee = 0 by rw [d1])) (aR rfl ?_); refine jG (mb (show (vD T).1.out = 0 by rw [d1])) (jG rfl (jG rfl rfl))
theorem PX (m : Nat) (hm : 1 <= m) (ts : List Dat) (xa : ao) (xb : an) (x1 x2 x3 x4 x5 : List Dat) : ∀ (c n : Nat) (i : Nat) (T : ab), i + c = min ts.length 8 -> c < n -> de T -> T.n.dt = false -> T.n.period = (i : Int) -> (∀ d ∈ T.ax, d.i 0 ≠ 1099511627776) -> ((bu (⟨xa, x1, x2, xb, x3, x4, x5⟩ : aP)).getD (0, 0)).1 = af 1 T.aC -> xb.clean = T.b.clean ->
 rC m n (ts, 0, (i : Int), xa, xb, T.a, T.b, T.n, x1, x2, x3, x4, x5, T.aC, T.notes, T.s0, T.s1, T.s2, T.tr, T.ax) = some [.b true] := by
 intro c
 induction c with
 | zero =>
  intro n i T hi hn h ho hp hid hs hc; obtain ⟨n, rfl⟩ := al n (by omega); rw [ua]; unfold As; dsimp only
  by_cases h1 : i < ts.length
  . rw [bz (by omega), aB (by omega)]
  . rw [aB (by omega)]
 | succ c ih =>
  intro n i T hi hn h ho hp hid hs hc; obtain ⟨n, rfl⟩ := al n (by omega); have ll := jL h; have tl := cL h; have pl := dg h; have gn := dA h; have D := cr h.lK; have b := dP h; have r0 := h.sD; have r := h.res; have pe := h.period; have f := h.fee; have o := h.out; have ad : T.b.advance <= 1099511627776 := D.advance.2; have cl : 0 <= T.b.clean /\ T.b.clean <= 100000 := D.clean; have po : 0 <= af 1 T.aC /\ af 1 T.aC <= 1099511627776 := D.ax; have sl := fE _ gn.2; have hlg := nM h.sA (zax pl.2 (by decide)); have hnl : (dh T.n T.ax T.tr).length < 1099511627776 := by rw [ET]; omega
  have hll : T.ax.length < 1000000 /\ T.tr.length < 1000000 := ⟨ll.2.2.2.2.2.1, ll.2.2.2.2.2.2⟩
  rw [ua]; unfold As; dsimp only; rw [bz (by omega), bz (by omega)]; refine aR (zan.2 ⟨rfl, zad hll⟩) ?_
  rw [jl (by omega) (by omega), aV (by omega)]; refine gR fun d15 _ => ?_
  refine aR (zan.2 ⟨rfl, Hc h⟩) ?_
  refine gR fun l e16 => ?_
  have he : (cP T l).e = 0 := by rw [e16]; exact H8 h _ _ _ _ _ _
  have hlen : l.length <= 64 := MR he; rw [mv (by omega) (by omega), mv (by omega) (by omega)]; have eT : (⟨T.a, T.b, T.n, T.aC, T.notes, T.s0, T.s1, T.s2, T.ax, T.tr⟩ : ab) = T := rfl; rw [eT]; refine aR (zan.2 ⟨rfl, eB.2 h⟩) ?_
  rw [FI l hid ho (by omega)]; dsimp only [bd, noR]; obtain ⟨hC, hN, hO, hP, hM, hX, hD, hR, hQ⟩ := vQ h ho (by omega) he; have hpe : T.n.period < 600 := by omega
  have fin : rC m n (ts, 0, w64 ((i : Int) + 1), xa, xb, (bC T l).t.a, (bC T l).t.b, (bC T l).t.n, x1, x2, x3, x4, x5, (bC T l).t.aC, (bC T l).t.notes, (bC T l).t.s0, (bC T l).t.s1, (bC T l).t.s2, (bC T l).t.tr, (bC T l).t.ax) = some [.b true] := by
   have hids : (bC T l).t.ax.map (fun d => d.i 0) = T.ax.map (fun d => d.i 0) := (jR h he).2.1; have nx := ih n (i + 1) (bC T l).t (by omega) (by omega) hN hO (by rw [hP, hp]; omega) (fun d hd => by
    have hm : d.i 0 ∈ T.ax.map (fun d => d.i 0) := by rw [<- hids]; exact za3.2 ⟨d, hd, rfl⟩
    obtain ⟨y, hy, e⟩ := za3.1 hm; rw [<- e]; exact hid y hy) hs hc
   rw [aa (n := (i : Int) + 1) (by omega) (by omega)]; exact nx
  refine jD rfl ?_
  refine aR (zan.2 ⟨rfl, zad hll⟩) (aR (zad hnl) ?_); rw [om]; refine jD rfl ?_
  refine aR (zan.2 ⟨rfl, cV gn⟩) ?_
  by_cases hcl : xb.clean > 0
  case neg =>
   rw [aB hcl]; exact tK m _ h ho hpe he (fun hm => hcl (by rw [hc]; exact hm.1.1)) ts _ xa xb x1 x2 x3 x4 x5 fin
  rw [bz hcl]; refine aR rfl (aR (zan.2 ⟨rfl, hlg⟩) ?_); have pr : 0 <= af 1 T.aC * T.b.clean /\ af 1 T.aC * T.b.clean <= 1099511627776 * 100000 := ⟨zaZ po.1 cl.1, Int.mul_le_mul po.2 cl.2 cl.1 (by decide)⟩
  have e1 : w64 (af 1 ((ae ([.r [.r T.ax]] : List Dat) 0).d 0) * 10000) = af 1 T.ax * 10000 := aa (n := af 1 T.ax * 10000) (by omega) (by omega); have e2 : w64 (((bu (⟨xa, x1, x2, xb, x3, x4, x5⟩ : aP)).getD (0, 0)).1 * xb.clean) = af 1 T.aC * T.b.clean := by rw [hs, hc]; exact aa (by omega) (by omega)
  rw [e1, e2]
  by_cases ht : af 1 T.ax * 10000 <= af 1 T.aC * T.b.clean
  case neg =>
   rw [aB ht]; exact tK m _ h ho hpe he (fun hm => ht hm.1.2) ts _ xa xb x1 x2 x3 x4 x5 fin
  rw [bz ht]; refine aR rfl (aR (zan.2 ⟨rfl, hlg⟩) (aR rfl (aR rfl (aR rfl ?_)))); have e3 : w64 (af 1 ((ae ([.r [.r T.ax]] : List Dat) 0).d 0) + w64 (T.n.rin - T.n.aG)) = af 1 T.ax + (T.n.rin - T.n.aG) := by
   rw [aa (n := T.n.rin - T.n.aG) (by omega) (by omega)]; exact aa (n := af 1 T.ax + (T.n.rin - T.n.aG)) (by omega) (by omega)
  have e4 : w64 (w64 (w64 (bm aK T.tr + af 5 T.tr) + T.n.fee) + T.n.out) = bm aK T.tr + af 5 T.tr + T.n.fee + T.n.out := by
   rw [aa (n := bm aK T.tr + af 5 T.tr) (by omega) (by omega), aa (n := bm aK T.tr + af 5 T.tr + T.n.fee) (by omega) (by omega)]; exact aa (by omega) (by omega)
  rw [e3, e4]
  by_cases hm : Gk T
  case neg =>
   have hx : ¬ (af 1 T.ax + (T.n.rin - T.n.aG) >= bm aK T.tr + af 5 T.tr + T.n.fee + T.n.out) := fun hx => hm ⟨⟨by rw [<- hc]; exact hcl, ht⟩, hx⟩
   rw [zaL hx]; exact tK m _ h ho hpe he hm ts _ xa xb x1 x2 x3 x4 x5 fin
  rw [zad (show af 1 T.ax + (T.n.rin - T.n.aG) >= bm aK T.tr + af 5 T.tr + T.n.fee + T.n.out from hm.2)]; exact IK m _ l h ho hm ts _ xa xb _ x1 x2 x3 x4 x5
set_option maxHeartbeats 8000000 in
theorem MG (b0 : Int) (wb0 : (Lit.int .i64 b0).wf = true) (b1 : Int) (wb1 : (Lit.int .i64 b1).wf = true) (b2 : Int) (wb2 : (Lit.int .i64 b2).wf = true) (b3 : Int) (wb3 : (Lit.int .i64 b3).wf = true) (b4 : Int) (wb4 : (Lit.int .i64 b4).wf = true) (b5 : Int) (wb5 : (Lit.int .i64 b5).wf = true) (b6 : Int) (wb6 : (Lit.int .i64 b6).wf = true) (b7 : Int) (wb7 : (Lit.int .i64 b7).wf = true) (b8 : Int) (wb8 : (Lit.int .i64 b8).wf = true) (b9 : Int) (wb9 : (Lit.int .i64 b9).wf = true) (b10 : Int) (wb10 : (Lit.int .i64 b10).wf = true) (b11 : Int) (wb11 : (Lit.int .i64 b11).wf = true) (b12 : Int) (wb12 : (Lit.int .i64 b12).wf = true) (b13 : List Int) (wb13 : b13.length <= 140737488355328 /\ ∀ x ∈ b13, (Lit.int .i64 x).wf = true) (b14 : List Int) (wb14 : b14.length <= 140737488355328 /\ ∀ x ∈ b14, (Lit.int .i64 x).wf = true) (b15 : List Int) (wb15 : b15.length <= 140737488355328 /\ ∀ x ∈ b15, (Lit.int .i64 x).wf = true) (b16 : List Int) (wb16 : b16.length <= 140737488355328 /\ ∀ x ∈ b16, (Lit.int .i64 x).wf = true) (b17 : List Int) (wb17 : b17.length <= 140737488355328 /\ ∀ x ∈ b17, (Lit.int .i64 x).wf = true) (b18 : List Int) (wb18 : b18.length <= 140737488355328 /\ ∀ x ∈ b18, (Lit.int .i64 x).wf = true) (b19 : List Int) (wb19 : b19.length <= 140737488355328 /\ ∀ x ∈ b19, (Lit.int .i64 x).wf = true) (b20 : List Dat) (wb20 : b20.length <= 140737488355328 /\ ∀ x ∈ b20, WfR [.ints .i64, .ints .i64, .ints .i64, .ints .i64, .ints .i64, .ints .i64] x.sub) (b21 : Int) (wb21 : (Lit.int .i64 b21).wf = true) : ∃ m, t10 m ((⟨(⟨b0, b1, b2⟩ : ao), (⟨b3, b4, b5, b6, b7, b8, b9, b10, b11, b12⟩ : an), b13, b14, b15, b16, b17, b18, b19⟩ : cT), b20, b21) = some [.b true] := by
 have hn : (⟨⟨b0, b1, b2⟩, ⟨b3, b4, b5, b6, b7, b8, b9, b10, b11, b12⟩, b13, b14, b15, b16, b17, b18, b19⟩ : cT).notes.length <= 140737488355328 := wb14.1; generalize (⟨⟨b0, b1, b2⟩, ⟨b3, b4, b5, b6, b7, b8, b9, b10, b11, b12⟩, b13, b14, b15, b16, b17, b18, b19⟩ : cT) = k at hn; have w := ba (a := b21) (show (0 : Int) <= 100000 by decide); have hs : (bu ({ aQ k with b := { (aQ k).b with clean := within b21 0 100000 } } : aP)).isSome = true := AV (CG k) w; have h : de (kp ({ aQ k with b := { (aQ k).b with clean := within b21 0 100000 } } : aP)) := AE hs; have hT : dT ({ aQ k with b := { (aQ k).b with clean := within b21 0 100000 } } : aP) = kp ({ aQ k with b := { (aQ k).b with clean := within b21 0 100000 } } : aP) := Hf hs; refine ⟨130000, ?_⟩; unfold t10; dsimp only [lt]; rw [aV hn, aV (B7 k), hs, if_pos rfl, if_pos rfl]; refine jD rfl (jD rfl (aR rfl ?_)); rw [hT]; refine PX 130000 (by omega) b20 _ _ _ _ _ _ _ (min b20.length 8) 130000 0 (kp ({ aQ k with b := { (aQ k).b with clean := within b21 0 100000 } } : aP)) (by omega) (by omega) h rfl rfl (fun d hd => ?_) ?_ rfl
 . obtain ⟨x, hx, rfl⟩ := za3.1 hd; have := Dp k x hx; show x.i 0 ≠ _; omega
 . exact (cr hs).OG
set_option maxRecDepth 20000 in
theorem pO {HH : Type} {enc : TypeId × Value -> HH} {w : World} {base : Nat} {vs : List Value} {ds : List (DataW HH)} {ps : List MemPlace} (hsh : w.ShapedOpen Tryz.prog)
 (hd : DataW.TrodAll enc Tryz.prog w 0 (fun _ => true) true Tryz.f10.params.toList vs ds ps) {us' : List TypeId} {gs : List (DataW HH)} (hz : (DataW.weightsEach Tryz.prog (Tryz.f10.params.toList ++ us') (ds ++ gs)).all (· <= reachBytes) = true) (hval : ∀ (j : Nat) t v, Tryz.f10.params.toList[j]? = some t -> vs[j]? = some v -> Value.okWide Tryz.prog w .any base t v) :
 Calls Tryz.prog 10 vs.toArray w fun e w' => e = .returned (.bool true) /\ RowKit.Below w.heap.size w w' :=
 Gs Seat.mix Seat.names IY (pars := mB) (by kernel_rfl) (fun us h => by
  change WfU [.int .i64, .int .i64, .int .i64, .int .i64, .int .i64, .int .i64, .int .i64, .int .i64, .int .i64, .int .i64, .int .i64, .int .i64, .int .i64, .ints .i64, .ints .i64, .ints .i64, .ints .i64, .ints .i64, .ints .i64, .ints .i64, .ag [.ints .i64, .ints .i64, .ints .i64, .ints .i64, .ints .i64, .ints .i64], .int .i64] us at h; obtain ⟨b0, u, rfl, wb0, h⟩ := fI h; obtain ⟨b1, u, rfl, wb1, h⟩ := fI h; obtain ⟨b2, u, rfl, wb2, h⟩ := fI h; obtain ⟨b3, u, rfl, wb3, h⟩ := fI h; obtain ⟨b4, u, rfl, wb4, h⟩ := fI h; obtain ⟨b5, u, rfl, wb5, h⟩ := fI h; obtain ⟨b6, u, rfl, wb6, h⟩ := fI h; obtain ⟨b7, u, rfl, wb7, h⟩ := fI h; obtain ⟨b8, u, rfl, wb8, h⟩ := fI h; obtain ⟨b9, u, rfl, wb9, h⟩ := fI h; obtain ⟨b10, u, rfl, wb10, h⟩ := fI h; obtain ⟨b11, u, rfl, wb11, h⟩ := fI h; obtain ⟨b12, u, rfl, wb12, h⟩ := fI h; obtain ⟨b13, u, rfl, wb13, h⟩ := jW h; obtain ⟨b14, u, rfl, wb14, h⟩ := jW h; obtain ⟨b15, u, rfl, wb15, h⟩ := jW h; obtain ⟨b16, u, rfl, wb16, h⟩ := jW h; obtain ⟨b17, u, rfl, wb17, h⟩ := jW h; obtain ⟨b18, u, rfl, wb18, h⟩ := jW h; obtain ⟨b19, u, rfl, wb19, h⟩ := jW h; obtain ⟨b20, u, rfl, wb20, h⟩ := E1 h; obtain ⟨b21, u, rfl, wb21, h⟩ := fI h; obtain rfl := Gz h; obtain ⟨m, hm⟩ := MG b0 wb0 b1 wb1 b2 wb2 b3 wb3 b4 wb4 b5 wb5 b6 wb6 b7 wb7 b8 wb8 b9 wb9 b10 wb10 b11 wb11 b12 wb12 b13 wb13 b14 wb14 b15 wb15 b16 wb16 b17 wb17 b18 wb18 b19 wb19 b20 wb20 b21 wb21; have G : N10.Dh Tryz.prog LQ KN (Uns.enc ((⟨(⟨b0, b1, b2⟩ : ao), (⟨b3, b4, b5, b6, b7, b8, b9, b10, b11, b12⟩ : an), b13, b14, b15, b16, b17, b18, b19⟩ : cT), b20, b21)) ([xF (rC m m)]) = t10 m ((⟨(⟨b0, b1, b2⟩ : ao), (⟨b3, b4, b5, b6, b7, b8, b9, b10, b11, b12⟩ : an), b13, b14, b15, b16, b17, b18, b19⟩ : cT), b20, b21) := by kernel_rfl
  exact N10.Mu ak GD.right (W := [xF (rC m m)]) (by kernel_rfl) (by kernel_rfl) (by kernel_rfl) (aJ (PF m m) aA) (G.trans hm)) hsh hd hz hval
end
end Go.Proofs.YtdbkoeefnodejaaGreat
