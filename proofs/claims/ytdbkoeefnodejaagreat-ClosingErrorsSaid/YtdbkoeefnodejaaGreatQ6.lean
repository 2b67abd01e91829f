/- Part of a proof: Loss, Closing, ClosePlain, Close, Runs, Lines, Lost, CallPlain, Call, Bound, WClosingErrors. Conditions: none. -/
import Derived.Test.YtdbkoeefnodejaaGreatQ5
set_option linter.unusedVariables false
set_option linter.unusedSimpArgs false
set_option linter.unnecessarySimpa false
set_option linter.unusedSectionVars false
namespace Go.Proofs.YtdbkoeefnodejaaGreat
noncomputable section
open Go Go.Proofs.YtdbkoeefnodejaaGreat.Ev
set_option maxRecDepth 20000
def cN (u p l r : Int) : Int := min (min (max (u - p) 0) (max (l - r) 0)) (max u 0)
def QT : aD := ⟨T45.tab, 108, ⟨[.int .i64, .int .i64, .int .i64, .int .i64], [], 0⟩, ⟨[.int .i64], [], 0⟩, []⟩
def t108 (m : Nat) : Int × Int × Int × Int -> Option (List Un) := fun (a0, a1, a2, a3) =>
 lt ((if (w64 (a0 - a1)) < 0 then 0 else (w64 (a0 - a1))) : Int) fun x1 =>
 lt ((if (w64 (a2 - a3)) < 0 then 0 else (w64 (a2 - a3))) : Int) fun x2 =>
 lt ((if a0 < 0 then 0 else a0) : Int) fun x3 =>
 some ([.i (if x3 < (if x2 < x1 then x2 else x1) then x3 else (if x2 < x1 then x2 else x1))])
def f108 : Int × Int × Int × Int -> Bool × List Un := fun (a0, a1, a2, a3) => (decide ((-1152921504606846976 <= a0 /\ a0 <= 1152921504606846976) /\ (-1152921504606846976 <= a1 /\ a1 <= 1152921504606846976) /\ (-1152921504606846976 <= a2 /\ a2 <= 1152921504606846976) /\ (-1152921504606846976 <= a3 /\ a3 <= 1152921504606846976)), [.i (cN a0 a1 a2 a3)])
theorem K8 (a0 : Int) (a1 : Int) (a2 : Int) (a3 : Int) (hc : (decide ((-1152921504606846976 <= a0 /\ a0 <= 1152921504606846976) /\ (-1152921504606846976 <= a1 /\ a1 <= 1152921504606846976) /\ (-1152921504606846976 <= a2 /\ a2 <= 1152921504606846976) /\ (-1152921504606846976 <= a3 /\ a3 <= 1152921504606846976))) = true) : ∃ m, t108 m (a0, a1, a2, a3) = some ([.i (cN a0 a1 a2 a3)]) := by
 have h := zak hc; refine ⟨0, ?_⟩; unfold t108 cN; simp only [lt_eq]; rw [aa (n := a0 - a1) (by omega) (by omega), aa (n := a2 - a3) (by omega) (by omega)]
 congr 3
 omega
theorem Gb : ER 108 (mkE QT.en QT.ex f108) := aq ak T45.right (fun m => []) (t := t108) (by kernel_rfl) (fun m => aA) (fun m a => by kernel_rfl) fun (a0, a1, a2, a3) hc => K8 a0 a1 a2 a3 hc
def Kw : Tb Tryz.prog LQ TE XX := T45.add 108 _ Gb
def cf (n : Int) : Nat -> List Int
 | 0 => []
 | k + 1 => n :: cf (n + 1) k
theorem fU : ∀ (k : Nat) (n : Int), (cf n k).length = k
 | 0, _ => rfl
 | k + 1, n => by simp [cf, fU k]
theorem xx : ∀ (k j : Nat) (n : Int), j < k -> (cf n k).getD j 0 = n + j
 | 0, j, n, h => by omega
 | k + 1, 0, n, h => by simp [cf]
 | k + 1, j + 1, n, h => by
  simp only [cf, zaw, xx k j (n + 1) (by omega)]; omega
theorem zf {c : List Dat} {i : Nat} (h : i < c.length) : (cf 0 c.length).getD i 0 = (i : Int) := by rw [xx _ _ _ h]; omega
theorem bV {c : List Dat} {i : Nat} (h : i < c.length) (hg : ∀ d ∈ c, aH d = true) : aH (ae c i) = true := hg _ (m8 h)
theorem H4 {d : Dat} (h : aH d = true) : w64 (w64 (d.i 1 - w64 (d.i 3 - d.i 4)) - d.i 6) = aK d := by
 have := bW h; rw [aa (n := d.i 3 - d.i 4) (by omega) (by omega), aa (n := d.i 1 - _) (by omega) (by omega), aa (by omega) (by omega)]; rfl
theorem yd (j : Nat) : ∀ (c : List Dat) (i : Nat), i < c.length -> af j (c.drop i) = (ae c i).i j + af j (c.drop (i + 1))
 | [], i, h => by simp at h
 | d :: c, 0, _ => by simp [af, ae]
 | d :: c, i + 1, h => by
  have := yd j c i (by simpa using h); simpa [ae] using this
def Np : aD := ⟨Kw.tab, 144, ⟨[.buf 0 1], [.dJ 1 7 0, .ag (sI 7)], 2⟩, ⟨[.int .i64], [.dJ 1 7 0, .ag (sI 7)], 2⟩, []⟩
abbrev Aj : Type := Int × Int × Int × List Int × List Dat
def sR (m : Nat) (k : Aj -> Option (List Un)) : Aj -> Option (List Un) := fun (a0, a1, a2, a3, a4) =>
 bif decide (a2 < a1) then
 chk (inb a2 a3.length) <|
 chk (decide (a2.toNat < a3.length)) <|
 bif (!((decide ((a3.getD a2.toNat 0) < 0)) && true)) then
 chk (decide (0 <= (a3.getD a2.toNat 0))) <|
 chk (decide ((a3.getD a2.toNat 0).toNat < a4.length)) <|
 k ((w64 (a0 + ((ae a4 ((a3.getD a2.toNat 0).toNat)).i 6))), a1, (w64 (a2 + 1)), a3, a4)
 else
 k (a0, a1, (w64 (a2 + 1)), a3, a4)
 else
 some ([.i a0, .l a3, .d a4])
def qV (m : Nat) : Nat -> Aj -> Option (List Un) := bp (sR m)
theorem si (m : Nat) (n : Nat) : qV m (n + 1) = sR m (qV m n) := rfl
def CD (F : Aj -> Option (List Un)) : aT := ⟨[.lp [0, 1, 0, 1, 1], .blk 0, .code [1, 1, 1]], ⟨frm 22 [(3, .int .i64), (6, .buf 0 1), (7, .int .i64), (8, .int .i64)], [.dJ 1 7 0, .ag (sI 7)], 2⟩, onU F⟩
theorem OE (m : Nat) : ∀ n, HO Np (CD (qV m n)) := ay ak Kw.right (fun k => [CD k]) (fun k h => (aJ h aA)) fun k a => by kernel_rfl
def t144 (m : Nat) : List Int × List Dat -> Option (List Un) := fun (a0, a1) =>
 qV m m (0, (a0.length : Int), 0, a0, a1)
theorem MY (m : Nat) (c : List Dat) (hl : c.length <= 1000) (hg : ∀ d ∈ c, aH d = true) : ∀ (k i n : Nat) (s : Int), i + k = c.length -> k < n -> 0 <= s -> s <= 1099511627776 * i ->
 qV m n (s, (c.length : Int), (i : Int), cf 0 c.length, c) = some [.i (s + af 6 (c.drop i)), .l (cf 0 c.length), .d c] := by
 intro k
 induction k with
 | zero =>
  intro i n s hi hn s0 s1; obtain ⟨n, rfl⟩ := al n (by omega); rw [si]; unfold sR; dsimp only; rw [aB (by omega), List.drop_eq_nil_of_le (by omega)]; simp [af]
 | succ k ih =>
  intro i n s hi hn s0 s1; obtain ⟨n, rfl⟩ := al n (by omega); have hk := zf (c := c) (i := i) (by omega); have hL := fU c.length 0; have hx := bW (bV (i := i) (by omega) hg); have := ih (i + 1) n (s + (ae c i).i 6) (by omega) (by omega) (by omega) (by omega); rw [yd 6 c i (by omega), <- Int.add_assoc]; rw [si]; unfold sR; dsimp only; simp only [zaC, hk, hL, za6, zaW]; simp (disch := omega) only [TRa, TRi, aa, LNl, LNi, zaa]; simp only [LNl, LNi, zaa] at this ⊢; exact this
def f144 : List Int × List Dat -> Bool × List Un := fun (a0, a1) => ((decide (a0 = cf 0 a1.length)) && (decide (a1.length <= 1000) && a1.all aH), [.i (af 6 a1), .l (a0), .d (a1)])
theorem Kf (a0 : List Int) (a1 : List Dat) (hc : ((decide (a0 = cf 0 a1.length)) && (decide (a1.length <= 1000) && a1.all aH)) = true) : ∃ m, t144 m (a0, a1) = some ([.i (af 6 a1), .l (a0), .d (a1)]) := by
 simp only [zab, zac, zam] at hc; obtain ⟨rfl, h1, h2⟩ := hc; refine ⟨a1.length + 1, ?_⟩; unfold t144; dsimp only; rw [fU]; exact (MY _ a1 h1 h2 a1.length 0 _ 0 (by omega) (by omega) (by omega) (by simp)).trans (by simp only [za0, zbS])
theorem GD : ER 144 (mkE Np.en Np.ex f144) := aq ak Kw.right (fun m => [CD (qV m m)]) (t := t144) (by kernel_rfl) (fun m => (aJ (OE m m) aA)) (fun m a => by kernel_rfl) fun (a0, a1) hc => Kf a0 a1 hc
def Jw : Tb Tryz.prog LQ TE XX := Kw.add 144 _ GD
def fQ (c : List Dat) : Nat -> Nat -> Int -> Int
 | 0, _, o => o
 | k + 1, i, o => fQ c k (i + 1) (if 0 < aK (ae c i) /\ (o < 0 \/ (ae c o.toNat).i 0 <= (ae c i).i 0) then (i : Int) else o)
theorem zZ (c : List Dat) : ∀ (k i : Nat) (o : Int), i + k = c.length -> -1 <= o -> o < c.length -> -1 <= fQ c k i o /\ fQ c k i o < c.length
 | 0, _, o, _, h1, h2 => ⟨h1, h2⟩
 | k + 1, i, o, h, h1, h2 => by
  unfold fQ
  split
  . exact zZ c k (i + 1) _ (by omega) (by omega) (by omega)
  . exact zZ c k (i + 1) _ (by omega) (by omega) (by omega)
def MS : aD := ⟨Jw.tab, 145, ⟨[.buf 0 1], [.dJ 1 7 0, .ag (sI 7)], 2⟩, ⟨[.np 1 7 0], [.dJ 1 7 0, .ag (sI 7)], 2⟩, []⟩
abbrev Au : Type := Int × Int × Int × List Int × List Dat
def sU (m : Nat) (k : Au -> Option (List Un)) : Au -> Option (List Un) := fun (a0, a1, a2, a3, a4) =>
 bif decide (a2 < a1) then
 chk (inb a2 a3.length) <|
 chk (decide (a2.toNat < a3.length)) <|
 bif (!((decide ((a3.getD a2.toNat 0) < 0)) && true)) then
 chk (decide (0 <= (a3.getD a2.toNat 0))) <|
 chk (decide ((a3.getD a2.toNat 0).toNat < a4.length)) <|
 lt (ae a4 ((a3.getD a2.toNat 0).toNat) : Dat) fun d2 =>
 bif decide ((w64 (w64 ((d2.i 1) - w64 ((d2.i 3) - (d2.i 4))) - (d2.i 6))) > 0) then
 bif ((decide (a0 < 0)) && true) then
 k ((a3.getD a2.toNat 0), a1, (w64 (a2 + 1)), a3, a4)
 else
 chk (decide (0 <= (a3.getD a2.toNat 0))) <|
 chk (decide ((a3.getD a2.toNat 0).toNat < a4.length)) <|
 chk (decide (0 <= a0)) <|
 chk (decide (a0.toNat < a4.length)) <|
 bif (decide (((ae a4 ((a3.getD a2.toNat 0).toNat)).i 0) >= ((ae a4 a0.toNat).i 0))) then
 k ((a3.getD a2.toNat 0), a1, (w64 (a2 + 1)), a3, a4)
 else
 k (a0, a1, (w64 (a2 + 1)), a3, a4)
 else
 k (a0, a1, (w64 (a2 + 1)), a3, a4)
 else
 k (a0, a1, (w64 (a2 + 1)), a3, a4)
 else
 some ([.i a0, .l a3, .d a4])
def qy (m : Nat) : Nat -> Au -> Option (List Un) := bp (sU m)
theorem rI (m : Nat) (n : Nat) : qy m (n + 1) = sU m (qy m n) := rfl
def Cq (F : Au -> Option (List Un)) : aT := ⟨[.lp [0, 1, 0, 1, 1], .blk 0, .code [1, 1, 1]], ⟨frm 41 [(3, .np 1 7 0), (6, .buf 0 1), (7, .int .i64), (8, .int .i64)], [.dJ 1 7 0, .ag (sI 7)], 2⟩, onU F⟩
theorem NL (m : Nat) : ∀ n, HO MS (Cq (qy m n)) := ay ak Jw.right (fun k => [Cq k]) (fun k h => (aJ h aA)) fun k a => by kernel_rfl
def t145 (m : Nat) : List Int × List Dat -> Option (List Un) := fun (a0, a1) =>
 qy m m ((-1), (a0.length : Int), 0, a0, a1)
theorem Rx (m : Nat) (c : List Dat) (hl : c.length <= 1000) (hg : ∀ d ∈ c, aH d = true) : ∀ (k i n : Nat) (o : Int), i + k = c.length -> k < n -> -1 <= o -> o < c.length ->
 qy m n (o, (c.length : Int), (i : Int), cf 0 c.length, c) = some [.i (fQ c k i o), .l (cf 0 c.length), .d c] := by
 intro k
 induction k with
 | zero =>
  intro i n o hi hn o0 o1; obtain ⟨n, rfl⟩ := al n (by omega); rw [rI]; unfold sU; dsimp only; rw [aB (by omega)]; rfl
 | succ k ih =>
  intro i n o hi hn o0 o1; obtain ⟨n, rfl⟩ := al n (by omega); have hk := zf (c := c) (i := i) (by omega); have hL := fU c.length 0; have hx := bW (bV (i := i) (by omega) hg); have ia := ih (i + 1) n (i : Int) (by omega) (by omega) (by omega) (by omega); have ib := ih (i + 1) n o (by omega) (by omega) (by omega) (by omega); rw [rI]; unfold sU; dsimp only; unfold fQ; have e := H4 (bV (c := c) (i := i) (by omega) hg); simp only [lt_eq, zaC, hk, hL, za6, zaW, e, ge_iff_le, gt_iff_lt]
  by_cases h1 : 0 < aK (ae c i)
  . by_cases h2 : o < 0
    . have hc : 0 < aK (ae c i) /\ (o < 0 \/ (ae c o.toNat).i 0 <= (ae c i).i 0) := ⟨h1, .inl h2⟩
      rw [if_pos hc]; simp (disch := omega) only [TRa, TRi, aa, LNl, LNi, zaa]; simp only [zas, zaa] at ia ib ⊢; exact ia
    . by_cases h3 : (ae c o.toNat).i 0 <= (ae c i).i 0
      . have hc : 0 < aK (ae c i) /\ (o < 0 \/ (ae c o.toNat).i 0 <= (ae c i).i 0) := ⟨h1, .inr h3⟩
        rw [if_pos hc]; simp (disch := omega) only [TRa, TRi, aa, LNl, LNi, zaa]; simp only [zas, zaa] at ia ib ⊢; exact ia
      . have hc : ¬ (0 < aK (ae c i) /\ (o < 0 \/ (ae c o.toNat).i 0 <= (ae c i).i 0)) := fun h => h.2.elim h2 h3
        rw [if_neg hc]; simp (disch := omega) only [TRa, TRi, aa, LNl, LNi, zaa]; simp only [zas, zaa] at ia ib ⊢; exact ib
  . have hc : ¬ (0 < aK (ae c i) /\ (o < 0 \/ (ae c o.toNat).i 0 <= (ae c i).i 0)) := fun h => h1 h.1
    rw [if_neg hc]; simp (disch := omega) only [TRa, TRi, aa, LNl, LNi, zaa]; simp only [zas, zaa] at ia ib ⊢; exact ib
def f145 : List Int × List Dat -> Bool × List Un := fun (a0, a1) => ((decide (a0 = cf 0 a1.length)) && (decide (a1.length <= 1000) && a1.all aH), [.i (fQ a1 a1.length 0 (-1)), .l (a0), .d (a1)])
theorem Kl (a0 : List Int) (a1 : List Dat) (hc : ((decide (a0 = cf 0 a1.length)) && (decide (a1.length <= 1000) && a1.all aH)) = true) : ∃ m, t145 m (a0, a1) = some ([.i (fQ a1 a1.length 0 (-1)), .l (a0), .d (a1)]) := by
 simp only [zab, zac, zam] at hc; obtain ⟨rfl, h1, h2⟩ := hc; refine ⟨a1.length + 1, ?_⟩; unfold t145; dsimp only; rw [fU]; exact Rx _ a1 h1 h2 a1.length 0 _ (-1) (by omega) (by omega) (by omega) (by omega)
theorem HL : ER 145 (mkE MS.en MS.ex f145) := aq ak Jw.right (fun m => [Cq (qy m m)]) (t := t145) (by kernel_rfl) (fun m => (aJ (NL m m) aA)) (fun m a => by kernel_rfl) fun (a0, a1) hc => Kl a0 a1 hc
def Mc : Tb Tryz.prog LQ TE XX := Jw.add 145 _ HL
def fK (c : List Dat) : Nat -> Nat -> Int -> Int
 | 0, _, o => o
 | k + 1, i, o => fK c k (i + 1) (if 0 < (ae c i).i 6 /\ (o < 0 \/ (ae c i).i 0 < (ae c o.toNat).i 0) then (i : Int) else o)
theorem z5 (c : List Dat) : ∀ (k i : Nat) (o : Int), i + k = c.length -> -1 <= o -> o < c.length -> -1 <= fK c k i o /\ fK c k i o < c.length
 | 0, _, o, _, h1, h2 => ⟨h1, h2⟩
 | k + 1, i, o, h, h1, h2 => by
  unfold fK
  split
  . exact z5 c k (i + 1) _ (by omega) (by omega) (by omega)
  . exact z5 c k (i + 1) _ (by omega) (by omega) (by omega)
def Oj : aD := ⟨Mc.tab, 147, ⟨[.buf 0 1], [.dJ 1 7 0, .ag (sI 7)], 2⟩, ⟨[.np 1 7 0], [.dJ 1 7 0, .ag (sI 7)], 2⟩, []⟩
abbrev zd : Type := Int × Int × Int × List Int × List Dat
def sT (m : Nat) (k : zd -> Option (List Un)) : zd -> Option (List Un) := fun (a0, a1, a2, a3, a4) =>
 bif decide (a2 < a1) then
 chk (inb a2 a3.length) <|
 chk (decide (a2.toNat < a3.length)) <|
 bif (!((decide ((a3.getD a2.toNat 0) < 0)) && true)) then
 chk (decide (0 <= (a3.getD a2.toNat 0))) <|
 chk (decide ((a3.getD a2.toNat 0).toNat < a4.length)) <|
 bif decide (((ae a4 ((a3.getD a2.toNat 0).toNat)).i 6) > 0) then
 bif ((decide (a0 < 0)) && true) then
 k ((a3.getD a2.toNat 0), a1, (w64 (a2 + 1)), a3, a4)
 else
 chk (decide (0 <= (a3.getD a2.toNat 0))) <|
 chk (decide ((a3.getD a2.toNat 0).toNat < a4.length)) <|
 chk (decide (0 <= a0)) <|
 chk (decide (a0.toNat < a4.length)) <|
 bif (decide (((ae a4 ((a3.getD a2.toNat 0).toNat)).i 0) < ((ae a4 a0.toNat).i 0))) then
 k ((a3.getD a2.toNat 0), a1, (w64 (a2 + 1)), a3, a4)
 else
 k (a0, a1, (w64 (a2 + 1)), a3, a4)
 else
 k (a0, a1, (w64 (a2 + 1)), a3, a4)
 else
 k (a0, a1, (w64 (a2 + 1)), a3, a4)
 else
 some ([.i a0, .l a3, .d a4])
def rm (m : Nat) : Nat -> zd -> Option (List Un) := bp (sT m)
theorem r7 (m : Nat) (n : Nat) : rm m (n + 1) = sT m (rm m n) := rfl
def Dm (F : zd -> Option (List Un)) : aT := ⟨[.lp [0, 1, 0, 1, 1], .blk 0, .code [1, 1, 1]], ⟨frm 41 [(3, .np 1 7 0), (6, .buf 0 1), (7, .int .i64), (8, .int .i64)], [.dJ 1 7 0, .ag (sI 7)], 2⟩, onU F⟩
theorem NC (m : Nat) : ∀ n, HO Oj (Dm (rm m n)) := ay ak Mc.right (fun k => [Dm k]) (fun k h => (aJ h aA)) fun k a => by kernel_rfl
def t147 (m : Nat) : List Int × List Dat -> Option (List Un) := fun (a0, a1) =>
 rm m m ((-1), (a0.length : Int), 0, a0, a1)
theorem Rc (m : Nat) (c : List Dat) (hl : c.length <= 1000) (hg : ∀ d ∈ c, aH d = true) : ∀ (k i n : Nat) (o : Int), i + k = c.length -> k < n -> -1 <= o -> o < c.length ->
 rm m n (o, (c.length : Int), (i : Int), cf 0 c.length, c) = some [.i (fK c k i o), .l (cf 0 c.length), .d c] := by
 intro k
 induction k with
 | zero =>
  intro i n o hi hn o0 o1; obtain ⟨n, rfl⟩ := al n (by omega); rw [r7]; unfold sT; dsimp only; rw [aB (by omega)]; rfl
 | succ k ih =>
  intro i n o hi hn o0 o1; obtain ⟨n, rfl⟩ := al n (by omega); have hk := zf (c := c) (i := i) (by omega); have hL := fU c.length 0; have hx := bW (bV (i := i) (by omega) hg); have ia := ih (i + 1) n (i : Int) (by omega) (by omega) (by omega) (by omega); have ib := ih (i + 1) n o (by omega) (by omega) (by omega) (by omega); rw [r7]; unfold sT; dsimp only; unfold fK; have e := H4 (bV (c := c) (i := i) (by omega) hg); simp only [lt_eq, zaC, hk, hL, za6, zaW, e, ge_iff_le, gt_iff_lt]
  by_cases h1 : 0 < (ae c i).i 6
  . by_cases h2 : o < 0
    . have hc : 0 < (ae c i).i 6 /\ (o < 0 \/ (ae c i).i 0 < (ae c o.toNat).i 0) := ⟨h1, .inl h2⟩
      rw [if_pos hc]; simp (disch := omega) only [TRa, TRi, aa, LNl, LNi, zaa]; simp only [zas, zaa] at ia ib ⊢; exact ia
    . by_cases h3 : (ae c i).i 0 < (ae c o.toNat).i 0
      . have hc : 0 < (ae c i).i 6 /\ (o < 0 \/ (ae c i).i 0 < (ae c o.toNat).i 0) := ⟨h1, .inr h3⟩
        rw [if_pos hc]; simp (disch := omega) only [TRa, TRi, aa, LNl, LNi, zaa]; simp only [zas, zaa] at ia ib ⊢; exact ia
      . have hc : ¬ (0 < (ae c i).i 6 /\ (o < 0 \/ (ae c i).i 0 < (ae c o.toNat).i 0)) := fun h => h.2.elim h2 h3
        rw [if_neg hc]; simp (disch := omega) only [TRa, TRi, aa, LNl, LNi, zaa]; simp only [zas, zaa] at ia ib ⊢; exact ib
  . have hc : ¬ (0 < (ae c i).i 6 /\ (o < 0 \/ (ae c i).i 0 < (ae c o.toNat).i 0)) := fun h => h1 h.1
    rw [if_neg hc]; simp (disch := omega) only [TRa, TRi, aa, LNl, LNi, zaa]; simp only [zas, zaa] at ia ib ⊢; exact ib
def f147 : List Int × List Dat -> Bool × List Un := fun (a0, a1) => ((decide (a0 = cf 0 a1.length)) && (decide (a1.length <= 1000) && a1.all aH), [.i (fK a1 a1.length 0 (-1)), .l (a0), .d (a1)])
theorem Lv (a0 : List Int) (a1 : List Dat) (hc : ((decide (a0 = cf 0 a1.length)) && (decide (a1.length <= 1000) && a1.all aH)) = true) : ∃ m, t147 m (a0, a1) = some ([.i (fK a1 a1.length 0 (-1)), .l (a0), .d (a1)]) := by
 simp only [zab, zac, zam] at hc; obtain ⟨rfl, h1, h2⟩ := hc; refine ⟨a1.length + 1, ?_⟩; unfold t147; dsimp only; rw [fU]; exact Rc _ a1 h1 h2 a1.length 0 _ (-1) (by omega) (by omega) (by omega) (by omega)
theorem GV : ER 147 (mkE Oj.en Oj.ex f147) := aq ak Mc.right (fun m => [Dm (rm m m)]) (t := t147) (by kernel_rfl) (fun m => (aJ (NC m m) aA)) (fun m a => by kernel_rfl) fun (a0, a1) hc => Lv a0 a1 hc
def Hk : Tb Tryz.prog LQ TE XX := Mc.add 147 _ GV
theorem mK (i : Nat) (y : Dat) : ∀ (l : List Dat) (j : Nat), j < l.length -> af i (l.set j y) = af i l - (ae l j).i i + y.i i
 | [], j, h => by simp at h
 | d :: l, 0, h => by simp only [List.set_cons_zero, af, ae, zaI]; omega
 | d :: l, j + 1, h => by
  have := mK i y l j (by simpa using h); simp only [ae] at this; simp only [zbP, af, ae, zaw, this]; omega
theorem vB {l : List Dat} {j : Nat} {y : Dat} (h : j < l.length) : ae (l.set j y) j = y := by
 unfold ae; rw [zah, List.getElem?_set_self h]; rfl
theorem mP {l : List Dat} {j i : Nat} {y : Dat} (h : i ≠ j) : ae (l.set j y) i = ae l i := by
 unfold ae; rw [zah, zah, List.getElem?_set_ne (by omega)]
def zr (p : Dat -> Prop) [DecidablePred p] : List Dat -> Nat
 | [] => 0
 | d :: l => (if p d then 1 else 0) + zr p l
theorem Aw (p : Dat -> Prop) [DecidablePred p] : ∀ l : List Dat, zr p l <= l.length
 | [] => zao _
 | d :: l => by have := Aw p l; simp only [zr, zaf]; split <;> omega
theorem u7 (p : Dat -> Prop) [DecidablePred p] (y : Dat) (hy : ¬ p y) : ∀ (l : List Dat) (j : Nat), j < l.length -> p (ae l j) -> zr p (l.set j y) + 1 = zr p l
 | [], j, h, _ => by simp at h
 | d :: l, 0, h, hp => by
  have hp : p d := hp; simp only [List.set_cons_zero, zr, if_neg hy, if_pos hp]; omega
 | d :: l, j + 1, h, hp => by
  have := u7 p y hy l j (by simpa using h) hp; simp only [zbP, zr]; omega
def dv (c : List Dat) : Prop := c.length <= 1000 /\ ∀ d ∈ c, aH d = true
theorem cV {c : List Dat} (h : dv c) : (decide (c.length <= 1000) && c.all aH) = true := by
 rw [zab, zam]; exact ⟨zad h.1, h.2⟩
theorem nE {c : List Dat} {j : Nat} {y : Dat} (h : dv c) (hy : aH y = true) : dv (c.set j y) := ⟨by rw [zbg]; exact h.1, D0 h.2 hy⟩
theorem tc (c : List Dat) : ∀ (k i : Nat) (o : Int), i + k = c.length -> (o < 0 \/ 0 < aK (ae c o.toNat)) -> (fQ c k i o < 0 -> o < 0 /\ ∀ j, i <= j -> j < c.length -> aK (ae c j) <= 0) /\ (0 <= fQ c k i o -> 0 < aK (ae c (fQ c k i o).toNat))
 | 0, i, o, h, ho => ⟨fun h1 => ⟨h1, fun j h2 h3 => by omega⟩, fun h1 => by simp only [fQ] at h1 ⊢; omega⟩
 | k + 1, i, o, h, ho => by
  unfold fQ
  split
  . rename_i hc; obtain ⟨a, b⟩ := tc c k (i + 1) (i : Int) (by omega) (.inr (by rw [zaC]; exact hc.1)); exact ⟨fun h1 => by have := (a h1).1; omega, b⟩
  . rename_i hc; obtain ⟨a, b⟩ := tc c k (i + 1) o (by omega) ho; refine ⟨fun h1 => ⟨(a h1).1, fun j h2 h3 => ?_⟩, b⟩
    by_cases hj : j = i
    . subst hj; have := (a h1).1; omega
    . exact (a h1).2 j (by omega) h3
theorem sL (c : List Dat) : ∀ (k i : Nat) (o : Int), i + k = c.length -> (o < 0 \/ 0 < (ae c o.toNat).i 6) -> (fK c k i o < 0 -> o < 0 /\ ∀ j, i <= j -> j < c.length -> (ae c j).i 6 <= 0) /\ (0 <= fK c k i o -> 0 < (ae c (fK c k i o).toNat).i 6)
 | 0, i, o, h, ho => ⟨fun h1 => ⟨h1, fun j h2 h3 => by omega⟩, fun h1 => by simp only [fK] at h1 ⊢; omega⟩
 | k + 1, i, o, h, ho => by
  unfold fK
  split
  . rename_i hc; obtain ⟨a, b⟩ := sL c k (i + 1) (i : Int) (by omega) (.inr (by rw [zaC]; exact hc.1)); exact ⟨fun h1 => by have := (a h1).1; omega, b⟩
  . rename_i hc; obtain ⟨a, b⟩ := sL c k (i + 1) o (by omega) ho; refine ⟨fun h1 => ⟨(a h1).1, fun j h2 h3 => ?_⟩, b⟩
    by_cases hj : j = i
    . subst hj; have := (a h1).1; omega
    . exact (a h1).2 j (by omega) h3
def sD : Nat -> Int -> List Dat -> List Dat
 | 0, _, c => c
 | k + 1, t, c => if af 6 c < t then (if fQ c c.length 0 (-1) < 0 then c else sD k t (c.set (fQ c c.length 0 (-1)).toNat (dT (t - af 6 c) (ae c (fQ c c.length 0 (-1)).toNat)))) else c
def qm : Nat -> Int -> List Dat -> List Dat
 | 0, _, c => c
 | k + 1, t, c => if t < af 6 c then (if fK c c.length 0 (-1) < 0 then c else qm k t (c.set (fK c c.length 0 (-1)).toNat (gh (af 6 c - t) (ae c (fK c c.length 0 (-1)).toNat)))) else c
def fR (t : Int) (c : List Dat) : List Dat := qm (c.length + 2) (max t 0) (sD (c.length + 2) (max t 0) c)
theorem Hd (w : Int) (d : Dat) : (dT w d).i 6 = d.i 6 + mA w d /\ aK (dT w d) = aK d - mA w d := by
 simp only [dT, aK, ez, fu, vZ, oS]; exact ⟨trivial, by omega⟩
theorem Jx (w : Int) (d : Dat) : (gh w d).i 6 = d.i 6 - nk w d := by
 simp only [gh, oS]
def wb (t : Int) (c : List Dat) : Nat := if af 6 c < t then zr (fun d => 0 < aK d) c + 1 else 0
def tX (t : Int) (c : List Dat) : Nat := if t < af 6 c then zr (fun d => 0 < d.i 6) c + 1 else 0
theorem ML {t : Int} {c : List Dat} (hg : dv c) (hs : af 6 c < t) (hj : 0 <= fQ c c.length 0 (-1)) :
 (fQ c c.length 0 (-1)).toNat < c.length /\ dv (c.set (fQ c c.length 0 (-1)).toNat (dT (t - af 6 c) (ae c (fQ c c.length 0 (-1)).toNat))) /\ wb t (c.set (fQ c c.length 0 (-1)).toNat (dT (t - af 6 c) (ae c (fQ c c.length 0 (-1)).toNat))) < wb t c /\
 af 6 (c.set (fQ c c.length 0 (-1)).toNat (dT (t - af 6 c) (ae c (fQ c c.length 0 (-1)).toNat))) <= t := by
 have h1 := zZ c c.length 0 (-1) (by omega) (by omega) (by omega); have h2 := (tc c c.length 0 (-1) (by omega) (.inl (by omega))).2 hj; generalize fQ c c.length 0 (-1) = o at *
 have h3 : o.toNat < c.length := by omega
 have hn := bV h3 hg.2; have e6 := Hd (t - af 6 c) (ae c o.toNat); have es := mK 6 (dT (t - af 6 c) (ae c o.toNat)) c o.toNat h3; have hp : mA (t - af 6 c) (ae c o.toNat) = min (t - af 6 c) (aK (ae c o.toNat)) := by unfold mA; omega
 refine ⟨h3, nE hg (BY _ hn), ?_, by omega⟩; unfold wb; rw [if_pos hs]
 split
 . rename_i hlt; have := u7 (fun d => 0 < aK d) (dT (t - af 6 c) (ae c o.toNat)) (by show ¬ 0 < aK _; omega) c o.toNat h3 h2; omega
 . omega
theorem MC {t : Int} {c : List Dat} (hg : dv c) (hs : t < af 6 c) (hj : 0 <= fK c c.length 0 (-1)) :
 (fK c c.length 0 (-1)).toNat < c.length /\ dv (c.set (fK c c.length 0 (-1)).toNat (gh (af 6 c - t) (ae c (fK c c.length 0 (-1)).toNat))) /\ tX t (c.set (fK c c.length 0 (-1)).toNat (gh (af 6 c - t) (ae c (fK c c.length 0 (-1)).toNat))) < tX t c /\
 t <= af 6 (c.set (fK c c.length 0 (-1)).toNat (gh (af 6 c - t) (ae c (fK c c.length 0 (-1)).toNat))) := by
 have h1 := z5 c c.length 0 (-1) (by omega) (by omega) (by omega); have h2 := (sL c c.length 0 (-1) (by omega) (.inl (by omega))).2 hj; generalize fK c c.length 0 (-1) = o at *
 have h3 : o.toNat < c.length := by omega
 have hn := bV h3 hg.2; have e6 := Jx (af 6 c - t) (ae c o.toNat); have es := mK 6 (gh (af 6 c - t) (ae c o.toNat)) c o.toNat h3; have hp : nk (af 6 c - t) (ae c o.toNat) = min (af 6 c - t) ((ae c o.toNat).i 6) := by unfold nk; omega
 refine ⟨h3, nE hg (C0 _ hn), ?_, by omega⟩; unfold tX; rw [if_pos hs]
 split
 . rename_i hlt; have := u7 (fun d => 0 < d.i 6) (gh (af 6 c - t) (ae c o.toNat)) (by show ¬ 0 < (gh _ _).i 6; omega) c o.toNat h3 h2; omega
 . omega
theorem Cf (t : Int) (c : List Dat) : wb t c < c.length + 2 := by
 have := Aw (fun d => 0 < aK d) c; unfold wb; split <;> omega
theorem B5 (t : Int) (c : List Dat) : tX t c < c.length + 2 := by
 have := Aw (fun d => 0 < d.i 6) c; unfold tX; split <;> omega
theorem Bi {c : List Dat} (hg : dv c) : 0 <= af 6 c /\ af 6 c <= 1125899906842624000 := by
 have := (fD c hg.2).2.2.1; have := hg.1; omega
def Jn : aD := ⟨Hk.tab, 107, ⟨[.int .i64, .buf 0 1], [.dJ 1 7 0, .ag (sI 7)], 0⟩, ⟨[.int .i64], [.dJ 1 7 0, .ag (sI 7)], 0⟩, []⟩
abbrev yw : Type := Int × Int × List Int × List Dat
abbrev yM : Type := Int × Int × List Int × List Dat
def zu (m : Nat) (k : yw -> Option (List Un)) : yw -> Option (List Un) := fun (a0, a1, a2, a3) =>
 bif decide (a1 > a0) then
 chk ((decide (a2 = cf 0 a3.length)) && (decide (a3.length <= 1000) && a3.all aH)) <|
 lt ((fK a3 a3.length 0 (-1)) : Int) fun x6 =>
 bif ((decide (x6 < 0)) && true) then
 some ([.i a1, .l a2, .d a3])
 else
 chk (decide (0 <= x6 /\ x6.toNat < a3.length) && aH (ae a3 x6.toNat)) <|
 lt ((a3.set x6.toNat (gh (w64 (a1 - a0)) (ae a3 x6.toNat))) : List Dat) fun l9 =>
 chk ((decide (a2 = cf 0 l9.length)) && (decide (l9.length <= 1000) && l9.all aH)) <|
 k (a0, (af 6 l9), a2, l9)
 else
 chk ((decide (a2 = cf 0 a3.length)) && (decide (a3.length <= 1000) && a3.all aH)) <|
 some ([.i (af 6 a3), .l a2, .d a3])
def qP (m : Nat) : Nat -> yw -> Option (List Un) := bp (zu m)
theorem Bl (m : Nat) (n : Nat) : qP m (n + 1) = zu m (qP m n) := rfl
def Cs (F : yw -> Option (List Un)) : aT := ⟨[.lp [0, 1, 0, 1, 1, 1], .blk 2, .code [1, 1, 1, 1]], ⟨frm 47 [(0, .int .i64), (1, .buf 0 1), (7, .int .i64)], [.dJ 1 7 0, .ag (sI 7)], 0⟩, onU F⟩
def z9 (m : Nat) (k : yM -> Option (List Un)) : yM -> Option (List Un) := fun (a0, a1, a2, a3) =>
 bif decide (a1 < a0) then
 chk ((decide (a2 = cf 0 a3.length)) && (decide (a3.length <= 1000) && a3.all aH)) <|
 lt ((fQ a3 a3.length 0 (-1)) : Int) fun x2 =>
 bif ((decide (x2 < 0)) && true) then
 some ([.i a1, .l a2, .d a3])
 else
 chk (decide (0 <= x2 /\ x2.toNat < a3.length) && aH (ae a3 x2.toNat)) <|
 lt ((a3.set x2.toNat (dT (w64 (a0 - a1)) (ae a3 x2.toNat))) : List Dat) fun l5 =>
 chk ((decide (a2 = cf 0 l5.length)) && (decide (l5.length <= 1000) && l5.all aH)) <|
 k (a0, (af 6 l5), a2, l5)
 else
 chk ((decide (a2 = cf 0 a3.length)) && (decide (a3.length <= 1000) && a3.all aH)) <|
 qP m m (a0, (af 6 a3), a2, a3)
def rl (m : Nat) : Nat -> yM -> Option (List Un) := bp (z9 m)
theorem Bx (m : Nat) (n : Nat) : rl m (n + 1) = z9 m (rl m n) := rfl
def C1 (F : yM -> Option (List Un)) : aT := ⟨[.lp [0, 1, 0, 1, 1], .blk 0, .code [1, 1, 1]], ⟨frm 47 [(0, .int .i64), (1, .buf 0 1), (5, .int .i64)], [.dJ 1 7 0, .ag (sI 7)], 0⟩, onU F⟩
theorem O2 (m : Nat) : ∀ n, HO Jn (Cs (qP m n)) := ay ak Hk.right (fun k => [Cs k]) (fun k h => (aJ h aA)) fun k a => by kernel_rfl
theorem Nj (m : Nat) : ∀ n, HO Jn (C1 (rl m n)) := ay ak Hk.right (fun k => [C1 k, Cs (qP m m)]) (fun k h => (aJ h (aJ (O2 m m) aA))) fun k a => by kernel_rfl
def t107 (m : Nat) : Int × List Int × List Dat -> Option (List Un) := fun (a0, a1, a2) =>
 chk ((decide (a1 = cf 0 a2.length)) && (decide (a2.length <= 1000) && a2.all aH)) <|
 rl m m ((if a0 < 0 then 0 else a0), (af 6 a2), a1, a2)
theorem Q6 (m : Nat) (t : Int) (h0 : 0 <= t) (h1 : t <= 1152921504606846976) : ∀ (k n : Nat) (c : List Dat), tX t c < k -> k <= n -> dv c ->
 qP m n (t, af 6 c, cf 0 c.length, c) = some [.i (af 6 (qm k t c)), .l (cf 0 c.length), .d (qm k t c)] := by
 intro k
 induction k with
 | zero => intro n c h; omega
 | succ k ih =>
  intro n c hm hn hg; obtain ⟨n, rfl⟩ := al n (by omega); have hgb := cV hg; have hb := Bi hg; unfold qm; rw [Bl]; unfold zu; dsimp only; simp only [hgb, za6, zaW, gt_iff_lt]
  by_cases hs : t < af 6 c
  . rw [if_pos hs, bz hs, iZ]
    by_cases hj : fK c c.length 0 (-1) < 0
    . rw [if_pos hj]; simp only [lt_eq]; rw [bz hj]
    . rw [if_neg hj]; obtain ⟨a1, a2, a3, a4⟩ := MC hg hs (by omega); have a5 := cV a2; have := ih n _ (by omega) (by omega) a2; rw [zbg] at this; simp only [lt_eq]; have hnr := bV a1 hg.2; rw [aB hj, aa (n := af 6 c - t) (by omega) (by omega), hnr, za6, aV ⟨by omega, a1⟩, a5, zbg, zad rfl, zba, iZ]; exact this
  . rw [if_neg hs, aB hs, iZ]
theorem QZ (m : Nat) (t : Int) (h0 : 0 <= t) (h1 : t <= 1152921504606846976) : ∀ (k n : Nat) (c : List Dat), wb t c < k -> k <= n -> c.length + 2 <= m -> dv c ->
 rl m n (t, af 6 c, cf 0 c.length, c) = some [.i (af 6 (qm (c.length + 2) t (sD k t c))), .l (cf 0 c.length), .d (qm (c.length + 2) t (sD k t c))] := by
 intro k
 induction k with
 | zero => intro n c h; omega
 | succ k ih =>
  intro n c hm hn hml hg; obtain ⟨n, rfl⟩ := al n (by omega); have hgb := cV hg; have hb := Bi hg; unfold sD; rw [Bx]; unfold z9; dsimp only; simp only [hgb, za6, zaW]
  by_cases hs : af 6 c < t
  . rw [if_pos hs, bz hs, iZ]
    by_cases hj : fQ c c.length 0 (-1) < 0
    . rw [if_pos hj]; simp only [lt_eq]; rw [bz hj, qm, if_neg (by omega)]
    . rw [if_neg hj]; obtain ⟨a1, a2, a3, a4⟩ := ML hg hs (by omega); have a5 := cV a2; have := ih n _ (by omega) (by omega) (by rw [zbg]; exact hml) a2; rw [zbg] at this; simp only [lt_eq]; have hnr := bV a1 hg.2; rw [aB hj, aa (n := t - af 6 c) (by omega) (by omega), hnr, za6, aV ⟨by omega, a1⟩, a5, zbg, zad rfl, zba, iZ]; exact this
  . rw [if_neg hs, aB hs, iZ]; exact Q6 m t h0 h1 (c.length + 2) m c (B5 t c) hml hg
def f107 : Int × List Int × List Dat -> Bool × List Un := fun (a0, a1, a2) => (decide (a0 <= 1152921504606846976) && ((decide (a1 = cf 0 a2.length)) && (decide (a2.length <= 1000) && a2.all aH)), [.i (af 6 (fR a0 a2)), .l (a1), .d (fR a0 a2)])
theorem Kk (a0 : Int) (a1 : List Int) (a2 : List Dat) (hc : (decide (a0 <= 1152921504606846976) && ((decide (a1 = cf 0 a2.length)) && (decide (a2.length <= 1000) && a2.all aH))) = true) : ∃ m, t107 m (a0, a1, a2) = some ([.i (af 6 (fR a0 a2)), .l (a1), .d (fR a0 a2)]) := by
 simp only [zab, zac, zam] at hc; obtain ⟨h0, rfl, h1, h2⟩ := hc; have hg : dv a2 := ⟨h1, h2⟩
 refine ⟨a2.length + 2, ?_⟩; unfold t107 fR; dsimp only; rw [cV hg, zad rfl, lL, zba, iZ]; exact QZ _ (max a0 0) (by omega) (by omega) (a2.length + 2) _ a2 (Cf _ _) (by omega) (by omega) hg
theorem HB : ER 107 (mkE Jn.en Jn.ex f107) := aq ak Hk.right (fun m => [C1 (rl m m)]) (t := t107) (by kernel_rfl) (fun m => (aJ (Nj m m) aA)) (fun m a => by kernel_rfl) fun (a0, a1, a2) hc => Kk a0 a1 a2 hc
def L5 : Tb Tryz.prog LQ TE XX := Hk.add 107 _ HB
@[ext] structure eZ where
 call : Bool
 period : Int
 mode : Int
 au : Int
 kH : Int
 aM : Int
 aR : Int
 draw : Int
 advance : Int
 fee : Int
 due : Int
instance : Uns eZ := Uns.via (B := Bool × Int × Int × Int × Int × Int × Int × Int × Int × Int × Int) (fun x => (x.call, x.period, x.mode, x.au, x.kH, x.aM, x.aR, x.draw, x.advance, x.fee, x.due)) (fun x => match x with | (call, period, mode, au, kH, aM, aR, draw, advance, fee, due) => ⟨call, period, mode, au, kH, aM, aR, draw, advance, fee, due⟩) (fun _ => rfl)
@[ext] structure dM where
 eG : Int
 ax : Int
 bU : Int
 out : Int
 Oc : Int
instance : Uns dM := Uns.via (B := Int × Int × Int × Int × Int) (fun x => (x.eG, x.ax, x.bU, x.out, x.Oc)) (fun x => match x with | (eG, ax, bU, out, Oc) => ⟨eG, ax, bU, out, Oc⟩) (fun _ => rfl)
def cM (a : ao) (p bal r : Int) : Int := B9 bal r a.basis (fy a.year a.month 1 p) (fq a.year a.month 1 p) (gu a.year a.month 1 p) (fy a.year a.month 1 (p + 1)) (fq a.year a.month 1 (p + 1)) (gu a.year a.month 1 (p + 1))
theorem so {y m p : Int} (h1 : 1 <= y) (h2 : y <= 9000) (h3 : 1 <= m) (h4 : m <= 12) (h5 : 0 <= p) (h6 : p <= 700) : 1 <= fy y m 1 p /\ fy y m 1 p <= 9999 /\ 1 <= fq y m 1 p /\ fq y m 1 p <= 12 /\ gu y m 1 p = 1 /\ bT (fy y m 1 p) (fq y m 1 p) (gu y m 1 p) = true /\ 12 * fy y m 1 p + fq y m 1 p = 12 * y + m + p := by
 have l1 := mV (y := y) (m := m) h1 (by omega) h3 h4; have hs : gE y m 1 p = true := by
  unfold gE; rw [show bT y m 1 = true from dh.2 ⟨by omega, by omega⟩]; simp only [zba, zac]; omega
 unfold fy fq gu; rw [hs, if_pos rfl, if_pos rfl, if_pos rfl]; have l2 := mV (y := (12 * y + m - 1 + p) / 12) (m := (12 * y + m - 1 + p) % 12 + 1) (by omega) (by omega) (by omega) (by omega); have hd : min 1 (cH ((12 * y + m - 1 + p) / 12) ((12 * y + m - 1 + p) % 12 + 1)) = 1 := by omega
 rw [hd]; exact ⟨by omega, by omega, by omega, by omega, rfl, dh.2 ⟨by omega, by omega⟩, by omega⟩
theorem Bq {b y m y' m' : Int} (h1 : 1 <= y) (h2 : y <= 9999) (h3 : 1 <= m) (h4 : m <= 12) (h5 : 12 * y' + m' = 12 * y + m + 1) (h6 : 1 <= m') (h7 : m' <= 12) (r1 : bT y m 1 = true) (r2 : bT y' m' 1 = true) : 0 <= jD b y m 1 y' m' 1 /\ jD b y m 1 y' m' 1 <= 731 := by
 have n1 := qa r1; have n2 := qa r2; have a1 := oQ h1; have a2 := oQ (y := y + 1) (by omega); have q1 := pF y; have q2 := pF (y + 1); unfold jD
 split
 . split
   . unfold com; rw [if_neg (by omega)]; omega
   . split
     . rename_i h _ _; have hy : y' = y \/ y' = y + 1 := by omega
       rcases hy with rfl | rfl <;> omega
     . omega
 . omega
theorem Fw {n b : Int} (p : Int) (hp : p = 3600000 \/ p = 3650000) (h1 : 0 <= n) (h2 : n <= 1099511627776) (h3 : 0 <= b) (h4 : b <= 3655000) : 0 <= mdV n b p 2 /\ mdV n b p 2 <= 1200000000000 := by
 unfold mdV
 split
 . have hm := zbR h4 h1; have hz := zaZ h1 h3; have e := zbe (n * b) p; have r0 := zbm (n * b) (show p ≠ 0 by omega); have d0 : 0 <= n * b / p := zbw hz (by omega); have d1 : n * b / p <= 1117000000000 := by
    have : n * b < 4018800800000000001 := by omega
    rcases hp with rfl | rfl <;> omega
   unfold mdQ
   split <;> omega
 . omega
theorem oX {a : ao} {p bal : Int} (r : Int) (h1 : 1 <= a.year) (h2 : a.year <= 9000) (h3 : 1 <= a.month) (h4 : a.month <= 12) (h5 : 0 <= p) (h6 : p <= 650) (b0 : 0 <= bal) (b1 : bal <= 1099511627776) : 0 <= cM a p bal r /\ cM a p bal r <= 1200000000000 := by
 obtain ⟨s1, s2, s3, s4, s5, s6, s7⟩ := so h1 h2 h3 h4 h5 (by omega); obtain ⟨t1, t2, t3, t4, t5, t6, t7⟩ := so h1 h2 h3 h4 (show 0 <= p + 1 by omega) (by omega); unfold cM B9; rw [s5] at s6 ⊢; rw [t5] at t6 ⊢
 split
 . rename_i hr; have hd := Bq (b := a.basis) s1 s2 s3 s4 (by omega) t3 t4 s6 t6; have k0 := zaZ hr.1 hd.1; have k1 := Int.mul_le_mul hr.2 hd.2 hd.1 (show (0 : Int) <= 5000 by omega); exact Fw _ (by unfold v5; split <;> omega) b0 b1 k0 (by omega)
 . omega
def dL (a : ao) (p : Int) (d : Dat) : Dat := yQ (cM a p (aK d) (d.i 2)) d
theorem Bw {d : Dat} (h : aH d = true) : 0 <= aK d /\ aK d <= 1099511627776 := by
 have := bW h; unfold aK; omega
def N43 : aD := ⟨L5.tab, 43, ⟨[.ptr 0 0 0, .int .i64], br 0, 0⟩, ⟨[.int .i64, .int .i64], br 0, 0⟩, []⟩
abbrev DQ : Type := Int × Int × Int × Int × ao × an × ah × List Dat × List Dat × List Dat × List Dat × List Dat × List Dat × List Dat × Int × Int × Int × Int × Int × Int
def zB (m : Nat) (k : DQ -> Option (List Un)) : DQ -> Option (List Un) := fun (a0, a1, a2, a3, a4, a5, a6, a7, a8, a9, a10, a11, a12, a13, a14, a15, a16, a17, a18, a19) =>
 bif decide (a3 < a2) then
 chk (inb a3 a13.length) <|
 chk (decide (a3.toNat < a13.length)) <|
 lt (ae a13 a3.toNat : Dat) fun d9 =>
 chk (decide (a3.toNat < a13.length)) <|
 lt ((B9 (w64 (w64 ((d9.i 1) - w64 ((d9.i 3) - (d9.i 4))) - (d9.i 6))) ((ae a13 a3.toNat).i 2) a4.basis a14 a15 a16 a17 a18 a19) : Int) fun x12 =>
 chk (decide (0 <= x12 /\ x12 <= 1125899906842624) && (decide (0 <= (a3.toNat : Int) /\ (a3.toNat : Int).toNat < a13.length) && aH (ae a13 (a3.toNat : Int).toNat))) <|
 k (a0, (w64 (a1 + x12)), a2, (w64 (a3 + 1)), a4, a5, a6, a7, a8, a9, a10, a11, a12, (a13.set (a3.toNat : Int).toNat (yQ x12 (ae a13 (a3.toNat : Int).toNat))), a14, a15, a16, a17, a18, a19)
 else
 some ([.i a0, .i a1] ++ Uns.enc (a4 : ao) ++ Uns.enc (a5 : an) ++ Uns.enc (a6 : ah) ++ [.d a7, .d a8, .d a9, .d a10, .d a11, .d a12, .d a13])
def wm (m : Nat) : Nat -> DQ -> Option (List Un) := bp (zB m)
theorem wB (m : Nat) (n : Nat) : wm m (n + 1) = zB m (wm m n) := rfl
def Il (F : DQ -> Option (List Un)) : aT := ⟨[.lp [0, 1, 0, 1, 1, 1, 1, 1], .blk 0, .code [1, 1, 1, 1, 1, 1]], ⟨frm 88 [(0, .ptr 0 0 0), (6, .ptr 9 0 0), (7, .ptr 10 0 0), (8, .int .i64), (10, .int .i64), (49, .int .i64), (50, .int .i64)], br 0 ++ [.cells [.int .i64, .int .i64, .int .i64], .cells [.int .i64, .int .i64, .int .i64]], 0⟩, onU F⟩
theorem Re (m : Nat) : ∀ n, HO N43 (Il (wm m n)) := ay ak L5.right (fun k => [Il k]) (fun k h => (aJ h aA)) fun k a => by kernel_rfl
def t43 (m : Nat) : Int × ao × an × ah × List Dat × List Dat × List Dat × List Dat × List Dat × List Dat × List Dat -> Option (List Un) := fun (a0, a1, a2, a3, a4, a5, a6, a7, a8, a9, a10) =>
 lt ((fy a1.year a1.month 1 a3.period) : Int) fun x1 =>
 lt ((fq a1.year a1.month 1 a3.period) : Int) fun x2 =>
 lt ((gu a1.year a1.month 1 a3.period) : Int) fun x3 =>
 lt ((fy a1.year a1.month 1 (w64 (a3.period + 1))) : Int) fun x4 =>
 lt ((fq a1.year a1.month 1 (w64 (a3.period + 1))) : Int) fun x5 =>
 lt ((gu a1.year a1.month 1 (w64 (a3.period + 1))) : Int) fun x6 =>
 lt ((B9 a0 a2.fee a1.basis x1 x2 x3 x4 x5 x6) : Int) fun x7 =>
 wm m m (x7, 0, (a10.length : Int), 0, a1, a2, ({ a3 with fee := (w64 (a3.fee + x7)) } : ah), a4, a5, a6, a7, a8, a9, a10, x1, x2, x3, x4, x5, x6)
theorem Lh (m : Nat) (fe : Int) (xa : ao) (xb : an) (xn : ah) (x1 x2 x3 x4 x5 x6 : List Dat) (p : Int) (hf : ∀ d, aH d = true -> 0 <= cM xa p (aK d) (d.i 2) /\ cM xa p (aK d) (d.i 2) <= 1200000000000) : ∀ (rest pre : List Dat) (n : Nat) (s : Int), rest.length < n -> (pre ++ rest).length <= 1000 -> (∀ d ∈ rest, aH d = true) -> 0 <= s -> s <= 1200000000000 * pre.length ->
 wm m n (fe, s, ((pre ++ rest).length : Int), (pre.length : Int), xa, xb, xn, x1, x2, x3, x4, x5, x6, pre ++ rest, fy xa.year xa.month 1 p, fq xa.year xa.month 1 p, gu xa.year xa.month 1 p, fy xa.year xa.month 1 (p + 1), fq xa.year xa.month 1 (p + 1), gu xa.year xa.month 1 (p + 1)) =
  some ([.i fe, .i (s + bn (fun d => cM xa p (aK d) (d.i 2)) rest)] ++ Uns.enc xa ++ Uns.enc xb ++ Uns.enc xn ++ [.d x1, .d x2, .d x3, .d x4, .d x5, .d x6, .d (pre ++ rest.map (dL xa p))]) := by
 intro rest
 induction rest with
 | nil =>
  intro pre n s hn hl hg s0 s1; obtain ⟨n, rfl⟩ := al n (by simp at hn; omega); rw [wB]; unfold zB; dsimp only; simp [aB, bn]
 | cons x rest ih =>
  intro pre n s hn hl hg s0 s1; obtain ⟨n, rfl⟩ := al n (by simp at hn; omega); simp only [zaf, zai] at hn hl; have hx := bW (hg x (by simp)); have hb := hf x (hg x (by simp)); have hgx := hg x (by simp); have := ih (pre ++ [dL xa p x]) n (s + cM xa p (aK x) (x.i 2)) (by omega) (by simp; omega) (fun d hd => hg d (by simp [hd])) (by omega) (by simp; omega); have e : w64 (w64 (x.i 1 - w64 (x.i 3 - x.i 4)) - x.i 6) = aK x := by rw [aa (n := x.i 3 - x.i 4) (by omega) (by omega), aa (n := x.i 1 - _) (by omega) (by omega), aa (by omega) (by omega)]; rfl
  have e2 : ∀ z, B9 z (x.i 2) xa.basis (fy xa.year xa.month 1 p) (fq xa.year xa.month 1 p) (gu xa.year xa.month 1 p) (fy xa.year xa.month 1 (p + 1)) (fq xa.year xa.month 1 (p + 1)) (gu xa.year xa.month 1 (p + 1)) = cM xa p z (x.i 2) := fun z => rfl
  rw [wB]; unfold zB; dsimp only; simp only [bn, zaX, LNi, ar, lt_eq, e, e2, hgx, za6, sP]; rw [show yQ (cM xa p (aK x) (x.i 2)) x = dL xa p x from rfl]; simp (disch := omega) only [TRa, TRi, aa, LNl, LNi, zaa, ar]; simp only [LNl, LNi, zaa] at this ⊢; exact this
def f43 : Int × ao × an × ah × List Dat × List Dat × List Dat × List Dat × List Dat × List Dat × List Dat -> Bool × List Un := fun (a0, a1, a2, a3, a4, a5, a6, a7, a8, a9, a10) => (decide ((1 <= a1.year /\ a1.year <= 9000 /\ 1 <= a1.month /\ a1.month <= 12) /\ (0 <= a3.period /\ a3.period <= 600) /\ (0 <= a3.fee /\ a3.fee <= 1125899906842624) /\ (0 <= a0 /\ a0 <= 1099511627776)) && (decide (a10.length <= 1000) && a10.all aH), [.i (cM a1 a3.period a0 a2.fee), .i (bn (fun d => cM a1 a3.period (aK d) (d.i 2)) a10)] ++ Uns.enc ((a1) : ao) ++ Uns.enc ((a2) : an) ++ Uns.enc (({ a3 with fee := a3.fee + cM a1 a3.period a0 a2.fee }) : ah) ++ [.d (a4), .d (a5), .d (a6), .d (a7), .d (a8), .d (a9), .d (a10.map (dL a1 a3.period))])
theorem N5 (a0 : Int) (a1 : ao) (a2 : an) (a3 : ah) (a4 : List Dat) (a5 : List Dat) (a6 : List Dat) (a7 : List Dat) (a8 : List Dat) (a9 : List Dat) (a10 : List Dat) (hc : (decide ((1 <= a1.year /\ a1.year <= 9000 /\ 1 <= a1.month /\ a1.month <= 12) /\ (0 <= a3.period /\ a3.period <= 600) /\ (0 <= a3.fee /\ a3.fee <= 1125899906842624) /\ (0 <= a0 /\ a0 <= 1099511627776)) && (decide (a10.length <= 1000) && a10.all aH)) = true) : ∃ m, t43 m (a0, a1, a2, a3, a4, a5, a6, a7, a8, a9, a10) = some ([.i (cM a1 a3.period a0 a2.fee), .i (bn (fun d => cM a1 a3.period (aK d) (d.i 2)) a10)] ++ Uns.enc ((a1) : ao) ++ Uns.enc ((a2) : an) ++ Uns.enc (({ a3 with fee := a3.fee + cM a1 a3.period a0 a2.fee }) : ah) ++ [.d (a4), .d (a5), .d (a6), .d (a7), .d (a8), .d (a9), .d (a10.map (dL a1 a3.period))]) := by
 simp only [zab, zac, zam] at hc; obtain ⟨⟨⟨h1, h2, h3, h4⟩, ⟨h5, h6⟩, ⟨h7, h8⟩, h9, h10⟩, h11, h12⟩ := hc; have hs := oX a2.fee h1 h2 h3 h4 h5 (show a3.period <= 650 by omega) h9 h10; have hf : ∀ d, aH d = true -> 0 <= cM a1 a3.period (aK d) (d.i 2) /\ cM a1 a3.period (aK d) (d.i 2) <= 1200000000000 := fun d hd => oX _ h1 h2 h3 h4 h5 (by omega) (Bw hd).1 (Bw hd).2
 refine ⟨a10.length + 1, ?_⟩; unfold t43; dsimp only [lt]; rw [aa (n := a3.period + 1) (by omega) (by omega)]; refine (show wm _ _ (cM a1 a3.period a0 a2.fee, 0, (a10.length : Int), 0, a1, a2, { a3 with fee := w64 (a3.fee + cM a1 a3.period a0 a2.fee) }, a4, a5, a6, a7, a8, a9, a10, _, _, _, _, _, _) = _ from ?_); rw [aa (n := a3.fee + _) (by omega) (by omega)]; exact (Lh _ _ a1 a2 _ a4 a5 a6 a7 a8 a9 a3.period hf a10 [] (a10.length + 1) 0 (by omega) (by simpa using h11) h12 (by omega) (by simp)).trans (by simp only [za0, zaH])
theorem Lx : ER 43 (mkE N43.en N43.ex f43) := aq ak L5.right (fun m => [Il (wm m m)]) (t := t43) (by kernel_rfl) (fun m => (aJ (Re m m) aA)) (fun m a => by kernel_rfl) fun (a0, a1, a2, a3, a4, a5, a6, a7, a8, a9, a10) hc => N5 a0 a1 a2 a3 a4 a5 a6 a7 a8 a9 a10 hc
def T43 : Tb Tryz.prog LQ TE XX := L5.add 43 _ Lx
def B4 (x : Int) (d : Dat) : Int := max (min x (d.i 5)) 0
def nI (x : Int) (d : Dat) : Dat := .r [.n (d.i 0), .n (d.i 1), .n (d.i 2), .n (d.i 3), .n (d.i 4), .n (d.i 5 - B4 x d), .n (d.i 6)]
def jg (n : ah) (p : Dat) : ah := if p.i 1 = 1 then { n with fee := n.fee - p.i 3 } else if p.i 1 = 2 then { n with out := n.out - p.i 3 } else if p.i 1 = 6 then { n with rin := n.rin + p.i 3 } else n
def lg (c : List Dat) (p : Dat) : List Dat := if p.i 1 = 1 then c else if p.i 1 = 2 then c else if p.i 1 = 6 then c else if p.i 1 = 3 then c.set (p.i 2).toNat (nI (p.i 3) (ae c (p.i 2).toNat)) else c.set (p.i 2).toNat (sE (p.i 3) (ae c (p.i 2).toNat))
def cJ : List Dat -> ah -> List Dat -> ah × List Dat
 | [], n, c => (n, c)
 | p :: l, n, c => cJ l (jg n p) (lg c p)
def DK (k : Nat) (p : Dat) : Bool := decide (0 <= p.i 3) && (decide (p.i 1 = 1 \/ p.i 1 = 2 \/ p.i 1 = 6) || decide (0 <= p.i 2 /\ p.i 2 < (k : Int)))
theorem tB {k : Nat} {p : Dat} (h : DK k p = true) : 0 <= p.i 3 /\ ((p.i 1 = 1 \/ p.i 1 = 2 \/ p.i 1 = 6) \/ (0 <= p.i 2 /\ p.i 2 < (k : Int))) := by
 simp only [DK, zab, zbf, zac] at h; exact h
def o4 (l : List Dat) (n : ah) (c : List Dat) : Bool := decide (l.length <= 1000000) && (l.all (DK c.length) && (decide (af 3 l <= 144115188075855872 /\ (0 <= n.fee /\ n.fee <= 144115188075855872) /\ (0 <= n.out /\ n.out <= 144115188075855872) /\ (0 <= n.rin /\ n.rin <= 144115188075855872)) && (decide (c.length <= 1000) && c.all aH)))
theorem xW (c : List Dat) (p : Dat) : (lg c p).length = c.length := by
 unfold lg; repeat' split
 all_goals simp
theorem zm {d : Dat} (x : Int) (h : aH d = true) : aH (nI x d) = true := by
 have := bW h; refine zad ?_
 simp only [nI, B4, ez, fu, vZ, og, oS]; omega
theorem CH {c : List Dat} {p : Dat} (hp : DK c.length p = true) (h : dv c) : dv (lg c p) := by
 have hp := tB hp; unfold lg
 by_cases h1 : p.i 1 = 1
 . rw [if_pos h1]; exact h
 rw [if_neg h1]
 by_cases h2 : p.i 1 = 2
 . rw [if_pos h2]; exact h
 rw [if_neg h2]
 by_cases h3 : p.i 1 = 6
 . rw [if_pos h3]; exact h
 rw [if_neg h3]; have hj : (p.i 2).toNat < c.length := by omega
 split
 . exact nE h (zm _ (bV hj h.2))
 . exact nE h (Fp _ (bV hj h.2))
def N48 : aD := ⟨T43.tab, 48, ⟨[.np 0 0 0, .ag (sI 4)], br 0, 0⟩, ⟨[], br 0, 0⟩, []⟩
abbrev E4 : Type := Int × List Dat × Int × Int × ao × an × ah × List Dat × List Dat × List Dat × List Dat × List Dat × List Dat × List Dat
def yB (m : Nat) (k : E4 -> Option (List Un)) : E4 -> Option (List Un) := fun (a0, a1, a2, a3, a4, a5, a6, a7, a8, a9, a10, a11, a12, a13) =>
 bif decide (a3 < a2) then
 chk (inb a3 a1.length) <|
 chk (decide (a3.toNat < a1.length)) <|
 lt (ae a1 a3.toNat : Dat) fun d1 =>
 bif (d1.i 1) == 1 then
 chk (decide (0 <= a0)) <|
 chk (decide (0 <= a0)) <|
 k (a0, a1, a2, (w64 (a3 + 1)), a4, a5, ({ a6 with fee := (w64 (a6.fee - (d1.i 3))) } : ah), a7, a8, a9, a10, a11, a12, a13)
 else
 bif (d1.i 1) == 2 then
 chk (decide (0 <= a0)) <|
 chk (decide (0 <= a0)) <|
 k (a0, a1, a2, (w64 (a3 + 1)), a4, a5, ({ a6 with out := (w64 (a6.out - (d1.i 3))) } : ah), a7, a8, a9, a10, a11, a12, a13)
 else
 bif (d1.i 1) == 6 then
 chk (decide (0 <= a0)) <|
 chk (decide (0 <= 0) && decide ((0 : Int) <= a6.rin /\ (0 : Int) <= (d1.i 3) /\ a6.rin + (d1.i 3) <= (1152921504606846976 : Int))) <|
 k (a0, a1, a2, (w64 (a3 + 1)), a4, a5, ({ a6 with rin := a6.rin + (d1.i 3) }), a7, a8, a9, a10, a11, a12, a13)
 else
 bif (d1.i 1) == 3 then
 chk (decide (0 <= a0)) <|
 chk (inb (d1.i 2) a13.length) <|
 chk (decide ((d1.i 2).toNat < a13.length)) <|
 lt (ae a13 ((d1.i 2).toNat) : Dat) fun d5 =>
 lt ((if (d5.i 5) < (d1.i 3) then (d5.i 5) else (d1.i 3)) : Int) fun x6 =>
 chk (decide ((d1.i 2).toNat < a13.length)) <|
 chk (decide ((d1.i 2).toNat < a13.length)) <|
 lt (ae a13 ((d1.i 2).toNat) : Dat) fun d9 =>
 k (a0, a1, a2, (w64 (a3 + 1)), a4, a5, a6, a7, a8, a9, a10, a11, a12, (List.set a13 ((d1.i 2).toNat) (.r [.n (d9.i 0), .n (d9.i 1), .n (d9.i 2), .n (d9.i 3), .n (d9.i 4), .n (w64 (((ae a13 ((d1.i 2).toNat)).i 5) - (if x6 < 0 then 0 else x6))), .n (d9.i 6)])))
 else
 chk (decide (0 <= a0)) <|
 chk (inb (d1.i 2) a13.length) <|
 chk (decide (0 <= ((d1.i 2).toNat : Int) /\ ((d1.i 2).toNat : Int).toNat < a13.length) && aH (ae a13 ((d1.i 2).toNat : Int).toNat)) <|
 k (a0, a1, a2, (w64 (a3 + 1)), a4, a5, a6, a7, a8, a9, a10, a11, a12, (a13.set ((d1.i 2).toNat : Int).toNat (sE (d1.i 3) (ae a13 ((d1.i 2).toNat : Int).toNat))))
 else
 some (Uns.enc (a4 : ao) ++ Uns.enc (a5 : an) ++ Uns.enc (a6 : ah) ++ [.d a7, .d a8, .d a9, .d a10, .d a11, .d a12, .d a13])
def xh (m : Nat) : Nat -> E4 -> Option (List Un) := bp (yB m)
theorem tN (m : Nat) (n : Nat) : xh m (n + 1) = yB m (xh m n) := rfl
def Ja (F : E4 -> Option (List Un)) : aT := ⟨[.lp [0, 1], .blk 0], ⟨frm 67 [(0, .np 0 0 0), (6, .ag (sI 4)), (7, .int .i64), (8, .int .i64)], br 0, 0⟩, onU F⟩
theorem P3 (m : Nat) : ∀ n, HO N48 (Ja (xh m n)) := ay ak T43.right (fun k => [Ja k]) (fun k h => (aJ h aA)) fun k a => by kernel_rfl
def t48 (m : Nat) : Int × List Dat × ao × an × ah × List Dat × List Dat × List Dat × List Dat × List Dat × List Dat × List Dat -> Option (List Un) := fun (a0, a1, a2, a3, a4, a5, a6, a7, a8, a9, a10, a11) =>
 xh m m (a0, a1, (a1.length : Int), 0, a2, a3, a4, a5, a6, a7, a8, a9, a10, a11)
theorem MX (m : Nat) (p0 : Int) (hp0 : 0 <= p0) (xa : ao) (xb : an) (x1 x2 x3 x4 x5 x6 : List Dat) : ∀ (rest pre : List Dat) (n : Nat) (y : ah) (c : List Dat), rest.length < n -> (pre ++ rest).length <= 1000000 -> (∀ d ∈ rest, DK c.length d = true) -> dv c ->
 (-288230376151711744 <= y.fee - af 3 rest /\ y.fee <= 288230376151711744) -> (-288230376151711744 <= y.out - af 3 rest /\ y.out <= 288230376151711744) -> (0 <= y.rin /\ y.rin + af 3 rest <= 576460752303423488) ->
 xh m n (p0, pre ++ rest, ((pre ++ rest).length : Int), (pre.length : Int), xa, xb, y, x1, x2, x3, x4, x5, x6, c) = some (Uns.enc xa ++ Uns.enc xb ++ Uns.enc (cJ rest y c).1 ++ [.d x1, .d x2, .d x3, .d x4, .d x5, .d x6, .d (cJ rest y c).2]) := by
 intro rest
 induction rest with
 | nil =>
  intro pre n y c hn hl hp hg f1 f2 f3; obtain ⟨n, rfl⟩ := al n (by simp at hn; omega); rw [tN]; unfold yB; dsimp only; simp [aB, cJ]
 | cons x rest ih =>
  intro pre n y c hn hl hp hg f1 f2 f3; obtain ⟨n, rfl⟩ := al n (by simp at hn; omega); simp only [zaf, zai] at hn hl; have hx := tB (hp x (by simp)); have hr := fun d hd => hp d (zaQ _ hd)
  have hs := fg 3 rest fun d hd => (tB (hr d hd)).1
  have hT := CH (hp x (by simp)) hg; have hN : (-288230376151711744 <= (jg y x).fee - af 3 rest /\ (jg y x).fee <= 288230376151711744) /\ (-288230376151711744 <= (jg y x).out - af 3 rest /\ (jg y x).out <= 288230376151711744) /\ (0 <= (jg y x).rin /\ (jg y x).rin + af 3 rest <= 576460752303423488) := by
   simp only [af] at f1 f2 f3; unfold jg
   by_cases h1 : x.i 1 = 1
   . rw [if_pos h1]; simp only; omega
   rw [if_neg h1]
   by_cases h2 : x.i 1 = 2
   . rw [if_pos h2]; simp only; omega
   rw [if_neg h2]
   by_cases h3 : x.i 1 = 6
   . rw [if_pos h3]; simp only; omega
   rw [if_neg h3]; omega
  have := ih (pre ++ [x]) n (jg y x) (lg c x) (by omega) (by simp; omega) (by rw [xW]; exact hr) hT hN.1 hN.2.1 hN.2.2; simp only [af] at f1 f2 f3; simp only [cJ]; rw [tN]; unfold yB; dsimp only; unfold jg lg at this ⊢
  by_cases h1 : x.i 1 = 1
  . simp only [if_pos h1] at this ⊢; simp (disch := omega) only [TRa, TRi, aa, LNl, LNi, zaa, ar]; simp only [LNl, LNi, zaa] at this ⊢; exact this
  simp only [if_neg h1] at this ⊢
  by_cases h2 : x.i 1 = 2
  . simp only [if_pos h2] at this ⊢; simp (disch := omega) only [TRa, TRi, aa, LNl, LNi, zaa, ar]; simp only [LNl, LNi, zaa] at this ⊢; exact this
  simp only [if_neg h2] at this ⊢
  by_cases h6 : x.i 1 = 6
  . simp only [if_pos h6] at this ⊢; simp only [show decide ((0 : Nat) <= 0) = true from rfl, zba]; simp (disch := omega) only [TRa, TRi, aa, LNl, LNi, zaa, ar]; simp only [LNl, LNi, zaa] at this ⊢; exact this
  simp only [if_neg h6] at this ⊢; have hj : (x.i 2).toNat < c.length := by omega
  have hd := bW (bV hj hg.2); have hd2 := bV hj hg.2; have hjn : (((x.i 2).toNat : Int)).toNat = (x.i 2).toNat := zaC _
  by_cases h3 : x.i 1 = 3
  . simp only [if_pos h3] at this ⊢; have e : (if (if (ae c (x.i 2).toNat).i 5 < x.i 3 then (ae c (x.i 2).toNat).i 5 else x.i 3) < 0 then 0 else (if (ae c (x.i 2).toNat).i 5 < x.i 3 then (ae c (x.i 2).toNat).i 5 else x.i 3)) = B4 (x.i 3) (ae c (x.i 2).toNat) := by unfold B4; omega
    have hv : 0 <= B4 (x.i 3) (ae c (x.i 2).toNat) /\ B4 (x.i 3) (ae c (x.i 2).toNat) <= (ae c (x.i 2).toNat).i 5 := by unfold B4; omega
    simp (disch := omega) only [lt_eq, jh, aV, bz, gC, gA, LNl, LNi, zaa, ar, e]; rw [aa (n := (ae c (x.i 2).toNat).i 5 - _) (by omega) (by omega), aa (by omega) (by omega)]; unfold nI at this; simp only [LNl, LNi, zaa] at this ⊢; exact this
  . simp only [if_neg h3] at this ⊢; simp (disch := omega) only [lt_eq, jh, aV, bz, gC, gA, LNl, LNi, zaa, ar, hd2, za6]; rw [aa (by omega) (by omega)]; simp only [LNl, LNi, zaa] at this ⊢; exact this
def f48 : Int × List Dat × ao × an × ah × List Dat × List Dat × List Dat × List Dat × List Dat × List Dat × List Dat -> Bool × List Un := fun (a0, a1, a2, a3, a4, a5, a6, a7, a8, a9, a10, a11) => (decide (0 <= a0) && o4 a1 a4 a11, Uns.enc ((a2) : ao) ++ Uns.enc ((a3) : an) ++ Uns.enc (((cJ a1 a4 a11).1) : ah) ++ [.d (a5), .d (a6), .d (a7), .d (a8), .d (a9), .d (a10), .d ((cJ a1 a4 a11).2)])
theorem NQ (a0 : Int) (a1 : List Dat) (a2 : ao) (a3 : an) (a4 : ah) (a5 : List Dat) (a6 : List Dat) (a7 : List Dat) (a8 : List Dat) (a9 : List Dat) (a10 : List Dat) (a11 : List Dat) (hc : (decide (0 <= a0) && o4 a1 a4 a11) = true) : ∃ m, t48 m (a0, a1, a2, a3, a4, a5, a6, a7, a8, a9, a10, a11) = some (Uns.enc ((a2) : ao) ++ Uns.enc ((a3) : an) ++ Uns.enc (((cJ a1 a4 a11).1) : ah) ++ [.d (a5), .d (a6), .d (a7), .d (a8), .d (a9), .d (a10), .d ((cJ a1 a4 a11).2)]) := by
 simp only [o4, zab, zac, zam] at hc; obtain ⟨h0, h1, h2, ⟨h3, h4, h5, h6⟩, h7, h8⟩ := hc; have hs := fg 3 a1 fun d hd => (tB (h2 d hd)).1
 refine ⟨a1.length + 1, ?_⟩; exact MX _ a0 h0 a2 a3 a5 a6 a7 a8 a9 a10 a1 [] (a1.length + 1) a4 a11 (by omega) (by simpa using h1) h2 ⟨h7, h8⟩ (by omega) (by omega) (by omega)
theorem KR : ER 48 (mkE N48.en N48.ex f48) := aq ak T43.right (fun m => [Ja (xh m m)]) (t := t48) (by kernel_rfl) (fun m => (aJ (P3 m m) aA)) (fun m a => by kernel_rfl) fun (a0, a1, a2, a3, a4, a5, a6, a7, a8, a9, a10, a11) hc => NQ a0 a1 a2 a3 a4 a5 a6 a7 a8 a9 a10 a11 hc
def T48 : Tb Tryz.prog LQ TE XX := T43.add 48 _ KR
def vg (parts ax has : Int) : Int := max (mdV ax parts 10000 0 - has) 0
def ff (d : Dat) : Dat := .r [.n (d.i 0), .n (aK d), .n (d.i 5)]
theorem Ow (n b p h : Int) : 0 <= mdV n b p h /\ mdV n b p h <= 1152921504606846976 := by
 unfold mdV
 split
 . rename_i hk; simp only [oH, zac] at hk; have : 0 <= n * b / p := zbw (zaZ hk.1 (by omega)) (by omega); refine ⟨?_, by omega⟩; unfold mdQ
   split <;> omega
 . omega
theorem zq {l : List Dat} (h1 : l.length <= 1000) (h2 : ∀ d ∈ l, cw d = true) : 0 <= af 1 l /\ af 1 l <= 1099511627776000 := by
 have := pJ 1 1099511627776 l fun d hd => pD (h2 d hd)
 omega
def N46 : aD := ⟨T48.tab, 46, ⟨[.ptr 0 0 0, .agg [.int .i64, .int .i64, .int .i64, .int .i64]], br 0, 9⟩, ⟨[.agg [.int .i64, .int .i64, .int .i64, .int .i64, .buf 9 3]], br 0 ++ [.ag (sI 3)], 9⟩, []⟩
abbrev D7 : Type := Int × Int × ao × an × ah × List Dat × List Dat × List Dat × List Dat × List Dat × List Dat × List Dat × Int × Int × Int × Int × Int × Int × Int × Int × List Dat × List Dat
def yF (m : Nat) (k : D7 -> Option (List Un)) : D7 -> Option (List Un) := fun (a0, a1, a2, a3, a4, a5, a6, a7, a8, a9, a10, a11, a12, a13, a14, a15, a16, a17, a18, a19, a20, a21) =>
 bif decide (a1 < a0) then
 chk (inb a1 a11.length) <|
 chk (decide (a1.toNat < a11.length)) <|
 lt (ae a11 a1.toNat : Dat) fun d8 =>
 chk (fits (a21.length + 1) 24) <|
 k (a0, (w64 (a1 + 1)), a2, a3, a4, a5, a6, a7, a8, a9, a10, a11, a12, a13, a14, a15, a16, a17, a18, a19, a20, (a21 ++ ([.r [.n (d8.i 0), .n (w64 (w64 ((d8.i 1) - w64 ((d8.i 3) - (d8.i 4))) - (d8.i 6))), .n (d8.i 5)]])))
 else
 some ([.i a16, .i a17, .i a18, .i a19] ++ Uns.enc (a2 : ao) ++ Uns.enc (a3 : an) ++ Uns.enc (a4 : ah) ++ [.d a5, .d a6, .d a7, .d a8, .d a9, .d a10, .d a11, .d a21])
def uC (m : Nat) : Nat -> D7 -> Option (List Un) := bp (yF m)
theorem vC (m : Nat) (n : Nat) : uC m (n + 1) = yF m (uC m n) := rfl
def IF (F : D7 -> Option (List Un)) : aT := ⟨[.lp [0, 1, 0, 1, 1, 1], .blk 0, .code [1, 1, 1, 1]], ⟨frm 78 [(4, .ptr 9 0 0), (9, .ptr 10 0 0), (57, .buf 8 7), (58, .int .i64), (59, .int .i64)], br 0 ++ [.cells [.int .i64, .int .i64, .int .i64, .int .i64, .buf 11 3], .cells [.int .i64, .int .i64, .int .i64, .int .i64, .buf 12 3], .ag (sI 3), .ag (sI 3)], 9⟩, onU F⟩
theorem Qn (m : Nat) : ∀ n, HO N46 (IF (uC m n)) := ay ak T48.right (fun k => [IF k]) (fun k h => (aJ h aA)) fun k a => by kernel_rfl
def t46 (m : Nat) : Int × Int × Int × Int × ao × an × ah × List Dat × List Dat × List Dat × List Dat × List Dat × List Dat × List Dat -> Option (List Un) := fun (a0, a1, a2, a3, a4, a5, a6, a7, a8, a9, a10, a11, a12, a13) =>
 chk (decide (0 <= 0) && (decide (a13.length <= 1000) && a13.all aH)) <|
 lt ((w64 ((w64 (a0 + a3)) + a2)) : Int) fun x1 =>
 chk (decide (0 < ([.r [.r a12]] : List Dat).length) && (decide (((ae ([.r [.r a12]] : List Dat) 0).d 0).length <= 1000) && ((ae ([.r [.r a12]] : List Dat) 0).d 0).all cw)) <|
 lt ((w64 (a6.rin - a6.aG)) : Int) fun x4 =>
 lt ((mdV (af 1 ((ae ([.r [.r a12]] : List Dat) 0).d 0)) a5.target 10000 0) : Int) fun x5 =>
 uC m m ((a13.length : Int), 0, a4, a5, a6, a7, a8, a9, a10, a11, a12, a13, 0, 0, 0, 0, a6.fee, a6.out, (if (bn aK a13) < x1 then (bn aK a13) else x1), (if (w64 (x5 - x4)) < 0 then 0 else (w64 (x5 - x4))), [], [])
theorem Rd (m : Nat) (xa : ao) (xb : an) (xn : ah) (x1 x2 x3 x4 x5 x6 z0 : List Dat) (z1 z2 z3 z4 w1 w2 w3 w4 : Int) : ∀ (rest pre : List Dat) (n : Nat), rest.length < n -> (pre ++ rest).length <= 1000 -> (∀ d ∈ rest, aH d = true) ->
 uC m n (((pre ++ rest).length : Int), (pre.length : Int), xa, xb, xn, x1, x2, x3, x4, x5, x6, pre ++ rest, z1, z2, z3, z4, w1, w2, w3, w4, z0, pre.map ff) =
  some ([.i w1, .i w2, .i w3, .i w4] ++ Uns.enc xa ++ Uns.enc xb ++ Uns.enc xn ++ [.d x1, .d x2, .d x3, .d x4, .d x5, .d x6, .d (pre ++ rest), .d ((pre ++ rest).map ff)]) := by
 intro rest
 induction rest with
 | nil =>
  intro pre n hn hl hg; obtain ⟨n, rfl⟩ := al n (by simp at hn; omega); rw [vC]; unfold yF; dsimp only; simp [aB]
 | cons x rest ih =>
  intro pre n hn hl hg; obtain ⟨n, rfl⟩ := al n (by simp at hn; omega); simp only [zaf, zai] at hn hl; have e := H4 (hg x (by simp)); have := ih (pre ++ [x]) n (by omega) (by simp; omega) (fun d hd => hg d (by simp [hd])); rw [zbT, show [x].map ff = [.r [.n (x.i 0), .n (aK x), .n (x.i 5)]] from rfl] at this; rw [vC]; unfold yF; dsimp only; simp only [LNi, ar, lt_eq, e]; simp (disch := omega) only [TRa, TRi, aa, LNl, LNi, zaa, ar]; simp only [LNl, LNi, zaa] at this ⊢; exact this
def f46 : Int × Int × Int × Int × ao × an × ah × List Dat × List Dat × List Dat × List Dat × List Dat × List Dat × List Dat -> Bool × List Un := fun (a0, a1, a2, a3, a4, a5, a6, a7, a8, a9, a10, a11, a12, a13) => (decide (((0 <= a0 /\ a0 <= 1125899906842624) /\ (0 <= a2 /\ a2 <= 1125899906842624) /\ (0 <= a3 /\ a3 <= 1125899906842624)) /\ (0 <= a6.aG /\ a6.aG <= a6.rin /\ a6.rin <= 1152921504606846976)) && ((decide (a12.length <= 1000) && a12.all cw) && (decide (a13.length <= 1000) && a13.all aH)), [.i (a6.fee), .i (a6.out), .i (min (a0 + a3 + a2) (bn aK a13)), .i (vg a5.target (af 1 a12) (a6.rin - a6.aG))] ++ Uns.enc ((a4) : ao) ++ Uns.enc ((a5) : an) ++ Uns.enc ((a6) : ah) ++ [.d (a7), .d (a8), .d (a9), .d (a10), .d (a11), .d (a12), .d (a13), .d (a13.map ff)])
theorem Nz (a0 : Int) (a1 : Int) (a2 : Int) (a3 : Int) (a4 : ao) (a5 : an) (a6 : ah) (a7 : List Dat) (a8 : List Dat) (a9 : List Dat) (a10 : List Dat) (a11 : List Dat) (a12 : List Dat) (a13 : List Dat) (hc : (decide (((0 <= a0 /\ a0 <= 1125899906842624) /\ (0 <= a2 /\ a2 <= 1125899906842624) /\ (0 <= a3 /\ a3 <= 1125899906842624)) /\ (0 <= a6.aG /\ a6.aG <= a6.rin /\ a6.rin <= 1152921504606846976)) && ((decide (a12.length <= 1000) && a12.all cw) && (decide (a13.length <= 1000) && a13.all aH))) = true) : ∃ m, t46 m (a0, a1, a2, a3, a4, a5, a6, a7, a8, a9, a10, a11, a12, a13) = some ([.i (a6.fee), .i (a6.out), .i (min (a0 + a3 + a2) (bn aK a13)), .i (vg a5.target (af 1 a12) (a6.rin - a6.aG))] ++ Uns.enc ((a4) : ao) ++ Uns.enc ((a5) : an) ++ Uns.enc ((a6) : ah) ++ [.d (a7), .d (a8), .d (a9), .d (a10), .d (a11), .d (a12), .d (a13), .d (a13.map ff)]) := by
 simp only [zab, zac, zam] at hc; obtain ⟨⟨⟨h1, h2, h3⟩, h4, h5, h6⟩, ⟨h7, h8⟩, h9, h10⟩ := hc; have hg : dv a13 := ⟨h9, h10⟩
 have hb := zq h7 h8; have hs := (fD a13 h10).1; have hm := Ow (af 1 a12) a5.target 10000 0; have hlb : (decide (a12.length <= 1000) && a12.all cw) = true := by rw [zab, zam]; exact ⟨zad h7, h8⟩
 refine ⟨a13.length + 1, ?_⟩; unfold t46 vg; dsimp only [lt]; refine aS (by rw [cV hg]; rfl) ?_
 refine aS (zan.2 ⟨rfl, hlb⟩) ?_
 change uC _ _ (_, _, _, _, _, _, _, _, _, _, _, _, _, _, _, _, _, _, (if bn aK a13 < w64 (w64 (a0 + a3) + a2) then bn aK a13 else w64 (w64 (a0 + a3) + a2)), (if w64 (mdV (af 1 a12) a5.target 10000 0 - w64 (a6.rin - a6.aG)) < 0 then 0 else w64 (mdV (af 1 a12) a5.target 10000 0 - w64 (a6.rin - a6.aG))), _, _) = _; rw [aa (n := a0 + a3) (by omega) (by omega), aa (n := a0 + a3 + a2) (by omega) (by omega), aa (n := a6.rin - a6.aG) (by omega) (by omega), aa (n := mdV _ _ _ _ - _) (by omega) (by omega)]; rw [show (if bn aK a13 < a0 + a3 + a2 then bn aK a13 else a0 + a3 + a2) = min (a0 + a3 + a2) (bn aK a13) by omega, show ∀ z : Int, (if z < 0 then 0 else z) = max z 0 from fun z => by omega]; exact Rd _ a4 a5 a6 a7 a8 a9 a10 a11 a12 _ _ _ _ _ _ _ _ _ a13 [] (a13.length + 1) (by omega) (by simpa using h9) h10
theorem JJ : ER 46 (mkE N46.en N46.ex f46) := aq ak T48.right (fun m => [IF (uC m m)]) (t := t46) (by kernel_rfl) (fun m => (aJ (Qn m m) aA)) (fun m a => by kernel_rfl) fun (a0, a1, a2, a3, a4, a5, a6, a7, a8, a9, a10, a11, a12, a13) hc => Nz a0 a1 a2 a3 a4 a5 a6 a7 a8 a9 a10 a11 a12 a13 hc
def T46 : Tb Tryz.prog LQ TE XX := T48.add 46 _ JJ
theorem uw : ∀ (k : Nat) (n : Int), cf n k ++ [n + k] = cf n (k + 1)
 | 0, n => by simp [cf]
 | k + 1, n => by
  have := uw k (n + 1); simp only [cf, zaY, zas, zaa] at this ⊢; rw [<- this, show n + 1 + (k : Int) = n + ((k : Int) + 1) by omega]
theorem uB (u p l r : Int) : 0 <= cN u p l r /\ cN u p l r <= max u 0 /\ cN u p l r <= max (u - p) 0 /\ cN u p l r <= max (l - r) 0 := by unfold cN; omega
def N49 : aD := ⟨T46.tab, 49, ⟨[.ptr 0 0 0, .agg [.int .i64, .int .i64, .int .i64, .int .i64]], br 0, 0⟩, ⟨[], br 0, 0⟩, []⟩
abbrev Ey : Type := Int × Int × Int × ao × an × ah × List Dat × List Dat × List Dat × List Dat × List Dat × List Dat × List Dat × List Int
def yH (m : Nat) (k : Ey -> Option (List Un)) : Ey -> Option (List Un) := fun (a0, a1, a2, a3, a4, a5, a6, a7, a8, a9, a10, a11, a12, a13) =>
 bif decide (a2 < a1) then
 chk (inb a2 a12.length) <|
 chk (fits (a13.length + ([(a2.toNat : Int)]).length) 8) <|
 k (a0, a1, (w64 (a2 + 1)), a3, a4, a5, a6, a7, a8, a9, a10, a11, a12, (a13 ++ ([(a2.toNat : Int)])))
 else
 chk (decide (0 < ([.r [.r a11]] : List Dat).length) && (decide (((ae ([.r [.r a11]] : List Dat) 0).d 0).length <= 1000) && ((ae ([.r [.r a11]] : List Dat) 0).d 0).all cw)) <|
 lt ((af 1 ((ae ([.r [.r a11]] : List Dat) 0).d 0)) : Int) fun x1 =>
 chk (decide ((-1152921504606846976 <= a0 /\ a0 <= 1152921504606846976) /\ (-1152921504606846976 <= x1 /\ x1 <= 1152921504606846976) /\ (-1152921504606846976 <= a5.aM /\ a5.aM <= 1152921504606846976) /\ (-1152921504606846976 <= a5.aR /\ a5.aR <= 1152921504606846976))) <|
 chk (decide ((cN a0 x1 a5.aM a5.aR) <= 1152921504606846976) && ((decide (a13 = cf 0 a12.length)) && (decide (a12.length <= 1000) && a12.all aH))) <|
 some (Uns.enc (a3 : ao) ++ Uns.enc (a4 : an) ++ Uns.enc (a5 : ah) ++ [.d a6, .d a7, .d a8, .d a9, .d a10, .d a11, .d (fR (cN a0 x1 a5.aM a5.aR) a12)])
def xF (m : Nat) : Nat -> Ey -> Option (List Un) := bp (yH m)
theorem wo (m : Nat) (n : Nat) : xF m (n + 1) = yH m (xF m n) := rfl
def Ix (F : Ey -> Option (List Un)) : aT := ⟨[.lp [0, 1, 0, 1, 1, 1, 1, 1], .blk 0, .code [1, 1, 1, 1, 1, 1]], ⟨frm 70 [(0, .ptr 0 0 0), (7, .int .i64), (8, .buf 9 1), (39, .int .i64), (40, .int .i64)], br 0 ++ [.dJ 8 7 0], 0⟩, onU F⟩
theorem QW (m : Nat) : ∀ n, HO N49 (Ix (xF m n)) := ay ak T46.right (fun k => [Ix k]) (fun k h => (aJ h aA)) fun k a => by kernel_rfl
def t49 (m : Nat) : Int × Int × Int × Int × ao × an × ah × List Dat × List Dat × List Dat × List Dat × List Dat × List Dat × List Dat -> Option (List Un) := fun (a0, a1, a2, a3, a4, a5, a6, a7, a8, a9, a10, a11, a12, a13) =>
 chk (decide (0 <= 0) && (decide (a13.length <= 1000) && a13.all aH)) <|
 xF m m ((bn unD a13), (a13.length : Int), 0, a4, a5, ({ a6 with aM := (w64 (a6.aM + a2)), aR := (w64 (a6.aR + a3)) } : ah), a7, a8, a9, a10, a11, a12, a13, [])
theorem Qw (m : Nat) (u : Int) (xa : ao) (xb : an) (y : ah) (x1 x2 x3 x4 x5 x6 x7 : List Dat) (hu : 0 <= u /\ u <= 1099511627776000) (h1 : 0 <= y.aM /\ y.aM <= 1152921504606846976) (h2 : 0 <= y.aR /\ y.aR <= 1152921504606846976) (h3 : (decide (x6.length <= 1000) && x6.all cw) = true) (hb : 0 <= af 1 x6 /\ af 1 x6 <= 1099511627776000) (hg : dv x7) : ∀ (k i n : Nat), i + k = x7.length -> k < n ->
 xF m n (u, (x7.length : Int), (i : Int), xa, xb, y, x1, x2, x3, x4, x5, x6, x7, cf 0 i) = some (Uns.enc xa ++ Uns.enc xb ++ Uns.enc y ++ [.d x1, .d x2, .d x3, .d x4, .d x5, .d x6, .d (fR (cN u (af 1 x6) y.aM y.aR) x7)]) := by
 intro k
 induction k with
 | zero =>
  intro i n hi hn; obtain ⟨n, rfl⟩ := al n (by omega); have ht := uB u (af 1 x6) y.aM y.aR; have hgb := cV hg; obtain rfl : i = x7.length := by omega
  rw [wo]; unfold yH; dsimp only; rw [aB (by omega)]; dsimp only [lt]; refine aS (zan.2 ⟨rfl, h3⟩) ?_
  change chk (decide ((-1152921504606846976 <= u /\ u <= 1152921504606846976) /\ (-1152921504606846976 <= af 1 x6 /\ af 1 x6 <= 1152921504606846976) /\ (-1152921504606846976 <= y.aM /\ y.aM <= 1152921504606846976) /\ (-1152921504606846976 <= y.aR /\ y.aR <= 1152921504606846976))) (chk (decide (cN u (af 1 x6) y.aM y.aR <= 1152921504606846976) && (decide (cf 0 x7.length = cf 0 x7.length) && (decide (x7.length <= 1000) && x7.all aH))) _) = _; rw [aV (by omega)]; exact aS (by rw [zab, zab]; exact ⟨@zad _ _ (by omega), @zad _ _ rfl, hgb⟩) rfl
 | succ k ih =>
  intro i n hi hn; obtain ⟨n, rfl⟩ := al n (by omega); have hg1 := hg.1; have hL := fU i 0; have := ih (i + 1) n (by omega) (by omega); rw [<- uw i 0] at this; rw [wo]; unfold yH; dsimp only; simp (disch := omega) only [TRa, TRi, aa, LNl, LNi, zaa, hL]; simp only [LNl, LNi, zaa] at this ⊢; exact this
def f49 : Int × Int × Int × Int × ao × an × ah × List Dat × List Dat × List Dat × List Dat × List Dat × List Dat × List Dat -> Bool × List Un := fun (a0, a1, a2, a3, a4, a5, a6, a7, a8, a9, a10, a11, a12, a13) => (decide (((0 <= a0 /\ a0 <= 1125899906842624) /\ (0 <= a2 /\ a2 <= 1125899906842624) /\ (0 <= a3 /\ a3 <= 1125899906842624)) /\ (0 <= a6.aM /\ a6.aM <= 1125899906842624) /\ (0 <= a6.aR /\ a6.aR <= 1125899906842624)) && ((decide (a12.length <= 1000) && a12.all cw) && (decide (a13.length <= 1000) && a13.all aH)), Uns.enc ((a4) : ao) ++ Uns.enc ((a5) : an) ++ Uns.enc (({ a6 with aM := a6.aM + a2, aR := a6.aR + a3 }) : ah) ++ [.d (a7), .d (a8), .d (a9), .d (a10), .d (a11), .d (a12), .d (fR (cN (bn unD a13) (af 1 a12) (a6.aM + a2) (a6.aR + a3)) a13)])
theorem Ol (a0 : Int) (a1 : Int) (a2 : Int) (a3 : Int) (a4 : ao) (a5 : an) (a6 : ah) (a7 : List Dat) (a8 : List Dat) (a9 : List Dat) (a10 : List Dat) (a11 : List Dat) (a12 : List Dat) (a13 : List Dat) (hc : (decide (((0 <= a0 /\ a0 <= 1125899906842624) /\ (0 <= a2 /\ a2 <= 1125899906842624) /\ (0 <= a3 /\ a3 <= 1125899906842624)) /\ (0 <= a6.aM /\ a6.aM <= 1125899906842624) /\ (0 <= a6.aR /\ a6.aR <= 1125899906842624)) && ((decide (a12.length <= 1000) && a12.all cw) && (decide (a13.length <= 1000) && a13.all aH))) = true) : ∃ m, t49 m (a0, a1, a2, a3, a4, a5, a6, a7, a8, a9, a10, a11, a12, a13) = some (Uns.enc ((a4) : ao) ++ Uns.enc ((a5) : an) ++ Uns.enc (({ a6 with aM := a6.aM + a2, aR := a6.aR + a3 }) : ah) ++ [.d (a7), .d (a8), .d (a9), .d (a10), .d (a11), .d (a12), .d (fR (cN (bn unD a13) (af 1 a12) (a6.aM + a2) (a6.aR + a3)) a13)]) := by
 simp only [zab, zac, zam] at hc; obtain ⟨⟨⟨h1, h2, h3⟩, h4, h5⟩, ⟨h7, h8⟩, h9, h10⟩ := hc; have hg : dv a13 := ⟨h9, h10⟩
 have hb := zq h7 h8; have hs := (fD a13 h10).2.2.2.1; refine ⟨a13.length + 1, ?_⟩; unfold t49; dsimp only; refine aS (by rw [cV hg]; rfl) ?_
 rw [aa (n := a6.aM + a2) (by omega) (by omega), aa (n := a6.aR + a3) (by omega) (by omega)]; exact Qw _ _ a4 a5 { a6 with aM := a6.aM + a2, aR := a6.aR + a3 } a7 a8 a9 a10 a11 a12 a13 (by omega) (by simp only; omega) (by simp only; omega) (by rw [zab, zam]; exact ⟨zad h7, h8⟩) hb hg a13.length 0 (a13.length + 1) (by omega) (by omega)
theorem KK : ER 49 (mkE N49.en N49.ex f49) := aq ak T46.right (fun m => [Ix (xF m m)]) (t := t49) (by kernel_rfl) (fun m => (aJ (QW m m) aA)) (fun m a => by kernel_rfl) fun (a0, a1, a2, a3, a4, a5, a6, a7, a8, a9, a10, a11, a12, a13) hc => Ol a0 a1 a2 a3 a4 a5 a6 a7 a8 a9 a10 a11 a12 a13 hc
def T49 : Tb Tryz.prog LQ TE XX := T46.add 49 _ KK
def Af (d : Dat) : Dat := .r [.n (aK d), .n (d.i 5), .n (d.i 6)]
def N53 : aD := ⟨T49.tab, 53, ⟨[.agg [.bool, .int .i64, .int .i64, .int .i64, .int .i64, .int .i64, .int .i64, .int .i64, .int .i64, .int .i64, .int .i64, .buf 9 4, .int .i64, .int .i64, .int .i64, .int .i64, .int .i64, .dV, .int .i64], .np 0 0 0], br 0 ++ [.ag (sI 4)], 10⟩, ⟨[.agg [.bool, .int .i64, .int .i64, .int .i64, .int .i64, .int .i64, .int .i64, .int .i64, .int .i64, .int .i64, .int .i64, .buf 9 4, .int .i64, .int .i64, .int .i64, .int .i64, .int .i64, .buf 10 3, .int .i64]], br 0 ++ [.ag (sI 4), .ag (sI 3)], 10⟩, []⟩
abbrev EN : Type := Int × Int × ao × an × ah × List Dat × List Dat × List Dat × List Dat × List Dat × List Dat × List Dat × List Dat × eZ × dM × Int × eZ × dM × Int × List Dat × List Dat × List Dat
def zH (m : Nat) (k : EN -> Option (List Un)) : EN -> Option (List Un) := fun (a0, a1, a2, a3, a4, a5, a6, a7, a8, a9, a10, a11, a12, a13, a14, a15, a16, a17, a18, a19, a20, a21) =>
 bif decide (a1 < a0) then
 chk (inb a1 a11.length) <|
 chk (decide (a1.toNat < a11.length)) <|
 lt (ae a11 a1.toNat : Dat) fun d3 =>
 chk (fits (a19.length + 1) 24) <|
 k (a0, (w64 (a1 + 1)), a2, a3, a4, a5, a6, a7, a8, a9, a10, a11, a12, a13, a14, a15, a16, a17, a18, (a19 ++ ([.r [.n (w64 (w64 ((d3.i 1) - w64 ((d3.i 3) - (d3.i 4))) - (d3.i 6))), .n (d3.i 5), .n (d3.i 6)]])), a20, a21)
 else
 some (Uns.enc (a13 : eZ) ++ Uns.enc (a14 : dM) ++ [.i a15] ++ Uns.enc (a2 : ao) ++ Uns.enc (a3 : an) ++ Uns.enc (a4 : ah) ++ [.d a5, .d a6, .d a7, .d a8, .d a9, .d a10, .d a11, .d a12, .d a19])
def ye (m : Nat) : Nat -> EN -> Option (List Un) := bp (zH m)
theorem vX (m : Nat) (n : Nat) : ye m (n + 1) = zH m (ye m n) := rfl
def ID (F : EN -> Option (List Un)) : aT := ⟨[.lp [0, 1, 0, 1, 1], .blk 0, .code [1, 1, 1]], ⟨frm 58 [(2, .ptr 10 0 0), (4, .ptr 11 0 0), (38, .buf 8 7), (39, .int .i64), (40, .int .i64)], br 0 ++ [.ag (sI 4), .cells [.bool, .int .i64, .int .i64, .int .i64, .int .i64, .int .i64, .int .i64, .int .i64, .int .i64, .int .i64, .int .i64, .buf 9 4, .int .i64, .int .i64, .int .i64, .int .i64, .int .i64, .buf 12 3, .int .i64], .cells [.bool, .int .i64, .int .i64, .int .i64, .int .i64, .int .i64, .int .i64, .int .i64, .int .i64, .int .i64, .int .i64, .buf 13 4, .int .i64, .int .i64, .int .i64, .int .i64, .int .i64, .buf 14 3, .int .i64], .ag (sI 3), .ag (sI 4), .ag (sI 3)], 10⟩, onU F⟩
theorem Qg (m : Nat) : ∀ n, HO N53 (ID (ye m n)) := ay ak T49.right (fun k => [ID k]) (fun k h => (aJ h aA)) fun k a => by kernel_rfl
def t53 (m : Nat) : eZ × dM × Int × Int × ao × an × ah × List Dat × List Dat × List Dat × List Dat × List Dat × List Dat × List Dat × List Dat -> Option (List Un) := fun (a0, a1, a2, a3, a4, a5, a6, a7, a8, a9, a10, a11, a12, a13, a14) =>
 chk (decide (0 <= a3)) <|
 chk (decide (0 < ([.r [.r a12]] : List Dat).length) && (decide (((ae ([.r [.r a12]] : List Dat) 0).d 0).length <= 1000) && ((ae ([.r [.r a12]] : List Dat) 0).d 0).all cw)) <|
 chk (decide (0 <= a3)) <|
 chk (decide (0 <= a3)) <|
 chk (decide (0 <= a3)) <|
 chk (decide (0 <= a3)) <|
 chk (decide (0 <= a3)) <|
 ye m m ((a13.length : Int), 0, a4, a5, a6, a7, a8, a9, a10, a11, a12, a13, a14, a0, (⟨a1.eG, (af 1 ((ae ([.r [.r a12]] : List Dat) 0).d 0)), (w64 (a6.rin - a6.aG)), a6.out, a6.fee⟩ : dM), a6.mode, (⟨false, 0, 0, 0, 0, 0, 0, 0, 0, 0, 0⟩ : eZ), (⟨0, 0, 0, 0, 0⟩ : dM), 0, [], [], [])
theorem L3 (m : Nat) (xa : ao) (xb : an) (xn : ah) (x1 x2 x3 x4 x5 x6 py : List Dat) (ra za : eZ) (rb zb : dM) (nx zx : Int) (z1 z2 : List Dat) : ∀ (rest pre : List Dat) (n : Nat), rest.length < n -> (pre ++ rest).length <= 1000 -> (∀ d ∈ rest, aH d = true) ->
 ye m n (((pre ++ rest).length : Int), (pre.length : Int), xa, xb, xn, x1, x2, x3, x4, x5, x6, pre ++ rest, py, ra, rb, nx, za, zb, zx, pre.map Af, z1, z2) =
  some (Uns.enc ra ++ Uns.enc rb ++ [.i nx] ++ Uns.enc xa ++ Uns.enc xb ++ Uns.enc xn ++ [.d x1, .d x2, .d x3, .d x4, .d x5, .d x6, .d (pre ++ rest), .d py, .d ((pre ++ rest).map Af)]) := by
 intro rest
 induction rest with
 | nil =>
  intro pre n hn hl hg; obtain ⟨n, rfl⟩ := al n (by simp at hn; omega); rw [vX]; unfold zH; dsimp only; simp [aB]
 | cons x rest ih =>
  intro pre n hn hl hg; obtain ⟨n, rfl⟩ := al n (by simp at hn; omega); simp only [zaf, zai] at hn hl; have e := H4 (hg x (by simp)); have := ih (pre ++ [x]) n (by omega) (by simp; omega) (fun d hd => hg d (by simp [hd])); rw [zbT, show [x].map Af = [.r [.n (aK x), .n (x.i 5), .n (x.i 6)]] from rfl] at this; rw [vX]; unfold zH; dsimp only; simp only [LNi, ar, lt_eq, e]; simp (disch := omega) only [TRa, TRi, aa, LNl, LNi, zaa, ar]; simp only [LNl, LNi, zaa] at this ⊢; exact this
def f53 : eZ × dM × Int × Int × ao × an × ah × List Dat × List Dat × List Dat × List Dat × List Dat × List Dat × List Dat × List Dat -> Bool × List Un := fun (a0, a1, a2, a3, a4, a5, a6, a7, a8, a9, a10, a11, a12, a13, a14) => (decide (0 <= a3) && (decide (0 <= a6.aG /\ a6.aG <= a6.rin /\ a6.rin <= 1152921504606846976) && ((decide (a12.length <= 1000) && a12.all cw) && (decide (a13.length <= 1000) && a13.all aH))), Uns.enc ((a0) : eZ) ++ Uns.enc (((⟨a1.eG, af 1 a12, a6.rin - a6.aG, a6.out, a6.fee⟩ : dM)) : dM) ++ [.i (a6.mode)] ++ Uns.enc ((a4) : ao) ++ Uns.enc ((a5) : an) ++ Uns.enc ((a6) : ah) ++ [.d (a7), .d (a8), .d (a9), .d (a10), .d (a11), .d (a12), .d (a13), .d (a14), .d (a13.map Af)])
theorem Oh (a0 : eZ) (a1 : dM) (a2 : Int) (a3 : Int) (a4 : ao) (a5 : an) (a6 : ah) (a7 : List Dat) (a8 : List Dat) (a9 : List Dat) (a10 : List Dat) (a11 : List Dat) (a12 : List Dat) (a13 : List Dat) (a14 : List Dat) (hc : (decide (0 <= a3) && (decide (0 <= a6.aG /\ a6.aG <= a6.rin /\ a6.rin <= 1152921504606846976) && ((decide (a12.length <= 1000) && a12.all cw) && (decide (a13.length <= 1000) && a13.all aH)))) = true) : ∃ m, t53 m (a0, a1, a2, a3, a4, a5, a6, a7, a8, a9, a10, a11, a12, a13, a14) = some (Uns.enc ((a0) : eZ) ++ Uns.enc (((⟨a1.eG, af 1 a12, a6.rin - a6.aG, a6.out, a6.fee⟩ : dM)) : dM) ++ [.i (a6.mode)] ++ Uns.enc ((a4) : ao) ++ Uns.enc ((a5) : an) ++ Uns.enc ((a6) : ah) ++ [.d (a7), .d (a8), .d (a9), .d (a10), .d (a11), .d (a12), .d (a13), .d (a14), .d (a13.map Af)]) := by
 simp only [zab, zac, zam] at hc; obtain ⟨h0, ⟨h4, h5, h6⟩, ⟨h7, h8⟩, h9, h10⟩ := hc; have hb := zq h7 h8; have hlb : (decide (a12.length <= 1000) && a12.all cw) = true := by rw [zab, zam]; exact ⟨zad h7, h8⟩
 refine ⟨a13.length + 1, ?_⟩; unfold t53; dsimp only [lt]; simp only [aV h0]; refine aS (zan.2 ⟨rfl, hlb⟩) ?_
 rw [aa (n := a6.rin - a6.aG) (by omega) (by omega)]; exact L3 _ a4 a5 a6 a7 a8 a9 a10 a11 a12 a14 a0 _ _ _ _ _ _ _ a13 [] (a13.length + 1) (by omega) (by simpa using h9) h10
theorem Ls : ER 53 (mkE N53.en N53.ex f53) := aq ak T49.right (fun m => [ID (ye m m)]) (t := t53) (by kernel_rfl) (fun m => (aJ (Qg m m) aA)) (fun m a => by kernel_rfl) fun (a0, a1, a2, a3, a4, a5, a6, a7, a8, a9, a10, a11, a12, a13, a14) hc => Oh a0 a1 a2 a3 a4 a5 a6 a7 a8 a9 a10 a11 a12 a13 a14 hc
def T53 : Tb Tryz.prog LQ TE XX := T49.add 53 _ Ls
def bq : List Dat -> List Dat
 | [] => []
 | d :: l => (if 0 < d.i 1 then [.r [.n (d.i 0), .n 0, .n (d.i 1), .n 0, .n 0, .n 0, .n (bI false)]] else []) ++ bq l
def N87 : aD := ⟨T53.tab, 87, ⟨[.np 0 0 0], br 0, 0⟩, ⟨[.agg [.int .i64, .int .i64, .int .i64, .int .i64]], [.cells [.int .i64, .int .i64, .int .i64, .buf 1 2, .buf 2 3, .int .i64, .int .i64, .int .i64, .int .i64, .int .i64, .int .i64, .int .i64, .int .i64, .int .i64, .int .i64, .buf 3 2, .buf 4 2, .buf 5 2, .ptr 6 0 0, .buf 8 7, .int .i64, .int .i64, .int .i64, .int .i64, .int .i64, .int .i64, .int .i64, .int .i64, .int .i64, .bool], .ag (sI 2), .ag (sI 3), .ag (sI 2), .ag (sI 2), .ag (sI 2), .cells [.buf 9 5], .gone, .ag (sI 7), .ag (sB 4)], 0⟩, []⟩
abbrev EH : Type := Int × Int × Int × ao × an × ah × List Dat × List Dat × List Dat × List Dat × List Dat × List Dat × Int × Int × Int × Int × List Dat × List Dat × List Dat
def y7 (m : Nat) (k : EH -> Option (List Un)) : EH -> Option (List Un) := fun (a0, a1, a2, a3, a4, a5, a6, a7, a8, a9, a10, a11, a12, a13, a14, a15, a16, a17, a18) =>
 bif decide (a2 < a1) then
 chk (inb a2 a17.length) <|
 chk (decide (a2.toNat < a17.length)) <|
 lt (ae a17 a2.toNat : Dat) fun d2 =>
 bif decide ((d2.i 1) > 0) then
 chk (fits (a16.length + 1) 56) <|
 k (a0, a1, (w64 (a2 + 1)), a3, a4, a5, a6, a7, a8, a9, a10, a11, a12, a13, a14, a15, (a16 ++ ([.r [.n (d2.i 0), .n 0, .n (d2.i 1), .n 0, .n 0, .n 0, .n (bI false)]])), a17, a18)
 else
 k (a0, a1, (w64 (a2 + 1)), a3, a4, a5, a6, a7, a8, a9, a10, a11, a12, a13, a14, a15, a16, a17, a18)
 else
 chk (decide (0 <= a0)) <|
 chk (decide (a18.length < 1000000)) <|
 some ([.i ((av a16 a18).p), .i ((av a16 a18).q), .i ((av a16 a18).l), .i ((av a16 a18).r)] ++ Uns.enc (a3 : ao) ++ Uns.enc (a4 : an) ++ Uns.enc (a5 : ah) ++ [.d a6, .d a7, .d a8, .d a9, .d a10, .d a11, .d ((av a16 a18).ax)])
def xk (m : Nat) : Nat -> EH -> Option (List Un) := bp (y7 m)
theorem wx (m : Nat) (n : Nat) : xk m (n + 1) = y7 m (xk m n) := rfl
def Gg (F : EH -> Option (List Un)) : aT := ⟨[.lp [0, 1, 0, 1, 1], .blk 0, .code [1, 1, 1]], ⟨frm 43 [(0, .np 0 0 0), (2, .ptr 9 0 0), (3, .buf 10 7), (12, .buf 11 5), (13, .int .i64), (14, .int .i64)], [.cells [.int .i64, .int .i64, .int .i64, .buf 1 2, .buf 2 3, .int .i64, .int .i64, .int .i64, .int .i64, .int .i64, .int .i64, .int .i64, .int .i64, .int .i64, .int .i64, .buf 3 2, .buf 4 2, .buf 5 2, .ptr 6 0 0, .buf 8 7, .int .i64, .int .i64, .int .i64, .int .i64, .int .i64, .int .i64, .int .i64, .int .i64, .int .i64, .bool], .ag (sI 2), .ag (sI 3), .ag (sI 2), .ag (sI 2), .ag (sI 2), .cells [.buf 12 5], .gone, .ag (sI 7), .cells [.int .i64, .int .i64, .int .i64, .int .i64], .ag (sB 6), .ag (sB 4), .ag (sB 4)], 0⟩, onU F⟩
theorem Qq (m : Nat) : ∀ n, HO N87 (Gg (xk m n)) := ay ak T53.right (fun k => [Gg k]) (fun k h => (aJ h aA)) fun k a => by kernel_rfl
def t87 (m : Nat) : Int × ao × an × ah × List Dat × List Dat × List Dat × List Dat × List Dat × List Dat × List Dat -> Option (List Un) := fun (a0, a1, a2, a3, a4, a5, a6, a7, a8, a9, a10) =>
 chk (decide (0 <= a0)) <|
 chk (decide (0 < ([.r [.r a9]] : List Dat).length) && decide (((ae ([.r [.r a9]] : List Dat) 0).d 0).length < 1000000)) <|
 lt (((ae ([.r [.r a9]] : List Dat) 0).d 0) : List Dat) fun l1 =>
 xk m m (a0, (l1.length : Int), 0, a1, a2, a3, a4, a5, a6, a7, a8, a10, 0, 0, 0, 0, [], l1, a9)
theorem OS (m : Nat) (p0 : Int) (hp0 : 0 <= p0) (xa : ao) (xb : an) (xn : ah) (x1 x2 x3 x4 x5 x6 pl : List Dat) (hpl : pl.length < 1000000) (z1 z2 z3 z4 : Int) : ∀ (rest pre acc : List Dat) (n : Nat), rest.length < n -> (pre ++ rest).length < 1000000 -> acc.length <= pre.length ->
 xk m n (p0, ((pre ++ rest).length : Int), (pre.length : Int), xa, xb, xn, x1, x2, x3, x4, x5, x6, z1, z2, z3, z4, acc, pre ++ rest, pl) =
  some ([.i (av (acc ++ bq rest) pl).p, .i (av (acc ++ bq rest) pl).q, .i (av (acc ++ bq rest) pl).l, .i (av (acc ++ bq rest) pl).r] ++ Uns.enc xa ++ Uns.enc xb ++ Uns.enc xn ++ [.d x1, .d x2, .d x3, .d x4, .d x5, .d x6, .d (av (acc ++ bq rest) pl).ax]) := by
 intro rest
 induction rest with
 | nil =>
  intro pre acc n hn hl ha; obtain ⟨n, rfl⟩ := al n (by simp at hn; omega); rw [wx]; unfold y7; dsimp only; rw [aB (by simp), aV hp0, aV hpl, bq, zaK]
 | cons x rest ih =>
  intro pre acc n hn hl ha; obtain ⟨n, rfl⟩ := al n (by simp at hn; omega); simp only [zaf, zai] at hn hl; have := fun acc h => ih (pre ++ [x]) acc n (by omega) (by simp; omega) h
  unfold bq; rw [wx]; unfold y7; dsimp only
  by_cases h1 : x.i 1 > 0
  . have := this (acc ++ [.r [.n (x.i 0), .n 0, .n (x.i 1), .n 0, .n 0, .n 0, .n (bI false)]]) (by simp; omega); rw [if_pos h1, <- zaA]; simp (disch := omega) only [TRa, aa, LNi, zaa, ar, zai, zaf, zaB]; simp only [zai, zaf, zaB, zaA, zaY, zaH, LNi, zaa] at this ⊢; exact this
  . have := this acc (by simp; omega); rw [if_neg h1, zaH]; simp (disch := omega) only [TRa, TRi, aa, LNl, LNi, zaa, ar]; simp only [LNl, LNi, zaa] at this ⊢; exact this
def f87 : Int × ao × an × ah × List Dat × List Dat × List Dat × List Dat × List Dat × List Dat × List Dat -> Bool × List Un := fun (a0, a1, a2, a3, a4, a5, a6, a7, a8, a9, a10) => (decide (0 <= a0) && decide (a9.length < 1000000), [.i ((av (bq a9) a9).p), .i ((av (bq a9) a9).q), .i ((av (bq a9) a9).l), .i ((av (bq a9) a9).r)] ++ Uns.enc ((a1) : ao) ++ Uns.enc ((a2) : an) ++ Uns.enc ((a3) : ah) ++ [.d (a4), .d (a5), .d (a6), .d (a7), .d (a8), .d (a10), .d ((av (bq a9) a9).ax)])
theorem OY (a0 : Int) (a1 : ao) (a2 : an) (a3 : ah) (a4 : List Dat) (a5 : List Dat) (a6 : List Dat) (a7 : List Dat) (a8 : List Dat) (a9 : List Dat) (a10 : List Dat) (hc : (decide (0 <= a0) && decide (a9.length < 1000000)) = true) : ∃ m, t87 m (a0, a1, a2, a3, a4, a5, a6, a7, a8, a9, a10) = some ([.i ((av (bq a9) a9).p), .i ((av (bq a9) a9).q), .i ((av (bq a9) a9).l), .i ((av (bq a9) a9).r)] ++ Uns.enc ((a1) : ao) ++ Uns.enc ((a2) : an) ++ Uns.enc ((a3) : ah) ++ [.d (a4), .d (a5), .d (a6), .d (a7), .d (a8), .d (a10), .d ((av (bq a9) a9).ax)]) := by
 simp only [zab, zac] at hc; obtain ⟨h0, h⟩ := hc; refine ⟨a9.length + 1, ?_⟩; unfold t87; dsimp only [lt]; refine aS (zad h0) ?_
 refine aS (zan.2 ⟨rfl, zad h⟩) ?_
 exact OS _ a0 h0 a1 a2 a3 a4 a5 a6 a7 a8 a10 a9 h _ _ _ _ a9 [] [] (a9.length + 1) (by omega) (by simpa using h) (by simp)
theorem J4 : ER 87 (mkE N87.en N87.ex f87) := aq ak T53.right (fun m => [Gg (xk m m)]) (t := t87) (by kernel_rfl) (fun m => (aJ (Qq m m) aA)) (fun m a => by kernel_rfl) fun (a0, a1, a2, a3, a4, a5, a6, a7, a8, a9, a10) hc => OY a0 a1 a2 a3 a4 a5 a6 a7 a8 a9 a10 hc
def T87 : Tb Tryz.prog LQ TE XX := T53.add 87 _ J4
def It (d : Dat) : Dat := .r [.n (d.i 0), .n (d.i 1), .n (d.i 2), .n (d.i 3)]
def jw : List Dat -> List Dat
 | [] => []
 | d :: l => (if 0 < d.i 3 then [It d] else []) ++ jw l
def fp : Int -> List Dat -> List Dat
 | _, [] => []
 | i, d :: c => .r [.n 0, .n 3, .n i, .n (d.i 5)] :: .r [.n 0, .n 7, .n i, .n (aK d)] :: fp (i + 1) c
def fx (fee out : Int) (c : List Dat) : List Dat := jw (.r [.n 0, .n 1, .n (-1), .n fee] :: .r [.n 0, .n 2, .n (-1), .n out] :: fp 0 c)
theorem AQ : ∀ (c : List Dat) (i : Int), (fp i c).length = 2 * c.length
 | [], _ => rfl
 | d :: c, i => by simp only [fp, zaf, AQ c]; omega
def N85 : aD := ⟨T87.tab, 85, ⟨[.np 0 0 0], br 0, 9⟩, ⟨[.buf 9 4], br 0 ++ [.ag (sI 4)], 9⟩, []⟩
abbrev DX : Type := Int × Int × ao × an × ah × List Dat × List Dat × List Dat × List Dat × List Dat × List Dat × List Dat × List Dat × List Dat
abbrev ED : Type := Int × Int × ao × an × ah × List Dat × List Dat × List Dat × List Dat × List Dat × List Dat × List Dat × List Dat
def zP (m : Nat) (k : DX -> Option (List Un)) : DX -> Option (List Un) := fun (a0, a1, a2, a3, a4, a5, a6, a7, a8, a9, a10, a11, a12, a13) =>
 bif decide (a1 < a0) then
 chk (inb a1 a13.length) <|
 chk (decide (a1.toNat < a13.length)) <|
 lt (ae a13 a1.toNat : Dat) fun d4 =>
 bif decide ((d4.i 3) > 0) then
 chk (fits (a12.length + 1) 32) <|
 k (a0, (w64 (a1 + 1)), a2, a3, a4, a5, a6, a7, a8, a9, a10, a11, (a12 ++ ([.r [.n (d4.i 0), .n (d4.i 1), .n (d4.i 2), .n (d4.i 3)]])), a13)
 else
 k (a0, (w64 (a1 + 1)), a2, a3, a4, a5, a6, a7, a8, a9, a10, a11, a12, a13)
 else
 some (Uns.enc (a2 : ao) ++ Uns.enc (a3 : an) ++ Uns.enc (a4 : ah) ++ [.d a5, .d a6, .d a7, .d a8, .d a9, .d a10, .d a11, .d a12])
def yp (m : Nat) : Nat -> DX -> Option (List Un) := bp (zP m)
theorem um (m : Nat) (n : Nat) : yp m (n + 1) = zP m (yp m n) := rfl
def I9 (F : DX -> Option (List Un)) : aT := ⟨[.lp [0, 1, 0, 1, 1, 1, 1], .blk 2, .code [1, 1, 1, 1, 1]], ⟨frm 57 [(6, .buf 9 4), (42, .buf 10 4), (43, .int .i64), (44, .int .i64)], br 0 ++ [.ag (sI 4), .ag (sI 4)], 9⟩, onU F⟩
def zw (m : Nat) (k : ED -> Option (List Un)) : ED -> Option (List Un) := fun (a0, a1, a2, a3, a4, a5, a6, a7, a8, a9, a10, a11, a12) =>
 bif decide (a1 < a0) then
 chk (inb a1 a11.length) <|
 chk (decide (a1.toNat < a11.length)) <|
 lt (ae a11 a1.toNat : Dat) fun d1 =>
 chk (fits (a12.length + 2) 32) <|
 k (a0, (w64 (a1 + 1)), a2, a3, a4, a5, a6, a7, a8, a9, a10, a11, (a12 ++ ([.r [.n 0, .n 3, .n a1, .n (d1.i 5)], .r [.n 0, .n 7, .n a1, .n (w64 (w64 ((d1.i 1) - w64 ((d1.i 3) - (d1.i 4))) - (d1.i 6)))]])))
 else
 yp m m ((a12.length : Int), 0, a2, a3, a4, a5, a6, a7, a8, a9, a10, a11, [], a12)
def xi (m : Nat) : Nat -> ED -> Option (List Un) := bp (zw m)
theorem uL (m : Nat) (n : Nat) : xi m (n + 1) = zw m (xi m n) := rfl
def I4 (F : ED -> Option (List Un)) : aT := ⟨[.lp [0, 1, 0, 1, 1], .blk 0, .code [1, 1, 1]], ⟨frm 57 [(3, .buf 9 4), (23, .buf 8 7), (24, .int .i64), (25, .int .i64)], br 0 ++ [.ag (sI 4)], 9⟩, onU F⟩
theorem P7 (m : Nat) : ∀ n, HO N85 (I9 (yp m n)) := ay ak T87.right (fun k => [I9 k]) (fun k h => (aJ h aA)) fun k a => by kernel_rfl
theorem RA (m : Nat) : ∀ n, HO N85 (I4 (xi m n)) := ay ak T87.right (fun k => [I4 k, I9 (yp m m)]) (fun k h => (aJ h (aJ (P7 m m) aA))) fun k a => by kernel_rfl
def t85 (m : Nat) : Int × ao × an × ah × List Dat × List Dat × List Dat × List Dat × List Dat × List Dat × List Dat -> Option (List Un) := fun (a0, a1, a2, a3, a4, a5, a6, a7, a8, a9, a10) =>
 chk (decide (0 <= a0)) <|
 chk (decide (0 <= a0)) <|
 chk (decide (0 <= a0)) <|
 xi m m ((a10.length : Int), 0, a1, a2, a3, a4, a5, a6, a7, a8, a9, a10, ([.r [.n 0, .n 1, .n (-1), .n a3.fee], .r [.n 0, .n 2, .n (-1), .n a3.out]] : List Dat))
section
variable (m : Nat) (xa : ao) (xb : an) (xn : ah) (x1 x2 x3 x4 x5 x6 x7 : List Dat)
theorem PU : ∀ (rest pre acc : List Dat) (n : Nat), rest.length < n -> (pre ++ rest).length <= 3000 -> acc.length <= pre.length ->
 yp m n (((pre ++ rest).length : Int), (pre.length : Int), xa, xb, xn, x1, x2, x3, x4, x5, x6, x7, acc, pre ++ rest) = some (Uns.enc xa ++ Uns.enc xb ++ Uns.enc xn ++ [.d x1, .d x2, .d x3, .d x4, .d x5, .d x6, .d x7, .d (acc ++ jw rest)]) := by
 intro rest
 induction rest with
 | nil =>
  intro pre acc n hn hl ha; obtain ⟨n, rfl⟩ := al n (by simp at hn; omega); rw [um]; unfold zP; dsimp only; rw [aB (by simp), jw, zaK]
 | cons x rest ih =>
  intro pre acc n hn hl ha; obtain ⟨n, rfl⟩ := al n (by simp at hn; omega); simp only [zaf, zai] at hn hl; have := fun acc h => ih (pre ++ [x]) acc n (by omega) (by simp; omega) h
  unfold jw; rw [um]; unfold zP; dsimp only
  by_cases h1 : x.i 3 > 0
  . have := this (acc ++ [It x]) (by simp; omega); unfold It at this ⊢; rw [if_pos h1, <- zaA]; simp (disch := omega) only [TRa, aa, LNi, zaa, ar, zai, zaf, zaB]; simp only [zai, zaf, zaB, zaA, zaY, zaH, LNi, zaa] at this ⊢; exact this
  . have := this acc (by simp; omega); rw [if_neg h1, zaH]; simp (disch := omega) only [TRa, TRi, aa, LNl, LNi, zaa, ar]; simp only [LNl, LNi, zaa] at this ⊢; exact this
theorem PO (hm : 3000 < m) : ∀ (rest pre acc : List Dat) (n : Nat), rest.length < n -> (pre ++ rest).length <= 1000 -> (∀ d ∈ rest, aH d = true) -> acc.length = 2 + 2 * pre.length ->
 xi m n (((pre ++ rest).length : Int), (pre.length : Int), xa, xb, xn, x1, x2, x3, x4, x5, x6, pre ++ rest, acc) = some (Uns.enc xa ++ Uns.enc xb ++ Uns.enc xn ++ [.d x1, .d x2, .d x3, .d x4, .d x5, .d x6, .d (pre ++ rest), .d (jw (acc ++ fp pre.length rest))]) := by
 intro rest
 induction rest with
 | nil =>
  intro pre acc n hn hl hg ha; obtain ⟨n, rfl⟩ := al n (by simp at hn; omega); simp only [zaK] at hl; rw [uL]; unfold zw; dsimp only; rw [aB (by simp)]; refine (PU m xa xb xn x1 x2 x3 x4 x5 x6 (pre ++ []) acc [] [] m (by omega) (by simp; omega) (by simp)).trans ?_
  simp only [fp, zaK, zaH]
 | cons x rest ih =>
  intro pre acc n hn hl hg ha; obtain ⟨n, rfl⟩ := al n (by simp at hn; omega); simp only [zaf, zai] at hn hl; have e := H4 (hg x (by simp)); have := ih (pre ++ [x]) (acc ++ [.r [.n 0, .n 3, .n (pre.length : Int), .n (x.i 5)], .r [.n 0, .n 7, .n (pre.length : Int), .n (aK x)]]) n (by omega) (by simp; omega) (fun d hd => hg d (by simp [hd])) (by simp; omega); unfold fp; rw [uL]; unfold zw; dsimp only; simp only [LNi, ar, lt_eq, e]; simp (disch := omega) only [TRa, TRi, aa, LNl, LNi, zaa, ar]; simp only [LNl, LNi, zaa] at this ⊢; exact this
end
def f85 : Int × ao × an × ah × List Dat × List Dat × List Dat × List Dat × List Dat × List Dat × List Dat -> Bool × List Un := fun (a0, a1, a2, a3, a4, a5, a6, a7, a8, a9, a10) => (decide (0 <= a0) && (decide (a10.length <= 1000) && a10.all aH), Uns.enc ((a1) : ao) ++ Uns.enc ((a2) : an) ++ Uns.enc ((a3) : ah) ++ [.d (a4), .d (a5), .d (a6), .d (a7), .d (a8), .d (a9), .d (a10), .d (fx a3.fee a3.out a10)])
theorem M5 (a0 : Int) (a1 : ao) (a2 : an) (a3 : ah) (a4 : List Dat) (a5 : List Dat) (a6 : List Dat) (a7 : List Dat) (a8 : List Dat) (a9 : List Dat) (a10 : List Dat) (hc : (decide (0 <= a0) && (decide (a10.length <= 1000) && a10.all aH)) = true) : ∃ m, t85 m (a0, a1, a2, a3, a4, a5, a6, a7, a8, a9, a10) = some (Uns.enc ((a1) : ao) ++ Uns.enc ((a2) : an) ++ Uns.enc ((a3) : ah) ++ [.d (a4), .d (a5), .d (a6), .d (a7), .d (a8), .d (a9), .d (a10), .d (fx a3.fee a3.out a10)]) := by
 simp only [zab, zac, zam] at hc; refine ⟨3001 + a10.length, ?_⟩; unfold t85; dsimp only; simp only [aV hc.1]; exact PO _ a1 a2 a3 a4 a5 a6 a7 a8 a9 (by omega) a10 [] _ _ (by omega) (by simpa using hc.2.1) hc.2.2 rfl
theorem JY : ER 85 (mkE N85.en N85.ex f85) := aq ak T87.right (fun m => [I4 (xi m m)]) (t := t85) (by kernel_rfl) (fun m => (aJ (RA m m) aA)) (fun m a => by kernel_rfl) fun (a0, a1, a2, a3, a4, a5, a6, a7, a8, a9, a10) hc => M5 a0 a1 a2 a3 a4 a5 a6 a7 a8 a9 a10 hc
def T85 : Tb Tryz.prog LQ TE XX := T87.add 85 _ JY
def IE (a b p : Int) : Bool := decide (0 <= a /\ a <= 1099511627776 /\ 0 <= b /\ b <= 1099511627776 /\ 0 <= p /\ p <= 100000)
def bF (a b p : Int) : Bool := IE a b p && decide (b * p <= a * 10000)
def bH (a b p : Int) : Bool := IE a b p && decide (a * 10000 <= b * p)
def Q5 : aD := ⟨T85.tab, 110, ⟨[.int .i64, .int .i64, .int .i64], [], 0⟩, ⟨[.bool], [], 0⟩, []⟩
def t110 (m : Nat) : Int × Int × Int -> Option (List Un) := fun (a0, a1, a2) =>
 bif decide (a0 >= 0) then
 bif (decide (a0 <= 1099511627776)) then
 bif decide (a1 >= 0) then
 bif (decide (a1 <= 1099511627776)) then
 bif decide (a2 >= 0) then
 bif decide (a2 <= 100000) then
 some ([.b (decide ((w64 (a0 * 10000)) >= (w64 (a1 * a2))))])
 else
 some ([.b false])
 else
 some ([.b false])
 else
 some ([.b false])
 else
 some ([.b false])
 else
 some ([.b false])
 else
 some ([.b false])
def f110 : Int × Int × Int -> Bool × List Un := fun (a0, a1, a2) => (true, [.b (bF a0 a1 a2)])
theorem Kc (a0 : Int) (a1 : Int) (a2 : Int) : ∃ m, t110 m (a0, a1, a2) = some ([.b (bF a0 a1 a2)]) := by
 unfold t110 bF IE; dsimp only [ge_iff_le]
 by_cases h : 0 <= a0 /\ a0 <= 1099511627776 /\ 0 <= a1 /\ a1 <= 1099511627776 /\ 0 <= a2 /\ a2 <= 100000
 . obtain ⟨h1, h2, h3, h4, h5, h6⟩ := h; have hm := Int.mul_le_mul h4 h6 h5 (show (0 : Int) <= 1099511627776 by omega); have hm0 := zaZ h3 h5; refine ⟨0, ?_⟩; rw [zad (show 0 <= a0 /\ a0 <= 1099511627776 /\ 0 <= a1 /\ a1 <= 1099511627776 /\ 0 <= a2 /\ a2 <= 100000 from ⟨h1, h2, h3, h4, h5, h6⟩)]; simp (disch := omega) only [TRa, aa, zba]
 . refine ⟨0, ?_⟩; rw [zaL h]
   by_cases h1 : 0 <= a0
   . by_cases h2 : a0 <= 1099511627776
     . by_cases h3 : 0 <= a1
       . by_cases h4 : a1 <= 1099511627776
         . by_cases h5 : 0 <= a2
           . simp [h1, h2, h3, h4, h5, show ¬ a2 <= 100000 by omega]
           . simp [h1, h2, h3, h4, h5]
         . simp [h1, h2, h3, h4]
       . simp [h1, h2, h3]
     . simp [h1, h2]
   . simp [h1]
theorem I2 : ER 110 (mkE Q5.en Q5.ex f110) := aq ak T85.right (fun m => []) (t := t110) (by kernel_rfl) (fun m => aA) (fun m a => by kernel_rfl) fun (a0, a1, a2) hc => Kc a0 a1 a2
def Oo : Tb Tryz.prog LQ TE XX := T85.add 110 _ I2
def Rj : aD := ⟨Oo.tab, 111, ⟨[.int .i64, .int .i64, .int .i64], [], 0⟩, ⟨[.bool], [], 0⟩, []⟩
def t111 (m : Nat) : Int × Int × Int -> Option (List Un) := fun (a0, a1, a2) =>
 bif decide (a0 >= 0) then
 bif (decide (a0 <= 1099511627776)) then
 bif decide (a1 >= 0) then
 bif (decide (a1 <= 1099511627776)) then
 bif decide (a2 >= 0) then
 bif decide (a2 <= 100000) then
 some ([.b (decide ((w64 (a0 * 10000)) <= (w64 (a1 * a2))))])
 else
 some ([.b false])
 else
 some ([.b false])
 else
 some ([.b false])
 else
 some ([.b false])
 else
 some ([.b false])
 else
 some ([.b false])
def f111 : Int × Int × Int -> Bool × List Un := fun (a0, a1, a2) => (true, [.b (bH a0 a1 a2)])
theorem KC (a0 : Int) (a1 : Int) (a2 : Int) : ∃ m, t111 m (a0, a1, a2) = some ([.b (bH a0 a1 a2)]) := by
 unfold t111 bH IE; dsimp only [ge_iff_le]
 by_cases h : 0 <= a0 /\ a0 <= 1099511627776 /\ 0 <= a1 /\ a1 <= 1099511627776 /\ 0 <= a2 /\ a2 <= 100000
 . obtain ⟨h1, h2, h3, h4, h5, h6⟩ := h; have hm := Int.mul_le_mul h4 h6 h5 (show (0 : Int) <= 1099511627776 by omega); have hm0 := zaZ h3 h5; refine ⟨0, ?_⟩; rw [zad (show 0 <= a0 /\ a0 <= 1099511627776 /\ 0 <= a1 /\ a1 <= 1099511627776 /\ 0 <= a2 /\ a2 <= 100000 from ⟨h1, h2, h3, h4, h5, h6⟩)]; simp (disch := omega) only [TRa, aa, zba]
 . refine ⟨0, ?_⟩; rw [zaL h]
   by_cases h1 : 0 <= a0
   . by_cases h2 : a0 <= 1099511627776
     . by_cases h3 : 0 <= a1
       . by_cases h4 : a1 <= 1099511627776
         . by_cases h5 : 0 <= a2
           . simp [h1, h2, h3, h4, h5, show ¬ a2 <= 100000 by omega]
           . simp [h1, h2, h3, h4, h5]
         . simp [h1, h2, h3, h4]
       . simp [h1, h2, h3]
     . simp [h1, h2]
   . simp [h1]
theorem Gc : ER 111 (mkE Rj.en Rj.ex f111) := aq ak Oo.right (fun m => []) (t := t111) (by kernel_rfl) (fun m => aA) (fun m a => by kernel_rfl) fun (a0, a1, a2) hc => KC a0 a1 a2
def Pm : Tb Tryz.prog LQ TE XX := Oo.add 111 _ Gc
def N51 : aD := ⟨Pm.tab, 51, ⟨[.agg [.int .i64, .int .i64, .int .i64, .int .i64, .int .i64], .agg [.int .i64, .int .i64, .int .i64, .int .i64, .int .i64, .int .i64, .int .i64]], [], 0⟩, ⟨[.agg [.bool, .bool, .bool, .bool]], [], 0⟩, []⟩
def t51 (m : Nat) : Int × Int × Int × Int × Int × Int × Int × Int × Int × Int × Int × Int -> Option (List Un) := fun (a0, a1, a2, a3, a4, a5, a6, a7, a8, a9, a10, a11) =>
 bif a0 == 0 then
 bif a1 == 0 then
 bif a2 == 0 then
 bif a3 == 0 then
 some ([.b true, .b true, .b true, .b true])
 else
 some ([.b true, .b true, .b true, .b (bH a11 a6 a3)])
 else
 bif a3 == 0 then
 some ([.b true, .b true, .b (bH a10 a5 a2), .b true])
 else
 some ([.b true, .b true, .b (bH a10 a5 a2), .b (bH a11 a6 a3)])
 else
 bif a2 == 0 then
 bif a3 == 0 then
 some ([.b true, .b (bF a8 a9 a1), .b true, .b true])
 else
 some ([.b true, .b (bF a8 a9 a1), .b true, .b (bH a11 a6 a3)])
 else
 bif a3 == 0 then
 some ([.b true, .b (bF a8 a9 a1), .b (bH a10 a5 a2), .b true])
 else
 some ([.b true, .b (bF a8 a9 a1), .b (bH a10 a5 a2), .b (bH a11 a6 a3)])
 else
 bif a1 == 0 then
 bif a2 == 0 then
 bif a3 == 0 then
 some ([.b (bF a5 a7 a0), .b true, .b true, .b true])
 else
 some ([.b (bF a5 a7 a0), .b true, .b true, .b (bH a11 a6 a3)])
 else
 bif a3 == 0 then
 some ([.b (bF a5 a7 a0), .b true, .b (bH a10 a5 a2), .b true])
 else
 some ([.b (bF a5 a7 a0), .b true, .b (bH a10 a5 a2), .b (bH a11 a6 a3)])
 else
 bif a2 == 0 then
 bif a3 == 0 then
 some ([.b (bF a5 a7 a0), .b (bF a8 a9 a1), .b true, .b true])
 else
 some ([.b (bF a5 a7 a0), .b (bF a8 a9 a1), .b true, .b (bH a11 a6 a3)])
 else
 bif a3 == 0 then
 some ([.b (bF a5 a7 a0), .b (bF a8 a9 a1), .b (bH a10 a5 a2), .b true])
 else
 some ([.b (bF a5 a7 a0), .b (bF a8 a9 a1), .b (bH a10 a5 a2), .b (bH a11 a6 a3)])
def f51 : Int × Int × Int × Int × Int × Int × Int × Int × Int × Int × Int × Int -> Bool × List Un := fun (a0, a1, a2, a3, a4, a5, a6, a7, a8, a9, a10, a11) => (true, [.b ((a0 == 0 || bF a5 a7 a0)), .b ((a1 == 0 || bF a8 a9 a1)), .b ((a2 == 0 || bH a10 a5 a2)), .b ((a3 == 0 || bH a11 a6 a3))])
theorem Ny (a0 : Int) (a1 : Int) (a2 : Int) (a3 : Int) (a4 : Int) (a5 : Int) (a6 : Int) (a7 : Int) (a8 : Int) (a9 : Int) (a10 : Int) (a11 : Int) : ∃ m, t51 m (a0, a1, a2, a3, a4, a5, a6, a7, a8, a9, a10, a11) = some ([.b ((a0 == 0 || bF a5 a7 a0)), .b ((a1 == 0 || bF a8 a9 a1)), .b ((a2 == 0 || bH a10 a5 a2)), .b ((a3 == 0 || bH a11 a6 a3))]) := by
 refine ⟨0, ?_⟩; unfold t51; dsimp only; cases a0 == 0 <;> cases a1 == 0 <;> cases a2 == 0 <;> cases a3 == 0 <;> rfl
theorem Mn : ER 51 (mkE N51.en N51.ex f51) := aq ak Pm.right (fun m => []) (t := t51) (by kernel_rfl) (fun m => aA) (fun m a => by kernel_rfl) fun (a0, a1, a2, a3, a4, a5, a6, a7, a8, a9, a10, a11) hc => Ny a0 a1 a2 a3 a4 a5 a6 a7 a8 a9 a10 a11
def T51 : Tb Tryz.prog LQ TE XX := Pm.add 51 _ Mn
def N86 : aD := ⟨T51.tab, 86, ⟨[.agg [.int .i64, .int .i64, .int .i64, .int .i64, .int .i64], .agg [.int .i64, .int .i64, .int .i64, .int .i64, .int .i64, .int .i64, .int .i64]], [], 0⟩, ⟨[.bool], [], 0⟩, []⟩
def t86 (m : Nat) : Int × Int × Int × Int × Int × Int × Int × Int × Int × Int × Int × Int -> Option (List Un) := fun (a0, a1, a2, a3, a4, a5, a6, a7, a8, a9, a10, a11) =>
 bif a4 != 0 then
 some ([.b (bH a5 a6 a4)])
 else
 some ([.b false])
def f86 : Int × Int × Int × Int × Int × Int × Int × Int × Int × Int × Int × Int -> Bool × List Un := fun (a0, a1, a2, a3, a4, a5, a6, a7, a8, a9, a10, a11) => (true, [.b ((a4 != 0 && bH a5 a6 a4))])
theorem PH (a0 : Int) (a1 : Int) (a2 : Int) (a3 : Int) (a4 : Int) (a5 : Int) (a6 : Int) (a7 : Int) (a8 : Int) (a9 : Int) (a10 : Int) (a11 : Int) : ∃ m, t86 m (a0, a1, a2, a3, a4, a5, a6, a7, a8, a9, a10, a11) = some ([.b ((a4 != 0 && bH a5 a6 a4))]) := by
 refine ⟨0, ?_⟩; unfold t86; dsimp only; cases a4 != 0 <;> rfl
theorem LK : ER 86 (mkE N86.en N86.ex f86) := aq ak T51.right (fun m => []) (t := t86) (by kernel_rfl) (fun m => aA) (fun m a => by kernel_rfl) fun (a0, a1, a2, a3, a4, a5, a6, a7, a8, a9, a10, a11) hc => PH a0 a1 a2 a3 a4 a5 a6 a7 a8 a9 a10 a11
def T86 : Tb Tryz.prog LQ TE XX := T51.add 86 _ LK
def fX (need has : Int) : Int := max (min (max need 0) has) 0
def CM (need has may : Int) : Int := max (min (max need 0 - fX need has) may) 0
def N44 : aD := ⟨T86.tab, 44, ⟨[.int .i64, .np 0 0 20, .int .i64, .int .i64], br 0, 0⟩, ⟨[.int .i64, .int .i64], br 0, 0⟩, []⟩
def t44 (m : Nat) : Int × Int × Int × Int × ao × an × ah × List Dat × List Dat × List Dat × List Dat × List Dat × List Dat × List Dat -> Option (List Un) := fun (a0, a1, a2, a3, a4, a5, a6, a7, a8, a9, a10, a11, a12, a13) =>
 lt ((if a0 < 0 then 0 else a0) : Int) fun x1 =>
 bif (!((decide (a1 < 0)) && true)) then
 chk (decide (0 <= a1)) <|
 lt ((w64 (a6.rin - a6.aG)) : Int) fun x3 =>
 lt ((if x3 < x1 then x3 else x1) : Int) fun x4 =>
 lt ((if x4 < 0 then 0 else x4) : Int) fun x5 =>
 chk (decide (0 <= a1)) <|
 chk (decide (0 <= a1)) <|
 lt ((if (w64 (a3 - a2)) < (w64 (x1 - x5)) then (w64 (a3 - a2)) else (w64 (x1 - x5))) : Int) fun x6 =>
 some ([.i x5, .i (if x6 < 0 then 0 else x6)] ++ Uns.enc (a4 : ao) ++ Uns.enc (a5 : an) ++ Uns.enc (({ a6 with aG := (w64 (a6.aG + x5)) } : ah) : ah) ++ [.d a7, .d a8, .d a9, .d a10, .d a11, .d a12, .d a13])
 else
 lt ((if (w64 (a3 - a2)) < (w64 (x1 - 0)) then (w64 (a3 - a2)) else (w64 (x1 - 0))) : Int) fun x8 =>
 some ([.i 0, .i (if x8 < 0 then 0 else x8)] ++ Uns.enc (a4 : ao) ++ Uns.enc (a5 : an) ++ Uns.enc (a6 : ah) ++ [.d a7, .d a8, .d a9, .d a10, .d a11, .d a12, .d a13])
def f44 : Int × Int × Int × Int × ao × an × ah × List Dat × List Dat × List Dat × List Dat × List Dat × List Dat × List Dat -> Bool × List Un := fun (a0, a1, a2, a3, a4, a5, a6, a7, a8, a9, a10, a11, a12, a13) => (decide (0 <= a1) && decide ((-1152921504606846976 <= a0 /\ a0 <= 1152921504606846976) /\ ((0 : Int) <= a6.aG /\ a6.aG <= a6.rin /\ a6.rin <= (1152921504606846976 : Int)) /\ (0 <= a2 /\ a2 <= 1152921504606846976) /\ (0 <= a3 /\ a3 <= 1152921504606846976)), [.i (fX a0 (a6.rin - a6.aG)), .i (CM a0 (a6.rin - a6.aG) (a3 - a2))] ++ Uns.enc ((a4) : ao) ++ Uns.enc ((a5) : an) ++ Uns.enc (({ a6 with aG := a6.aG + fX a0 (a6.rin - a6.aG) }) : ah) ++ [.d (a7), .d (a8), .d (a9), .d (a10), .d (a11), .d (a12), .d (a13)])
theorem Of (a0 : Int) (a1 : Int) (a2 : Int) (a3 : Int) (a4 : ao) (a5 : an) (a6 : ah) (a7 : List Dat) (a8 : List Dat) (a9 : List Dat) (a10 : List Dat) (a11 : List Dat) (a12 : List Dat) (a13 : List Dat) (hc : (decide (0 <= a1) && decide ((-1152921504606846976 <= a0 /\ a0 <= 1152921504606846976) /\ ((0 : Int) <= a6.aG /\ a6.aG <= a6.rin /\ a6.rin <= (1152921504606846976 : Int)) /\ (0 <= a2 /\ a2 <= 1152921504606846976) /\ (0 <= a3 /\ a3 <= 1152921504606846976))) = true) : ∃ m, t44 m (a0, a1, a2, a3, a4, a5, a6, a7, a8, a9, a10, a11, a12, a13) = some ([.i (fX a0 (a6.rin - a6.aG)), .i (CM a0 (a6.rin - a6.aG) (a3 - a2))] ++ Uns.enc ((a4) : ao) ++ Uns.enc ((a5) : an) ++ Uns.enc (({ a6 with aG := a6.aG + fX a0 (a6.rin - a6.aG) }) : ah) ++ [.d (a7), .d (a8), .d (a9), .d (a10), .d (a11), .d (a12), .d (a13)]) := by
 simp only [zab, zac] at hc; obtain ⟨h0, ⟨h1, h2⟩, ⟨h3, h4, h5⟩, ⟨h6, h7⟩, h8, h9⟩ := hc; refine ⟨0, ?_⟩; unfold t44; dsimp only; simp only [za6, lt_eq, zaL (show ¬ a1 < 0 by omega), Bool.not_false, zaG, zad h0, iZ]; rw [aa (n := a6.rin - a6.aG) (by omega) (by omega), aa (n := a3 - a2) (by omega) (by omega)]; have e : (if (if a6.rin - a6.aG < (if a0 < 0 then 0 else a0) then a6.rin - a6.aG else (if a0 < 0 then 0 else a0)) < 0 then 0 else (if a6.rin - a6.aG < (if a0 < 0 then 0 else a0) then a6.rin - a6.aG else (if a0 < 0 then 0 else a0))) = fX a0 (a6.rin - a6.aG) := by unfold fX; omega
 have hd : 0 <= fX a0 (a6.rin - a6.aG) /\ fX a0 (a6.rin - a6.aG) <= 1152921504606846976 /\ fX a0 (a6.rin - a6.aG) <= max a0 0 /\ fX a0 (a6.rin - a6.aG) <= a6.rin - a6.aG := by unfold fX; omega
 rw [e, show (if a0 < 0 then 0 else a0) = max a0 0 by omega, aa (n := max a0 0 - _) (by omega) (by omega), aa (n := a6.aG + _) (by omega) (by omega)]; rw [show (if (if a3 - a2 < max a0 0 - fX a0 (a6.rin - a6.aG) then a3 - a2 else max a0 0 - fX a0 (a6.rin - a6.aG)) < 0 then 0 else (if a3 - a2 < max a0 0 - fX a0 (a6.rin - a6.aG) then a3 - a2 else max a0 0 - fX a0 (a6.rin - a6.aG))) = CM a0 (a6.rin - a6.aG) (a3 - a2) by unfold CM; omega]
theorem Kn : ER 44 (mkE N44.en N44.ex f44) := aq ak T86.right (fun m => []) (t := t44) (by kernel_rfl) (fun m => aA) (fun m a => by kernel_rfl) fun (a0, a1, a2, a3, a4, a5, a6, a7, a8, a9, a10, a11, a12, a13) hc => Of a0 a1 a2 a3 a4 a5 a6 a7 a8 a9 a10 a11 a12 a13 hc
def T44 : Tb Tryz.prog LQ TE XX := T86.add 44 _ Kn
def fE (d : aP) (m : Int) : List Dat := if m = 0 then d.s0 else if m = 1 then d.s1 else if m = 2 then d.s2 else []
def N47 : aD := ⟨T44.tab, 47, ⟨[.agg [.int .i64, .int .i64, .int .i64, .ag (sI 2), .ag (sI 3), .int .i64, .int .i64, .int .i64, .int .i64, .int .i64, .int .i64, .int .i64, .int .i64, .int .i64, .int .i64, .ag (sI 2), .ag (sI 2), .ag (sI 2)], .agg [.int .i64, .int .i64]], [], 0⟩, ⟨[.buf 0 2], [.ag (sI 2)], 0⟩, []⟩
def t47 (m : Nat) : aP × Int × Int -> Option (List Un) := fun (a0, a1, a2) =>
 bif decide (a1 < 0) then
 some ([.d ([])])
 else
 bif decide (a1 >= 3) then
 some ([.d ([])])
 else
 chk (inb a1 3) <|
 chk (decide (a1.toNat < 3)) <|
 chk (decide ((List.getD [a0.s0, a0.s1, a0.s2] a1.toNat []).length < 1000000)) <|
 some ([.d (List.getD [a0.s0, a0.s1, a0.s2] a1.toNat [])])
def f47 : aP × Int × Int -> Bool × List Un := fun (a0, a1, a2) => (decide (a0.s0.length < 1000000 /\ a0.s1.length < 1000000 /\ a0.s2.length < 1000000), [.d (fE a0 a1)])
theorem NT (a0 : aP) (a1 : Int) (a2 : Int) (hc : (decide (a0.s0.length < 1000000 /\ a0.s1.length < 1000000 /\ a0.s2.length < 1000000)) = true) : ∃ m, t47 m (a0, a1, a2) = some ([.d (fE a0 a1)]) := by
 obtain ⟨h1, h2, h3⟩ := zak hc; refine ⟨0, ?_⟩; unfold t47 fE; dsimp only
 by_cases c0 : a1 < 0
 . rw [bz c0, if_neg (by omega), if_neg (by omega), if_neg (by omega)]
 by_cases c3 : a1 >= 3
 . rw [aB c0, bz c3, if_neg (by omega), if_neg (by omega), if_neg (by omega)]
 rw [aB c0, aB c3, jh (by omega) (by omega), aV (by omega)]; obtain rfl | rfl | rfl : a1 = 0 \/ a1 = 1 \/ a1 = 2 := by omega
 . exact (aV h1).trans rfl
 . exact (aV h2).trans rfl
 . exact (aV h3).trans rfl
theorem L6 : ER 47 (mkE N47.en N47.ex f47) := aq ak T44.right (fun m => []) (t := t47) (by kernel_rfl) (fun m => aA) (fun m a => by kernel_rfl) fun (a0, a1, a2) hc => NT a0 a1 a2 hc
def T47 : Tb Tryz.prog LQ TE XX := T44.add 47 _ L6
def gm (d : Dat) : Prop := 0 <= d.i 1 /\ 0 <= d.i 2 /\ d.i 1 + d.i 2 <= 1099511627776 /\ (0 <= d.i 3 /\ d.i 3 <= 12) /\ (d.b 4 = true -> d.i 1 = 0) /\ (d.b 4 = false -> d.i 2 = 0)
theorem BZ {p q r s l : Int} (h : gL p q r s l = true) : (0 <= p /\ p <= 1099511627776) /\ (0 <= q /\ q <= 1099511627776) /\ (0 <= r /\ r <= 1099511627776) /\ (0 <= s /\ s <= 1099511627776) /\ 0 <= l /\ l <= 12 := by
 simp only [gL, zab, zac] at h; omega
theorem G8 {x d : Dat} (hx : gm x) (hl : gL (d.i 1) (d.i 2) (d.i 3) (d.i 4) (d.i 5) = true) (hm : wM x d = true) : gm (j8 x d) /\ (j8 x d).i 1 = x.i 1 - (d.i 1 + d.i 2) - fT (x.i 1) (d.i 1) (d.i 2) (d.b 6) /\ (j8 x d).i 2 = x.i 2 + fT (x.i 1) (d.i 1) (d.i 2) (d.b 6) - d.i 4 /\
 0 <= fT (x.i 1) (d.i 1) (d.i 2) (d.b 6) /\ d.i 1 + d.i 2 + fT (x.i 1) (d.i 1) (d.i 2) (d.b 6) <= x.i 1 /\ d.i 4 <= x.i 2 + fT (x.i 1) (d.i 1) (d.i 2) (d.b 6) := by
 obtain ⟨x1, x2, x3, x4, x5, x6⟩ := hx; have l := BZ hl; have e1 : (j8 x d).i 1 = oY (x.i 1) (d.i 1) (d.i 2) (d.b 6) := rfl; have e2 : (j8 x d).i 2 = oA (x.i 1) (x.i 2) (d.i 1) (d.i 2) (d.i 4) (d.b 6) := rfl; have e3 : (j8 x d).i 3 = oM (x.i 1) (x.b 4) (d.i 1) (d.i 2) (d.i 5) (d.b 6) := rfl; have e4 : (j8 x d).b 4 = (d.b 6 || x.b 4) := FE _; unfold gm; rw [e1, e2, e3, e4]; unfold wM qC at hm; unfold oY oA oM fT; generalize d.i 1 = p at *
 generalize d.i 2 = q at *
 generalize d.i 3 = r at *
 generalize d.i 4 = s at *
 generalize d.i 5 = t at *
 generalize x.i 1 = b at *
 generalize x.i 2 = o at *
 clear e1 e2 e3 e4 hl; cases hb : x.b 4
 . have := x6 hb; simp only [hb, zap, show w64 (b - p) = b - p from aa (by omega) (by omega), show w64 (b - p - q) = b - p - q from aa (by omega) (by omega)] at hm; simp only [show w64 (p + q) = p + q from aa (by omega) (by omega), show w64 (b - (p + q)) = b - (p + q) from aa (by omega) (by omega)]
   by_cases hn : b - p - q < 0
   . rw [zad hn] at hm; cases hm
   rw [zaL hn, zap] at hm; cases hd : d.b 6
   . simp only [hd, zap, zaE] at hm; subst hm; simp only [zap, Bool.or_self, zbo, zbG, show w64 o = o from aa (by omega) (by omega)]; have hz : 0 <= (bif b - (p + q) == 0 then 0 else t) /\ (bif b - (p + q) == 0 then 0 else t) <= 12 := by cases (b - (p + q) == 0) <;> simp only [zaG, zap] <;> omega
     and_intros <;> first | trivial | omega | (intro h; cases h; done) | (intro _; omega)
   . simp only [hd, zaG, show w64 (o + (b - p - q)) = o + (b - p - q) from aa (by omega) (by omega)] at hm; have hr : s <= o + (b - p - q) := by
      by_cases hs : s <= o + (b - p - q)
      . exact hs
      . rw [zaL hs, zap, zaE] at hm; omega
     simp only [zaG, Bool.or_false, show w64 (o + (b - (p + q))) = o + (b - (p + q)) from aa (by omega) (by omega), show w64 (o + (b - (p + q)) - s) = o + (b - (p + q)) - s from aa (by omega) (by omega)]
     and_intros <;> first | trivial | omega | (intro h; cases h; done) | (intro _; omega)
 . have := x5 hb; subst this; rw [hb] at hm; simp only [zaG, zab, zaE, Bool.not_eq_true', zac] at hm; obtain ⟨rfl, rfl, h3, h4, h5, h6⟩ := hm; rw [h5]; simp only [zaG, zap, Bool.false_or, show w64 0 = 0 by decide, zbo, zbG, show w64 (o - s) = o - s from aa (by omega) (by omega)]
   and_intros <;> first | trivial | omega | (intro h; cases h; done) | (intro _; omega)
theorem oT {β : Type} (f : Dat -> β) (y : Dat) : ∀ (l : List Dat) (j : Nat), j < l.length -> f y = f (ae l j) -> (l.set j y).map f = l.map f
 | [], j, h, _ => by simp at h
 | d :: l, 0, _, h => by simp only [List.set_cons_zero, zaX, h]; rfl
 | d :: l, j + 1, h, hy => by simp only [zbP, zaX, oT f y l j (by simpa using h) hy]
theorem gf {l : List Dat} (h : ∀ d ∈ l, gm d) : 0 <= af 1 l /\ 0 <= af 2 l := ⟨fg 1 l fun d hd => (h d hd).1, fg 2 l fun d hd => (h d hd).2.1⟩
theorem xC : ∀ (t l : List Dat) (last p q s r : Int) (x : H9), (∀ d ∈ l, gm d) -> fZ last t = true -> cU l p q s r t = some x -> af 1 l + af 2 l <= 1099511627776 -> (0 <= p /\ p + af 1 l <= 4398046511104) -> (0 <= s /\ s + af 1 l <= 4398046511104) -> (0 <= r /\ r + af 1 l + af 2 l <= 4398046511104) -> (0 <= q /\ q + 1099511627776 * t.length <= 1125899906842624) ->
 (∀ d ∈ x.ax, gm d) /\ x.ax.map (fun d => d.i 0) = l.map (fun d => d.i 0) /\ af 1 x.ax = af 1 l - (x.p - p) - (x.l - s) /\ af 2 x.ax = af 2 l + (x.l - s) - (x.r - r) /\ p <= x.p /\ s <= x.l /\ r <= x.r /\ (q <= x.q /\ x.q <= q + 1099511627776 * t.length) /\ x.e = 0
 | [], l, last, p, q, s, r, x, hl, ht, h, b1, b2, b3, b4, b5 => by
  simp only [cU, zaj] at h; subst h; exact ⟨hl, rfl, by simp, by simp, by simp, by simp, by simp, by simp, rfl⟩
 | d :: t, l, last, p, q, s, r, x, hl, ht, h, b1, b2, b3, b4, b5 => by
  simp only [fZ] at ht
  split at ht
  . cases ht
  . split at ht
    . rename_i hT; unfold cU at h
      split at h
      . cases h
      . rename_i hi
        split at h
        . rename_i hm; rcases s8 (d.i 0) l 0 with hj | ⟨hj1, hj2⟩
          . omega
          . have hj : (eu (d.i 0) 0 l).toNat < l.length := by omega
            generalize (eu (d.i 0) 0 l).toNat = j at *
            obtain ⟨r1, r2, r3, r4, r5, r6⟩ := G8 (hl _ (m8 hj)) hT hm; have lt := BZ hT; have s1 := mK 1 (j8 (ae l j) d) l j hj; have s2 := mK 2 (j8 (ae l j) d) l j hj; have hl' := D0 (p := gm) (j := j) hl r1; obtain ⟨n1, n2⟩ := gf hl; obtain ⟨n3, n4⟩ := gf hl'; rw [r2] at s1; rw [r3] at s2; simp only [zaf, zas, zaa] at b5; generalize fT ((ae l j).i 1) (d.i 1) (d.i 2) (d.b 6) = z at *
            rw [show w64 (d.i 1 + d.i 2) = d.i 1 + d.i 2 from aa (by omega) (by omega), show w64 (p + (d.i 1 + d.i 2)) = p + (d.i 1 + d.i 2) from aa (by omega) (by omega), show w64 (q + d.i 3) = q + d.i 3 from aa (by omega) (by omega), show w64 (s + z) = s + z from aa (by omega) (by omega), show w64 (r + d.i 4) = r + d.i 4 from aa (by omega) (by omega)] at h; obtain ⟨c1, c2, c3, c4, c5, c6, c7, c8, c9⟩ := xC t _ _ _ _ _ _ x hl' ht h (by omega) (by omega) (by omega) (by omega) (by omega); refine ⟨c1, c2.trans (oT _ _ _ _ hj rfl), by omega, by omega, by omega, by omega, by omega, ?_, c9⟩; simp only [zaf, zas, zaa]; omega
        . cases h
    . cases ht
theorem FK {t l : List Dat} (hl : ∀ d ∈ l, gm d) (b : af 1 l + af 2 l <= 1099511627776) (he : (av t l).e = 0) :
 (∀ d ∈ (av t l).ax, gm d) /\ (av t l).ax.map (fun d => d.i 0) = l.map (fun d => d.i 0) /\ af 1 (av t l).ax = af 1 l - (av t l).p - (av t l).l /\ af 2 (av t l).ax = af 2 l + (av t l).l - (av t l).r /\
 0 <= (av t l).p /\ 0 <= (av t l).l /\ 0 <= (av t l).r /\ 0 <= (av t l).q /\ (av t l).q <= 70368744177664 := by
 unfold av at he ⊢
 split at he
 . rename_i ht; rw [if_pos ht]; simp only [kC, zab, zac] at ht; cases hx : cU l 0 0 0 0 t with
   | none => rw [hx] at he; cases he
   | some x =>
    obtain ⟨n1, n2⟩ := gf hl; obtain ⟨c1, c2, c3, c4, c5, c6, c7, c8, c9⟩ := xC t l 0 0 0 0 0 x hl ht.2 hx b (by omega) (by omega) (by omega) (by omega); simp only [zby]; exact ⟨c1, c2, by omega, by omega, c5, c6, c7, c8.1, by omega⟩
 . cases he
theorem ng (f : Dat -> Bool) : ∀ l : List Dat, (∀ d ∈ l, 0 <= d.i 3) -> 0 <= aU f l
 | [], _ => zb8 0
 | d :: l, h => by
  have := h d (by simp); have := ng f l fun x hx => h x (by simp [hx])
  simp only [aU]; cases f d <;> simp only [zaG, zap] <;> omega
def pM (d e : Dat) (b s : Int) : Prop := e.i 0 = d.i 0 /\ e.i 1 = d.i 1 /\ e.i 2 = d.i 2 /\ e.i 3 = d.i 3 + b /\ e.i 4 = d.i 4 /\ e.i 5 = d.i 5 - s /\ e.i 6 = d.i 6
def amt (f : Dat -> Bool) (d : Dat) : Int := bif f d then d.i 3 else 0
theorem dP (f : Dat -> Bool) (d : Dat) (l : List Dat) : aU f (d :: l) = amt f d + aU f l := rfl
theorem IU {n : ah} {x : Dat} {c : List Dat} (h3 : 0 <= x.i 3) (hk : (x.i 1 = 1 \/ x.i 1 = 2 \/ x.i 1 = 6) \/ (0 <= x.i 2 /\ x.i 2 < (c.length : Int))) (hb : ∀ i, i < c.length -> amt (toB i) x <= aK (ae c i) /\ amt (toI i) x <= (ae c i).i 5) :
 jg n x = { n with fee := n.fee - amt kF x, out := n.out - amt kR x, rin := n.rin + amt kT x } /\ ∀ i, i < c.length -> pM (ae c i) (ae (lg c x) i) (amt (toB i) x) (amt (toI i) x) := by
 have zero : ∀ i, kI x = false -> kB x = false -> pM (ae c i) (ae c i) (amt (toB i) x) (amt (toI i) x) := fun i h1 h2 => by
  simp only [amt, toB, toI, h1, h2, zbH, zap]; exact ⟨rfl, rfl, rfl, by omega, rfl, by omega, rfl⟩
 unfold jg lg
 by_cases h1 : x.i 1 = 1
 . have a1 : kF x = true := by simp [kF, h1]
   have a2 : kR x = false := by simp [kR, h1]
   have a3 : kT x = false := by simp [kT, h1]
   have a4 : kI x = false := by simp [kI, h1]
   have a5 : kB x = false := by simp [kB, a1]
   rw [if_pos h1, if_pos h1]; refine ⟨?_, fun i hi => zero i a4 a5⟩; simp only [amt, a1, a2, a3, zaG, zap, zbo, zbG]
 rw [if_neg h1, if_neg h1]; have a1 : kF x = false := mT h1
 by_cases h2 : x.i 1 = 2
 . have a2 : kR x = true := by simp [kR, h2]
   have a3 : kT x = false := by simp [kT, h2]
   have a4 : kI x = false := by simp [kI, h2]
   have a5 : kB x = false := by simp [kB, a2]
   rw [if_pos h2, if_pos h2]; refine ⟨?_, fun i hi => zero i a4 a5⟩; simp only [amt, a1, a2, a3, zaG, zap, zbo, zbG]
 rw [if_neg h2, if_neg h2]; have a2 : kR x = false := mT h2
 by_cases h6 : x.i 1 = 6
 . have a3 : kT x = true := by simp [kT, h6]
   have a4 : kI x = false := by simp [kI, h6]
   have a5 : kB x = false := by simp [kB, a3]
   rw [if_pos h6, if_pos h6]; refine ⟨?_, fun i hi => zero i a4 a5⟩; simp only [amt, a1, a2, a3, zaG, zap, zbo, zbG]
 rw [if_neg h6, if_neg h6]; have a3 : kT x = false := mT h6; refine ⟨by simp only [amt, a1, a2, a3, zap, zbo, zbG], fun i hi => ?_⟩; have hj : (x.i 2).toNat < c.length := by omega
 have hx2 : x.i 2 = ((x.i 2).toNat : Int) := by omega
 generalize (x.i 2).toNat = j at *
 have hbj := hb j hj
 by_cases h3' : x.i 1 = 3
 . have a4 : kI x = true := by simp [kI, h3']
   have a5 : kB x = false := by simp [kB, a4]
   rw [if_pos h3']; simp only [amt, toB, toI, a4, a5, zbH, zba, zap, hx2] at hbj ⊢
   by_cases hij : i = j
   . subst hij; rw [beq_self_eq_true, zaG] at hbj ⊢; rw [vB hj]; refine ⟨rfl, rfl, rfl, by simp only [nI, fu]; omega, rfl, ?_, rfl⟩; simp only [nI, og, B4]; omega
   . rw [show ((j : Int) == (i : Int)) = false from mT (by omega), zap, mP hij]; exact ⟨rfl, rfl, rfl, by omega, rfl, by omega, rfl⟩
 . have a4 : kI x = false := mT h3'; have a5 : kB x = true := by simp [kB, a1, a2, a3, a4]
   rw [if_neg h3']; simp only [amt, toB, toI, a4, a5, zbH, zba, zap, hx2] at hbj ⊢
   by_cases hij : i = j
   . subst hij; rw [beq_self_eq_true, zaG] at hbj ⊢; rw [vB hj]; refine ⟨rfl, rfl, rfl, ?_, rfl, by simp only [sE, og]; omega, rfl⟩; simp only [sE, fu, mA]; omega
   . rw [show ((j : Int) == (i : Int)) = false from mT (by omega), zap, mP hij]; exact ⟨rfl, rfl, rfl, by omega, rfl, by omega, rfl⟩
theorem qo : ∀ (p : List Dat) (n : ah) (c : List Dat), (∀ d ∈ p, 0 <= d.i 3) -> (∀ d ∈ p, (d.i 1 = 1 \/ d.i 1 = 2 \/ d.i 1 = 6) \/ (0 <= d.i 2 /\ d.i 2 < (c.length : Int))) -> (∀ i, i < c.length -> aU (toB i) p <= aK (ae c i) /\ aU (toI i) p <= (ae c i).i 5) ->
 (cJ p n c).1 = { n with fee := n.fee - aU kF p, out := n.out - aU kR p, rin := n.rin + aU kT p } /\ (cJ p n c).2.length = c.length /\ ∀ i, i < c.length -> pM (ae c i) (ae (cJ p n c).2 i) (aU (toB i) p) (aU (toI i) p)
 | [], n, c, _, _, _ => by
  refine ⟨by simp [cJ, aU], rfl, fun i hi => ⟨rfl, rfl, rfl, ?_, rfl, ?_, rfl⟩⟩ <;> simp [cJ, aU]
 | x :: p, n, c, h0, hk, hb => by
  have n0 := fun f => ng f p fun d hd => h0 d (zaQ _ hd)
  have hx0 := h0 x (by simp); have m0 : ∀ f, 0 <= amt f x := fun f => by unfold amt; cases f x <;> simp only [zaG, zap] <;> omega
  obtain ⟨o1, o2⟩ := IU (n := n) hx0 (hk x (by simp)) fun i hi => by
   have := hb i hi; rw [dP, dP] at this; have := n0 (toB i); have := n0 (toI i); omega
  have hl := xW c x; obtain ⟨i1, i2, i3⟩ := qo p (jg n x) (lg c x) (fun d hd => h0 d (zaQ _ hd)) (fun d hd => by rw [hl]; exact hk d (zaQ _ hd)) fun i hi => by
   rw [hl] at hi; have := hb i hi; rw [dP, dP] at this; obtain ⟨_, e1, _, e3, e4, e5, e6⟩ := o2 i hi; unfold aK at this ⊢; omega
  refine ⟨?_, i2.trans hl, fun i hi => ?_⟩
  . show (cJ p (jg n x) (lg c x)).1 = _; rw [i1, o1]; simp only [dP, Int.sub_sub, Int.add_assoc]
  . obtain ⟨e0, e1, e2, e3, e4, e5, e6⟩ := o2 i hi; obtain ⟨f0, f1, f2, f3, f4, f5, f6⟩ := i3 i (by rw [hl]; exact hi); rw [dP, dP]; exact ⟨f0.trans e0, f1.trans e1, f2.trans e2, by show (ae (cJ p (jg n x) (lg c x)).2 i).i 3 = _; omega, f4.trans e4, by show (ae (cJ p (jg n x) (lg c x)).2 i).i 5 = _; omega, f6.trans e6⟩
def gB (d e : Dat) : Prop := e.i 0 = d.i 0 /\ e.i 1 = d.i 1 /\ e.i 2 = d.i 2 /\ e.i 3 = d.i 3 /\ e.i 4 = d.i 4 /\ e.i 5 = d.i 5
theorem gB.refl (d : Dat) : gB d d := ⟨rfl, rfl, rfl, rfl, rfl, rfl⟩
theorem gB.trans {a b c : Dat} (h : gB a b) (k : gB b c) : gB a c := ⟨k.1.trans h.1, k.2.1.trans h.2.1, k.2.2.1.trans h.2.2.1, k.2.2.2.1.trans h.2.2.2.1, k.2.2.2.2.1.trans h.2.2.2.2.1, k.2.2.2.2.2.trans h.2.2.2.2.2⟩
structure eQ (c c' : List Dat) : Prop where
 len : c'.length = c.length
 row : ∀ i, i < c.length -> gB (ae c i) (ae c' i)
theorem eQ.refl (c : List Dat) : eQ c c := ⟨rfl, fun _ _ => .refl _⟩
theorem eQ.trans {a b c : List Dat} (h : eQ a b) (k : eQ b c) : eQ a c := ⟨k.len.trans h.len, fun i hi => (h.row i hi).trans (k.row i (by rw [h.len]; exact hi))⟩
theorem eQ.set {c : List Dat} {j : Nat} {y : Dat} (hj : j < c.length) (h : gB (ae c j) y) : eQ c (c.set j y) := ⟨zbg, fun i hi => by
 by_cases e : i = j
 . subst e; rw [vB hj]; exact h
 . rw [mP e]; exact .refl _⟩
theorem Bc (w : Int) (d : Dat) : gB d (dT w d) := ⟨rfl, rfl, rfl, rfl, rfl, rfl⟩
theorem Ds (w : Int) (d : Dat) : gB d (gh w d) := ⟨rfl, rfl, rfl, rfl, rfl, rfl⟩
theorem qn (f : Dat -> Int) : ∀ c : List Dat, (∀ d ∈ c, f d = 0) -> bn f c = 0
 | [], _ => rfl
 | d :: c, h => by simp only [bn, h d (by simp), qn f c fun x hx => h x (by simp [hx])]; rfl
theorem qT (j : Nat) : ∀ c : List Dat, (∀ d ∈ c, d.i j = 0) -> af j c = 0
 | [], _ => rfl
 | d :: c, h => by simp only [af, h d (by simp), qT j c fun x hx => h x (by simp [hx])]; rfl
theorem KF {c : List Dat} {j : Nat} {y : Dat} (hj : j < c.length) (h : gB (ae c j) y) : bn unD (c.set j y) = bn unD c := by
 obtain ⟨_, h1, _, h3, h4, _⟩ := h; rw [AS _ _ _ _ hj]; unfold unD; omega
theorem EC (t : Int) : ∀ (k : Nat) (c : List Dat), dv c -> wb t c < k -> dv (sD k t c) /\ eQ c (sD k t c) /\ (af 6 c <= t -> af 6 (sD k t c) = min t (bn unD c)) /\ (t <= af 6 c -> sD k t c = c)
 | 0, c, _, h => by omega
 | k + 1, c, hg, h => by
  have hu := fD c hg.2; unfold sD
  by_cases hs : af 6 c < t
  . rw [if_pos hs]
    by_cases hj : fQ c c.length 0 (-1) < 0
    . rw [if_pos hj]; refine ⟨hg, .refl c, fun _ => ?_, fun _ => rfl⟩; have h0 := ((tc c c.length 0 (-1) (by omega) (.inl (by omega))).1 hj).2; have : bn aK c = 0 := qn _ _ fun d hd => by
       obtain ⟨i, hi, rfl⟩ := gp hd; have := h0 i (by omega) hi; have := (Bw (bV hi hg.2)).1; omega
      omega
    . rw [if_neg hj]; obtain ⟨a1, a2, a3, a4⟩ := ML hg hs (by omega); have hw := Bc (t - af 6 c) (ae c (fQ c c.length 0 (-1)).toNat); have hun := KF a1 hw; have has := eQ.set a1 hw; generalize c.set (fQ c c.length 0 (-1)).toNat (dT (t - af 6 c) (ae c (fQ c c.length 0 (-1)).toNat)) = c' at *
      obtain ⟨b1, b2, b3, b4⟩ := EC t k c' a2 (by omega); exact ⟨b1, has.trans b2, fun _ => by rw [b3 a4, hun], fun _ => by omega⟩
  . rw [if_neg hs]; exact ⟨hg, .refl c, fun _ => by omega, fun _ => rfl⟩
theorem EA (t : Int) (h0 : 0 <= t) : ∀ (k : Nat) (c : List Dat), dv c -> tX t c < k -> dv (qm k t c) /\ eQ c (qm k t c) /\ (t <= af 6 c -> af 6 (qm k t c) = t) /\ (af 6 c <= t -> qm k t c = c)
 | 0, c, _, h => by omega
 | k + 1, c, hg, h => by
  have hu := fD c hg.2; unfold qm
  by_cases hs : t < af 6 c
  . rw [if_pos hs]
    by_cases hj : fK c c.length 0 (-1) < 0
    . have h0 := ((sL c c.length 0 (-1) (by omega) (.inl (by omega))).1 hj).2; have : af 6 c = 0 := qT _ _ fun d hd => by
       obtain ⟨i, hi, rfl⟩ := gp hd; have := h0 i (by omega) hi; have := (bW (bV hi hg.2)).2.2.2.2.1; omega
      omega
    . rw [if_neg hj]; obtain ⟨a1, a2, a3, a4⟩ := MC hg hs (by omega); have has := eQ.set a1 (Ds (af 6 c - t) (ae c (fK c c.length 0 (-1)).toNat)); generalize c.set (fK c c.length 0 (-1)).toNat (gh (af 6 c - t) (ae c (fK c c.length 0 (-1)).toNat)) = c' at *
      obtain ⟨b1, b2, b3, b4⟩ := EA t h0 k c' a2 (by omega); exact ⟨b1, has.trans b2, fun _ => b3 a4, fun _ => by omega⟩
  . rw [if_neg hs]; exact ⟨hg, .refl c, fun _ => by omega, fun _ => rfl⟩
theorem FX {t : Int} {c : List Dat} (hg : dv c) (h0 : 0 <= t) (h1 : t <= bn unD c) : dv (fR t c) /\ eQ c (fR t c) /\ af 6 (fR t c) = t := by
 obtain ⟨a1, a2, a3, a4⟩ := EC t (c.length + 2) c hg (Cf t c); unfold fR; rw [show max t 0 = t by omega]; obtain ⟨b1, b2, b3, b4⟩ := EA t h0 (c.length + 2) (sD (c.length + 2) t c) a1 (by have := B5 t (sD (c.length + 2) t c); rwa [a2.len] at this); refine ⟨b1, a2.trans b2, ?_⟩
 by_cases hs : af 6 c <= t
 . have := a3 hs; rw [b4 (by omega)]; omega
 . rw [a4 (by omega)] at b3 ⊢; exact b3 (by omega)
structure Rf (d : aP) : Prop where
 year : 1 <= d.a.year /\ d.a.year <= 9000
 month : 1 <= d.a.month /\ d.a.month <= 12
 basis : 0 <= d.a.basis /\ d.a.basis <= 2
 fee : 0 <= d.b.fee /\ d.b.fee <= 5000
 bU : 0 <= d.b.bU /\ d.b.bU <= 1099511627776
 target : 0 <= d.b.target /\ d.b.target <= 10000
 advance : 0 <= d.b.advance /\ d.b.advance <= 1099511627776
 et : 0 <= d.b.et /\ d.b.et <= 600
 oc : 0 <= d.b.oc /\ d.b.oc <= 100000
 ic : 0 <= d.b.ic /\ d.b.ic <= 100000
 late : 0 <= d.b.late /\ d.b.late <= 100000
 kV : 0 <= d.b.kV /\ d.b.kV <= 100000
 clean : 0 <= d.b.clean /\ d.b.clean <= 100000
 NV : ((bu d).getD (0, 0)).1 = af 1 d.aC
 ax : 0 <= af 1 d.aC /\ af 1 d.aC <= 1099511627776
 Rh : 1 <= d.aC.length /\ d.aC.length <= 64
 sF : ∀ x ∈ d.aC, 0 <= x.i 1 /\ x.i 1 <= 1099511627776
 ids : (d.aC.map fun x => x.i 0).Pairwise (· < ·)
 pos : ∀ x ∈ d.aC, 0 < x.i 0
 RU : 1 <= d.notes.length /\ d.notes.length <= 8
 note : ∀ x ∈ d.notes, (0 <= x.i 0 /\ x.i 0 <= 7) /\ (1 <= x.i 1 /\ x.i 1 <= 1099511627776) /\ (0 <= x.i 2 /\ x.i 2 <= 5000)
 sumn : af 1 d.notes <= af 1 d.aC
 s0 : dm d.s0 = true
 s1 : dm d.s1 = true
 s2 : dm d.s2 = true
theorem ym : ∀ (l : List Dat) (last all r : Int), 0 <= all -> gz last all l = some r -> r = all + af 1 l /\ (all <= 1099511627776 -> r <= 1099511627776) /\ (∀ x ∈ l, 0 <= x.i 1 /\ x.i 1 <= 1099511627776 /\ last < x.i 0) /\ (l.map fun x => x.i 0).Pairwise (· < ·)
 | [], last, all, r, h0, h => by
  simp only [gz, zaj] at h; subst h; exact ⟨by simp [af], fun h => h, fun x hx => by simp at hx, List.Pairwise.nil⟩
 | d :: l, last, all, r, h0, h => by
  unfold gz at h
  split at h
  . cases h
  . rename_i hl
    split at h
    . rename_i hb; obtain ⟨h1, h2, h3, h4⟩ := ym l _ _ _ (by omega) h; refine ⟨by simp only [af]; omega, fun _ => h2 (by omega), fun x hx => ?_, ?_⟩
      . rcases zaV.1 hx with rfl | hx
        . omega
        . have := h3 x hx; omega
      . simp only [zaX, List.pairwise_cons]; refine ⟨fun y hy => ?_, h4⟩; obtain ⟨x, hx, rfl⟩ := za3.1 hy; exact (h3 x hx).2.2
    . cases h
theorem xH (most : Int) (hm : most <= 1099511627776) : ∀ (l : List Dat) (all r : Int), 0 <= all -> jQ most all l = some r -> r = all + af 1 l /\ (all <= most -> r <= most) /\ ∀ x ∈ l, (0 <= x.i 0 /\ x.i 0 <= 7) /\ (1 <= x.i 1 /\ x.i 1 <= 1099511627776) /\ (0 <= x.i 2 /\ x.i 2 <= 5000)
 | [], all, r, h0, h => by
  simp only [jQ, zaj] at h; subst h; exact ⟨by simp [af], fun h => h, fun x hx => by simp at hx⟩
 | d :: l, all, r, h0, h => by
  unfold jQ at h
  split at h
  . rename_i hb; obtain ⟨h1, h2, h3⟩ := xH most hm l _ _ (by omega) h; refine ⟨by simp only [af]; omega, fun _ => h2 (by omega), fun x hx => ?_⟩; rcases zaV.1 hx with rfl | hx
    . omega
    . exact h3 x hx
  . cases h
theorem cq {d : aP} (h : (bu d).isSome = true) : Rf d := by
 unfold bu at h
 split at h
 . cases h
 . rename_i p hp
   split at h
   . cases h
   . rename_i n hn
     split at h
     . rename_i hc; have hs : bu d = some (p, n) := by unfold bu; simp only [hp, hn, if_pos hc]
       simp only [zab, ki, zac] at hc; obtain ⟨⟨t1, t2, t3, t4, t5, t6, t7, t8, t9, t10, t11, t12, t13⟩, s0, s1, s2⟩ := hc; unfold eF at hp
       split at hp
       . rename_i hl; obtain ⟨l1, l2, l3, l4⟩ := ym _ _ _ _ (by omega) hp; have l2 := l2 (by omega); unfold ig at hn
         split at hn
         . rename_i hnl; obtain ⟨n1, n2, n3⟩ := xH p (by omega) _ _ _ (by omega) hn; have h0 := fg 1 d.aC fun x hx => (l3 x hx).1
           have n2 := n2 (by omega); exact ⟨t6, t7, t8, t9, t10, t11, t12, t13, t1, t2, t3, t4, t5, by rw [hs]; show p = _; omega, by omega, hl, fun x hx => ⟨(l3 x hx).1, (l3 x hx).2.1⟩, l4, fun x hx => (l3 x hx).2.2, hnl, n3, by omega, s0, s1, s2⟩
         . cases hn
       . cases hp
     . cases h
def gO (T : ab) : aP := ⟨T.a, T.aC, T.notes, T.b, T.s0, T.s1, T.s2⟩
structure dk (T : ab) : Prop where
 lW : (bu (gO T)).isSome = true
 Gs : T.tr.map (fun d => (d.i 0, d.i 1, d.i 2)) = T.notes.map (fun d => (d.i 0, d.i 1, d.i 2))
 Mk : ∀ d ∈ T.tr, aH d = true /\ d.i 5 <= 1200000000000 * T.n.period
 ids : T.ax.map (fun d => d.i 0) = T.aC.map (fun d => d.i 0)
 sF : ∀ d ∈ T.ax, gm d
 bal : af 1 T.ax + af 2 T.ax + T.n.aR <= af 1 T.aC
 lost : T.n.aM - T.n.aR = af 2 T.ax
 sJ : 0 <= T.n.aR
 period : 0 <= T.n.period /\ T.n.period <= 600
 mode : 0 <= T.n.mode /\ T.n.mode <= 2
 aX : 0 <= T.n.aX /\ T.n.aX <= T.n.period
 fee : 0 <= T.n.fee /\ T.n.fee <= 1200000000000 * T.n.period
 out : 0 <= T.n.out /\ T.n.out <= T.b.advance
 res : 0 <= T.n.aG /\ T.n.aG <= T.n.rin /\ T.n.rin <= 1200000000000 * (T.n.period + 1)
 down : af 6 T.tr <= af 2 T.ax
section
variable (T : ab) (l : List Dat)
def cP : H9 := av l T.ax
def px : Int := cM T.a T.n.period (af 1 T.ax) T.b.fee
def DE : Int := bn (fun d => cM T.a T.n.period (aK d) (d.i 2)) T.tr
def cTr : List Dat := T.tr.map (dL T.a T.n.period)
def cIn : Int := (cP T l).p + (cP T l).q + (cP T l).r
def mG : Int := T.n.fee + px T + af 5 (cTr T) - cIn T l
def fV : Int := fX (mG T l) (T.n.rin - T.n.aG)
def om : Int := CM (mG T l) (T.n.rin - T.n.aG) (T.b.advance - T.n.out)
def cN1 : ah := { T.n with fee := T.n.fee + px T, aG := T.n.aG + fV T l }
def cX : bk := ⟨cIn T l + fV T l + om T l, T.n.fee + px T, T.n.out, min ((cP T l).p + (cP T l).r + (cP T l).l) (bn aK (cTr T)), vg T.b.target (af 1 (cP T l).ax) (T.n.rin - (T.n.aG + fV T l))⟩
def di : bk × List Dat × List Dat := dK 0 (fE (gO T) T.n.mode) (cX T l) ((cTr T).map ff)
def du : ah × List Dat := cJ (di T l).2.2 (cN1 T l) (cTr T)
def cN2 : ah := { (du T l).1 with out := (du T l).1.out + om T l, aM := (du T l).1.aM + (cP T l).l, aR := (du T l).1.aR + (cP T l).r }
def lT : List Dat := fR (cN (bn unD (du T l).2) (af 1 (cP T l).ax) (cN2 T l).aM (cN2 T l).aR) (du T l).2
def tT : Int × Int := cO T.n.mode T.n.aX T.b.et (T.b.oc == 0 || bF (af 1 (cP T l).ax) (bn aK (lT T l)) T.b.oc) (T.b.ic == 0 || bF (min (cP T l).q 1099511627776) (min (DE T) 1099511627776) T.b.ic)
 (T.b.late == 0 || bH (cg 2 (cP T l).ax + cg 3 (cP T l).ax) (af 1 (cP T l).ax) T.b.late) (T.b.kV == 0 || bH ((cN2 T l).aM - (cN2 T l).aR) (af 1 T.aC) T.b.kV)
def cN3 : ah := { cN2 T l with mode := (tT T l).1, aX := (tT T l).2, period := T.n.period + 1 }
end
structure fO where
 ra : eZ
 rb : dM
 next : Int
 e : Int
 t : ab
 wQ : List Dat
 notes : List Dat
def noR (e : Int) (T : ab) : fO := ⟨⟨false, 0, 0, 0, 0, 0, 0, 0, 0, 0, 0⟩, ⟨0, 0, 0, 0, 0⟩, 0, e, T, [], []⟩
def bB (T : ab) (l : List Dat) : fO :=
 ⟨⟨false, T.n.period + 1, T.n.mode, (cP T l).p, (cP T l).q, (cP T l).l, (cP T l).r, fV T l, om T l, px T, DE T⟩, ⟨(di T l).1.az, af 1 (cP T l).ax, (cN2 T l).rin - (cN2 T l).aG, (cN2 T l).out, (cN2 T l).fee⟩, (tT T l).1, 0,
  { T with n := cN3 T l, ax := (cP T l).ax, tr := lT T l }, (di T l).2.2, (lT T l).map Af⟩
def bf (T : ab) (l : List Dat) : fO := bif T.n.dt then noR 5 T else bif decide (T.n.period >= 600) then noR 4 T else bif (cP T l).e != 0 then noR (cP T l).e T else bB T l
theorem AV (f : Dat -> Dat) {l : List Dat} {i : Nat} (h : i < l.length) : ae (l.map f) i = f (ae l i) := by
 rw [eH (by simpa using h), eH h, List.getElem_map]
theorem BR (a : ao) (p : Int) : ∀ l : List Dat, af 5 (l.map (dL a p)) = af 5 l + bn (fun d => cM a p (aK d) (d.i 2)) l /\ af 6 (l.map (dL a p)) = af 6 l /\ bn aK (l.map (dL a p)) = bn aK l
 | [] => ⟨rfl, rfl, rfl⟩
 | d :: l => by
  obtain ⟨h1, h2, h3⟩ := BR a p l; have e5 : (dL a p d).i 5 = d.i 5 + cM a p (aK d) (d.i 2) := rfl; have e6 : (dL a p d).i 6 = d.i 6 := rfl; have eb : aK (dL a p d) = aK d := rfl; simp only [zaX, af, bn, h1, h2, h3, e5, e6, eb]
  and_intros <;> first | trivial | omega
theorem D9 (f : Dat -> Int) (b : Int) : ∀ l : List Dat, (∀ d ∈ l, 0 <= f d /\ f d <= b) -> 0 <= bn f l /\ bn f l <= b * l.length
 | [], _ => by simp [bn]
 | d :: l, h => by
  have h1 := h d (by simp); have h2 := D9 f b l fun x hx => h x (by simp [hx])
  simp only [bn, zaf, zas, zb0]; omega
theorem Ii {n b : Int} (h1 : 0 <= n) (h2 : n <= 1099511627776) (h3 : 0 <= b) (h4 : b <= 10000) : mdV n b 10000 0 = n * b / 10000 /\ 0 <= mdV n b 10000 0 /\ mdV n b 10000 0 <= n := by
 have hm := zbR h4 h1; have hz := zaZ h1 h3; have i := QU (n := n) (b := b) (p := 10000) (h := 0) h1 (by omega) h3 (by omega) (by omega) (by omega) (by omega) (by omega) (by omega); rw [i.2.1, Ox]; omega
theorem jL {l : List Dat} (h : dm l = true) : 1 <= l.length /\ l.length <= 16 := by
 simp only [dm, zab, zac] at h; omega
theorem FW {T : ab} {i : Nat} (hi : i < (cTr T).length) : ae ((cTr T).map ff) i = ff (ae (cTr T) i) := AV _ hi
section
variable {T : ab} {l : List Dat} (h : dk T) (hp : T.n.period < 600) (he : (cP T l).e = 0)
include h
theorem yg : T.tr.length = T.notes.length := by
 have := congrArg List.length h.Gs; simpa using this
theorem cI : T.tr.length <= 8 /\ 1 <= T.tr.length := by
 have := (cq h.lW).RU; rw [yg h]; exact ⟨this.2, this.1⟩
theorem dB : dv T.tr := ⟨by have := cI h; omega, fun d hd => (h.Mk d hd).1⟩
theorem dg : T.ax.length = T.aC.length /\ T.ax.length <= 64 := by
 have := congrArg List.length h.ids; have := (cq h.lW).Rh; simp only [za5, gO] at *
 omega
theorem dO : 0 <= af 1 T.ax /\ 0 <= af 2 T.ax /\ af 1 T.ax + af 2 T.ax + T.n.aR <= 1099511627776 := by
 have h1 := gf h.sF; have h2 := (cq h.lW).ax.2; have h3 := h.bal; have : af 1 (gO T).aC = af 1 T.aC := rfl; omega
theorem k9 : (0 <= px T /\ px T <= 1200000000000) /\ dv (cTr T) /\ (∀ d ∈ cTr T, d.i 5 <= 1200000000000 * (T.n.period + 1)) /\ (DE T = af 5 (cTr T) - af 5 T.tr /\ 0 <= DE T /\ DE T <= 1200000000000 * T.tr.length) /\ bn aK (cTr T) = bn aK T.tr /\ af 6 (cTr T) = af 6 T.tr := by
 have D := cq h.lW; obtain ⟨b1, b2, b3⟩ := dO h; have r0 := h.sJ; have hs : ∀ d ∈ T.tr, 0 <= cM T.a T.n.period (aK d) (d.i 2) /\ cM T.a T.n.period (aK d) (d.i 2) <= 1200000000000 := fun d hd =>
  oX _ D.year.1 D.year.2 D.month.1 D.month.2 h.period.1 (by have := h.period.2; omega) (Bw (h.Mk d hd).1).1 (Bw (h.Mk d hd).1).2
 obtain ⟨a1, a2, a3⟩ := BR T.a T.n.period T.tr; have sd := D9 (fun d => cM T.a T.n.period (aK d) (d.i 2)) 1200000000000 T.tr hs; have hsh : ∀ d ∈ cTr T, aH d = true /\ d.i 5 <= 1200000000000 * (T.n.period + 1) := fun d hd => by
  obtain ⟨x, hx, rfl⟩ := za3.1 hd; obtain ⟨g, g5⟩ := h.Mk x hx; have g' := bW g; have := hs x hx; have := h.period; have e5 : (dL T.a T.n.period x).i 5 = x.i 5 + cM T.a T.n.period (aK x) (x.i 2) := rfl; refine ⟨zad ?_, by omega⟩; rw [e5]; show (0 <= x.i 1 /\ x.i 1 <= 1099511627776 /\ 0 <= x.i 3 /\ x.i 4 = 0 /\ 0 <= x.i 6 /\ x.i 3 + x.i 6 <= x.i 1 /\ _); omega
 refine ⟨oX _ D.year.1 D.year.2 D.month.1 D.month.2 h.period.1 (by have := h.period.2; omega) b1 (by omega), ⟨by simp only [cTr, za5]; have := cI h; omega, fun d hd => (hsh d hd).1⟩, fun d hd => (hsh d hd).2, ⟨?_, sd.1, sd.2⟩, a3, a2⟩; show bn _ T.tr = af 5 (T.tr.map (dL T.a T.n.period)) - af 5 T.tr; omega
theorem pZ : (cTr T).length = T.tr.length := by simp [cTr]
include he
theorem jZ : (∀ d ∈ (cP T l).ax, gm d) /\ (cP T l).ax.map (fun d => d.i 0) = T.ax.map (fun d => d.i 0) /\ af 1 (cP T l).ax = af 1 T.ax - (cP T l).p - (cP T l).l /\ af 2 (cP T l).ax = af 2 T.ax + (cP T l).l - (cP T l).r /\
 0 <= (cP T l).p /\ 0 <= (cP T l).l /\ 0 <= (cP T l).r /\ 0 <= (cP T l).q /\ (cP T l).q <= 70368744177664 := by
 have b := dO h; have r0 := h.sJ; exact FK h.sF (by omega) he
theorem lE : (0 <= cIn T l /\ cIn T l <= 75000000000000) /\ (-1000000000000000 <= mG T l /\ mG T l <= 10000000000000000) /\ (0 <= fV T l /\ fV T l <= T.n.rin - T.n.aG /\ fV T l <= max (mG T l) 0) /\ (0 <= om T l /\ om T l <= T.b.advance - T.n.out) := by
 obtain ⟨p1, p2, p3, p4, p5, p6, p7, p8, p9⟩ := jZ h he; obtain ⟨a1, a2, a3, a4, a5⟩ := k9 h; have n1 := gf p1; have b := dO h; have r0 := h.sJ; have hi : 0 <= cIn T l /\ cIn T l <= 75000000000000 := by unfold cIn; omega
 have s5 := (fD (cTr T) a2.2).2.1; have hl := cI h; have f := h.fee; have p := h.period; have s5' : af 5 (cTr T) <= 1200000000000 * 601 * 8 := by
  have := pJ 5 (1200000000000 * 601) (cTr T) fun d hd => ⟨(bW (a2.2 d hd)).2.2.2.2.2.2.1, by have := a3 d hd; omega⟩
  have := pZ h; omega
 have hn : -1000000000000000 <= mG T l /\ mG T l <= 10000000000000000 := by unfold mG; omega
 have r := h.res; have o := h.out; refine ⟨hi, hn, ?_, ?_⟩
 . unfold fV fX; omega
 . unfold om CM; omega
theorem tD : nQ (cX T l) = true /\ aY ((cTr T).map ff) = true /\ ((cX T l).room <= 1099511627776 /\ (cX T l).az <= 800000000000000) := by
 obtain ⟨p1, p2, p3, p4, p5, p6, p7, p8, p9⟩ := jZ h he; obtain ⟨a1, a2, a3, a4, a5⟩ := k9 h; obtain ⟨c1, c2, c3, c4⟩ := lE h he; have n1 := gf p1; have b := dO h; have D := cq h.lW; have r := h.res; have o := h.out; have hpe := h.period; have f := h.fee; have r0 := h.sJ; have sb := (fD (cTr T) a2.2).1; have tg : 0 <= T.b.target /\ T.b.target <= 10000 := D.target; have ad : T.b.advance <= 1099511627776 := D.advance.2; have g := Ii (n := af 1 (cP T l).ax) (b := T.b.target) n1.1 (by omega) tg.1 tg.2; refine ⟨zad ?_, vw (by rw [za5]; exact a2.1) fun d hd => ?_, ?_, ?_⟩
 . simp only [cX, vg]; omega
 . obtain ⟨x, hx, rfl⟩ := za3.1 hd; have g := bW (a2.2 x hx); have gb := Bw (a2.2 x hx); simp only [kj, ff, zab, ez, hG]; clear p1 p2 p3 p4 p5 p6 p7 p8 p9 a1 a3 a4 a5 c1 c2 c3 c4 D r o f r0 sb tg ad b n1 hpe; exact ⟨rfl, zad (by omega)⟩
 . simp only [cX, vg]; omega
 . simp only [cX]; omega
end
theorem Bo {m p c : Int} {o i a s : Bool} (hm : 0 <= m /\ m <= 2) (hp : 0 <= p) : (0 <= (cO m p c o i a s).1 /\ (cO m p c o i a s).1 <= 2) /\ 0 <= (cO m p c o i a s).2 /\ (cO m p c o i a s).2 <= p + 1 := by
 unfold cO
 repeat' split
 all_goals (simp only; omega)
section
variable {T : ab} {l : List Dat} (h : dk T) (hp : T.n.period < 600) (he : (cP T l).e = 0)
include h
theorem rn : dm (fE (gO T) T.n.mode) = true := by
 have D := cq h.lW; have m := h.mode; unfold fE
 by_cases m0 : T.n.mode = 0
 . rw [if_pos m0]; exact D.s0
 rw [if_neg m0]
 by_cases m1 : T.n.mode = 1
 . rw [if_pos m1]; exact D.s1
 rw [if_neg m1, if_pos (by omega)]; exact D.s2
include he
theorem yk : Kept (cX T l) ((cTr T).map ff) (di T l).2.2 (di T l).1 (di T l).2.1 /\ (∀ d ∈ (di T l).2.2, IJ T.tr.length 0 (fE (gO T) T.n.mode) d) /\ nQ (di T l).1 = true /\ aY (di T l).2.1 = true /\ (di T l).2.2.length <= 128000 := by
 obtain ⟨x1, x2, x3, x4⟩ := tD h he; have k := yj (fE (gO T) T.n.mode) 0 (cX T l) _ x1 x2; have o := Ei (fE (gO T) T.n.mode) 0 (cX T l) _ x1 x2; have sl := jL (rn h); have e : ((cTr T).map ff).length = T.tr.length := by rw [za5, pZ h]
 rw [e] at k; exact ⟨k.1, k.2.1, o.1, o.2.1, by have := o.2.2.2; unfold di; omega⟩
theorem ox : (∀ d ∈ (di T l).2.2, 1 <= d.i 3 /\ ((d.i 1 = 1 \/ d.i 1 = 2 \/ d.i 1 = 6) \/ (0 <= d.i 2 /\ d.i 2 < (T.tr.length : Int)))) /\ af 3 (di T l).2.2 <= 800000000000000 /\
 (0 <= aU kF (di T l).2.2 /\ aU kF (di T l).2.2 <= T.n.fee + px T) /\ (0 <= aU kR (di T l).2.2 /\ aU kR (di T l).2.2 <= T.n.out) /\ (0 <= aU kT (di T l).2.2 /\ aU kT (di T l).2.2 <= (cX T l).room) /\
 ∀ i, i < T.tr.length -> (0 <= aU (toB i) (di T l).2.2 /\ aU (toB i) (di T l).2.2 <= aK (ae (cTr T) i)) /\ (0 <= aU (toI i) (di T l).2.2 /\ aU (toI i) (di T l).2.2 <= (ae (cTr T) i).i 5) := by
 obtain ⟨k, p, g, c, _⟩ := yk h he; obtain ⟨x1, x2, x3, x4⟩ := tD h he; have g := ti g; have hpp : ∀ d ∈ (di T l).2.2, 1 <= d.i 3 /\ ((d.i 1 = 1 \/ d.i 1 = 2 \/ d.i 1 = 6) \/ (0 <= d.i 2 /\ d.i 2 < (T.tr.length : Int))) := fun d hd => by
  obtain ⟨_, _, h1, h2, h3, h4⟩ := p d hd; refine ⟨h2, ?_⟩; rw [<- h1] at h4
  by_cases hn : d.i 2 < 0
  . exact .inl (h4.1 hn)
  . exact .inr (by omega)
 have n0 := fun f => ng f (di T l).2.2 fun d hd => by have := (hpp d hd).1; omega
 have kf := k.fee; have kr := k.bK; have kt := k.room; have kc := k.az; have e1 : (cX T l).fee = T.n.fee + px T := rfl; have e2 : (cX T l).bK = T.n.out := rfl; refine ⟨hpp, by omega, ⟨n0 _, by omega⟩, ⟨n0 _, by omega⟩, ⟨n0 _, by omega⟩, fun i hi => ?_⟩; have hl := pZ h; have hr := k.row i (by rw [za5]; omega); rw [FW (by omega)] at hr; have hc := cu ((bO c).2 _ (m8 (l := (di T l).2.1) (j := i) (by rw [k.len, za5]; omega))); rw [hr] at hc; have b1 : (ff (ae (cTr T) i)).i 1 = aK (ae (cTr T) i) := rfl; have b2 : (ff (ae (cTr T) i)).i 2 = (ae (cTr T) i).i 5 := rfl; simp only [ez, hG, b1, b2] at hc; exact ⟨⟨n0 _, by omega⟩, ⟨n0 _, by omega⟩⟩
theorem jR : (du T l).1 = { T.n with fee := T.n.fee + px T - aU kF (di T l).2.2, out := T.n.out - aU kR (di T l).2.2, rin := T.n.rin + aU kT (di T l).2.2, aG := T.n.aG + fV T l } /\ (du T l).2.length = T.tr.length /\ dv (du T l).2 /\
 (∀ i, i < T.tr.length -> pM (ae (cTr T) i) (ae (du T l).2 i) (aU (toB i) (di T l).2.2) (aU (toI i) (di T l).2.2)) /\ o4 (di T l).2.2 (cN1 T l) (cTr T) = true := by
 obtain ⟨s1, s2, s3, s4, s5, s6⟩ := ox h he; obtain ⟨k, p, g, c, pl⟩ := yk h he; obtain ⟨a1, a2, a3, a4, a5⟩ := k9 h; obtain ⟨c1, c2, c3, c4⟩ := lE h he; have hl := pZ h; obtain ⟨d1, d2, d3⟩ := qo (di T l).2.2 (cN1 T l) (cTr T) (fun d hd => by have := (s1 d hd).1; omega) (fun d hd => by rw [hl]; exact (s1 d hd).2) (fun i hi => by have := s6 i (by omega); omega); have f := h.fee; have o := h.out; have r := h.res; have hpe := h.period; have ad : T.b.advance <= 1099511627776 := (cq h.lW).advance.2; have hg : dv (du T l).2 := by
  have hdl : (du T l).2.length = (cTr T).length := d2; refine ⟨by have := a2.1; omega, fun d hd => ?_⟩; obtain ⟨i, hi, rfl⟩ := gp hd; obtain ⟨_, e1, _, e3, e4, e5, e6⟩ := d3 i (by omega); have := s6 i (by omega); have gi := bW (bV (c := cTr T) (i := i) (by omega) a2.2); have e1' : (ae (du T l).2 i).i 1 = (ae (cTr T) i).i 1 := e1; have e3' : (ae (du T l).2 i).i 3 = (ae (cTr T) i).i 3 + aU (toB i) (di T l).2.2 := e3; have e4' : (ae (du T l).2 i).i 4 = (ae (cTr T) i).i 4 := e4; have e5' : (ae (du T l).2 i).i 5 = (ae (cTr T) i).i 5 - aU (toI i) (di T l).2.2 := e5; have e6' : (ae (du T l).2 i).i 6 = (ae (cTr T) i).i 6 := e6; refine zad ?_
  rw [e1', e3', e4', e5', e6']; unfold aK at this; omega
 refine ⟨d1, d2.trans hl, hg, fun i hi => d3 i (by omega), ?_⟩; simp only [o4, zab, zac, zam]; refine ⟨by omega, fun d hd => ?_, ⟨by omega, ?_⟩, a2⟩
 . have := s1 d hd; simp only [DK, zab, zbf, zac, hl]; exact ⟨by omega, this.2⟩
 . simp only [cN1]; omega
theorem pd : cN2 T l = { T.n with fee := T.n.fee + px T - aU kF (di T l).2.2, out := T.n.out - aU kR (di T l).2.2 + om T l, rin := T.n.rin + aU kT (di T l).2.2, aG := T.n.aG + fV T l, aM := T.n.aM + (cP T l).l, aR := T.n.aR + (cP T l).r } := by
 unfold cN2; rw [(jR h he).1]
theorem rf : 0 <= cN (bn unD (du T l).2) (af 1 (cP T l).ax) (cN2 T l).aM (cN2 T l).aR /\ cN (bn unD (du T l).2) (af 1 (cP T l).ax) (cN2 T l).aM (cN2 T l).aR <= bn unD (du T l).2 /\
 cN (bn unD (du T l).2) (af 1 (cP T l).ax) (cN2 T l).aM (cN2 T l).aR <= af 2 (cP T l).ax /\ (cN2 T l).aM - (cN2 T l).aR = af 2 (cP T l).ax := by
 obtain ⟨p1, p2, p3, p4, p5, p6, p7, p8, p9⟩ := jZ h he; have g := (jR h he).2.2.1; have u := (fD _ g.2).2.2.2.1; have t := uB (bn unD (du T l).2) (af 1 (cP T l).ax) (cN2 T l).aM (cN2 T l).aR; have n1 := gf p1; have hl := h.lost; have e : (cN2 T l).aM - (cN2 T l).aR = af 2 (cP T l).ax := by rw [pd h he]; simp only; omega
 omega
theorem qH : dv (lT T l) /\ eQ (du T l).2 (lT T l) /\ af 6 (lT T l) = cN (bn unD (du T l).2) (af 1 (cP T l).ax) (cN2 T l).aM (cN2 T l).aR := by
 have t := rf h he; exact FX (jR h he).2.2.1 t.1 t.2.1
theorem Ff : (lT T l).length = T.tr.length /\ ∀ i, i < T.tr.length -> (ae (lT T l) i).i 0 = (ae T.tr i).i 0 /\ (ae (lT T l) i).i 1 = (ae T.tr i).i 1 /\ (ae (lT T l) i).i 2 = (ae T.tr i).i 2 /\ (ae (lT T l) i).i 3 = (ae T.tr i).i 3 + aU (toB i) (di T l).2.2 /\ (ae (lT T l) i).i 4 = (ae T.tr i).i 4 /\
 (ae (lT T l) i).i 5 = (ae T.tr i).i 5 + cM T.a T.n.period (aK (ae T.tr i)) ((ae T.tr i).i 2) - aU (toI i) (di T l).2.2 /\ ae (cTr T) i = dL T.a T.n.period (ae T.tr i) := by
 obtain ⟨d1, d2, d3, d4, d5⟩ := jR h he; obtain ⟨g, s, _⟩ := qH h he; refine ⟨s.len.trans d2, fun i hi => ?_⟩; obtain ⟨r0, r1, r2, r3, r4, r5⟩ := s.row i (by omega); obtain ⟨e0, e1, e2, e3, e4, e5, e6⟩ := d4 i hi; have hr : ae (cTr T) i = dL T.a T.n.period (ae T.tr i) := AV _ hi; rw [hr] at e0 e1 e2 e3 e4 e5; have q5 : (dL T.a T.n.period (ae T.tr i)).i 5 = (ae T.tr i).i 5 + cM T.a T.n.period (aK (ae T.tr i)) ((ae T.tr i).i 2) := rfl; rw [q5] at e5; exact ⟨r0.trans e0, r1.trans e1, r2.trans e2, r3.trans e3, r4.trans e4, r5.trans e5, hr⟩
include hp
theorem De : dk (bB T l).t := by
 obtain ⟨p1, p2, p3, p4, p5, p6, p7, p8, p9⟩ := jZ h he; obtain ⟨a1, a2, a3, a4, a5⟩ := k9 h; obtain ⟨c1, c2, c3, c4⟩ := lE h he; obtain ⟨s1, s2, s3, s4, s5, s6⟩ := ox h he; obtain ⟨x1, x2, x3, x4⟩ := tD h he; obtain ⟨t1, t2, t3⟩ := qH h he; obtain ⟨g1, g2, g3, g4⟩ := rf h he; obtain ⟨r1, r2⟩ := Ff h he; have e := pd h he; have n := Bo (c := T.b.et) (o := (T.b.oc == 0 || bF (af 1 (cP T l).ax) (bn aK (lT T l)) T.b.oc)) (i := (T.b.ic == 0 || bF (min (cP T l).q 1099511627776) (min (DE T) 1099511627776) T.b.ic))
  (a := (T.b.late == 0 || bH (cg 2 (cP T l).ax + cg 3 (cP T l).ax) (af 1 (cP T l).ax) T.b.late)) (s := (T.b.kV == 0 || bH ((cN2 T l).aM - (cN2 T l).aR) (af 1 T.aC) T.b.kV)) h.mode h.aX.1
 have bl := h.bal; have r0 := h.sJ; have pe := h.period; have pa := h.aX; have fe := h.fee; have ou := h.out; have re := h.res; refine ⟨h.lW, ?_, fun d hd => ?_, p2.trans h.ids, p1, ?_, g4, ?_, ?_, n.1, ?_, ?_, ?_, ?_, ?_⟩
 . refine Eq.trans ?_ h.Gs; refine List.ext_getElem (by simp [bB, r1]) fun i h1 h2 => ?_
   simp only [za5] at h1 h2; have hi : i < T.tr.length := h2; have := r2 i hi; rw [eH (show i < (lT T l).length by omega), eH hi] at this; simp only [List.getElem_map]; exact Prod.ext this.1 (Prod.ext this.2.1 this.2.2.1)
 . refine ⟨t1.2 d hd, ?_⟩; obtain ⟨i, hi, rfl⟩ := gp (show d ∈ lT T l from hd); have hi : i < T.tr.length := by omega
   have := (r2 i hi).2.2.2.2.2.1; have q := a3 _ (m8 (l := cTr T) (j := i) (by rw [pZ h]; exact hi)); rw [(r2 i hi).2.2.2.2.2.2] at q; have q5 : (dL T.a T.n.period (ae T.tr i)).i 5 = (ae T.tr i).i 5 + cM T.a T.n.period (aK (ae T.tr i)) ((ae T.tr i).i 2) := rfl; rw [q5] at q; have := (s6 i hi).2.1; show (ae (lT T l) i).i 5 <= 1200000000000 * (T.n.period + 1)
   omega
 . show af 1 (cP T l).ax + af 2 (cP T l).ax + (cN2 T l).aR <= af 1 T.aC; rw [e]; simp only; omega
 . show 0 <= (cN2 T l).aR; rw [e]; simp only; omega
 . show 0 <= T.n.period + 1 /\ T.n.period + 1 <= 600; omega
 . show 0 <= (tT T l).2 /\ (tT T l).2 <= T.n.period + 1; exact ⟨n.2.1, by have := n.2.2; unfold tT; omega⟩
 . show 0 <= (cN2 T l).fee /\ (cN2 T l).fee <= 1200000000000 * (T.n.period + 1)
   rw [e]; simp only; omega
 . show 0 <= (cN2 T l).out /\ (cN2 T l).out <= T.b.advance; rw [e]; simp only; omega
 . show 0 <= (cN2 T l).aG /\ (cN2 T l).aG <= (cN2 T l).rin /\ (cN2 T l).rin <= 1200000000000 * (T.n.period + 1 + 1)
   rw [e]; simp only; omega
 . show af 6 (lT T l) <= af 2 (cP T l).ax; omega
end
def fS (T : ab) : Bool := @decide (dk T) (Classical.propDecidable _)
theorem dZ {T : ab} : fS T = true ↔ dk T := by unfold fS; simp
theorem nL {l : List Dat} (h : ∀ d ∈ l, gm d) (hl : l.length <= 1000) : (decide (l.length <= 1000) && l.all cw) = true := by
 rw [zab, zam]; exact ⟨zad hl, fun d hd => zad (by have := h d hd; unfold gm at this; omega)⟩
theorem jF {T : ab} (h : dk T) : T.aC.length < 1000000 /\ T.notes.length < 1000000 /\ T.s0.length < 1000000 /\ T.s1.length < 1000000 /\ T.s2.length < 1000000 /\ T.ax.length < 1000000 /\ T.tr.length < 1000000 := by
 have D := cq h.lW; have h0 := jL D.s0; have h1 := jL D.s1; have h2 := jL D.s2; have h3 := dg h; have h4 := cI h; have h5 := yg h; have : (gO T).aC = T.aC := rfl; have := D.Rh; simp only [gO] at *
 omega
theorem Bu {T : ab} (h : dk T) : (fE (gO T) T.n.mode).length <= 16 := (jL (rn h)).2
def N13 : aD := ⟨T47.tab, 13, ⟨[.np 0 0 0, .ag (sB 6)], br 0, 0⟩, ⟨[.agg [.bool, .int .i64, .int .i64, .int .i64, .int .i64, .int .i64, .int .i64, .int .i64, .int .i64, .int .i64, .int .i64, .buf 17 4, .int .i64, .int .i64, .int .i64, .int .i64, .int .i64, .buf 18 3, .int .i64], .int .i64], [.cells [.int .i64, .int .i64, .int .i64, .buf 9 2, .buf 10 3, .int .i64, .int .i64, .int .i64, .int .i64, .int .i64, .int .i64, .int .i64, .int .i64, .int .i64, .int .i64, .buf 11 2, .buf 12 2, .buf 13 2, .ptr 14 0 0, .buf 16 7, .int .i64, .int .i64, .int .i64, .int .i64, .int .i64, .int .i64, .int .i64, .int .i64, .int .i64, .bool], .gone, .gone, .gone, .gone, .gone, .gone, .gone, .gone, .ag (sI 2), .ag (sI 3), .ag (sI 2), .ag (sI 2), .ag (sI 2), .cells [.buf 15 5], .ag (sB 4), .ag (sI 7), .ag (sI 4), .ag (sI 3)], 0⟩, []⟩
def t13 (m : Nat) : Int × List Dat × ao × an × ah × List Dat × List Dat × List Dat × List Dat × List Dat × List Dat × List Dat -> Option (List Un) := fun (a0, a1, a2, a3, a4, a5, a6, a7, a8, a9, a10, a11) =>
 chk (decide (0 <= a0)) <|
 bif a4.dt then
 some (Uns.enc ((⟨false, 0, 0, 0, 0, 0, 0, 0, 0, 0, 0⟩ : eZ) : eZ) ++ Uns.enc ((⟨0, 0, 0, 0, 0⟩ : dM) : dM) ++ [.i 0, .i 5] ++ Uns.enc (a2 : ao) ++ Uns.enc (a3 : an) ++ Uns.enc (a4 : ah) ++ [.d a5, .d a6, .d a7, .d a8, .d a9, .d a10, .d a11, .d ([]), .d ([])])
 else
 chk (decide (0 <= a0)) <|
 bif (decide (a4.period >= 600)) then
 some (Uns.enc ((⟨false, 0, 0, 0, 0, 0, 0, 0, 0, 0, 0⟩ : eZ) : eZ) ++ Uns.enc ((⟨0, 0, 0, 0, 0⟩ : dM) : dM) ++ [.i 0, .i 4] ++ Uns.enc (a2 : ao) ++ Uns.enc (a3 : an) ++ Uns.enc (a4 : ah) ++ [.d a5, .d a6, .d a7, .d a8, .d a9, .d a10, .d a11, .d ([]), .d ([])])
 else
 chk (decide (0 <= a0) && decide (a5.length < 1000000 /\ a6.length < 1000000 /\ a7.length < 1000000 /\ a8.length < 1000000 /\ a9.length < 1000000 /\ a10.length < 1000000 /\ a11.length < 1000000)) <|
 chk (decide (0 < ([.r [.r a10]] : List Dat).length) && (decide (((ae ([.r [.r a10]] : List Dat) 0).d 0).length <= 1000) && ((ae ([.r [.r a10]] : List Dat) 0).d 0).all cw)) <|
 lt ((af 1 ((ae ([.r [.r a10]] : List Dat) 0).d 0)) : Int) fun x2 =>
 chk (decide (a10.length < 1000000)) <|
 bif (((av a1 a10).e) != 0) then
 some (Uns.enc ((⟨false, 0, 0, 0, 0, 0, 0, 0, 0, 0, 0⟩ : eZ) : eZ) ++ Uns.enc ((⟨0, 0, 0, 0, 0⟩ : dM) : dM) ++ [.i 0, .i ((av a1 a10).e)] ++ Uns.enc (a2 : ao) ++ Uns.enc (a3 : an) ++ Uns.enc (a4 : ah) ++ [.d a5, .d a6, .d a7, .d a8, .d a9, .d a10, .d a11, .d ([]), .d ([])])
 else
 chk (decide ((1 <= a2.year /\ a2.year <= 9000 /\ 1 <= a2.month /\ a2.month <= 12) /\ (0 <= a4.period /\ a4.period <= 600) /\ (0 <= a4.fee /\ a4.fee <= 1125899906842624) /\ (0 <= x2 /\ x2 <= 1099511627776)) && (decide (a11.length <= 1000) && a11.all aH)) <|
 lt ((bn (fun d => cM a2 a4.period (aK d) (d.i 2)) a11) : Int) fun x4 =>
 lt (({ a4 with fee := a4.fee + cM a2 a4.period x2 a3.fee }) : ah) fun g5 =>
 chk (decide (0 <= 0) && (decide ((a11.map (dL a2 a4.period)).length <= 1000) && (a11.map (dL a2 a4.period)).all aH)) <|
 lt ((w64 (g5.fee + (af 5 (a11.map (dL a2 a4.period))))) : Int) fun x6 =>
 lt ((w64 ((w64 ((w64 ((w64 (((av a1 a10).p) + ((av a1 a10).q))) + ((av a1 a10).r))) + 0)) + 0)) : Int) fun x9 =>
 chk (decide (0 <= 0) && decide ((-1152921504606846976 <= (w64 (x6 - x9)) /\ (w64 (x6 - x9)) <= 1152921504606846976) /\ ((0 : Int) <= g5.aG /\ g5.aG <= g5.rin /\ g5.rin <= (1152921504606846976 : Int)) /\ (0 <= g5.out /\ g5.out <= 1152921504606846976) /\ (0 <= a3.advance /\ a3.advance <= 1152921504606846976))) <|
 lt ((fX (w64 (x6 - x9)) (g5.rin - g5.aG)) : Int) fun x10 =>
 lt ((CM (w64 (x6 - x9)) (g5.rin - g5.aG) (a3.advance - g5.out)) : Int) fun x11 =>
 lt (({ g5 with aG := g5.aG + fX (w64 (x6 - x9)) (g5.rin - g5.aG) }) : ah) fun g12 =>
 lt ((w64 ((w64 ((w64 ((w64 (((av a1 a10).p) + ((av a1 a10).q))) + ((av a1 a10).r))) + x10)) + x11)) : Int) fun x15 =>
 chk (decide (((0 <= ((av a1 a10).p) /\ ((av a1 a10).p) <= 1125899906842624) /\ (0 <= ((av a1 a10).l) /\ ((av a1 a10).l) <= 1125899906842624) /\ (0 <= ((av a1 a10).r) /\ ((av a1 a10).r) <= 1125899906842624)) /\ (0 <= g12.aG /\ g12.aG <= g12.rin /\ g12.rin <= 1152921504606846976)) && ((decide (((av a1 a10).ax).length <= 1000) && ((av a1 a10).ax).all cw) && (decide ((a11.map (dL a2 a4.period)).length <= 1000) && (a11.map (dL a2 a4.period)).all aH))) <|
 lt ((min (((av a1 a10).p) + ((av a1 a10).r) + ((av a1 a10).l)) (bn aK (a11.map (dL a2 a4.period)))) : Int) fun x16 =>
 lt ((vg a3.target (af 1 ((av a1 a10).ax)) (g12.rin - g12.aG)) : Int) fun x17 =>
 chk (decide ((⟨a2, a5, a6, a3, a7, a8, a9⟩ : aP).s0.length < 1000000 /\ (⟨a2, a5, a6, a3, a7, a8, a9⟩ : aP).s1.length < 1000000 /\ (⟨a2, a5, a6, a3, a7, a8, a9⟩ : aP).s2.length < 1000000)) <|
 lt ((fE (⟨a2, a5, a6, a3, a7, a8, a9⟩ : aP) g12.mode) : List Dat) fun l18 =>
 chk (decide (l18.length <= 1000000) && (nQ ⟨x15, g12.fee, g12.out, x16, x17⟩ && aY ((a11.map (dL a2 a4.period)).map ff))) <|
 lt (((dK 0 l18 ⟨x15, g12.fee, g12.out, x16, x17⟩ ((a11.map (dL a2 a4.period)).map ff)).2.2) : List Dat) fun l24 =>
 chk (decide (0 <= 0) && o4 l24 g12 (a11.map (dL a2 a4.period))) <|
 lt (((cJ l24 g12 (a11.map (dL a2 a4.period))).1).out : Int) fun x26 =>
 chk (decide (((0 <= ((av a1 a10).p) /\ ((av a1 a10).p) <= 1125899906842624) /\ (0 <= ((av a1 a10).l) /\ ((av a1 a10).l) <= 1125899906842624) /\ (0 <= ((av a1 a10).r) /\ ((av a1 a10).r) <= 1125899906842624)) /\ (0 <= ({ ((cJ l24 g12 (a11.map (dL a2 a4.period))).1) with out := (w64 (x26 + x11)) } : ah).aM /\ ({ ((cJ l24 g12 (a11.map (dL a2 a4.period))).1) with out := (w64 (x26 + x11)) } : ah).aM <= 1125899906842624) /\ (0 <= ({ ((cJ l24 g12 (a11.map (dL a2 a4.period))).1) with out := (w64 (x26 + x11)) } : ah).aR /\ ({ ((cJ l24 g12 (a11.map (dL a2 a4.period))).1) with out := (w64 (x26 + x11)) } : ah).aR <= 1125899906842624)) && ((decide (((av a1 a10).ax).length <= 1000) && ((av a1 a10).ax).all cw) && (decide (((cJ l24 g12 (a11.map (dL a2 a4.period))).2).length <= 1000) && ((cJ l24 g12 (a11.map (dL a2 a4.period))).2).all aH))) <|
 lt (({ ({ ((cJ l24 g12 (a11.map (dL a2 a4.period))).1) with out := (w64 (x26 + x11)) } : ah) with aM := ({ ((cJ l24 g12 (a11.map (dL a2 a4.period))).1) with out := (w64 (x26 + x11)) } : ah).aM + ((av a1 a10).l), aR := ({ ((cJ l24 g12 (a11.map (dL a2 a4.period))).1) with out := (w64 (x26 + x11)) } : ah).aR + ((av a1 a10).r) }) : ah) fun g27 =>
 lt ((fR (cN (bn unD ((cJ l24 g12 (a11.map (dL a2 a4.period))).2)) (af 1 ((av a1 a10).ax)) (({ ((cJ l24 g12 (a11.map (dL a2 a4.period))).1) with out := (w64 (x26 + x11)) } : ah).aM + ((av a1 a10).l)) (({ ((cJ l24 g12 (a11.map (dL a2 a4.period))).1) with out := (w64 (x26 + x11)) } : ah).aR + ((av a1 a10).r))) ((cJ l24 g12 (a11.map (dL a2 a4.period))).2)) : List Dat) fun l28 =>
 chk (decide (0 <= 0) && ((decide (((av a1 a10).ax).length <= 1000) && ((av a1 a10).ax).all cw) && (decide (l28.length <= 1000) && l28.all aH))) <|
 lt ((a3.oc == 0 || bF (af 1 ((av a1 a10).ax)) (bn aK l28) a3.oc) : Bool) fun x32 =>
 lt ((a3.ic == 0 || bF (min ((av a1 a10).q) 1099511627776) (min x4 1099511627776) a3.ic) : Bool) fun x33 =>
 lt ((a3.late == 0 || bH (cg 2 ((av a1 a10).ax) + cg 3 ((av a1 a10).ax)) (af 1 ((av a1 a10).ax)) a3.late) : Bool) fun x34 =>
 lt ((a3.kV == 0 || bH (w64 (g27.aM - g27.aR)) (((bu (⟨a2, a5, a6, a3, a7, a8, a9⟩ : aP)).getD (0, 0)).1) a3.kV) : Bool) fun x35 =>
 chk (decide (0 <= g27.aX /\ g27.aX <= 1000000)) <|
 chk (decide (0 <= a0)) <|
 chk (decide (0 <= a0) && (decide (0 <= ({ g27 with mode := (cO g27.mode g27.aX a3.et x32 x33 x34 x35).1, aX := (cO g27.mode g27.aX a3.et x32 x33 x34 x35).2, period := (w64 (g27.period + 1)) } : ah).aG /\ ({ g27 with mode := (cO g27.mode g27.aX a3.et x32 x33 x34 x35).1, aX := (cO g27.mode g27.aX a3.et x32 x33 x34 x35).2, period := (w64 (g27.period + 1)) } : ah).aG <= ({ g27 with mode := (cO g27.mode g27.aX a3.et x32 x33 x34 x35).1, aX := (cO g27.mode g27.aX a3.et x32 x33 x34 x35).2, period := (w64 (g27.period + 1)) } : ah).rin /\ ({ g27 with mode := (cO g27.mode g27.aX a3.et x32 x33 x34 x35).1, aX := (cO g27.mode g27.aX a3.et x32 x33 x34 x35).2, period := (w64 (g27.period + 1)) } : ah).rin <= 1152921504606846976) && ((decide (((av a1 a10).ax).length <= 1000) && ((av a1 a10).ax).all cw) && (decide (l28.length <= 1000) && l28.all aH)))) <|
 some (Uns.enc ((⟨false, (w64 (a4.period + 1)), a4.mode, (av a1 a10).p, (av a1 a10).q, (av a1 a10).l, (av a1 a10).r, x10, x11, (cM a2 a4.period x2 a3.fee), x4⟩ : eZ) : eZ) ++ Uns.enc ((⟨(⟨((dK 0 l18 ⟨x15, g12.fee, g12.out, x16, x17⟩ ((a11.map (dL a2 a4.period)).map ff)).1.az), 0, 0, 0, 0⟩ : dM).eG, af 1 ((av a1 a10).ax), ({ g27 with mode := (cO g27.mode g27.aX a3.et x32 x33 x34 x35).1, aX := (cO g27.mode g27.aX a3.et x32 x33 x34 x35).2, period := (w64 (g27.period + 1)) } : ah).rin - ({ g27 with mode := (cO g27.mode g27.aX a3.et x32 x33 x34 x35).1, aX := (cO g27.mode g27.aX a3.et x32 x33 x34 x35).2, period := (w64 (g27.period + 1)) } : ah).aG, ({ g27 with mode := (cO g27.mode g27.aX a3.et x32 x33 x34 x35).1, aX := (cO g27.mode g27.aX a3.et x32 x33 x34 x35).2, period := (w64 (g27.period + 1)) } : ah).out, ({ g27 with mode := (cO g27.mode g27.aX a3.et x32 x33 x34 x35).1, aX := (cO g27.mode g27.aX a3.et x32 x33 x34 x35).2, period := (w64 (g27.period + 1)) } : ah).fee⟩ : dM) : dM) ++ [.i (({ g27 with mode := (cO g27.mode g27.aX a3.et x32 x33 x34 x35).1, aX := (cO g27.mode g27.aX a3.et x32 x33 x34 x35).2, period := (w64 (g27.period + 1)) } : ah).mode), .i 0] ++ Uns.enc (a2 : ao) ++ Uns.enc (a3 : an) ++ Uns.enc (({ g27 with mode := (cO g27.mode g27.aX a3.et x32 x33 x34 x35).1, aX := (cO g27.mode g27.aX a3.et x32 x33 x34 x35).2, period := (w64 (g27.period + 1)) } : ah) : ah) ++ [.d a5, .d a6, .d a7, .d a8, .d a9, .d ((av a1 a10).ax), .d l28, .d l24, .d (l28.map Af)])
def f13 : Int × List Dat × ao × an × ah × List Dat × List Dat × List Dat × List Dat × List Dat × List Dat × List Dat -> Bool × List Un := fun (a0, a1, a2, a3, a4, a5, a6, a7, a8, a9, a10, a11) => (decide (0 <= a0) && fS (⟨a2, a3, a4, a5, a6, a7, a8, a9, a10, a11⟩ : ab), Uns.enc (((bf (⟨a2, a3, a4, a5, a6, a7, a8, a9, a10, a11⟩ : ab) a1).ra) : eZ) ++ Uns.enc (((bf (⟨a2, a3, a4, a5, a6, a7, a8, a9, a10, a11⟩ : ab) a1).rb) : dM) ++ [.i ((bf (⟨a2, a3, a4, a5, a6, a7, a8, a9, a10, a11⟩ : ab) a1).next), .i ((bf (⟨a2, a3, a4, a5, a6, a7, a8, a9, a10, a11⟩ : ab) a1).e)] ++ Uns.enc (((bf (⟨a2, a3, a4, a5, a6, a7, a8, a9, a10, a11⟩ : ab) a1).t.a) : ao) ++ Uns.enc (((bf (⟨a2, a3, a4, a5, a6, a7, a8, a9, a10, a11⟩ : ab) a1).t.b) : an) ++ Uns.enc (((bf (⟨a2, a3, a4, a5, a6, a7, a8, a9, a10, a11⟩ : ab) a1).t.n) : ah) ++ [.d ((bf (⟨a2, a3, a4, a5, a6, a7, a8, a9, a10, a11⟩ : ab) a1).t.aC), .d ((bf (⟨a2, a3, a4, a5, a6, a7, a8, a9, a10, a11⟩ : ab) a1).t.notes), .d ((bf (⟨a2, a3, a4, a5, a6, a7, a8, a9, a10, a11⟩ : ab) a1).t.s0), .d ((bf (⟨a2, a3, a4, a5, a6, a7, a8, a9, a10, a11⟩ : ab) a1).t.s1), .d ((bf (⟨a2, a3, a4, a5, a6, a7, a8, a9, a10, a11⟩ : ab) a1).t.s2), .d ((bf (⟨a2, a3, a4, a5, a6, a7, a8, a9, a10, a11⟩ : ab) a1).t.ax), .d ((bf (⟨a2, a3, a4, a5, a6, a7, a8, a9, a10, a11⟩ : ab) a1).t.tr), .d ((bf (⟨a2, a3, a4, a5, a6, a7, a8, a9, a10, a11⟩ : ab) a1).wQ), .d ((bf (⟨a2, a3, a4, a5, a6, a7, a8, a9, a10, a11⟩ : ab) a1).notes)])
set_option maxHeartbeats 4000000 in
theorem Nm (a0 : Int) (a1 : List Dat) (a2 : ao) (a3 : an) (a4 : ah) (a5 : List Dat) (a6 : List Dat) (a7 : List Dat) (a8 : List Dat) (a9 : List Dat) (a10 : List Dat) (a11 : List Dat) (hc : (decide (0 <= a0) && fS (⟨a2, a3, a4, a5, a6, a7, a8, a9, a10, a11⟩ : ab)) = true) : ∃ m, t13 m (a0, a1, a2, a3, a4, a5, a6, a7, a8, a9, a10, a11) = some (Uns.enc (((bf (⟨a2, a3, a4, a5, a6, a7, a8, a9, a10, a11⟩ : ab) a1).ra) : eZ) ++ Uns.enc (((bf (⟨a2, a3, a4, a5, a6, a7, a8, a9, a10, a11⟩ : ab) a1).rb) : dM) ++ [.i ((bf (⟨a2, a3, a4, a5, a6, a7, a8, a9, a10, a11⟩ : ab) a1).next), .i ((bf (⟨a2, a3, a4, a5, a6, a7, a8, a9, a10, a11⟩ : ab) a1).e)] ++ Uns.enc (((bf (⟨a2, a3, a4, a5, a6, a7, a8, a9, a10, a11⟩ : ab) a1).t.a) : ao) ++ Uns.enc (((bf (⟨a2, a3, a4, a5, a6, a7, a8, a9, a10, a11⟩ : ab) a1).t.b) : an) ++ Uns.enc (((bf (⟨a2, a3, a4, a5, a6, a7, a8, a9, a10, a11⟩ : ab) a1).t.n) : ah) ++ [.d ((bf (⟨a2, a3, a4, a5, a6, a7, a8, a9, a10, a11⟩ : ab) a1).t.aC), .d ((bf (⟨a2, a3, a4, a5, a6, a7, a8, a9, a10, a11⟩ : ab) a1).t.notes), .d ((bf (⟨a2, a3, a4, a5, a6, a7, a8, a9, a10, a11⟩ : ab) a1).t.s0), .d ((bf (⟨a2, a3, a4, a5, a6, a7, a8, a9, a10, a11⟩ : ab) a1).t.s1), .d ((bf (⟨a2, a3, a4, a5, a6, a7, a8, a9, a10, a11⟩ : ab) a1).t.s2), .d ((bf (⟨a2, a3, a4, a5, a6, a7, a8, a9, a10, a11⟩ : ab) a1).t.ax), .d ((bf (⟨a2, a3, a4, a5, a6, a7, a8, a9, a10, a11⟩ : ab) a1).t.tr), .d ((bf (⟨a2, a3, a4, a5, a6, a7, a8, a9, a10, a11⟩ : ab) a1).wQ), .d ((bf (⟨a2, a3, a4, a5, a6, a7, a8, a9, a10, a11⟩ : ab) a1).notes)]) := by
 have h0 := zak (zan.1 hc).1; have h := dZ.1 (zan.1 hc).2; clear hc; have hl := jF h; have hpl := dg h; have hts := cI h; have hpe : 0 <= a4.period /\ a4.period <= 600 := h.period; have hpa : 0 <= a4.aX /\ a4.aX <= a4.period := h.aX; refine ⟨0, ?_⟩; unfold t13; cases ho : a4.dt with
 | true =>
  have hC : bf (⟨a2, a3, a4, a5, a6, a7, a8, a9, a10, a11⟩ : ab) a1 = noR 5 (⟨a2, a3, a4, a5, a6, a7, a8, a9, a10, a11⟩ : ab) := by unfold bf; rw [show ((⟨a2, a3, a4, a5, a6, a7, a8, a9, a10, a11⟩ : ab)).n.dt = true from ho]; rfl
  rw [hC]; dsimp only; exact aS (zad h0) (jA ho rfl)
 | false =>
 dsimp only; refine aS (zad h0) (jB ho (aS (zad h0) ?_))
 by_cases hp : a4.period >= 600
 . have hC : bf (⟨a2, a3, a4, a5, a6, a7, a8, a9, a10, a11⟩ : ab) a1 = noR 4 (⟨a2, a3, a4, a5, a6, a7, a8, a9, a10, a11⟩ : ab) := by unfold bf; rw [show ((⟨a2, a3, a4, a5, a6, a7, a8, a9, a10, a11⟩ : ab)).n.dt = false from ho, j7, bz hp]
   rw [hC, bz hp]; rfl
 rw [aB hp]; refine aS (zan.2 ⟨zad h0, zad hl⟩) ?_
 refine aS (zan.2 ⟨rfl, nL (l := a10) h.sF (zax hpl.2 (by decide))⟩) ?_
 refine gS fun x2 e2 => ?_
 obtain rfl : x2 = af 1 a10 := e2; refine aS (zad hl.2.2.2.2.2.1) ?_
 by_cases he : (cP (⟨a2, a3, a4, a5, a6, a7, a8, a9, a10, a11⟩ : ab) a1).e = 0
 case neg =>
  have hC : bf (⟨a2, a3, a4, a5, a6, a7, a8, a9, a10, a11⟩ : ab) a1 = noR (cP (⟨a2, a3, a4, a5, a6, a7, a8, a9, a10, a11⟩ : ab) a1).e (⟨a2, a3, a4, a5, a6, a7, a8, a9, a10, a11⟩ : ab) := by unfold bf; rw [show ((⟨a2, a3, a4, a5, a6, a7, a8, a9, a10, a11⟩ : ab)).n.dt = false from ho, j7, aB hp, lq he]
  rw [hC]; exact lq he
 have hC : bf (⟨a2, a3, a4, a5, a6, a7, a8, a9, a10, a11⟩ : ab) a1 = bB (⟨a2, a3, a4, a5, a6, a7, a8, a9, a10, a11⟩ : ab) a1 := by unfold bf; rw [show ((⟨a2, a3, a4, a5, a6, a7, a8, a9, a10, a11⟩ : ab)).n.dt = false from ho, j7, aB hp, lV he]
 rw [hC]; refine Eq.trans (lV he) ?_
 have hp' : ((⟨a2, a3, a4, a5, a6, a7, a8, a9, a10, a11⟩ : ab)).n.period < 600 := by simp only; omega
 have D := cq h.lW; have b : 0 <= af 1 a10 /\ 0 <= af 2 a10 /\ af 1 a10 + af 2 a10 + a4.aR <= 1099511627776 := dO h; have r0 : 0 <= a4.aR := h.sJ; have f : 0 <= a4.fee /\ a4.fee <= 1200000000000 * a4.period := h.fee; have o : 0 <= a4.out /\ a4.out <= a3.advance := h.out; have r : 0 <= a4.aG /\ a4.aG <= a4.rin /\ a4.rin <= 1200000000000 * (a4.period + 1) := h.res; have lo : a4.aM - a4.aR = af 2 a10 := h.lost; obtain ⟨q1, q2, q3, q4, q5, q6, q7, q8, q9⟩ := jZ h he; obtain ⟨c1, c2, c3, c4, c5⟩ := k9 h; obtain ⟨m1, m2, m3, m4⟩ := lE h he; have m3 : 0 <= fV (⟨a2, a3, a4, a5, a6, a7, a8, a9, a10, a11⟩ : ab) a1 /\ fV (⟨a2, a3, a4, a5, a6, a7, a8, a9, a10, a11⟩ : ab) a1 <= a4.rin - a4.aG := ⟨m3.1, m3.2.1⟩
 have m4 : 0 <= om (⟨a2, a3, a4, a5, a6, a7, a8, a9, a10, a11⟩ : ab) a1 /\ om (⟨a2, a3, a4, a5, a6, a7, a8, a9, a10, a11⟩ : ab) a1 <= a3.advance - a4.out := m4; obtain ⟨x1, x2, x3, x4⟩ := tD h he; obtain ⟨d1, d2, d3, d4, d5⟩ := jR h he; obtain ⟨t1, t2, t3⟩ := qH h he; have u2 := pd h he; have k := Bu h; have ad : 0 <= a3.advance /\ a3.advance <= 1099511627776 := D.advance; have nq := gf q1; have hpa9 : a10.length <= 64 := hpl.2; have hqlen : (cP (⟨a2, a3, a4, a5, a6, a7, a8, a9, a10, a11⟩ : ab) a1).ax.length <= 1000 := by
  have hq : (cP (⟨a2, a3, a4, a5, a6, a7, a8, a9, a10, a11⟩ : ab) a1).ax.length = a10.length := by have := congrArg List.length q2; simpa using this
  omega
 have hpo := nL q1 hqlen; have s5 := (fD _ c2.2).2.1; have st := ox h he; have q3 : af 1 (cP (⟨a2, a3, a4, a5, a6, a7, a8, a9, a10, a11⟩ : ab) a1).ax = af 1 a10 - (cP (⟨a2, a3, a4, a5, a6, a7, a8, a9, a10, a11⟩ : ab) a1).p - (cP (⟨a2, a3, a4, a5, a6, a7, a8, a9, a10, a11⟩ : ab) a1).l := q3; have q4 : af 2 (cP (⟨a2, a3, a4, a5, a6, a7, a8, a9, a10, a11⟩ : ab) a1).ax = af 2 a10 + (cP (⟨a2, a3, a4, a5, a6, a7, a8, a9, a10, a11⟩ : ab) a1).l - (cP (⟨a2, a3, a4, a5, a6, a7, a8, a9, a10, a11⟩ : ab) a1).r := q4; have stT := st.2.2.2.2.1; have stR : 0 <= aU kR (di (⟨a2, a3, a4, a5, a6, a7, a8, a9, a10, a11⟩ : ab) a1).2.2 /\ aU kR (di (⟨a2, a3, a4, a5, a6, a7, a8, a9, a10, a11⟩ : ab) a1).2.2 <= a4.out := st.2.2.2.1; have s5l : af 5 (cTr (⟨a2, a3, a4, a5, a6, a7, a8, a9, a10, a11⟩ : ab)) <= 1125899906842624000 := by have := c2.1; omega
 refine aS (zan.2 ⟨zad ⟨⟨D.year.1, D.year.2, D.month.1, D.month.2⟩, hpe, ⟨f.1, by omega⟩, b.1, by omega⟩, cV (dB h)⟩) ?_
 refine gS fun x3' e3 => ?_
 obtain rfl : x3' = DE (⟨a2, a3, a4, a5, a6, a7, a8, a9, a10, a11⟩ : ab) := e3; refine gS fun g4 e4 => ?_
 obtain rfl : g4 = { a4 with fee := a4.fee + px (⟨a2, a3, a4, a5, a6, a7, a8, a9, a10, a11⟩ : ab) } := e4; refine aS (zan.2 ⟨rfl, cV c2⟩) ?_
 refine gS fun x5 e5 => ?_
 obtain rfl : x5 = a4.fee + px (⟨a2, a3, a4, a5, a6, a7, a8, a9, a10, a11⟩ : ab) + af 5 (cTr (⟨a2, a3, a4, a5, a6, a7, a8, a9, a10, a11⟩ : ab)) := e5.trans (aa (n := a4.fee + px (⟨a2, a3, a4, a5, a6, a7, a8, a9, a10, a11⟩ : ab) + af 5 (cTr (⟨a2, a3, a4, a5, a6, a7, a8, a9, a10, a11⟩ : ab))) (by omega) (by omega)); refine gS fun x8 e8 => ?_
 obtain rfl : x8 = cIn (⟨a2, a3, a4, a5, a6, a7, a8, a9, a10, a11⟩ : ab) a1 := e8.trans (by
  have i := m1; unfold cIn at i ⊢; rw [show w64 ((av a1 a10).p + (av a1 a10).q) = (cP (⟨a2, a3, a4, a5, a6, a7, a8, a9, a10, a11⟩ : ab) a1).p + (cP (⟨a2, a3, a4, a5, a6, a7, a8, a9, a10, a11⟩ : ab) a1).q from aa (by show _ <= (cP (⟨a2, a3, a4, a5, a6, a7, a8, a9, a10, a11⟩ : ab) a1).p + (cP (⟨a2, a3, a4, a5, a6, a7, a8, a9, a10, a11⟩ : ab) a1).q; omega) (by show (cP (⟨a2, a3, a4, a5, a6, a7, a8, a9, a10, a11⟩ : ab) a1).p + (cP (⟨a2, a3, a4, a5, a6, a7, a8, a9, a10, a11⟩ : ab) a1).q <= _; omega)]; rw [show w64 ((cP (⟨a2, a3, a4, a5, a6, a7, a8, a9, a10, a11⟩ : ab) a1).p + (cP (⟨a2, a3, a4, a5, a6, a7, a8, a9, a10, a11⟩ : ab) a1).q + (av a1 a10).r) = (cP (⟨a2, a3, a4, a5, a6, a7, a8, a9, a10, a11⟩ : ab) a1).p + (cP (⟨a2, a3, a4, a5, a6, a7, a8, a9, a10, a11⟩ : ab) a1).q + (cP (⟨a2, a3, a4, a5, a6, a7, a8, a9, a10, a11⟩ : ab) a1).r from aa (by show _ <= (cP (⟨a2, a3, a4, a5, a6, a7, a8, a9, a10, a11⟩ : ab) a1).p + (cP (⟨a2, a3, a4, a5, a6, a7, a8, a9, a10, a11⟩ : ab) a1).q + (cP (⟨a2, a3, a4, a5, a6, a7, a8, a9, a10, a11⟩ : ab) a1).r; omega) (by show (cP (⟨a2, a3, a4, a5, a6, a7, a8, a9, a10, a11⟩ : ab) a1).p + (cP (⟨a2, a3, a4, a5, a6, a7, a8, a9, a10, a11⟩ : ab) a1).q + (cP (⟨a2, a3, a4, a5, a6, a7, a8, a9, a10, a11⟩ : ab) a1).r <= _; omega)]; have w : w64 ((cP (⟨a2, a3, a4, a5, a6, a7, a8, a9, a10, a11⟩ : ab) a1).p + (cP (⟨a2, a3, a4, a5, a6, a7, a8, a9, a10, a11⟩ : ab) a1).q + (cP (⟨a2, a3, a4, a5, a6, a7, a8, a9, a10, a11⟩ : ab) a1).r) = (cP (⟨a2, a3, a4, a5, a6, a7, a8, a9, a10, a11⟩ : ab) a1).p + (cP (⟨a2, a3, a4, a5, a6, a7, a8, a9, a10, a11⟩ : ab) a1).q + (cP (⟨a2, a3, a4, a5, a6, a7, a8, a9, a10, a11⟩ : ab) a1).r := aa (by omega) (by omega); simp only [zbG, w])
 have en : w64 (a4.fee + px (⟨a2, a3, a4, a5, a6, a7, a8, a9, a10, a11⟩ : ab) + af 5 (cTr (⟨a2, a3, a4, a5, a6, a7, a8, a9, a10, a11⟩ : ab)) - cIn (⟨a2, a3, a4, a5, a6, a7, a8, a9, a10, a11⟩ : ab) a1) = mG (⟨a2, a3, a4, a5, a6, a7, a8, a9, a10, a11⟩ : ab) a1 := aa (by show _ <= mG (⟨a2, a3, a4, a5, a6, a7, a8, a9, a10, a11⟩ : ab) a1; omega) (by show mG (⟨a2, a3, a4, a5, a6, a7, a8, a9, a10, a11⟩ : ab) a1 <= _; omega); rw [en]; refine aS (zan.2 ⟨rfl, zad ⟨by omega, ⟨r.1, r.2.1, by show a4.rin <= _; omega⟩, ⟨o.1, by show a4.out <= _; omega⟩, D.advance.1, by omega⟩⟩) ?_
 refine gS fun x9 e9 => ?_
 obtain rfl : x9 = fV (⟨a2, a3, a4, a5, a6, a7, a8, a9, a10, a11⟩ : ab) a1 := e9; refine gS fun x10 e10 => ?_
 obtain rfl : x10 = om (⟨a2, a3, a4, a5, a6, a7, a8, a9, a10, a11⟩ : ab) a1 := e10; refine gS fun g11 e11 => ?_
 obtain rfl : g11 = cN1 (⟨a2, a3, a4, a5, a6, a7, a8, a9, a10, a11⟩ : ab) a1 := e11; refine gS fun x14 e14 => ?_
 obtain rfl : x14 = (cX (⟨a2, a3, a4, a5, a6, a7, a8, a9, a10, a11⟩ : ab) a1).az := e14.trans (by
  have i := m1; have z : (cX (⟨a2, a3, a4, a5, a6, a7, a8, a9, a10, a11⟩ : ab) a1).az = cIn (⟨a2, a3, a4, a5, a6, a7, a8, a9, a10, a11⟩ : ab) a1 + fV (⟨a2, a3, a4, a5, a6, a7, a8, a9, a10, a11⟩ : ab) a1 + om (⟨a2, a3, a4, a5, a6, a7, a8, a9, a10, a11⟩ : ab) a1 := rfl; rw [z]; unfold cIn at i ⊢; rw [show w64 ((av a1 a10).p + (av a1 a10).q) = (cP (⟨a2, a3, a4, a5, a6, a7, a8, a9, a10, a11⟩ : ab) a1).p + (cP (⟨a2, a3, a4, a5, a6, a7, a8, a9, a10, a11⟩ : ab) a1).q from aa (by show _ <= (cP (⟨a2, a3, a4, a5, a6, a7, a8, a9, a10, a11⟩ : ab) a1).p + (cP (⟨a2, a3, a4, a5, a6, a7, a8, a9, a10, a11⟩ : ab) a1).q; omega) (by show (cP (⟨a2, a3, a4, a5, a6, a7, a8, a9, a10, a11⟩ : ab) a1).p + (cP (⟨a2, a3, a4, a5, a6, a7, a8, a9, a10, a11⟩ : ab) a1).q <= _; omega)]; rw [show w64 ((cP (⟨a2, a3, a4, a5, a6, a7, a8, a9, a10, a11⟩ : ab) a1).p + (cP (⟨a2, a3, a4, a5, a6, a7, a8, a9, a10, a11⟩ : ab) a1).q + (av a1 a10).r) = (cP (⟨a2, a3, a4, a5, a6, a7, a8, a9, a10, a11⟩ : ab) a1).p + (cP (⟨a2, a3, a4, a5, a6, a7, a8, a9, a10, a11⟩ : ab) a1).q + (cP (⟨a2, a3, a4, a5, a6, a7, a8, a9, a10, a11⟩ : ab) a1).r from aa (by show _ <= (cP (⟨a2, a3, a4, a5, a6, a7, a8, a9, a10, a11⟩ : ab) a1).p + (cP (⟨a2, a3, a4, a5, a6, a7, a8, a9, a10, a11⟩ : ab) a1).q + (cP (⟨a2, a3, a4, a5, a6, a7, a8, a9, a10, a11⟩ : ab) a1).r; omega) (by show (cP (⟨a2, a3, a4, a5, a6, a7, a8, a9, a10, a11⟩ : ab) a1).p + (cP (⟨a2, a3, a4, a5, a6, a7, a8, a9, a10, a11⟩ : ab) a1).q + (cP (⟨a2, a3, a4, a5, a6, a7, a8, a9, a10, a11⟩ : ab) a1).r <= _; omega)]; rw [aa (n := (cP (⟨a2, a3, a4, a5, a6, a7, a8, a9, a10, a11⟩ : ab) a1).p + (cP (⟨a2, a3, a4, a5, a6, a7, a8, a9, a10, a11⟩ : ab) a1).q + (cP (⟨a2, a3, a4, a5, a6, a7, a8, a9, a10, a11⟩ : ab) a1).r + fV (⟨a2, a3, a4, a5, a6, a7, a8, a9, a10, a11⟩ : ab) a1) (by omega) (by omega), aa (n := (cP (⟨a2, a3, a4, a5, a6, a7, a8, a9, a10, a11⟩ : ab) a1).p + (cP (⟨a2, a3, a4, a5, a6, a7, a8, a9, a10, a11⟩ : ab) a1).q + (cP (⟨a2, a3, a4, a5, a6, a7, a8, a9, a10, a11⟩ : ab) a1).r + fV (⟨a2, a3, a4, a5, a6, a7, a8, a9, a10, a11⟩ : ab) a1 + om (⟨a2, a3, a4, a5, a6, a7, a8, a9, a10, a11⟩ : ab) a1) (by omega) (by omega)])
 have c1r : (0 <= (cN1 (⟨a2, a3, a4, a5, a6, a7, a8, a9, a10, a11⟩ : ab) a1).aG /\ (cN1 (⟨a2, a3, a4, a5, a6, a7, a8, a9, a10, a11⟩ : ab) a1).aG <= (cN1 (⟨a2, a3, a4, a5, a6, a7, a8, a9, a10, a11⟩ : ab) a1).rin /\ (cN1 (⟨a2, a3, a4, a5, a6, a7, a8, a9, a10, a11⟩ : ab) a1).rin <= 1152921504606846976) := by
  show 0 <= a4.aG + fV (⟨a2, a3, a4, a5, a6, a7, a8, a9, a10, a11⟩ : ab) a1 /\ a4.aG + fV (⟨a2, a3, a4, a5, a6, a7, a8, a9, a10, a11⟩ : ab) a1 <= a4.rin /\ a4.rin <= _; omega
 refine aS (zan.2 ⟨zad ⟨⟨⟨q5, by show (cP (⟨a2, a3, a4, a5, a6, a7, a8, a9, a10, a11⟩ : ab) a1).p <= _; omega⟩, ⟨q6, by show (cP (⟨a2, a3, a4, a5, a6, a7, a8, a9, a10, a11⟩ : ab) a1).l <= _; omega⟩, q7, by show (cP (⟨a2, a3, a4, a5, a6, a7, a8, a9, a10, a11⟩ : ab) a1).r <= _; omega⟩, c1r⟩, zan.2 ⟨hpo, cV c2⟩⟩) ?_
 refine gS fun x15 e15 => ?_
 obtain rfl : x15 = (cX (⟨a2, a3, a4, a5, a6, a7, a8, a9, a10, a11⟩ : ab) a1).au := e15; refine gS fun x16 e16 => ?_
 obtain rfl : x16 = (cX (⟨a2, a3, a4, a5, a6, a7, a8, a9, a10, a11⟩ : ab) a1).room := e16; refine aS (zad ⟨hl.2.2.1, hl.2.2.2.1, hl.2.2.2.2.1⟩) ?_
 refine gS fun l17 e17 => ?_
 obtain rfl : l17 = fE (gO (⟨a2, a3, a4, a5, a6, a7, a8, a9, a10, a11⟩ : ab)) ((⟨a2, a3, a4, a5, a6, a7, a8, a9, a10, a11⟩ : ab)).n.mode := e17; refine aS (zan.2 ⟨zad (by omega), zan.2 ⟨x1, x2⟩⟩) ?_
 refine gS fun l23 e23 => ?_
 obtain rfl : l23 = (di (⟨a2, a3, a4, a5, a6, a7, a8, a9, a10, a11⟩ : ab) a1).2.2 := e23; refine aS d5 ?_
 refine gS fun x25 e25 => ?_
 obtain rfl : x25 = (du (⟨a2, a3, a4, a5, a6, a7, a8, a9, a10, a11⟩ : ab) a1).1.out := e25; have eo : w64 ((du (⟨a2, a3, a4, a5, a6, a7, a8, a9, a10, a11⟩ : ab) a1).1.out + om (⟨a2, a3, a4, a5, a6, a7, a8, a9, a10, a11⟩ : ab) a1) = (cN2 (⟨a2, a3, a4, a5, a6, a7, a8, a9, a10, a11⟩ : ab) a1).out := by
  refine Eq.trans (aa ?_ ?_) rfl
  . rw [d1]; show _ <= a4.out - aU kR (di (⟨a2, a3, a4, a5, a6, a7, a8, a9, a10, a11⟩ : ab) a1).2.2 + om (⟨a2, a3, a4, a5, a6, a7, a8, a9, a10, a11⟩ : ab) a1; omega
  . rw [d1]; show a4.out - aU kR (di (⟨a2, a3, a4, a5, a6, a7, a8, a9, a10, a11⟩ : ab) a1).2.2 + om (⟨a2, a3, a4, a5, a6, a7, a8, a9, a10, a11⟩ : ab) a1 <= _; omega
 rw [eo]; refine aS (zan.2 ⟨zad ⟨⟨⟨q5, by show (cP (⟨a2, a3, a4, a5, a6, a7, a8, a9, a10, a11⟩ : ab) a1).p <= _; omega⟩, ⟨q6, by show (cP (⟨a2, a3, a4, a5, a6, a7, a8, a9, a10, a11⟩ : ab) a1).l <= _; omega⟩, q7, by show (cP (⟨a2, a3, a4, a5, a6, a7, a8, a9, a10, a11⟩ : ab) a1).r <= _; omega⟩, ⟨by show 0 <= (du (⟨a2, a3, a4, a5, a6, a7, a8, a9, a10, a11⟩ : ab) a1).1.aM; rw [d1]; show 0 <= a4.aM; omega, by show (du (⟨a2, a3, a4, a5, a6, a7, a8, a9, a10, a11⟩ : ab) a1).1.aM <= _; rw [d1]; show a4.aM <= _; omega⟩, by show 0 <= (du (⟨a2, a3, a4, a5, a6, a7, a8, a9, a10, a11⟩ : ab) a1).1.aR; rw [d1]; exact r0, by show (du (⟨a2, a3, a4, a5, a6, a7, a8, a9, a10, a11⟩ : ab) a1).1.aR <= _; rw [d1]; show a4.aR <= _; omega⟩, zan.2 ⟨hpo, cV d3⟩⟩) ?_
 refine gS fun g26 e26 => ?_
 obtain rfl : g26 = cN2 (⟨a2, a3, a4, a5, a6, a7, a8, a9, a10, a11⟩ : ab) a1 := e26; refine gS fun l27 e27 => ?_
 obtain rfl : l27 = lT (⟨a2, a3, a4, a5, a6, a7, a8, a9, a10, a11⟩ : ab) a1 := e27; refine aS (zan.2 ⟨rfl, zan.2 ⟨hpo, cV t1⟩⟩) ?_
 refine gS fun x31 e31 => ?_
 refine gS fun x32 e32 => ?_
 refine gS fun x33 e33 => ?_
 refine gS fun x34 e34 => ?_
 have g4 := (rf h he).2.2.2; have el : w64 ((cN2 (⟨a2, a3, a4, a5, a6, a7, a8, a9, a10, a11⟩ : ab) a1).aM - (cN2 (⟨a2, a3, a4, a5, a6, a7, a8, a9, a10, a11⟩ : ab) a1).aR) = (cN2 (⟨a2, a3, a4, a5, a6, a7, a8, a9, a10, a11⟩ : ab) a1).aM - (cN2 (⟨a2, a3, a4, a5, a6, a7, a8, a9, a10, a11⟩ : ab) a1).aR := aa (by omega) (by omega); rw [el, show ((bu (⟨a2, a5, a6, a3, a7, a8, a9⟩ : aP)).getD (0, 0)).1 = af 1 a5 from D.NV] at e34; have n2m : (cN2 (⟨a2, a3, a4, a5, a6, a7, a8, a9, a10, a11⟩ : ab) a1).mode = a4.mode /\ (cN2 (⟨a2, a3, a4, a5, a6, a7, a8, a9, a10, a11⟩ : ab) a1).aX = a4.aX /\ (cN2 (⟨a2, a3, a4, a5, a6, a7, a8, a9, a10, a11⟩ : ab) a1).period = a4.period := by rw [u2]; exact ⟨rfl, rfl, rfl⟩
 have ep : w64 ((cN2 (⟨a2, a3, a4, a5, a6, a7, a8, a9, a10, a11⟩ : ab) a1).period + 1) = a4.period + 1 := by rw [n2m.2.2]; exact aa (by omega) (by omega)
 have ex : cO (cN2 (⟨a2, a3, a4, a5, a6, a7, a8, a9, a10, a11⟩ : ab) a1).mode (cN2 (⟨a2, a3, a4, a5, a6, a7, a8, a9, a10, a11⟩ : ab) a1).aX a3.et x31 x32 x33 x34 = tT (⟨a2, a3, a4, a5, a6, a7, a8, a9, a10, a11⟩ : ab) a1 := by rw [n2m.1, n2m.2.1, e31, e32, e33, e34]; rfl
 rw [ep, ex]; refine aS (zad ?_) ?_
 . rw [n2m.2.1]; omega
 have c2r : (0 <= (cN2 (⟨a2, a3, a4, a5, a6, a7, a8, a9, a10, a11⟩ : ab) a1).aG /\ (cN2 (⟨a2, a3, a4, a5, a6, a7, a8, a9, a10, a11⟩ : ab) a1).aG <= (cN2 (⟨a2, a3, a4, a5, a6, a7, a8, a9, a10, a11⟩ : ab) a1).rin /\ (cN2 (⟨a2, a3, a4, a5, a6, a7, a8, a9, a10, a11⟩ : ab) a1).rin <= 1152921504606846976) := by
  rw [u2]; show 0 <= a4.aG + fV (⟨a2, a3, a4, a5, a6, a7, a8, a9, a10, a11⟩ : ab) a1 /\ a4.aG + fV (⟨a2, a3, a4, a5, a6, a7, a8, a9, a10, a11⟩ : ab) a1 <= a4.rin + aU kT (di (⟨a2, a3, a4, a5, a6, a7, a8, a9, a10, a11⟩ : ab) a1).2.2 /\ a4.rin + aU kT (di (⟨a2, a3, a4, a5, a6, a7, a8, a9, a10, a11⟩ : ab) a1).2.2 <= _; omega
 refine aS (zad h0) ?_
 refine aS (zan.2 ⟨zad h0, zan.2 ⟨zad c2r, zan.2 ⟨hpo, cV t1⟩⟩⟩) ?_
 rw [show w64 (a4.period + 1) = a4.period + 1 from aa (by omega) (by omega)]; rfl
theorem Eh : ER 13 (mkE N13.en N13.ex f13) := aq ak T47.right (fun m => []) (t := t13) (by kernel_rfl) (fun m => aA) (fun m a => by kernel_rfl) fun (a0, a1, a2, a3, a4, a5, a6, a7, a8, a9, a10, a11) hc => Nm a0 a1 a2 a3 a4 a5 a6 a7 a8 a9 a10 a11 hc
def T13 : Tb Tryz.prog LQ TE XX := T47.add 13 _ Eh
theorem vN (d : Dat) : (gZ d).i 0 = d.i 0 /\ (gZ d).i 1 = d.i 1 /\ (gZ d).i 2 = 0 /\ (gZ d).i 3 = 0 /\ (gZ d).b 4 = false := ⟨rfl, rfl, rfl, rfl, rfl⟩
theorem w7 : ∀ l : List Dat, af 1 (l.map gZ) = af 1 l /\ af 2 (l.map gZ) = 0
 | [] => ⟨rfl, rfl⟩
 | d :: l => by
  obtain ⟨h1, h2⟩ := w7 l; simp only [zaX, af, h1, h2, (vN d).2.1, (vN d).2.2.1]; exact ⟨trivial, rfl⟩
theorem xX : ∀ l : List Dat, af 5 (l.map rC) = 0 /\ af 6 (l.map rC) = 0
 | [] => ⟨rfl, rfl⟩
 | d :: l => by
  obtain ⟨h1, h2⟩ := xX l; simp only [zaX, af, h1, h2, rC, og, oS]
  decide
theorem A7 {d : aP} (h : (bu d).isSome = true) : dk (kp d) := by
 have D := cq h; obtain ⟨s1, s2⟩ := w7 d.aC; obtain ⟨n5, n6⟩ := xX d.notes; refine ⟨h, ?_, fun x hx => ?_, ?_, fun x hx => ?_, ?_, ?_, zb8 _, ?_, ?_, ?_, ?_, ?_, ?_, ?_⟩
 . simp only [kp, List.map_map]; rfl
 . obtain ⟨y, hy, rfl⟩ := za3.1 (show x ∈ d.notes.map rC from hx); have := D.note y hy; refine ⟨zad ?_, ?_⟩
   . show (0 <= y.i 1 /\ y.i 1 <= 1099511627776 /\ (0 : Int) <= 0 /\ (0 : Int) = 0 /\ (0 : Int) <= 0 /\ (0 : Int) + 0 <= y.i 1 /\ (0 : Int) <= 0 /\ (0 : Int) <= 1125899906842624); omega
   . show (0 : Int) <= 1200000000000 * 0; omega
 . simp only [kp, List.map_map]; rfl
 . obtain ⟨y, hy, rfl⟩ := za3.1 (show x ∈ d.aC.map gZ from hx); have := D.sF y hy; obtain ⟨_, e1, e2, e3, e4⟩ := vN y; unfold gm; rw [e1, e2, e3, e4]
   and_intros <;> first | omega | (intro h; cases h; done) | (intro _; rfl)
 . show af 1 (d.aC.map gZ) + af 2 (d.aC.map gZ) + 0 <= af 1 d.aC; omega
 . show (0 : Int) - 0 = af 2 (d.aC.map gZ); omega
 . show (0 : Int) <= 0 /\ (0 : Int) <= 600; omega
 . show (0 : Int) <= 0 /\ (0 : Int) <= 2; omega
 . show (0 : Int) <= 0 /\ (0 : Int) <= 0; omega
 . show (0 : Int) <= 0 /\ (0 : Int) <= 1200000000000 * 0; omega
 . exact ⟨zb8 _, D.advance.1⟩
 . show (0 : Int) <= 0 /\ 0 <= d.b.bU /\ d.b.bU <= 1200000000000 * (0 + 1)
   have := D.bU; omega
 . show af 6 (d.notes.map rC) <= af 2 (d.aC.map gZ); omega
theorem I3 {d : aP} (h : (bu d).isSome = true) : dN d = kp d := by unfold dN; rw [if_pos h]
def fN : aP := ⟨⟨2024, 1, 0⟩, [.r [.n 1, .n 100]], [.r [.n 0, .n 100, .n 0]], ⟨0, 0, 0, 0, 0, 0, 0, 0, 0, 0⟩, [.r [.n 3, .n 0], .r [.n 7, .n 0]], [.r [.n 3, .n 0], .r [.n 7, .n 0]], [.r [.n 3, .n 0], .r [.n 7, .n 0]]⟩
theorem vJ : (bu fN).isSome = true := by kernel_rfl
theorem IV : dN fN = kp fN := I3 vJ
theorem Qi : dk (kp fN) := A7 vJ
def N12 : aD := ⟨T13.tab, 12, ⟨[], [], 0⟩, ⟨[.agg [.int .i64, .int .i64, .int .i64, .buf 0 2, .buf 1 3, .int .i64, .int .i64, .int .i64, .int .i64, .int .i64, .int .i64, .int .i64, .int .i64, .int .i64, .int .i64, .buf 2 2, .buf 3 2, .buf 4 2]], [.ag (sI 2), .ag (sI 3), .ag (sI 2), .ag (sI 2), .ag (sI 2)], 0⟩, []⟩
def t12 (m : Nat) : Unit -> Option (List Un) := fun _ =>
 some (Uns.enc ((⟨2024, 1, 0⟩ : ao) : ao) ++ Uns.enc ((⟨0, 0, 0, 0, 0, 0, 0, 0, 0, 0⟩ : an) : an) ++ [.d ([.r [.n 1, .n 100]] : List Dat), .d ([.r [.n 0, .n 100, .n 0]] : List Dat), .d ([.r [.n 3, .n 0], .r [.n 7, .n 0]] : List Dat), .d ([.r [.n 3, .n 0], .r [.n 7, .n 0]] : List Dat), .d ([.r [.n 3, .n 0], .r [.n 7, .n 0]] : List Dat)])
def f12 : Unit -> Bool × List Un := fun _ => (true, Uns.enc ((fN.a) : ao) ++ Uns.enc ((fN.b) : an) ++ [.d (fN.aC), .d (fN.notes), .d (fN.s0), .d (fN.s1), .d (fN.s2)])
theorem Pr : ∃ m, t12 m () = some (Uns.enc ((fN.a) : ao) ++ Uns.enc ((fN.b) : an) ++ [.d (fN.aC), .d (fN.notes), .d (fN.s0), .d (fN.s1), .d (fN.s2)]) := by
 exact ⟨0, rfl⟩
theorem Kv : ER 12 (mkE N12.en N12.ex f12) := aq ak T13.right (fun m => []) (t := t12) (by kernel_rfl) (fun m => aA) (fun m a => by kernel_rfl) fun _ hc => Pr
def T12 : Tb Tryz.prog LQ TE XX := T13.add 12 _ Kv
def N3 : aD := ⟨T12.tab, 3, ⟨[], [], 0⟩, ⟨[.bool], [], 0⟩, []⟩
def t3 (m : Nat) : Unit -> Option (List Un) := fun _ =>
 chk (decide (fN.aC.length < 1000000 /\ fN.notes.length < 1000000 /\ fN.s0.length < 1000000 /\ fN.s1.length < 1000000 /\ fN.s2.length < 1000000)) <|
 lt (((if (bu fN).isSome then 0 else -1) : Int) : Int) fun x1 =>
 bif ((decide (x1 < 0)) && true) then
 some ([.b false])
 else
 bif ((if (bu fN).isSome then 0 else 2) : Int) != 0 then
 some ([.b false])
 else
 chk (decide (0 <= x1) && fS (dN fN)) <|
 lt (((bf (dN fN) ([.r [.n 1, .n 40, .n 0, .n 0, .n 0, .n 0, .n (bI false)]] : List Dat)).ra) : eZ) fun g4 =>
 lt (((bf (dN fN) ([.r [.n 1, .n 40, .n 0, .n 0, .n 0, .n 0, .n (bI false)]] : List Dat)).rb) : dM) fun g5 =>
 lt (((bf (dN fN) ([.r [.n 1, .n 40, .n 0, .n 0, .n 0, .n 0, .n (bI false)]] : List Dat)).wQ) : List Dat) fun l18 =>
 lt (((bf (dN fN) ([.r [.n 1, .n 40, .n 0, .n 0, .n 0, .n 0, .n (bI false)]] : List Dat)).notes) : List Dat) fun l19 =>
 bif ((bf (dN fN) ([.r [.n 1, .n 40, .n 0, .n 0, .n 0, .n 0, .n (bI false)]] : List Dat)).e) == 0 then
 chk (decide (l18.length < 1099511627776)) <|
 bif (jH 4 l18 ([.r [.n 1, .n 7, .n 0, .n 40]] : List Dat)) then
 bif g5.eG == 0 then
 chk (decide (l19.length < 1099511627776)) <|
 bif (jH 3 l19 ([.r [.n 60, .n 0, .n 0]] : List Dat)) then
 bif g5.ax == 60 then
 bif (w64 ((w64 ((w64 ((w64 (g4.au + g4.kH)) + g4.aR)) + g4.draw)) + g4.advance)) == 40 then
 chk (decide (l18.length <= 1000000) && (l18.all mO && decide (af 3 l18 <= 1152921504606846976))) <|
 bif (w64 ((af 3 l18) + g5.eG)) == 40 then
 bif g4.period == 1 then
 some ([.b (g4.au == 40)])
 else
 some ([.b false])
 else
 some ([.b false])
 else
 some ([.b false])
 else
 some ([.b false])
 else
 some ([.b false])
 else
 some ([.b false])
 else
 some ([.b false])
 else
 some ([.b false])
def f3 : Unit -> Bool × List Un := fun _ => (true, [.b (true)])
theorem QL : ∃ m, t3 m () = some ([.b (true)]) := by
 refine ⟨0, ?_⟩; unfold t3; dsimp only [lt]; refine aS (by kernel_rfl) ?_
 refine jB (by kernel_rfl) (jB (by kernel_rfl) (aS (zan.2 ⟨by kernel_rfl, dZ.2 (IV ▸ Qi)⟩) ?_))
 kernel_rfl
theorem OG : ER 3 (mkE N3.en N3.ex f3) := aq ak T12.right (fun m => []) (t := t3) (by kernel_rfl) (fun m => aA) (fun m a => by kernel_rfl) fun _ hc => QL
def T3 : Tb Tryz.prog LQ TE XX := T12.add 3 _ OG
theorem CX (k : cS) : (bu (aQ k)).isSome = true := by rw [Bb]; rfl
theorem GG {T : ab} {l : List Dat} (ho : T.n.dt = false) (hp : T.n.period < 600) (he : (cP T l).e = 0) : bf T l = bB T l := by
 unfold bf; rw [ho, j7, aB (by omega), lV he]
def nP (d : Dat) : Dat := .r [.n (d.i 0), .n (d.i 1)]
def qt (p q r s t u : List Int) (l : List Dat) : List Dat := ofL p q r s t u (l.map fun d => d.i 2) 0 (l.map nP)
theorem tQ (id : Int) (x : Dat) (hx : x.i 0 = id) : ∀ (pre : List Dat) (rest : List Dat) (i : Int), (∀ d ∈ pre, d.i 0 ≠ id) -> eu id i (pre ++ x :: rest) = i + pre.length
 | [], rest, i, _ => by simp only [zaH, eu, if_pos hx, zaB]; omega
 | d :: pre, rest, i, h => by
  have := tQ id x hx pre rest (i + 1) fun y hy => h y (by simp [hy])
  simp only [zaY, eu, if_neg (h d (by simp)), this, zaf, zas]; omega
theorem Qh {p q r s t u : List Int} {i : Int} {x n : Dat} (hx : gm x) (hb : 0 < x.i 1) (hn : n.i 0 = x.i 0 /\ n.i 1 = x.i 1) : gL ((ku p q r s t u i n).i 1) ((ku p q r s t u i n).i 2) ((ku p q r s t u i n).i 3) ((ku p q r s t u i n).i 4) ((ku p q r s t u i n).i 5) = true /\ wM x (ku p q r s t u i n) = true /\ (ku p q r s t u i n).i 0 = x.i 0 := by
 obtain ⟨n0, n1⟩ := hn; obtain ⟨x1, x2, x3, x4, x5, x6⟩ := hx; have h4 : x.b 4 = false := by
  cases hc : x.b 4
  . rfl
  . have := x5 hc; omega
 unfold ku; rw [n0, n1]; dsimp only; have b1 := bc (a := bo p i) (show (0 : Int) <= x.i 1 / 4 by omega); generalize within (bo p i) 0 (x.i 1 / 4) = y at *
 have b2 : 0 <= (if within (bo q i) 0 (2 * (x.i 1 - y)) > x.i 1 - y then 0 else within (bo q i) 0 (2 * (x.i 1 - y))) /\ (if within (bo q i) 0 (2 * (x.i 1 - y)) > x.i 1 - y then 0 else within (bo q i) 0 (2 * (x.i 1 - y))) <= x.i 1 - y := by
  have := bc (a := bo q i) (show (0 : Int) <= 2 * (x.i 1 - y) by omega)
  split <;> omega
 generalize (if within (bo q i) 0 (2 * (x.i 1 - y)) > x.i 1 - y then 0 else within (bo q i) 0 (2 * (x.i 1 - y))) = z at *
 have b3 := bc (a := bo r i) (show (0 : Int) <= 1 + x.i 1 / 50 by omega); generalize within (bo r i) 0 (1 + x.i 1 / 50) = v at *
 have b4 := bc (a := bo s i) (show (0 : Int) <= x.i 1 - y - z by omega); generalize within (bo s i) 0 (x.i 1 - y - z) = c at *
 have b5 := bc (a := bo t i) (show (0 : Int) <= 24 by omega); generalize within (bo t i) 0 24 = w at *
 generalize w64 ((BitVec.ofInt 64 (bo u i) &&& BitVec.ofInt 64 7).toNat) = e; refine ⟨?_, ?_, rfl⟩
 . show gL y z v (if e = 7 then c else 0) (if 0 < w - 12 then w - 12 else 0) = true; simp only [gL, zab, zac]; refine ⟨by omega, by omega, by omega, by omega, by omega, by omega, ?_, ?_, ?_, ?_⟩ <;> split <;> omega
 . show qC (x.i 1) (x.i 2) (x.b 4) y z v (if e = 7 then c else 0) (if 0 < w - 12 then w - 12 else 0) (bI (decide (e = 7)) != 0) = true; rw [FE, h4]; unfold qC; rw [zap, show w64 (x.i 1 - y) = x.i 1 - y from aa (by omega) (by omega), show w64 (x.i 1 - y - z) = x.i 1 - y - z from aa (by omega) (by omega), zaL (show ¬ x.i 1 - y - z < 0 by omega), zap, show w64 (x.i 2 + (x.i 1 - y - z)) = x.i 2 + (x.i 1 - y - z) from aa (by omega) (by omega)]
   by_cases he : e = 7
   . rw [zad he, zaG, if_pos he, zad (show c <= x.i 2 + (x.i 1 - y - z) by omega)]; rfl
   . rw [zaL he, zap, if_neg he]; rfl
theorem Qj {s lost : List Int} {j : Nat} {x n : Dat} (hx : gm x) (hb : ¬ 0 < x.i 1) (hn : n.i 0 = x.i 0) (hl : lost.getD j 0 = x.i 2) : gL ((ky s lost j n).i 1) ((ky s lost j n).i 2) ((ky s lost j n).i 3) ((ky s lost j n).i 4) ((ky s lost j n).i 5) = true /\ wM x (ky s lost j n) = true /\ (ky s lost j n).i 0 = x.i 0 := by
 obtain ⟨x1, x2, x3, x4, x5, x6⟩ := hx; have e0 : x.i 1 = 0 := by omega
 unfold ky; rw [hn, zaC, hl]; have hc : ∃ c, (if (j : Int) < (lost.length : Int) /\ 0 < x.i 2 then within (bo s j) 0 (x.i 2) else 0) = c /\ 0 <= c /\ c <= x.i 2 := by
  refine ⟨_, rfl, ?_, ?_⟩ <;> split
  . exact (bc x2).1
  . omega
  . exact (bc x2).2
  . omega
 obtain ⟨c, hc, c0, c1⟩ := hc; rw [hc]; refine ⟨?_, ?_, rfl⟩
 . show gL 0 0 0 c 0 = true; simp only [gL, zab, zac]
   and_intros <;> omega
 . show qC (x.i 1) (x.i 2) (x.b 4) 0 0 0 c 0 (bI false != 0) = true; rw [FE]; unfold qC; cases h4 : x.b 4
   . have := x6 h4; have : c = 0 := by omega
     subst this; rw [e0]; rfl
   . simp only [zaG, beq_self_eq_true, zba, Bool.not_false]; exact zad c1
theorem Cx (p q r s t u lost : List Int) : ∀ (rest pre : List Dat) (last a b c d : Int), (∀ x ∈ rest, gm x) -> (∀ x ∈ pre, x.i 0 <= last) -> ((pre ++ rest).map fun x => x.i 0).Pairwise (· < ·) -> (∀ x ∈ rest, last < x.i 0 /\ 0 < x.i 0) -> (∀ j, j < rest.length -> lost.getD (pre.length + j) 0 = (ae rest j).i 2) -> 0 <= last ->
 fZ last (ofL p q r s t u lost pre.length (rest.map nP)) = true /\ ∃ y, cU (pre ++ rest) a b c d (ofL p q r s t u lost pre.length (rest.map nP)) = some y /\ y.e = 0
 | [], pre, last, a, b, c, d, _, _, _, _, _, _ => ⟨rfl, ⟨a, b, c, d, 0, pre ++ []⟩, rfl, rfl⟩
 | x :: rest, pre, last, a, b, c, d, hl, hp, hw, hlt, hlo, h0 => by
  have hx := hl x (by simp); have hx0 := hlt x (by simp); have hlo' : ∀ j, j < rest.length -> lost.getD (pre.length + 1 + j) 0 = (ae rest j).i 2 := fun j hj => by
   have := hlo (j + 1) (by simpa using hj); rw [show pre.length + 1 + j = pre.length + (j + 1) by omega, this]; rfl
  have hl0 : lost.getD pre.length 0 = x.i 2 := hlo 0 (by simp); have hw2 : ∀ z ∈ rest, x.i 0 < z.i 0 := by
   rw [zbT, List.pairwise_append] at hw; have := (List.pairwise_cons.1 hw.2.1).1; intro z hz; exact this _ (za3.2 ⟨z, hz, rfl⟩)
  have step : ∀ (y : Dat) (a b c d : Int), y.i 0 = x.i 0 -> fZ (x.i 0) (ofL p q r s t u lost ((pre.length : Int) + 1) (rest.map nP)) = true /\ ∃ z, cU (pre ++ y :: rest) a b c d (ofL p q r s t u lost ((pre.length : Int) + 1) (rest.map nP)) = some z /\ z.e = 0 := fun y a b c d hy => by
   have := Cx p q r s t u lost rest (pre ++ [y]) (x.i 0) a b c d (fun z hz => hl z (by simp [hz])) (fun z hz => by
    rcases zbk.1 hz with hz | hz
    . have := hp z hz; omega
    . rw [zbt.1 hz]; omega) (by simpa [hy] using hw) (fun z hz => by have := hw2 z hz; omega) (by simpa using hlo') (by omega)
   simpa using this
  have skip : fZ last (ofL p q r s t u lost ((pre.length : Int) + 1) (rest.map nP)) = true /\ ∃ z, cU (pre ++ x :: rest) a b c d (ofL p q r s t u lost ((pre.length : Int) + 1) (rest.map nP)) = some z /\ z.e = 0 := by
   have h1 := Cx p q r s t u lost rest (pre ++ [x]) last a b c d; refine ⟨?_, (step x a b c d rfl).2⟩; have tm : ∀ (l : List Dat), fZ (x.i 0) l = true -> fZ last l = true := fun l h => by
    cases l with
    | nil => rfl
    | cons w l =>
     unfold fZ at h ⊢
     split at h
     . cases h
     . rw [if_neg (by omega)]; exact h
   exact tm _ (step x a b c d rfl).1
  have line : ∀ e : Dat, gL (e.i 1) (e.i 2) (e.i 3) (e.i 4) (e.i 5) = true /\ wM x e = true /\ e.i 0 = x.i 0 -> fZ last (e :: ofL p q r s t u lost ((pre.length : Int) + 1) (rest.map nP)) = true /\ ∃ y, cU (pre ++ x :: rest) a b c d (e :: ofL p q r s t u lost ((pre.length : Int) + 1) (rest.map nP)) = some y /\ y.e = 0 := fun e he => by
   obtain ⟨e1, e2, e3⟩ := he; have hi : eu (e.i 0) 0 (pre ++ x :: rest) = (pre.length : Int) := by
    rw [e3, tQ (x.i 0) x rfl pre rest 0 fun z hz => by have := hp z hz; omega]; omega
   refine ⟨?_, ?_⟩
   . unfold fZ; rw [e3, if_neg (by omega), if_pos e1]; exact (step x a b c d rfl).1
   . unfold cU; rw [hi, if_neg (by omega), zaC, ar, if_pos e2, sP]; exact (step (j8 x e) _ _ _ _ rfl).2
  simp only [zaX]; unfold ofL
  split
  . simpa using skip
  . by_cases hb : 0 < (nP x).i 1
    . rw [if_pos hb, zbX]; exact line _ (Qh hx hb ⟨rfl, rfl⟩)
    . rw [if_neg hb, zbX]; exact line _ (Qj hx hb rfl hl0)
theorem GL {T : ab} (h : dk T) (p q r s t u : List Int) : (cP T (qt p q r s t u T.ax)).e = 0 := by
 have D := cq h.lW; have hl := dg h; have hpos : ∀ x ∈ T.ax, 0 < x.i 0 := fun x hx => by
  have hm : x.i 0 ∈ T.ax.map (fun d => d.i 0) := za3.2 ⟨x, hx, rfl⟩; rw [h.ids] at hm; obtain ⟨y, hy, e⟩ := za3.1 hm; have := D.pos y hy; omega
 obtain ⟨a1, y, a2, a3⟩ := Cx p q r s t u (T.ax.map fun d => d.i 2) T.ax [] 0 0 0 0 0 h.sF (fun x hx => by cases hx) (by
  have e := h.ids; rw [zaH, e]; exact D.ids) (fun x hx => by have := hpos x hx; omega) (fun j hj => by
   rw [zaB, zaD, eH hj, zah]; simp [hj]) (by omega)
 have hlen := Eu p q r s t u (T.ax.map fun d => d.i 2) (T.ax.map nP) 0; unfold cP av qt; have ht : kC (ofL p q r s t u (T.ax.map fun d => d.i 2) 0 (T.ax.map nP)) = true := by
  simp only [kC, zab, zac]; exact ⟨by rw [za5] at hlen; omega, a1⟩
 rw [if_pos ht]; rw [show cU T.ax 0 0 0 0 (ofL p q r s t u (T.ax.map fun d => d.i 2) 0 (T.ax.map nP)) = some y from a2]; exact a3
def N20 : aD := ⟨T3.tab, 20, ⟨[.np 0 0 0, .agg [.ints .i64, .ints .i64, .ints .i64, .ints .i64, .ints .i64, .ints .i64]], br 0, 9⟩, ⟨[.buf 9 7], br 0 ++ [.ag (sB 6)], 9⟩, []⟩
abbrev DR : Type := Int × Int × ao × an × ah × List Dat × List Dat × List Dat × List Dat × List Dat × List Dat × List Dat × List Int × List Int × List Int × List Int × List Int × List Int × List Dat × List Int × List Dat
def zJ (m : Nat) (k : DR -> Option (List Un)) : DR -> Option (List Un) := fun (a0, a1, a2, a3, a4, a5, a6, a7, a8, a9, a10, a11, a12, a13, a14, a15, a16, a17, a18, a19, a20) =>
 bif decide (a1 < a0) then
 chk (inb a1 a20.length) <|
 chk (decide (a1.toNat < a20.length)) <|
 lt (ae a20 a1.toNat : Dat) fun d2 =>
 chk (fits (a18.length + 1) 16) <|
 chk (fits (a19.length + 1) 8) <|
 k (a0, (w64 (a1 + 1)), a2, a3, a4, a5, a6, a7, a8, a9, a10, a11, a12, a13, a14, a15, a16, a17, (a18 ++ ([.r [.n (d2.i 0), .n (d2.i 1)]])), (a19 ++ ([(d2.i 2)])), a20)
 else
 chk (decide (a18.length < 1000000) && (a18.all (fun d => decide (d.i 1 <= 1152921504606846976)) && a19.all fun y => decide (y <= 2305843009213693952))) <|
 some (Uns.enc (a2 : ao) ++ Uns.enc (a3 : an) ++ Uns.enc (a4 : ah) ++ [.d a5, .d a6, .d a7, .d a8, .d a9, .d a10, .d a11, .d (ofL a12 a13 a14 a15 a16 a17 a19 0 a18)])
def xT (m : Nat) : Nat -> DR -> Option (List Un) := bp (zJ m)
theorem uO (m : Nat) (n : Nat) : xT m (n + 1) = zJ m (xT m n) := rfl
def GJ (F : DR -> Option (List Un)) : aT := ⟨[.lp [0, 1, 0, 1, 1, 1], .blk 0, .code [1, 1, 1, 1]], ⟨frm 34 [(3, .ptr 9 0 0), (5, .buf 10 2), (6, .buf 11 1), (13, .buf 12 5), (14, .int .i64), (15, .int .i64)], br 0 ++ [.cells [.ints .i64, .ints .i64, .ints .i64, .ints .i64, .ints .i64, .ints .i64], .ag (sI 2), .ints .i64, .ag (sB 4)], 9⟩, onU F⟩
theorem PZ (m : Nat) : ∀ n, HO N20 (GJ (xT m n)) := ay ak T3.right (fun k => [GJ k]) (fun k h => (aJ h aA)) fun k a => by kernel_rfl
def t20 (m : Nat) : Int × List Int × List Int × List Int × List Int × List Int × List Int × ao × an × ah × List Dat × List Dat × List Dat × List Dat × List Dat × List Dat × List Dat -> Option (List Un) := fun (a0, a1, a2, a3, a4, a5, a6, a7, a8, a9, a10, a11, a12, a13, a14, a15, a16) =>
 chk (decide (0 <= a0)) <|
 chk (decide (0 < ([.r [.r a15]] : List Dat).length) && decide (((ae ([.r [.r a15]] : List Dat) 0).d 0).length < 1000000)) <|
 lt (((ae ([.r [.r a15]] : List Dat) 0).d 0) : List Dat) fun l1 =>
 xT m m ((l1.length : Int), 0, a7, a8, a9, a10, a11, a12, a13, a14, a15, a16, a1, a2, a3, a4, a5, a6, [], [], l1)
theorem O3 (m : Nat) (xa : ao) (xb : an) (xn : ah) (x1 x2 x3 x4 x5 x6 x7 : List Dat) (p q r s t u : List Int) : ∀ (rest pre : List Dat) (n : Nat), rest.length < n -> (pre ++ rest).length < 1000 -> (∀ d ∈ pre ++ rest, d.i 1 <= 1152921504606846976 /\ d.i 2 <= 1152921504606846976) ->
 xT m n (((pre ++ rest).length : Int), (pre.length : Int), xa, xb, xn, x1, x2, x3, x4, x5, x6, x7, p, q, r, s, t, u, pre.map nP, pre.map (fun d => d.i 2), pre ++ rest) = some (Uns.enc xa ++ Uns.enc xb ++ Uns.enc xn ++ [.d x1, .d x2, .d x3, .d x4, .d x5, .d x6, .d x7, .d (qt p q r s t u (pre ++ rest))]) := by
 intro rest
 induction rest with
 | nil =>
  intro pre n hn hl hb; obtain ⟨n, rfl⟩ := al n (by simp at hn; omega); rw [uO]; unfold zJ; dsimp only; simp only [zaK] at hl hb ⊢; have h1 : (pre.map nP).all (fun d => decide (d.i 1 <= 1152921504606846976)) = true := zam.2 fun d hd => by
   obtain ⟨x, hx, rfl⟩ := za3.1 hd; exact zad (hb x hx).1
  have h2 : (pre.map (fun d => d.i 2)).all (fun y => decide (y <= 2305843009213693952)) = true := zam.2 fun d hd => by
   obtain ⟨x, hx, rfl⟩ := za3.1 hd; exact zad (by have := (hb x hx).2; omega)
  rw [aB (by omega), h1, h2, zb9, za6, aV (by rw [za5]; omega)]; rfl
 | cons x rest ih =>
  intro pre n hn hl hb; obtain ⟨n, rfl⟩ := al n (by simp at hn; omega); have := ih (pre ++ [x]) n (by simp at hn; omega) (by simpa using hl) (by simpa using hb); simp only [zaf, zai] at hn hl; rw [zbT, zbT, show [x].map nP = [.r [.n (x.i 0), .n (x.i 1)]] from rfl, show [x].map (fun d => d.i 2) = [x.i 2] from rfl] at this; rw [uO]; unfold zJ; dsimp only; simp (disch := omega) only [TRa, TRi, aa, LNl, LNi, zaa, ar]; simp only [LNl, LNi, zaa] at this ⊢; exact this
def f20 : Int × List Int × List Int × List Int × List Int × List Int × List Int × ao × an × ah × List Dat × List Dat × List Dat × List Dat × List Dat × List Dat × List Dat -> Bool × List Un := fun (a0, a1, a2, a3, a4, a5, a6, a7, a8, a9, a10, a11, a12, a13, a14, a15, a16) => (decide (0 <= a0) && (decide (a15.length < 1000) && a15.all (fun d => decide (d.i 1 <= 1152921504606846976 /\ d.i 2 <= 1152921504606846976))), Uns.enc ((a7) : ao) ++ Uns.enc ((a8) : an) ++ Uns.enc ((a9) : ah) ++ [.d (a10), .d (a11), .d (a12), .d (a13), .d (a14), .d (a15), .d (a16), .d (qt a1 a2 a3 a4 a5 a6 a15)])
theorem NN (a0 : Int) (a1 : List Int) (a2 : List Int) (a3 : List Int) (a4 : List Int) (a5 : List Int) (a6 : List Int) (a7 : ao) (a8 : an) (a9 : ah) (a10 : List Dat) (a11 : List Dat) (a12 : List Dat) (a13 : List Dat) (a14 : List Dat) (a15 : List Dat) (a16 : List Dat) (hc : (decide (0 <= a0) && (decide (a15.length < 1000) && a15.all (fun d => decide (d.i 1 <= 1152921504606846976 /\ d.i 2 <= 1152921504606846976)))) = true) : ∃ m, t20 m (a0, a1, a2, a3, a4, a5, a6, a7, a8, a9, a10, a11, a12, a13, a14, a15, a16) = some (Uns.enc ((a7) : ao) ++ Uns.enc ((a8) : an) ++ Uns.enc ((a9) : ah) ++ [.d (a10), .d (a11), .d (a12), .d (a13), .d (a14), .d (a15), .d (a16), .d (qt a1 a2 a3 a4 a5 a6 a15)]) := by
 simp only [zab, zac, zam] at hc; obtain ⟨h0, h1, h2⟩ := hc; refine ⟨a15.length + 1, ?_⟩; unfold t20; dsimp only [lt]; refine aS (zad h0) (aS (zan.2 ⟨rfl, zad (show a15.length < 1000000 by omega)⟩) ?_); exact O3 _ a7 a8 a9 a10 a11 a12 a13 a14 a15 a16 a1 a2 a3 a4 a5 a6 a15 [] (a15.length + 1) (by omega) (by simpa using h1) h2
theorem J2 : ER 20 (mkE N20.en N20.ex f20) := aq ak T3.right (fun m => [GJ (xT m m)]) (t := t20) (by kernel_rfl) (fun m => (aJ (PZ m m) aA)) (fun m a => by kernel_rfl) fun (a0, a1, a2, a3, a4, a5, a6, a7, a8, a9, a10, a11, a12, a13, a14, a15, a16) hc => NN a0 a1 a2 a3 a4 a5 a6 a7 a8 a9 a10 a11 a12 a13 a14 a15 a16 hc
def T20 : Tb Tryz.prog LQ TE XX := T3.add 20 _ J2
theorem uu {T : ab} (h : dk T) (ho : T.n.dt = false) (hp : T.n.period < 600) {l : List Dat} (he : (cP T l).e = 0) : bf T l = bB T l /\ dk (bB T l).t /\ (bB T l).t.n.dt = false /\ (bB T l).t.n.period = T.n.period + 1 /\ (bB T l).t.n.mode = (bB T l).next /\ (0 <= (bB T l).next /\ (bB T l).next <= 2) /\ (T.n.mode = 2 -> (bB T l).next = 2) /\ (bB T l).ra.mode = T.n.mode /\ (bB T l).ra.period = T.n.period + 1 := by
 have u := pd h he; refine ⟨GG ho hp he, De h hp he, ?_, rfl, rfl, (Bo h.mode h.aX.1).1, fun hm => ?_, rfl, rfl⟩
 . show (cN2 T l).dt = false; rw [u]; exact ho
 . show (cO _ _ _ _ _ _ _).1 = 2; unfold cO; rw [if_pos (.inl hm)]
theorem Hh {T : ab} (h : dk T) : (decide (T.ax.length < 1000) && T.ax.all (fun d => decide (d.i 1 <= 1152921504606846976 /\ d.i 2 <= 1152921504606846976))) = true := by
 rw [zab, zam]; have := dg h; exact ⟨zad (by omega), fun d hd => zad (by have := h.sF d hd; unfold gm at this; omega)⟩
theorem wD : ∀ (rest pre : List Dat) (last p : Int), (∀ x ∈ rest, gm x) -> (∀ x ∈ pre, x.i 0 <= last) -> (rest.map fun x => x.i 0).Pairwise (· < ·) -> (∀ x ∈ rest, last < x.i 0) -> (0 <= p /\ p + af 1 rest <= 2199023255552) -> (∀ x ∈ pre, x.i 1 = 0) ->
 fZ last (bq rest) = true /\ ∃ y, cU (pre ++ rest) p 0 0 0 (bq rest) = some y /\ y.e = 0 /\ y.p = p + af 1 rest /\ y.q = 0 /\ y.l = 0 /\ y.r = 0
 | [], pre, last, p, _, _, _, _, _, _ => ⟨rfl, ⟨p, 0, 0, 0, 0, pre ++ []⟩, rfl, rfl, by simp [af], rfl, rfl, rfl⟩
 | x :: rest, pre, last, p, hl, hp, hw, hlt, hs, h0 => by
  have hx := hl x (by simp); obtain ⟨x1, x2, x3, x4, x5, x6⟩ := hx; have hx0 := hlt x (by simp); rw [zaX, List.pairwise_cons] at hw; have n1 := fg 1 rest fun d hd => (hl d (by simp [hd])).1
  simp only [af] at hs; have K : ∀ (z : Dat) (q : Int), z.i 0 = x.i 0 -> z.i 1 = 0 -> (0 <= q /\ q + af 1 rest <= 2199023255552) -> fZ (x.i 0) (bq rest) = true /\ ∃ y, cU (pre ++ z :: rest) q 0 0 0 (bq rest) = some y /\ y.e = 0 /\ y.p = q + af 1 rest /\ y.q = 0 /\ y.l = 0 /\ y.r = 0 := fun z q hz hz1 hq => by
   have := wD rest (pre ++ [z]) (x.i 0) q (fun d hd => hl d (by simp [hd])) (fun d hd => by
    rcases zbk.1 hd with hd | hd
    . have := hp d hd; omega
    . rw [zbt.1 hd]; omega) hw.2 (fun d hd => hw.1 _ (za3.2 ⟨d, hd, rfl⟩)) hq (fun d hd => by
    rcases zbk.1 hd with hd | hd
    . exact h0 d hd
    . rw [zbt.1 hd]; exact hz1)
   simpa using this
  unfold bq
  by_cases hb : 0 < x.i 1
  . rw [if_pos hb, zbX]; have h4 : x.b 4 = false := by
     cases hc : x.b 4
     . rfl
     . have := x5 hc; omega
    have hi : eu ((Dat.r [.n (x.i 0), .n 0, .n (x.i 1), .n 0, .n 0, .n 0, .n (bI false)]).i 0) 0 (pre ++ x :: rest) = (pre.length : Int) := by
     show eu (x.i 0) 0 (pre ++ x :: rest) = _; rw [tQ (x.i 0) x rfl pre rest 0 fun z hz => by have := hp z hz; omega]; omega
    have m1 : wM x (.r [.n (x.i 0), .n 0, .n (x.i 1), .n 0, .n 0, .n 0, .n (bI false)]) = true := by
     show qC (x.i 1) (x.i 2) (x.b 4) 0 (x.i 1) 0 0 0 (bI false != 0) = true; rw [FE, h4]; unfold qC; rw [zap, zap, show w64 (x.i 1 - 0) = x.i 1 from (aa (by omega) (by omega)).trans (by omega), show w64 (x.i 1 - x.i 1) = 0 from (aa (by omega) (by omega)).trans (by omega)]; rfl
    have hd1 : (j8 x (.r [.n (x.i 0), .n 0, .n (x.i 1), .n 0, .n 0, .n 0, .n (bI false)])).i 1 = 0 := by
     show oY (x.i 1) 0 (x.i 1) (bI false != 0) = 0; rw [FE]; unfold oY; rw [zap, show w64 (0 + x.i 1) = x.i 1 from (aa (by omega) (by omega)).trans (by omega)]; exact (aa (by omega) (by omega)).trans (by omega)
    have hloss : fT (x.i 1) 0 (x.i 1) (bI false != 0) = 0 := by rw [FE]; rfl
    obtain ⟨k1, y, k2, k3, k4, k5⟩ := K (j8 x (Dat.r [.n (x.i 0), .n 0, .n (x.i 1), .n 0, .n 0, .n 0, .n (bI false)])) (p + x.i 1) rfl hd1 (by omega); refine ⟨?_, y, ?_, k3, by simp only [af]; omega, k5⟩
    . unfold fZ; show (if x.i 0 <= last then false else if gL 0 (x.i 1) 0 0 0 = true then fZ (x.i 0) (bq rest) else false) = true; rw [if_neg (by omega), if_pos, k1]; simp only [gL, zab, zac]; omega
    . unfold cU; rw [hi, if_neg (by omega), zaC, ar, if_pos m1, sP]; show cU _ (w64 (p + w64 (0 + x.i 1))) (w64 (0 + 0)) (w64 (0 + fT (x.i 1) 0 (x.i 1) (bI false != 0))) (w64 (0 + 0)) _ = _; rw [hloss, show w64 (0 + x.i 1) = x.i 1 from (aa (by omega) (by omega)).trans (by omega), show w64 (p + x.i 1) = p + x.i 1 from aa (by omega) (by omega), show w64 (0 + 0) = (0 : Int) by decide]; exact k2
  . rw [if_neg hb, zaH]; obtain ⟨k1, y, k2, k3, k4, k5⟩ := K x p rfl (by omega) (by omega); refine ⟨?_, y, k2, k3, by simp only [af]; omega, k5⟩; cases hr : bq rest with
    | nil => rfl
    | cons w l =>
     rw [hr] at k1; unfold fZ at k1 ⊢
     split at k1
     . cases k1
     . rw [if_neg (by omega)]; exact k1
theorem xO : ∀ l : List Dat, (bq l).length <= l.length
 | [] => zao _
 | d :: l => by
  have := xO l; unfold bq
  split <;> simp <;> omega
theorem yG {T : ab} (h : dk T) : (cP T (bq T.ax)).e = 0 /\ (cP T (bq T.ax)).p = af 1 T.ax /\ (cP T (bq T.ax)).q = 0 /\ (cP T (bq T.ax)).l = 0 /\ (cP T (bq T.ax)).r = 0 := by
 have D := cq h.lW; have hl := dg h; have b := dO h; have r0 := h.sJ; have hpos : ∀ x ∈ T.ax, 0 < x.i 0 := fun x hx => by
  have hm : x.i 0 ∈ T.ax.map (fun d => d.i 0) := za3.2 ⟨x, hx, rfl⟩; rw [h.ids] at hm; obtain ⟨y, hy, e⟩ := za3.1 hm; have := D.pos y hy; omega
 obtain ⟨a1, y, a2, a3, a4, a5, a6, a7⟩ := wD T.ax [] 0 0 h.sF (fun x hx => by cases hx) (by have e := h.ids; rw [e]; exact D.ids) hpos (by omega) (fun x hx => by cases hx); have ht : kC (bq T.ax) = true := by
  simp only [kC, zab, zac]; exact ⟨by have := xO T.ax; omega, a1⟩
 have hP : cP T (bq T.ax) = y := by
  unfold cP av; rw [if_pos ht, show cU T.ax 0 0 0 0 (bq T.ax) = some y from a2]; rfl
 rw [hP]; exact ⟨a3, by omega, a5, a6, a7⟩
theorem w9 : ∀ l : List Dat, (∀ d ∈ l, 0 <= d.i 3) -> af 3 (jw l) = af 3 l /\ ∀ d ∈ jw l, 1 <= d.i 3
 | [], _ => ⟨rfl, fun d hd => by cases hd⟩
 | d :: l, h => by
  obtain ⟨i1, i2⟩ := w9 l fun x hx => h x (by simp [hx])
  have hd := h d (by simp); unfold jw
  by_cases h0 : 0 < d.i 3
  . rw [if_pos h0]; refine ⟨by simp only [zbX, af, i1]; rfl, fun x hx => ?_⟩; rcases zbk.1 hx with hx | hx
    . rw [zbt.1 hx]; show 1 <= d.i 3; omega
    . exact i2 x hx
  . rw [if_neg h0]; refine ⟨by simp only [zaH, af, i1]; omega, fun x hx => i2 x (by simpa using hx)⟩
theorem nw (f : Dat -> Bool) (hf : ∀ d, f (It d) = f d) : ∀ l : List Dat, (∀ d ∈ l, 0 <= d.i 3) -> aU f (jw l) = aU f l
 | [], _ => rfl
 | d :: l, h => by
  have i1 := nw f hf l fun x hx => h x (by simp [hx])
  have hd := h d (by simp); unfold jw
  by_cases h0 : 0 < d.i 3
  . rw [if_pos h0, zbX, dP, dP, i1]; unfold amt; rw [hf]; rfl
  . rw [if_neg h0, zaH, dP, i1]; have : amt f d = 0 := by unfold amt; cases f d <;> simp only [zaG, zap]; omega
    omega
theorem xY {Q : Dat -> Prop} (hQ : ∀ d, Q d -> Q (It d)) : ∀ l : List Dat, (∀ d ∈ l, Q d) -> ∀ d ∈ jw l, Q d
 | [], _, d, hd => by cases hd
 | x :: l, h, d, hd => by
  unfold jw at hd; rcases zbk.1 hd with hd | hd
  . split at hd
    . rw [zbt.1 hd]; exact hQ _ (h x (by simp))
    . cases hd
  . exact xY hQ l (fun y hy => h y (by simp [hy])) d hd
theorem xg : ∀ l : List Dat, (jw l).length <= l.length
 | [] => zao _
 | d :: l => by
  have := xg l; unfold jw
  split <;> simp <;> omega
theorem A8 : ∀ (c : List Dat) (i : Int), (∀ d ∈ c, aH d = true) -> ∀ d ∈ fp i c, 0 <= d.i 3 /\ (d.i 1 = 3 \/ d.i 1 = 7) /\ i <= d.i 2 /\ d.i 2 < i + c.length
 | [], i, _, d, hd => by cases hd
 | x :: c, i, h, d, hd => by
  have hx := h x (by simp); have gx := bW hx; have bx := Bw hx; unfold fp at hd; simp only [zaf, zas, zaa]; rcases zaV.1 hd with rfl | hd
  . exact ⟨gx.2.2.2.2.2.2.1, .inl rfl, by show i <= i; omega, by show i < _; omega⟩
  . rcases zaV.1 hd with rfl | hd
    . exact ⟨bx.1, .inr rfl, by show i <= i; omega, by show i < _; omega⟩
    . obtain ⟨a, b, c', d'⟩ := A8 c (i + 1) (fun y hy => h y (by simp [hy])) d hd; exact ⟨a, b, by omega, by omega⟩
theorem C8 (i : Nat) : ∀ (c : List Dat) (j : Nat), aU (toI i) (fp j c) = (if j <= i /\ i < j + c.length then (ae c (i - j)).i 5 else 0) /\ aU (toB i) (fp j c) = (if j <= i /\ i < j + c.length then aK (ae c (i - j)) else 0)
 | [], j => by simp [fp, aU]; omega
 | x :: c, j => by
  obtain ⟨h1, h2⟩ := C8 i c (j + 1); have cj : ((j : Int) + 1) = ((j + 1 : Nat) : Int) := by omega
  have e1 : amt (toI i) (.r [.n 0, .n 3, .n (j : Int), .n (x.i 5)]) = if j = i then x.i 5 else 0 := by
   show (bif true && ((j : Int) == (i : Int)) then x.i 5 else 0) = _
   by_cases h : j = i
   . rw [if_pos h, me (by omega)]; rfl
   . rw [if_neg h, mT (by omega)]; rfl
  have e2 : amt (toI i) (.r [.n 0, .n 7, .n (j : Int), .n (aK x)]) = 0 := rfl; have e3 : amt (toB i) (.r [.n 0, .n 3, .n (j : Int), .n (x.i 5)]) = 0 := rfl; have e4 : amt (toB i) (.r [.n 0, .n 7, .n (j : Int), .n (aK x)]) = if j = i then aK x else 0 := by
   show (bif true && ((j : Int) == (i : Int)) then aK x else 0) = _
   by_cases h : j = i
   . rw [if_pos h, me (by omega)]; rfl
   . rw [if_neg h, mT (by omega)]; rfl
  simp only [fp, dP, e1, e2, e3, e4, cj, h1, h2, zaf]
  by_cases h : j = i
  . subst h; have c1 : ¬ (j + 1 <= j /\ j < j + 1 + c.length) := by omega
    have c2 : j <= j /\ j < j + (c.length + 1) := by omega
    rw [if_pos rfl, if_pos rfl, if_neg c1, if_neg c1, if_pos c2, if_pos c2, Nat.sub_self]; exact ⟨by show x.i 5 + (0 + 0) = x.i 5; omega, by show 0 + (aK x + 0) = aK x; omega⟩
  . rw [if_neg h, if_neg h]
    by_cases hi : j + 1 <= i /\ i < j + 1 + c.length
    . have c2 : j <= i /\ i < j + (c.length + 1) := by omega
      rw [if_pos hi, if_pos hi, if_pos c2, if_pos c2, show i - j = (i - (j + 1)) + 1 by omega]; exact ⟨by show 0 + (0 + _) = (ae c _).i 5; omega, by show 0 + (0 + _) = aK (ae c _); omega⟩
    . have c2 : ¬ (j <= i /\ i < j + (c.length + 1)) := by omega
      rw [if_neg hi, if_neg hi, if_neg c2, if_neg c2]; exact ⟨rfl, rfl⟩
theorem Hz : ∀ (c : List Dat) (j : Int), aU kF (fp j c) = 0 /\ aU kR (fp j c) = 0 /\ aU kT (fp j c) = 0 /\ af 3 (fp j c) = af 5 c + bn aK c
 | [], j => ⟨rfl, rfl, rfl, rfl⟩
 | x :: c, j => by
  obtain ⟨h1, h2, h3, h4⟩ := Hz c (j + 1); refine ⟨?_, ?_, ?_, ?_⟩
  . show 0 + (0 + aU kF (fp (j + 1) c)) = 0; omega
  . show 0 + (0 + aU kR (fp (j + 1) c)) = 0; omega
  . show 0 + (0 + aU kT (fp (j + 1) c)) = 0; omega
  . show x.i 5 + (aK x + af 3 (fp (j + 1) c)) = x.i 5 + af 5 c + (aK x + bn aK c); omega
theorem Er {fee out : Int} {c : List Dat} (h0 : 0 <= fee) (h1 : 0 <= out) (hg : dv c) : af 3 (fx fee out c) = fee + out + af 5 c + bn aK c /\ aU kF (fx fee out c) = fee /\ aU kR (fx fee out c) = out /\ aU kT (fx fee out c) = 0 /\
 (∀ i, i < c.length -> aU (toI i) (fx fee out c) = (ae c i).i 5 /\ aU (toB i) (fx fee out c) = aK (ae c i)) /\ (∀ d ∈ fx fee out c, 1 <= d.i 3 /\ ((d.i 1 = 1 \/ d.i 1 = 2 \/ d.i 1 = 6) \/ (0 <= d.i 2 /\ d.i 2 < (c.length : Int)))) /\ (fx fee out c).length <= 2 + 2 * c.length := by
 have hn := A8 c 0 hg.2; have hm : ∀ d ∈ (Dat.r [.n 0, .n 1, .n (-1), .n fee] :: Dat.r [.n 0, .n 2, .n (-1), .n out] :: fp 0 c), 0 <= d.i 3 := fun d hd => by
  rcases zaV.1 hd with rfl | hd
  . exact h0
  . rcases zaV.1 hd with rfl | hd
    . exact h1
    . exact (hn d hd).1
 obtain ⟨k1, k2, k3, k4⟩ := Hz c 0; obtain ⟨s1, s2⟩ := w9 _ hm; unfold fx; refine ⟨?_, ?_, ?_, ?_, fun i hi => ⟨?_, ?_⟩, fun d hd => ⟨s2 d hd, ?_⟩, ?_⟩
 . rw [s1]; show fee + (out + af 3 (fp 0 c)) = _; omega
 . rw [nw kF (fun _ => rfl) _ hm]; show fee + (0 + aU kF (fp 0 c)) = _; omega
 . rw [nw kR (fun _ => rfl) _ hm]; show 0 + (out + aU kR (fp 0 c)) = _; omega
 . rw [nw kT (fun _ => rfl) _ hm]; show 0 + (0 + aU kT (fp 0 c)) = _; omega
 . rw [nw (toI i) (fun _ => rfl) _ hm]; have := (C8 i c 0).1; rw [if_pos (by omega), Nat.sub_zero] at this; show 0 + (0 + aU (toI i) (fp 0 c)) = _; have e : aU (toI i) (fp 0 c) = aU (toI i) (fp ((0 : Nat) : Int) c) := rfl; omega
 . rw [nw (toB i) (fun _ => rfl) _ hm]; have := (C8 i c 0).2; rw [if_pos (by omega), Nat.sub_zero] at this; show 0 + (0 + aU (toB i) (fp 0 c)) = _; have e : aU (toB i) (fp 0 c) = aU (toB i) (fp ((0 : Nat) : Int) c) := rfl; omega
 . refine xY (Q := fun d => (d.i 1 = 1 \/ d.i 1 = 2 \/ d.i 1 = 6) \/ (0 <= d.i 2 /\ d.i 2 < (c.length : Int))) (fun d h => h) _ (fun d hd => ?_) d hd; rcases zaV.1 hd with rfl | hd
   . exact .inl (.inl rfl)
   . rcases zaV.1 hd with rfl | hd
     . exact .inl (.inr (.inl rfl))
     . have := hn d hd; exact .inr ⟨by omega, by omega⟩
 . have := xg (Dat.r [.n 0, .n 1, .n (-1), .n fee] :: Dat.r [.n 0, .n 2, .n (-1), .n out] :: fp 0 c); simp only [zaf, AQ] at this; omega
section
variable (T : ab)
def vP : List Dat := fx T.n.fee T.n.out T.tr
def vD : ah × List Dat := cJ (vP T) { T.n with aG := T.n.rin } T.tr
def ud : Bool := T.b.clean != 0 && bH (af 1 T.ax) (((bu (gO T)).getD (0, 0)).1) T.b.clean
def dw : fO :=
 ⟨⟨true, T.n.period, T.n.mode, af 1 T.ax, 0, 0, 0, T.n.rin - T.n.aG, 0, 0, 0⟩, ⟨af 1 T.ax + (T.n.rin - T.n.aG) - af 3 (vP T), af 1 (cP T (bq T.ax)).ax, (vD T).1.rin - (vD T).1.aG, (vD T).1.out, (vD T).1.fee⟩, (vD T).1.mode, 0,
  { T with n := { (vD T).1 with dt := true }, ax := (cP T (bq T.ax)).ax, tr := (vD T).2 }, vP T, (vD T).2.map Af⟩
def bM : fO := bif T.n.dt then noR 5 T else bif !ud T then noR 6 T else bif decide (af 1 T.ax + (T.n.rin - T.n.aG) < af 3 (vP T)) then noR 6 T else dw T
end
section
variable {T : ab} (h : dk T)
include h
theorem nd : af 3 (vP T) = T.n.fee + T.n.out + af 5 T.tr + bn aK T.tr /\ (0 <= af 3 (vP T) /\ af 3 (vP T) <= 100000000000000000) /\ (vP T).length <= 18 /\ (∀ d ∈ vP T, 1 <= d.i 3 /\ ((d.i 1 = 1 \/ d.i 1 = 2 \/ d.i 1 = 6) \/ (0 <= d.i 2 /\ d.i 2 < (T.tr.length : Int)))) := by
 have f := h.fee; have o := h.out; have p := h.period; have ad : T.b.advance <= 1099511627776 := (cq h.lW).advance.2; obtain ⟨k1, k2, k3, k4, k5, k6, k7⟩ := Er f.1 o.1 (dB h); have s := fD _ (dB h).2; have tl := cI h; have k1 : af 3 (vP T) = T.n.fee + T.n.out + af 5 T.tr + bn aK T.tr := k1; have k7 : (vP T).length <= 2 + 2 * T.tr.length := k7; exact ⟨k1, by omega, by omega, k6⟩
theorem kY : (vD T).1 = { T.n with fee := 0, out := 0, aG := T.n.rin } /\ (vD T).2.length = T.tr.length /\ (∀ i, i < T.tr.length -> pM (ae T.tr i) (ae (vD T).2 i) (aK (ae T.tr i)) ((ae T.tr i).i 5)) /\ o4 (vP T) { T.n with aG := T.n.rin } T.tr = true := by
 have f := h.fee; have o := h.out; have r := h.res; have p := h.period; have ad : T.b.advance <= 1099511627776 := (cq h.lW).advance.2; have g := dB h; obtain ⟨k1, k2, k3, k4, k5, k6, k7⟩ := Er f.1 o.1 g; obtain ⟨c1, c2, c3, c4⟩ := nd h; obtain ⟨d1, d2, d3⟩ := qo (vP T) { T.n with aG := T.n.rin } T.tr (fun d hd => by have := (c4 d hd).1; omega) (fun d hd => (c4 d hd).2) fun i hi => by
  have := k5 i hi; exact ⟨Int.le_of_eq this.2, Int.le_of_eq this.1⟩
 refine ⟨d1.trans ?_, d2, fun i hi => ?_, ?_⟩
 . have k2 : aU kF (vP T) = T.n.fee := k2; have k3 : aU kR (vP T) = T.n.out := k3; have k4 : aU kT (vP T) = 0 := k4; rw [k2, k3, k4]; simp only [Int.sub_self, zbG]
 . have := d3 i hi; have k := k5 i hi; have ka : aU (toI i) (vP T) = (ae T.tr i).i 5 := k.1; have kb : aU (toB i) (vP T) = aK (ae T.tr i) := k.2; rw [ka, kb] at this; exact this
 . simp only [o4, zab, zac, zam]; refine ⟨by omega, fun d hd => ?_, ⟨by omega, by omega, by omega, by omega⟩, g⟩; have := c4 d hd; simp only [DK, zab, zbf, zac]; exact ⟨by omega, this.2⟩
theorem pP : ∀ i, i < T.tr.length -> (ae (vD T).2 i).i 0 = (ae T.tr i).i 0 /\ (ae (vD T).2 i).i 1 = (ae T.tr i).i 1 /\ (ae (vD T).2 i).i 2 = (ae T.tr i).i 2 /\ aK (ae (vD T).2 i) = 0 /\ (ae (vD T).2 i).i 5 = 0 /\ (ae (vD T).2 i).i 6 = (ae T.tr i).i 6 /\ aH (ae (vD T).2 i) = true := fun i hi => by
 obtain ⟨e0, e1, e2, e3, e4, e5, e6⟩ := (kY h).2.2.1 i hi; have g := bW (bV hi (dB h).2); have b := Bw (bV hi (dB h).2); have hb : aK (ae (vD T).2 i) = 0 := by unfold aK at e3 ⊢; omega
 refine ⟨e0, e1, e2, hb, by omega, e6, zad ?_⟩; unfold aK at hb b; omega
theorem qh : dv (vD T).2 := by
 have l := (kY h).2.1; refine ⟨by have := cI h; omega, fun d hd => ?_⟩; obtain ⟨i, hi, rfl⟩ := gp hd; exact (pP h i (by omega)).2.2.2.2.2.2
theorem yb : dk (dw T).t := by
 obtain ⟨s1, s2, s3, s4, s5⟩ := yG h; obtain ⟨p1, p2, p3, p4, p5, p6, p7, p8, p9⟩ := jZ h s1; obtain ⟨d1, d2, d3, d4⟩ := kY h; have r := pP h; have g := qh h; have bl := h.bal; have lo := h.lost; have pe := h.period; have re := h.res; have r0 := h.sJ; have ad : 0 <= T.b.advance := (cq h.lW).advance.1; have n1 := dO h; have hl : (vD T).2.map (fun d => d.i 6) = T.tr.map (fun d => d.i 6) := by
  refine List.ext_getElem (by simp [d2]) fun i h1 h2 => ?_
  simp only [za5] at h1 h2; have := (r i h2).2.2.2.2.2.1; rw [eH (show i < (vD T).2.length by omega), eH h2] at this; simpa using this
 have q : ∀ l : List Dat, af 6 l = (l.map (fun d => d.i 6)).foldr (· + ·) 0 := fun l => by
  induction l with
  | nil => rfl
  | cons x l ih => simp only [af, zaX, List.foldr_cons, ih]
 have hz : af 6 (vD T).2 <= af 2 (cP T (bq T.ax)).ax := by
  have e : af 6 (vD T).2 = af 6 T.tr := by rw [q, q, hl]
  have dn := h.down; omega
 refine ⟨h.lW, ?_, fun d hd => ⟨g.2 d hd, ?_⟩, p2.trans h.ids, p1, ?_, ?_, ?_, ?_, ?_, ?_, ?_, ?_, ?_, ?_⟩
 . refine Eq.trans ?_ h.Gs; refine List.ext_getElem (by simp [dw, d2]) fun i h1 h2 => ?_
   simp only [za5] at h1 h2; have hi : i < T.tr.length := h2; have := r i hi; rw [eH (show i < (vD T).2.length by omega), eH hi] at this; simp only [List.getElem_map]; exact Prod.ext this.1 (Prod.ext this.2.1 this.2.2.1)
 . obtain ⟨i, hi, rfl⟩ := gp (show d ∈ (vD T).2 from hd); have := (r i (by omega)).2.2.2.2.1; rw [this]; show 0 <= 1200000000000 * (vD T).1.period; rw [d1]; show 0 <= 1200000000000 * T.n.period; omega
 all_goals
  first
  | (show af 1 (cP T (bq T.ax)).ax + af 2 (cP T (bq T.ax)).ax + (vD T).1.aR <= af 1 T.aC; rw [d1]; show _ + _ + T.n.aR <= _; omega)
  | (show (vD T).1.aM - (vD T).1.aR = af 2 (cP T (bq T.ax)).ax; rw [d1]; show T.n.aM - T.n.aR = _; omega)
  | (show 0 <= (vD T).1.aR; rw [d1]; exact r0)
  | (show 0 <= (vD T).1.period /\ (vD T).1.period <= 600; rw [d1]; exact pe)
  | (show 0 <= (vD T).1.mode /\ (vD T).1.mode <= 2; rw [d1]; exact h.mode)
  | (show 0 <= (vD T).1.aX /\ (vD T).1.aX <= (vD T).1.period; rw [d1]; exact h.aX)
  | (show 0 <= (vD T).1.fee /\ (vD T).1.fee <= 1200000000000 * (vD T).1.period; rw [d1]; show (0 : Int) <= 0 /\ 0 <= 1200000000000 * T.n.period; omega)
  | (show 0 <= (vD T).1.out /\ (vD T).1.out <= T.b.advance; rw [d1]; show (0 : Int) <= 0 /\ 0 <= T.b.advance; omega)
  | (show 0 <= (vD T).1.aG /\ (vD T).1.aG <= (vD T).1.rin /\ (vD T).1.rin <= 1200000000000 * ((vD T).1.period + 1); rw [d1]; show 0 <= T.n.rin /\ T.n.rin <= T.n.rin /\ T.n.rin <= 1200000000000 * (T.n.period + 1); omega)
  | exact hz
end
def N33 : aD := ⟨T20.tab, 33, ⟨[.np 0 0 0], br 0, 0⟩, ⟨[.agg [.bool, .int .i64, .int .i64, .int .i64, .int .i64, .int .i64, .int .i64, .int .i64, .int .i64, .int .i64, .int .i64, .buf 10 4, .int .i64, .int .i64, .int .i64, .int .i64, .int .i64, .buf 11 3, .int .i64], .int .i64], [.cells [.int .i64, .int .i64, .int .i64, .buf 1 2, .buf 2 3, .int .i64, .int .i64, .int .i64, .int .i64, .int .i64, .int .i64, .int .i64, .int .i64, .int .i64, .int .i64, .buf 3 2, .buf 4 2, .buf 5 2, .ptr 6 0 0, .buf 8 7, .int .i64, .int .i64, .int .i64, .int .i64, .int .i64, .int .i64, .int .i64, .int .i64, .int .i64, .bool], .ag (sI 2), .ag (sI 3), .ag (sI 2), .ag (sI 2), .ag (sI 2), .cells [.buf 9 5], .gone, .ag (sI 7), .ag (sB 4), .ag (sI 4), .ag (sI 3)], 0⟩, []⟩
def t33 (m : Nat) : Int × ao × an × ah × List Dat × List Dat × List Dat × List Dat × List Dat × List Dat × List Dat -> Option (List Un) := fun (a0, a1, a2, a3, a4, a5, a6, a7, a8, a9, a10) =>
 chk (decide (0 <= a0)) <|
 bif a3.dt then
 some (Uns.enc ((⟨false, 0, 0, 0, 0, 0, 0, 0, 0, 0, 0⟩ : eZ) : eZ) ++ Uns.enc ((⟨0, 0, 0, 0, 0⟩ : dM) : dM) ++ [.i 0, .i 5] ++ Uns.enc (a1 : ao) ++ Uns.enc (a2 : an) ++ Uns.enc (a3 : ah) ++ [.d a4, .d a5, .d a6, .d a7, .d a8, .d a10, .d a9, .d ([]), .d ([])])
 else
 chk (decide (0 <= a0) && (decide (a10.length <= 1000) && a10.all aH)) <|
 chk (decide (0 <= a0)) <|
 chk (decide (0 <= a0) && ((decide (a9.length <= 1000) && a9.all cw) && (decide (a10.length <= 1000) && a10.all aH))) <|
 bif !(a2.clean != 0 && bH (af 1 a9) (((bu (⟨a1, a4, a5, a2, a6, a7, a8⟩ : aP)).getD (0, 0)).1) a2.clean) then
 some (Uns.enc ((⟨false, 0, 0, 0, 0, 0, 0, 0, 0, 0, 0⟩ : eZ) : eZ) ++ Uns.enc ((⟨0, 0, 0, 0, 0⟩ : dM) : dM) ++ [.i 0, .i 6] ++ Uns.enc (a1 : ao) ++ Uns.enc (a2 : an) ++ Uns.enc (a3 : ah) ++ [.d a4, .d a5, .d a6, .d a7, .d a8, .d a10, .d a9, .d ([]), .d ([])])
 else
 chk (decide (0 <= a0)) <|
 chk (decide (0 < ([.r [.r a9]] : List Dat).length) && (decide (((ae ([.r [.r a9]] : List Dat) 0).d 0).length <= 1000) && ((ae ([.r [.r a9]] : List Dat) 0).d 0).all cw)) <|
 chk (decide (0 <= a0)) <|
 chk (decide ((fx a3.fee a3.out a10).length <= 1000000) && ((fx a3.fee a3.out a10).all mO && decide (af 3 (fx a3.fee a3.out a10) <= 1152921504606846976))) <|
 bif (decide ((w64 ((af 1 ((ae ([.r [.r a9]] : List Dat) 0).d 0)) + (w64 (a3.rin - a3.aG)))) < (af 3 (fx a3.fee a3.out a10)))) then
 some (Uns.enc ((⟨false, 0, 0, 0, 0, 0, 0, 0, 0, 0, 0⟩ : eZ) : eZ) ++ Uns.enc ((⟨0, 0, 0, 0, 0⟩ : dM) : dM) ++ [.i 0, .i 6] ++ Uns.enc (a1 : ao) ++ Uns.enc (a2 : an) ++ Uns.enc (a3 : ah) ++ [.d a4, .d a5, .d a6, .d a7, .d a8, .d a10, .d a9, .d ([]), .d ([])])
 else
 chk (decide (0 <= a0)) <|
 chk (decide (0 <= a0)) <|
 chk (decide (0 <= a0) && decide (a9.length < 1000000)) <|
 chk (decide (a3.period = a3.period)) <|
 chk (decide (a3.mode = a3.mode)) <|
 chk (decide (0 <= a0)) <|
 lt ((w64 (a3.rin - a3.aG)) : Int) fun x8 =>
 lt ((w64 (a3.rin - a3.aG)) : Int) fun x9 =>
 lt ((if x9 < x8 then x9 else x8) : Int) fun x10 =>
 lt ((if x10 < 0 then 0 else x10) : Int) fun x11 =>
 chk (decide (a3.period = a3.period)) <|
 chk (decide (a3.mode = a3.mode)) <|
 chk (decide ((fx a3.fee a3.out a10).length <= 1000000) && ((fx a3.fee a3.out a10).all mO && decide (af 3 (fx a3.fee a3.out a10) <= 1152921504606846976))) <|
 chk (decide (0 <= a0) && o4 (fx a3.fee a3.out a10) ({ a3 with aG := (w64 (a3.aG + x11)) } : ah) a10) <|
 lt (((cJ (fx a3.fee a3.out a10) ({ a3 with aG := (w64 (a3.aG + x11)) } : ah) a10).1) : ah) fun g18 =>
 lt (((cJ (fx a3.fee a3.out a10) ({ a3 with aG := (w64 (a3.aG + x11)) } : ah) a10).2) : List Dat) fun l19 =>
 chk (decide (0 <= a0)) <|
 chk (decide (0 <= a0) && (decide (0 <= ({ g18 with dt := true } : ah).aG /\ ({ g18 with dt := true } : ah).aG <= ({ g18 with dt := true } : ah).rin /\ ({ g18 with dt := true } : ah).rin <= 1152921504606846976) && ((decide (((av (bq a9) a9).ax).length <= 1000) && ((av (bq a9) a9).ax).all cw) && (decide (l19.length <= 1000) && l19.all aH)))) <|
 some (Uns.enc ((⟨true, a3.period, a3.mode, (av (bq a9) a9).p, (av (bq a9) a9).q, (av (bq a9) a9).l, (av (bq a9) a9).r, x11, 0, 0, 0⟩ : eZ) : eZ) ++ Uns.enc ((⟨(⟨(w64 ((w64 ((w64 ((w64 ((w64 (((av (bq a9) a9).p) + ((av (bq a9) a9).q))) + ((av (bq a9) a9).r))) + x11)) + 0)) - (af 3 (fx a3.fee a3.out a10)))), 0, 0, 0, 0⟩ : dM).eG, af 1 ((av (bq a9) a9).ax), ({ g18 with dt := true } : ah).rin - ({ g18 with dt := true } : ah).aG, ({ g18 with dt := true } : ah).out, ({ g18 with dt := true } : ah).fee⟩ : dM) : dM) ++ [.i (({ g18 with dt := true } : ah).mode), .i 0] ++ Uns.enc (a1 : ao) ++ Uns.enc (a2 : an) ++ Uns.enc (({ g18 with dt := true } : ah) : ah) ++ [.d a4, .d a5, .d a6, .d a7, .d a8, .d l19, .d ((av (bq a9) a9).ax), .d (fx a3.fee a3.out a10), .d (l19.map Af)])
def f33 : Int × ao × an × ah × List Dat × List Dat × List Dat × List Dat × List Dat × List Dat × List Dat -> Bool × List Un := fun (a0, a1, a2, a3, a4, a5, a6, a7, a8, a9, a10) => (decide (0 <= a0) && fS (⟨a1, a2, a3, a4, a5, a6, a7, a8, a9, a10⟩ : ab), Uns.enc (((bM (⟨a1, a2, a3, a4, a5, a6, a7, a8, a9, a10⟩ : ab)).ra) : eZ) ++ Uns.enc (((bM (⟨a1, a2, a3, a4, a5, a6, a7, a8, a9, a10⟩ : ab)).rb) : dM) ++ [.i ((bM (⟨a1, a2, a3, a4, a5, a6, a7, a8, a9, a10⟩ : ab)).next), .i ((bM (⟨a1, a2, a3, a4, a5, a6, a7, a8, a9, a10⟩ : ab)).e)] ++ Uns.enc (((bM (⟨a1, a2, a3, a4, a5, a6, a7, a8, a9, a10⟩ : ab)).t.a) : ao) ++ Uns.enc (((bM (⟨a1, a2, a3, a4, a5, a6, a7, a8, a9, a10⟩ : ab)).t.b) : an) ++ Uns.enc (((bM (⟨a1, a2, a3, a4, a5, a6, a7, a8, a9, a10⟩ : ab)).t.n) : ah) ++ [.d ((bM (⟨a1, a2, a3, a4, a5, a6, a7, a8, a9, a10⟩ : ab)).t.aC), .d ((bM (⟨a1, a2, a3, a4, a5, a6, a7, a8, a9, a10⟩ : ab)).t.notes), .d ((bM (⟨a1, a2, a3, a4, a5, a6, a7, a8, a9, a10⟩ : ab)).t.s0), .d ((bM (⟨a1, a2, a3, a4, a5, a6, a7, a8, a9, a10⟩ : ab)).t.s1), .d ((bM (⟨a1, a2, a3, a4, a5, a6, a7, a8, a9, a10⟩ : ab)).t.s2), .d ((bM (⟨a1, a2, a3, a4, a5, a6, a7, a8, a9, a10⟩ : ab)).t.tr), .d ((bM (⟨a1, a2, a3, a4, a5, a6, a7, a8, a9, a10⟩ : ab)).t.ax), .d ((bM (⟨a1, a2, a3, a4, a5, a6, a7, a8, a9, a10⟩ : ab)).wQ), .d ((bM (⟨a1, a2, a3, a4, a5, a6, a7, a8, a9, a10⟩ : ab)).notes)])
set_option maxHeartbeats 4000000 in
theorem Nl (a0 : Int) (a1 : ao) (a2 : an) (a3 : ah) (a4 : List Dat) (a5 : List Dat) (a6 : List Dat) (a7 : List Dat) (a8 : List Dat) (a9 : List Dat) (a10 : List Dat) (hc : (decide (0 <= a0) && fS (⟨a1, a2, a3, a4, a5, a6, a7, a8, a9, a10⟩ : ab)) = true) : ∃ m, t33 m (a0, a1, a2, a3, a4, a5, a6, a7, a8, a9, a10) = some (Uns.enc (((bM (⟨a1, a2, a3, a4, a5, a6, a7, a8, a9, a10⟩ : ab)).ra) : eZ) ++ Uns.enc (((bM (⟨a1, a2, a3, a4, a5, a6, a7, a8, a9, a10⟩ : ab)).rb) : dM) ++ [.i ((bM (⟨a1, a2, a3, a4, a5, a6, a7, a8, a9, a10⟩ : ab)).next), .i ((bM (⟨a1, a2, a3, a4, a5, a6, a7, a8, a9, a10⟩ : ab)).e)] ++ Uns.enc (((bM (⟨a1, a2, a3, a4, a5, a6, a7, a8, a9, a10⟩ : ab)).t.a) : ao) ++ Uns.enc (((bM (⟨a1, a2, a3, a4, a5, a6, a7, a8, a9, a10⟩ : ab)).t.b) : an) ++ Uns.enc (((bM (⟨a1, a2, a3, a4, a5, a6, a7, a8, a9, a10⟩ : ab)).t.n) : ah) ++ [.d ((bM (⟨a1, a2, a3, a4, a5, a6, a7, a8, a9, a10⟩ : ab)).t.aC), .d ((bM (⟨a1, a2, a3, a4, a5, a6, a7, a8, a9, a10⟩ : ab)).t.notes), .d ((bM (⟨a1, a2, a3, a4, a5, a6, a7, a8, a9, a10⟩ : ab)).t.s0), .d ((bM (⟨a1, a2, a3, a4, a5, a6, a7, a8, a9, a10⟩ : ab)).t.s1), .d ((bM (⟨a1, a2, a3, a4, a5, a6, a7, a8, a9, a10⟩ : ab)).t.s2), .d ((bM (⟨a1, a2, a3, a4, a5, a6, a7, a8, a9, a10⟩ : ab)).t.tr), .d ((bM (⟨a1, a2, a3, a4, a5, a6, a7, a8, a9, a10⟩ : ab)).t.ax), .d ((bM (⟨a1, a2, a3, a4, a5, a6, a7, a8, a9, a10⟩ : ab)).wQ), .d ((bM (⟨a1, a2, a3, a4, a5, a6, a7, a8, a9, a10⟩ : ab)).notes)]) := by
 have h0 := zak (zan.1 hc).1; have h := dZ.1 (zan.1 hc).2; clear hc; have hl := jF h; have hpl := dg h; have hts := cI h; have gn := dB h; have pe : 0 <= a3.period /\ a3.period <= 600 := h.period; have r : 0 <= a3.aG /\ a3.aG <= a3.rin /\ a3.rin <= 1200000000000 * (a3.period + 1) := h.res; have b : 0 <= af 1 a9 /\ 0 <= af 2 a9 /\ af 1 a9 + af 2 a9 + a3.aR <= 1099511627776 := dO h; have r0 : 0 <= a3.aR := h.sJ; have hg := nL (l := a9) h.sF (zax hpl.2 (by decide)); obtain ⟨c1, c2, c3, c4⟩ := nd h; obtain ⟨d1, d2, d3, d4⟩ := kY h; have g := qh h; have cn := yb h; obtain ⟨s1, s2, s3, s4, s5⟩ := yG h; have hz : w64 (a3.rin - a3.aG) = a3.rin - a3.aG := aa (by omega) (by omega); have hw : w64 (af 1 ((ae ([.r [.r a9]] : List Dat) 0).d 0) + w64 (a3.rin - a3.aG)) = af 1 a9 + (a3.rin - a3.aG) := by
  rw [hz]; exact aa (n := af 1 a9 + (a3.rin - a3.aG)) (by omega) (by omega)
 have pg : (decide ((fx a3.fee a3.out a10).length <= 1000000) && ((fx a3.fee a3.out a10).all mO && decide (af 3 (fx a3.fee a3.out a10) <= 1152921504606846976))) = true := by
  simp only [zab, zac, zam]; refine ⟨zax c3 (by decide), fun d hd => zad (by have := (c4 d hd).1; omega), ?_⟩; have e : af 3 (fx a3.fee a3.out a10) <= 100000000000000000 := c2.2; omega
 refine ⟨0, ?_⟩; unfold t33; refine aS (zad h0) ?_
 by_cases ho : a3.dt = true
 . have hC : bM (⟨a1, a2, a3, a4, a5, a6, a7, a8, a9, a10⟩ : ab) = noR 5 (⟨a1, a2, a3, a4, a5, a6, a7, a8, a9, a10⟩ : ab) := by unfold bM; rw [show ((⟨a1, a2, a3, a4, a5, a6, a7, a8, a9, a10⟩ : ab)).n.dt = true from ho]; rfl
   rw [hC]; exact jA ho rfl
 replace ho : a3.dt = false := by simpa using ho
 refine jB ho ?_
 refine aS (zan.2 ⟨zad h0, cV gn⟩) ?_
 refine aS (zad h0) ?_
 refine aS (zan.2 ⟨zad h0, zan.2 ⟨hg, cV gn⟩⟩) ?_
 have hcl : (a2.clean != 0 && bH (af 1 a9) (((bu (⟨a1, a4, a5, a2, a6, a7, a8⟩ : aP)).getD (0, 0)).1) a2.clean) = ud (⟨a1, a2, a3, a4, a5, a6, a7, a8, a9, a10⟩ : ab) := rfl; rw [hcl]; cases hv : ud (⟨a1, a2, a3, a4, a5, a6, a7, a8, a9, a10⟩ : ab) with
 | false =>
  have hC : bM (⟨a1, a2, a3, a4, a5, a6, a7, a8, a9, a10⟩ : ab) = noR 6 (⟨a1, a2, a3, a4, a5, a6, a7, a8, a9, a10⟩ : ab) := by unfold bM; rw [show ((⟨a1, a2, a3, a4, a5, a6, a7, a8, a9, a10⟩ : ab)).n.dt = false from ho, hv]; rfl
  rw [hC]; rfl
 | true =>
 refine aS (zad h0) (aS (zan.2 ⟨rfl, hg⟩) (aS (zad h0) (aS pg ?_))); rw [hw]
 by_cases hs : af 1 a9 + (a3.rin - a3.aG) < af 3 (fx a3.fee a3.out a10)
 . have hC : bM (⟨a1, a2, a3, a4, a5, a6, a7, a8, a9, a10⟩ : ab) = noR 6 (⟨a1, a2, a3, a4, a5, a6, a7, a8, a9, a10⟩ : ab) := by unfold bM; rw [show ((⟨a1, a2, a3, a4, a5, a6, a7, a8, a9, a10⟩ : ab)).n.dt = false from ho, hv]; exact bz hs
   rw [hC, bz hs]; rfl
 have hC : bM (⟨a1, a2, a3, a4, a5, a6, a7, a8, a9, a10⟩ : ab) = dw (⟨a1, a2, a3, a4, a5, a6, a7, a8, a9, a10⟩ : ab) := by unfold bM; rw [show ((⟨a1, a2, a3, a4, a5, a6, a7, a8, a9, a10⟩ : ab)).n.dt = false from ho, hv]; exact aB hs
 rw [hC, aB hs]; refine aS (zad h0) (aS (zad h0) (aS (zan.2 ⟨zad h0, zad hl.2.2.2.2.2.1⟩) (aS (zad rfl) (aS (zad rfl) (aS (zad h0) ?_))))); rw [hz]; refine gS fun x8 e8 => gS fun x9 e9 => gS fun x10 e10 => gS fun x11 e11 => ?_
 obtain rfl : x11 = a3.rin - a3.aG := by
  have e10 : x10 = a3.rin - a3.aG := by rw [e10, e8, e9]; exact if_neg (by omega)
  rw [e11, e10]; exact if_neg (by omega)
 clear e8 e9 e10 e11; refine aS (zad rfl) (aS (zad rfl) (aS pg ?_)); rw [show w64 (a3.aG + (a3.rin - a3.aG)) = a3.rin from (aa (by omega) (by omega)).trans (by omega)]; refine aS (zan.2 ⟨zad h0, d4⟩) ?_
 refine gS fun g18 e18 => ?_
 obtain rfl : g18 = (vD (⟨a1, a2, a3, a4, a5, a6, a7, a8, a9, a10⟩ : ab)).1 := e18; refine gS fun l19 e19 => ?_
 obtain rfl : l19 = (vD (⟨a1, a2, a3, a4, a5, a6, a7, a8, a9, a10⟩ : ab)).2 := e19; refine aS (zad h0) ?_
 refine aS (zan.2 ⟨zad h0, zan.2 ⟨zad ?_, zan.2 ⟨nL (l := (cP (⟨a1, a2, a3, a4, a5, a6, a7, a8, a9, a10⟩ : ab) (bq ((⟨a1, a2, a3, a4, a5, a6, a7, a8, a9, a10⟩ : ab)).ax)).ax) cn.sF ?_, cV g⟩⟩⟩) ?_
 . rw [d1]; show 0 <= a3.rin /\ a3.rin <= a3.rin /\ a3.rin <= _; omega
 . have := (dg cn).2; exact zax this (by decide)
 rw [show (av (bq a9) a9).p = af 1 a9 from s2, show (av (bq a9) a9).q = 0 from s3, show (av (bq a9) a9).l = 0 from s4, show (av (bq a9) a9).r = 0 from s5]; have e1 : w64 (w64 (w64 (w64 (w64 (af 1 a9 + 0) + 0) + (a3.rin - a3.aG)) + 0) - af 3 (fx a3.fee a3.out a10)) = af 1 a9 + (a3.rin - a3.aG) - af 3 (vP (⟨a1, a2, a3, a4, a5, a6, a7, a8, a9, a10⟩ : ab)) := by
  have c2' : 0 <= af 3 (fx a3.fee a3.out a10) /\ af 3 (fx a3.fee a3.out a10) <= 100000000000000000 := c2; have w1 : w64 (af 1 a9) = af 1 a9 := aa (by omega) (by omega); simp only [zbG, w1]; rw [aa (n := af 1 a9 + (a3.rin - a3.aG)) (by omega) (by omega), aa (n := af 1 a9 + (a3.rin - a3.aG)) (by omega) (by omega)]; exact aa (n := af 1 a9 + (a3.rin - a3.aG) - af 3 (fx a3.fee a3.out a10)) (by omega) (by omega)
 rw [e1]; rfl
theorem EG : ER 33 (mkE N33.en N33.ex f33) := aq ak T20.right (fun m => []) (t := t33) (by kernel_rfl) (fun m => aA) (fun m a => by kernel_rfl) fun (a0, a1, a2, a3, a4, a5, a6, a7, a8, a9, a10) hc => Nl a0 a1 a2 a3 a4 a5 a6 a7 a8 a9 a10 hc
def T33 : Tb Tryz.prog LQ TE XX := T20.add 33 _ EG
def Se : fO -> List Un := fun r => Uns.enc (r.ra : eZ) ++ Uns.enc (r.rb : dM) ++ [.i r.next, .i r.e] ++ Uns.enc (r.t.a : ao) ++ Uns.enc (r.t.b : an) ++ Uns.enc (r.t.n : ah) ++ [.d r.t.aC, .d r.t.notes, .d r.t.s0, .d r.t.s1, .d r.t.s2, .d r.t.ax, .d r.t.tr, .d r.wQ, .d r.notes]
def R7 : Int × List Dat × ao × an × ah × List Dat × List Dat × List Dat × List Dat × List Dat × List Dat × List Dat -> Bool × fO := fun (a0, a1, a2, a3, a4, a5, a6, a7, a8, a9, a10, a11) => (decide (0 <= a0) && fS (⟨a2, a3, a4, a5, a6, a7, a8, a9, a10, a11⟩ : ab), (bf (⟨a2, a3, a4, a5, a6, a7, a8, a9, a10, a11⟩ : ab) a1))
theorem HS : ER 13 (mkB N13.en N13.ex R7 Se) := rebind Eh fun (a0, a1, a2, a3, a4, a5, a6, a7, a8, a9, a10, a11) => rfl
def R8 : Tb Tryz.prog LQ TE XX := T33.add 13 _ HS
def RM : fO -> List Un := fun r => Uns.enc (r.ra : eZ) ++ Uns.enc (r.rb : dM) ++ [.i r.next, .i r.e] ++ Uns.enc (r.t.a : ao) ++ Uns.enc (r.t.b : an) ++ Uns.enc (r.t.n : ah) ++ [.d r.t.aC, .d r.t.notes, .d r.t.s0, .d r.t.s1, .d r.t.s2, .d r.t.tr, .d r.t.ax, .d r.wQ, .d r.notes]
def R0 : Int × ao × an × ah × List Dat × List Dat × List Dat × List Dat × List Dat × List Dat × List Dat -> Bool × fO := fun (a0, a1, a2, a3, a4, a5, a6, a7, a8, a9, a10) => (decide (0 <= a0) && fS (⟨a1, a2, a3, a4, a5, a6, a7, a8, a9, a10⟩ : ab), (bM (⟨a1, a2, a3, a4, a5, a6, a7, a8, a9, a10⟩ : ab)))
theorem H8 : ER 33 (mkB N33.en N33.ex R0 RM) := rebind EG fun (a0, a1, a2, a3, a4, a5, a6, a7, a8, a9, a10) => rfl
def F9 : Tb Tryz.prog LQ TE XX := R8.add 33 _ H8
def mZ : List Par := [(true, [.int .i64, .int .i64, .int .i64, .int .i64, .int .i64, .int .i64, .int .i64, .int .i64, .int .i64, .int .i64, .int .i64, .int .i64, .int .i64, .ints .i64, .ints .i64, .ints .i64, .ints .i64, .ints .i64, .ints .i64, .ints .i64]), (false, [.ag [.ints .i64, .ints .i64, .ints .i64, .ints .i64, .ints .i64, .ints .i64]]), (false, [.int .i64])]
def N10 : aD := ⟨F9.tab, 10, ⟨List.map Par.vp mZ, [], 0⟩, ⟨[.bool], [], 0⟩, [[9, 0, 1, 1, 1, 1, 1, 0, 0, 1, 0, 0, 1, 0, 1, 1, 1, 1, 1], [9, 0, 0, 1, 0, 1, 1, 1, 1, 1, 1, 1, 0, 0, 1, 0, 0, 1, 0, 1, 1, 1, 1, 1]]⟩
abbrev MJ : Type := Int × ao × an × ah × List Dat × eZ × dM × Int × List Dat × List Dat × List Dat × List Dat × List Dat × List Dat × List Dat × List Dat × List Dat
abbrev Mz : Type := List Dat × Int × Int × Bool × ao × an × ao × an × ah × List Int × List Dat × List Dat × List Dat × List Dat × List Dat × List Dat × List Dat × List Dat × List Dat × List Dat × List Dat × List Dat × List Dat
abbrev nU : Type := List Dat × Int × Int × ao × an × ao × an × ah × List Dat × List Dat × List Dat × List Dat × List Dat × List Dat × List Dat × List Dat × List Dat × List Dat × List Dat × List Dat
def Cd (m : Nat) (k0 : nU -> Option (List Un)) : MJ -> Option (List Un) := fun (a0, a1, a2, a3, a4, a5, a6, a7, a8, a9, a10, a11, a12, a13, a14, a15, a16) =>
 chk (decide (0 <= a0) && (decide (a13.length <= 1000) && a13.all aH)) <|
 chk (decide (0 <= a0) && fS (⟨a1, a2, a3, a8, a9, a10, a11, a12, a16, a13⟩ : ab)) <|
 bd ((bf (⟨a1, a2, a3, a8, a9, a10, a11, a12, a16, a13⟩ : ab) a4) : fO) fun r32 =>
 chk (decide (0 <= a0) && fS r32.t) <|
 bd ((bM r32.t) : fO) fun r33 =>
 bif (bn aK a13) == 0 then
 bif (af 5 a13) == 0 then
 bif a5.call then
 chk (decide (a14.length <= 1000000) && (a14.all mO && decide (af 3 a14 <= 1152921504606846976))) <|
 bif (w64 ((w64 ((w64 ((w64 (a5.au + a5.kH)) + a5.aR)) + a5.draw)) + a5.advance)) == (w64 ((af 3 a14) + a6.eG)) then
 chk (decide (0 <= a0)) <|
 bif r33.t.n.dt then
 chk (decide (0 <= a0)) <|
 chk (decide (0 < ([.r [.r r33.t.ax]] : List Dat).length) && (decide (((ae ([.r [.r r33.t.ax]] : List Dat) 0).d 0).length <= 1000) && ((ae ([.r [.r r33.t.ax]] : List Dat) 0).d 0).all cw)) <|
 bif (af 1 ((ae ([.r [.r r33.t.ax]] : List Dat) 0).d 0)) == 0 then
 chk (decide (0 <= a0)) <|
 bif (w64 (r33.t.n.rin - r33.t.n.aG)) == 0 then
 chk (decide (0 <= a0)) <|
 bif r33.t.n.fee == 0 then
 chk (decide (0 <= a0)) <|
 bif r33.t.n.out == 0 then
 bif r32.e == 5 then
 bif r33.e == 5 then
 some ([.b true])
 else
 some ([.b false])
 else
 some ([.b false])
 else
 some ([.b false])
 else
 some ([.b false])
 else
 some ([.b false])
 else
 some ([.b false])
 else
 some ([.b false])
 else
 some ([.b false])
 else
 some ([.b false])
 else
 some ([.b false])
 else
 some ([.b false])
def MH (F : MJ -> Option (List Un)) : aT := ⟨[.code [0, 0, 1, 0, 1, 1, 1, 1, 1, 1, 1, 0, 0, 1, 0, 0, 1, 0, 1, 1, 1, 1, 1], .code [1, 0, 1, 0, 1, 1, 1, 1, 1, 1, 1, 0, 0, 1, 0, 0, 1, 0, 1, 1, 1, 1, 1], .code [1, 1, 1, 1, 1, 1, 1, 1, 0, 0, 1, 0, 0, 1, 0, 1, 1, 1, 1, 1], .blk 1, .code [1, 1, 0, 0, 1, 0, 1, 1, 1, 1, 1], .lp [0, 1, 0, 1, 1, 1, 1, 1], .blk 0, .code [1, 1, 1, 1, 1, 1]], ⟨frm 263 [(8, .np 0 0 0), (12, .buf 1 7), (20, .ptr 2 0 0)], [.cells [.int .i64, .int .i64, .int .i64, .buf 3 2, .buf 4 3, .int .i64, .int .i64, .int .i64, .int .i64, .int .i64, .int .i64, .int .i64, .int .i64, .int .i64, .int .i64, .buf 5 2, .buf 6 2, .buf 7 2, .ptr 8 0 0, .buf 9 7, .int .i64, .int .i64, .int .i64, .int .i64, .int .i64, .int .i64, .int .i64, .int .i64, .int .i64, .bool], .ag (sB 6), .cells [.bool, .int .i64, .int .i64, .int .i64, .int .i64, .int .i64, .int .i64, .int .i64, .int .i64, .int .i64, .int .i64, .buf 10 4, .int .i64, .int .i64, .int .i64, .int .i64, .int .i64, .buf 11 3, .int .i64], .ag (sI 2), .ag (sI 3), .ag (sI 2), .ag (sI 2), .ag (sI 2), .cells [.buf 12 5], .ag (sI 7), .ag (sI 4), .ag (sI 3), .ag (sB 4)], 0⟩, onU F⟩
def pn (m : Nat) (k0 : nU -> Option (List Un)) : Mz -> Option (List Un) := fun (a0, a1, a2, a3, a4, a5, a6, a7, a8, a9, a10, a11, a12, a13, a14, a15, a16, a17, a18, a19, a20, a21, a22) =>
 chk (decide (0 <= a1) && fS (⟨a6, a7, a8, a16, a17, a18, a19, a20, a22, a21⟩ : ab)) <|
 bd ((bM (⟨a6, a7, a8, a16, a17, a18, a19, a20, a22, a21⟩ : ab)) : fO) fun r29 =>
 bif !((r29.e == 0) == a3) then
 some ([.b false])
 else
 bif r29.e != 0 then
 bif r29.e != 6 then
 some ([.b false])
 else
 chk (decide (0 <= a1) && decide (r29.t.ax.length < 1000000 /\ r29.t.tr.length < 1000000)) <|
 chk (decide ((dq r29.t.n r29.t.ax r29.t.tr).length < 1099511627776)) <|
 bif !(mj (dq r29.t.n r29.t.ax r29.t.tr) a9) then
 some ([.b false])
 else
 bif a3 then
 Cd m k0 (a1, r29.t.a, r29.t.b, r29.t.n, a10, r29.ra, r29.rb, r29.next, r29.t.aC, r29.t.notes, r29.t.s0, r29.t.s1, r29.t.s2, r29.t.tr, r29.wQ, r29.notes, r29.t.ax)
 else
 chk (decide (0 <= a1) && fS r29.t) <|
 bd ((bf r29.t a10) : fO) fun r30 =>
 bif r30.e != 0 then
 some ([.b false])
 else
 k0 (a0, a1, (w64 (a2 + 1)), a4, a5, r30.t.a, r30.t.b, r30.t.n, a11, a12, a13, a14, a15, r30.t.aC, r30.t.notes, r30.t.s0, r30.t.s1, r30.t.s2, r30.t.tr, r30.t.ax)
 else
 bif a3 then
 Cd m k0 (a1, r29.t.a, r29.t.b, r29.t.n, a10, r29.ra, r29.rb, r29.next, r29.t.aC, r29.t.notes, r29.t.s0, r29.t.s1, r29.t.s2, r29.t.tr, r29.wQ, r29.notes, r29.t.ax)
 else
 chk (decide (0 <= a1) && fS r29.t) <|
 bd ((bf r29.t a10) : fO) fun r31 =>
 bif r31.e != 0 then
 some ([.b false])
 else
 k0 (a0, a1, (w64 (a2 + 1)), a4, a5, r31.t.a, r31.t.b, r31.t.n, a11, a12, a13, a14, a15, r31.t.aC, r31.t.notes, r31.t.s0, r31.t.s1, r31.t.s2, r31.t.tr, r31.t.ax)
def MG (F : Mz -> Option (List Un)) : aT := ⟨[.code [0, 1, 1, 1, 1, 1, 0, 0, 1, 0, 0, 1, 0, 1, 1, 1, 1, 1], .code [1, 1, 1, 1, 1, 1, 0, 0, 1, 0, 0, 1, 0, 1, 1, 1, 1, 1], .blk 1, .code [1, 1, 0, 0, 1, 0, 1, 1, 1, 1, 1], .lp [0, 1, 0, 1, 1, 1, 1, 1], .blk 0, .code [1, 1, 1, 1, 1, 1]], ⟨frm 263 [(1, .ag [.ints .i64, .ints .i64, .ints .i64, .ints .i64, .ints .i64, .ints .i64]), (7, .ptr 0 0 0), (8, .np 1 0 0), (10, .int .i64), (11, .buf 2 1), (12, .buf 3 7), (19, .bool)], [.cells [.int .i64, .int .i64, .int .i64, .buf 4 2, .buf 5 3, .int .i64, .int .i64, .int .i64, .int .i64, .int .i64, .int .i64, .int .i64, .int .i64, .int .i64, .int .i64, .buf 6 2, .buf 7 2, .buf 8 2], .cells [.int .i64, .int .i64, .int .i64, .buf 9 2, .buf 10 3, .int .i64, .int .i64, .int .i64, .int .i64, .int .i64, .int .i64, .int .i64, .int .i64, .int .i64, .int .i64, .buf 11 2, .buf 12 2, .buf 13 2, .ptr 14 0 0, .buf 15 7, .int .i64, .int .i64, .int .i64, .int .i64, .int .i64, .int .i64, .int .i64, .int .i64, .int .i64, .bool], .ints .i64, .ag (sB 6), .ag (sI 2), .ag (sI 3), .ag (sI 2), .ag (sI 2), .ag (sI 2), .ag (sI 2), .ag (sI 3), .ag (sI 2), .ag (sI 2), .ag (sI 2), .cells [.buf 16 5], .ag (sI 7), .ag (sB 4)], 0⟩, onU F⟩
def yI (m : Nat) (k : nU -> Option (List Un)) : nU -> Option (List Un) := fun (a0, a1, a2, a3, a4, a5, a6, a7, a8, a9, a10, a11, a12, a13, a14, a15, a16, a17, a18, a19) =>
 bif (decide (a2 < (a0.length : Int))) then
 bif decide (a2 < 8) then
 chk (decide (0 <= a1) && decide (a19.length < 1000000 /\ a18.length < 1000000)) <|
 chk (inb a2 a0.length) <|
 chk (decide (a2.toNat < a0.length)) <|
 lt (ae a0 a2.toNat : Dat) fun d15 =>
 chk (decide (0 <= a1) && (decide (a19.length < 1000) && a19.all (fun d => decide (d.i 1 <= 1152921504606846976 /\ d.i 2 <= 1152921504606846976)))) <|
 lt ((qt (d15.l 0) (d15.l 1) (d15.l 2) (d15.l 3) (d15.l 4) (d15.l 5) a19) : List Dat) fun l16 =>
 chk (fits (0 + l16.length) 56) <|
 chk (fits (l16.length + 1) 56) <|
 chk (decide (0 <= a1) && fS (⟨a5, a6, a7, a13, a14, a15, a16, a17, a19, a18⟩ : ab)) <|
 bd ((bf (⟨a5, a6, a7, a13, a14, a15, a16, a17, a19, a18⟩ : ab) (l16 ++ ([.r [.n 1099511627776, .n 0, .n 0, .n 0, .n 0, .n 0, .n (bI false)]]))) : fO) fun r18 =>
 bif r18.e != 3 then
 some ([.b false])
 else
 chk (decide (0 <= a1) && decide (r18.t.ax.length < 1000000 /\ r18.t.tr.length < 1000000)) <|
 chk (decide ((dq r18.t.n r18.t.ax r18.t.tr).length < 1099511627776)) <|
 bif !(mj (dq r18.t.n r18.t.ax r18.t.tr) (dq a7 a19 a18)) then
 some ([.b false])
 else
 chk (decide (0 <= a1) && (decide (r18.t.tr.length <= 1000) && r18.t.tr.all aH)) <|
 bif decide (a4.clean > 0) then
 chk (decide (0 <= a1)) <|
 chk (decide (0 < ([.r [.r r18.t.ax]] : List Dat).length) && (decide (((ae ([.r [.r r18.t.ax]] : List Dat) 0).d 0).length <= 1000) && ((ae ([.r [.r r18.t.ax]] : List Dat) 0).d 0).all cw)) <|
 bif (decide ((w64 ((af 1 ((ae ([.r [.r r18.t.ax]] : List Dat) 0).d 0)) * 10000)) <= (w64 ((((bu (⟨a3, a8, a9, a4, a10, a11, a12⟩ : aP)).getD (0, 0)).1) * a4.clean)))) then
 chk (decide (0 <= a1)) <|
 chk (decide (0 < ([.r [.r r18.t.ax]] : List Dat).length) && (decide (((ae ([.r [.r r18.t.ax]] : List Dat) 0).d 0).length <= 1000) && ((ae ([.r [.r r18.t.ax]] : List Dat) 0).d 0).all cw)) <|
 chk (decide (0 <= a1)) <|
 chk (decide (0 <= a1)) <|
 chk (decide (0 <= a1)) <|
 pn m k (a0, a1, a2, (decide ((w64 ((af 1 ((ae ([.r [.r r18.t.ax]] : List Dat) 0).d 0)) + (w64 (r18.t.n.rin - r18.t.n.aG)))) >= (w64 ((w64 ((w64 ((bn aK r18.t.tr) + (af 5 r18.t.tr))) + r18.t.n.fee)) + r18.t.n.out)))), a3, a4, r18.t.a, r18.t.b, r18.t.n, (dq a7 a19 a18), l16, a8, a9, a10, a11, a12, r18.t.aC, r18.t.notes, r18.t.s0, r18.t.s1, r18.t.s2, r18.t.tr, r18.t.ax)
 else
 pn m k (a0, a1, a2, false, a3, a4, r18.t.a, r18.t.b, r18.t.n, (dq a7 a19 a18), l16, a8, a9, a10, a11, a12, r18.t.aC, r18.t.notes, r18.t.s0, r18.t.s1, r18.t.s2, r18.t.tr, r18.t.ax)
 else
 pn m k (a0, a1, a2, false, a3, a4, r18.t.a, r18.t.b, r18.t.n, (dq a7 a19 a18), l16, a8, a9, a10, a11, a12, r18.t.aC, r18.t.notes, r18.t.s0, r18.t.s1, r18.t.s2, r18.t.tr, r18.t.ax)
 else
 some ([.b true])
 else
 some ([.b true])
def rO (m : Nat) : Nat -> nU -> Option (List Un) := bp (yI m)
theorem uc (m : Nat) (n : Nat) : rO m (n + 1) = yI m (rO m n) := rfl
def yh (F : nU -> Option (List Un)) : aT := ⟨[.lp [0, 1, 0, 1, 1, 1, 1, 1], .blk 0, .code [1, 1, 1, 1, 1, 1]], ⟨frm 263 [(1, .ag [.ints .i64, .ints .i64, .ints .i64, .ints .i64, .ints .i64, .ints .i64]), (7, .ptr 0 0 0), (8, .np 1 0 0), (10, .int .i64)], [.cells [.int .i64, .int .i64, .int .i64, .buf 2 2, .buf 3 3, .int .i64, .int .i64, .int .i64, .int .i64, .int .i64, .int .i64, .int .i64, .int .i64, .int .i64, .int .i64, .buf 4 2, .buf 5 2, .buf 6 2], .cells [.int .i64, .int .i64, .int .i64, .buf 7 2, .buf 8 3, .int .i64, .int .i64, .int .i64, .int .i64, .int .i64, .int .i64, .int .i64, .int .i64, .int .i64, .int .i64, .buf 9 2, .buf 10 2, .buf 11 2, .ptr 12 0 0, .buf 13 7, .int .i64, .int .i64, .int .i64, .int .i64, .int .i64, .int .i64, .int .i64, .int .i64, .int .i64, .bool], .ag (sI 2), .ag (sI 3), .ag (sI 2), .ag (sI 2), .ag (sI 2), .ag (sI 2), .ag (sI 3), .ag (sI 2), .ag (sI 2), .ag (sI 2), .cells [.buf 14 5], .ag (sI 7), .ag (sB 4)], 0⟩, onU F⟩
theorem P1 (m : Nat) (k0 : nU -> Option (List Un)) (h0 : HO N10 (yh k0)) : HO N10 (MH (Cd m k0)) := xo ak F9.right [] aA fun a => by kernel_rfl
theorem P5 (m : Nat) (k0 : nU -> Option (List Un)) (h0 : HO N10 (yh k0)) : HO N10 (MG (pn m k0)) := xo ak F9.right [yh k0, MH (Cd m k0)] (aJ h0 (aJ (P1 m _ h0) aA)) fun a => by kernel_rfl
theorem QF (m : Nat) : ∀ n, HO N10 (yh (rO m n)) := ay ak F9.right (fun k => [MG (pn m (k))]) (fun k h => (aJ (P5 m _ h) aA)) fun k a => by kernel_rfl
def t10 (m : Nat) : cS × List Dat × Int -> Option (List Un) := fun (a0, a1, a2) =>
 chk (decide (a0.notes.length <= 140737488355328)) <|
 chk (decide (({ (aQ a0) with b := ({ ((aQ a0).b) with clean := (within a2 0 100000) } : an) } : aP).aC.length < 1000000 /\ ({ (aQ a0) with b := ({ ((aQ a0).b) with clean := (within a2 0 100000) } : an) } : aP).notes.length < 1000000 /\ ({ (aQ a0) with b := ({ ((aQ a0).b) with clean := (within a2 0 100000) } : an) } : aP).s0.length < 1000000 /\ ({ (aQ a0) with b := ({ ((aQ a0).b) with clean := (within a2 0 100000) } : an) } : aP).s1.length < 1000000 /\ ({ (aQ a0) with b := ({ ((aQ a0).b) with clean := (within a2 0 100000) } : an) } : aP).s2.length < 1000000)) <|
 lt (((if (bu ({ (aQ a0) with b := ({ ((aQ a0).b) with clean := (within a2 0 100000) } : an) } : aP)).isSome then 0 else -1) : Int) : Int) fun x1 =>
 bif ((decide (x1 < 0)) && true) then
 some ([.b false])
 else
 bif ((if (bu ({ (aQ a0) with b := ({ ((aQ a0).b) with clean := (within a2 0 100000) } : an) } : aP)).isSome then 0 else 2) : Int) != 0 then
 some ([.b false])
 else
 chk (decide (0 <= x1)) <|
 rO m m (a1, x1, 0, ((aQ a0).a), ({ ((aQ a0).b) with clean := (within a2 0 100000) } : an), ((dN ({ (aQ a0) with b := ({ ((aQ a0).b) with clean := (within a2 0 100000) } : an) } : aP)).a), ((dN ({ (aQ a0) with b := ({ ((aQ a0).b) with clean := (within a2 0 100000) } : an) } : aP)).b), ((dN ({ (aQ a0) with b := ({ ((aQ a0).b) with clean := (within a2 0 100000) } : an) } : aP)).n), (aQ a0).aC, (aQ a0).notes, (aQ a0).s0, (aQ a0).s1, (aQ a0).s2, ((dN ({ (aQ a0) with b := ({ ((aQ a0).b) with clean := (within a2 0 100000) } : an) } : aP)).aC), ((dN ({ (aQ a0) with b := ({ ((aQ a0).b) with clean := (within a2 0 100000) } : an) } : aP)).notes), ((dN ({ (aQ a0) with b := ({ ((aQ a0).b) with clean := (within a2 0 100000) } : an) } : aP)).s0), ((dN ({ (aQ a0) with b := ({ ((aQ a0).b) with clean := (within a2 0 100000) } : an) } : aP)).s1), ((dN ({ (aQ a0) with b := ({ ((aQ a0).b) with clean := (within a2 0 100000) } : an) } : aP)).s2), ((dN ({ (aQ a0) with b := ({ ((aQ a0).b) with clean := (within a2 0 100000) } : an) } : aP)).tr), ((dN ({ (aQ a0) with b := ({ ((aQ a0).b) with clean := (within a2 0 100000) } : an) } : aP)).ax))
theorem DW (n : ah) (ax notes : List Dat) : (dq n ax notes).length = 10 + 5 * ax.length + 3 * notes.length := by
 have h1 : ∀ l : List Dat, (l.flatMap vV).length = 5 * l.length := fun l => by
  induction l with
  | nil => rfl
  | cons x l ih => simp only [List.flatMap_cons, zai, ih, zaf, vV, zaB]; omega
 have h2 : ∀ l : List Dat, (l.flatMap sk).length = 3 * l.length := fun l => by
  induction l with
  | nil => rfl
  | cons x l ih => simp only [List.flatMap_cons, zai, ih, zaf, sk, zaB]; omega
 unfold dq; simp only [zai, h1, h2, zaf, zaB]
theorem AK (id : Int) : ∀ (l : List Dat) (i : Int), (∀ d ∈ l, d.i 0 ≠ id) -> eu id i l = -1
 | [], _, _ => rfl
 | d :: l, i, h => by
  unfold eu; rw [if_neg (h d (by simp))]; exact AK id l _ fun x hx => h x (by simp [hx])
theorem xG (x : Dat) : ∀ (t l : List Dat) (p q s r : Int), (∀ d ∈ l, d.i 0 ≠ x.i 0) -> cU l p q s r (t ++ [x]) = none
 | [], l, p, q, s, r, h => by
  rw [zaH]; unfold cU; rw [AK _ l 0 h, if_pos (by decide)]
 | d :: t, l, p, q, s, r, h => by
  rw [zaY]; unfold cU
  split
  . rfl
  . rename_i hi
    split
    . refine xG x t _ _ _ _ _ fun y hy => ?_
      rcases zbD hy with hy | hy
      . exact h y hy
      . rw [hy]; show (ae l _).i 0 ≠ _; refine h _ (m8 ?_); have := s8 (d.i 0) l 0; omega
    . rfl
theorem Hy {T : ab} {x : Dat} (l : List Dat) (h : ∀ d ∈ T.ax, d.i 0 ≠ x.i 0) : (cP T (l ++ [x])).e = 3 := by
 unfold cP av; rw [xG x l T.ax 0 0 0 0 h]
 split <;> rfl
theorem OI {T : ab} {l : List Dat} (h : (cP T l).e = 0) : l.length <= 64 := by
 unfold cP av at h
 split at h
 . rename_i ht; simp only [kC, zab, zac] at ht; exact ht.1
 . cases h
theorem F3 {T : ab} {x : Dat} (l : List Dat) (h : ∀ d ∈ T.ax, d.i 0 ≠ x.i 0) (ho : T.n.dt = false) (hp : T.n.period < 600) : bf T (l ++ [x]) = noR 3 T := by
 unfold bf; rw [ho, j7, aB (by omega), lq (show (cP T (l ++ [x])).e ≠ 0 by rw [Hy l h]; decide), Hy l h]
theorem BE {d : aP} (h : (bu d).isSome = true) {c : Int} (h0 : 0 <= c /\ c <= 100000) : (bu { d with b := { d.b with clean := c } }).isSome = true := by
 unfold bu at h ⊢
 split at h
 . cases h
 . rename_i p hp
   split at h
   . cases h
   . rename_i n hn
     split at h
     . rename_i hc; simp only [hp, hn]; rw [if_pos]
       . rfl
       simp only [zab, ki, zac] at hc ⊢; obtain ⟨⟨t1, t2, t3, t4, t5, t6, t7, t8, t9, t10, t11, t12, t13⟩, s⟩ := hc; exact ⟨⟨t1, t2, t3, t4, h0, t6, t7, t8, t9, t10, t11, t12, t13⟩, s⟩
     . cases h
theorem vr : ∀ (l : List Int) (i : Nat), ∀ d ∈ eO i l, d.i 0 <= 2 * (i + l.length)
 | [], i => by simp [eO]
 | x :: l, i => fun d hd => by
  unfold eO at hd; simp only [zaf]; rcases zaV.1 hd with rfl | hd
  . show 2 * (i : Int) + 1 <= _; omega
  . have := vr l (i + 1) d hd; omega
theorem Dz (k : cS) : ∀ d ∈ dI k, d.i 0 <= 99 := fun d hd => by
 unfold dI jb at hd; rcases zbk.1 hd with hd | hd
 . have := vr _ _ d hd; have : (k.aC.take 10).length <= 10 := by simp; omega
   omega
 . rw [zbt.1 hd]; exact zb8 99
def Gi (T : ab) : Prop := (0 < T.b.clean /\ af 1 T.ax * 10000 <= af 1 T.aC * T.b.clean) /\ bn aK T.tr + af 5 T.tr + T.n.fee + T.n.out <= af 1 T.ax + (T.n.rin - T.n.aG)
theorem uU {T : ab} (h : dk T) : ud T = decide (0 < T.b.clean /\ af 1 T.ax * 10000 <= af 1 T.aC * T.b.clean) := by
 have D := cq h.lW; have b := dO h; have r0 := h.sJ; have c : 0 <= T.b.clean /\ T.b.clean <= 100000 := D.clean; have p : 0 <= af 1 T.aC /\ af 1 T.aC <= 1099511627776 := D.ax; have hs : ((bu (gO T)).getD (0, 0)).1 = af 1 T.aC := D.NV; unfold ud; rw [hs, Bool.eq_iff_iff]; simp only [bH, IE, zab, zac, bne_iff_ne]; omega
theorem Hg {T : ab} (h : dk T) (ho : T.n.dt = false) (hm : Gi T) : bM T = dw T := by
 have := (nd h).1; have hm2 := hm.2; unfold bM; rw [ho, uU h, zad hm.1, j7]; exact aB (by omega)
theorem HW {T : ab} (h : dk T) (ho : T.n.dt = false) (hm : ¬ Gi T) : bM T = noR 6 T := by
 have := (nd h).1; unfold bM; rw [ho, uU h, j7]
 by_cases hc : 0 < T.b.clean /\ af 1 T.ax * 10000 <= af 1 T.aC * T.b.clean
 . rw [zad hc]; refine bz (Int.not_le.1 fun h2 => hm ⟨hc, ?_⟩); omega
 . rw [zaL hc]; rfl
theorem F6 {c : List Dat} : (∀ i, i < c.length -> aK (ae c i) = 0 /\ (ae c i).i 5 = 0) -> bn aK c = 0 /\ af 5 c = 0 := fun h => by
 refine ⟨qn _ _ fun d hd => ?_, qT _ _ fun d hd => ?_⟩
 . obtain ⟨i, hi, rfl⟩ := gp hd; exact (h i hi).1
 . obtain ⟨i, hi, rfl⟩ := gp hd; exact (h i hi).2
theorem uf (m : Nat) (k : nU -> Option (List Un)) {T : ab} {l : List Dat} (h : dk T) (ho : T.n.dt = false) (hpe : T.n.period < 600) (he : (cP T l).e = 0) (hm : ¬ Gi T) (ts : List Dat) (i : Int) (xa : ao) (xb : an) (x1 x2 x3 x4 x5 : List Dat)
 (fin : k (ts, 0, w64 (i + 1), xa, xb, (bB T l).t.a, (bB T l).t.b, (bB T l).t.n, x1, x2, x3, x4, x5, (bB T l).t.aC, (bB T l).t.notes, (bB T l).t.s0, (bB T l).t.s1, (bB T l).t.s2, (bB T l).t.tr, (bB T l).t.ax) = some [.b true]) :
 pn m k (ts, 0, i, false, xa, xb, T.a, T.b, T.n, dq T.n T.ax T.tr, l, x1, x2, x3, x4, x5, T.aC, T.notes, T.s0, T.s1, T.s2, T.tr, T.ax) = some [.b true] := by
 have ll := jF h; have tl := cI h; have pl := dg h; have hnl : (dq T.n T.ax T.tr).length < 1099511627776 := by rw [DW]; omega
 have hll : T.ax.length < 1000000 /\ T.tr.length < 1000000 := ⟨ll.2.2.2.2.2.1, ll.2.2.2.2.2.2⟩
 obtain ⟨hC, hN, hO, hP, hM, hX, hD, hR, hQ⟩ := uu h ho hpe he; have eT : (⟨T.a, T.b, T.n, T.aC, T.notes, T.s0, T.s1, T.s2, T.ax, T.tr⟩ : ab) = T := rfl; unfold pn; dsimp only; rw [eT]; refine aS (zan.2 ⟨rfl, dZ.2 h⟩) ?_
 rw [HW h ho hm]; dsimp only [bd, noR]; refine jB rfl (jA rfl (jB rfl ?_)); refine aS (zan.2 ⟨rfl, zad hll⟩) (aS (zad hnl) ?_); rw [oF]; refine jB rfl (jB rfl ?_); refine aS (zan.2 ⟨rfl, dZ.2 h⟩) ?_
 rw [hC]; refine jB rfl ?_
 exact fin
theorem IY (m : Nat) (k : nU -> Option (List Un)) {T : ab} (l : List Dat) (h : dk T) (ho : T.n.dt = false) (hm : Gi T) (ts : List Dat) (i : Int) (xa : ao) (xb : an) (w : List Int) (x1 x2 x3 x4 x5 : List Dat) :
 pn m k (ts, 0, i, true, xa, xb, T.a, T.b, T.n, w, l, x1, x2, x3, x4, x5, T.aC, T.notes, T.s0, T.s1, T.s2, T.tr, T.ax) = some [.b true] := by
 have ll := jF h; have tl := cI h; have pl := dg h; have gn := dB h; have D := cq h.lW; have b := dO h; have r0 := h.sJ; have r := h.res; have pe := h.period; have f := h.fee; have o := h.out; have ad : T.b.advance <= 1099511627776 := D.advance.2; have po : 0 <= af 1 T.aC /\ af 1 T.aC <= 1099511627776 := D.ax; have eT : (⟨T.a, T.b, T.n, T.aC, T.notes, T.s0, T.s1, T.s2, T.ax, T.tr⟩ : ab) = T := rfl; unfold pn; dsimp only; rw [eT]; refine aS (zan.2 ⟨rfl, dZ.2 h⟩) ?_
 rw [Hg h ho hm]; have cn := yb h; obtain ⟨c1, c2, c3, c4⟩ := nd h; obtain ⟨d1, d2, d3, d4⟩ := kY h; obtain ⟨z1, z2⟩ := F6 (c := (vD T).2) fun j hj => ⟨(pP h j (by omega)).2.2.2.1, (pP h j (by omega)).2.2.2.2.1⟩
 obtain ⟨s1, s2, s3, s4, s5⟩ := yG h; have q3 := (jZ h s1).2.2.1; have co : bf (dw T).t l = noR 5 (dw T).t := rfl; have cc : bM (dw T).t = noR 5 (dw T).t := rfl; dsimp only [bd]; refine jB rfl (jB rfl (jA rfl ?_)); unfold Cd; dsimp only [bd]; rw [show (⟨(dw T).t.a, (dw T).t.b, (dw T).t.n, (dw T).t.aC, (dw T).t.notes, (dw T).t.s0, (dw T).t.s1, (dw T).t.s2, (dw T).t.ax, (dw T).t.tr⟩ : ab) = (dw T).t from rfl, co, show (noR 5 (dw T).t).t = (dw T).t from rfl, cc]; refine aS (zan.2 ⟨rfl, cV (qh h)⟩) (aS (zan.2 ⟨rfl, dZ.2 cn⟩) ?_); refine aS (zan.2 ⟨rfl, dZ.2 cn⟩) ?_
 refine jA (me z1) (jA (me z2) (jA rfl ?_)); have pg : (decide ((vP T).length <= 1000000) && ((vP T).all mO && decide (af 3 (vP T) <= 1152921504606846976))) = true := by
  simp only [zab, zac, zam]; exact ⟨by omega, fun d hd => zad (by have := (c4 d hd).1; omega), by omega⟩
 refine aS pg ?_
 have az : w64 (w64 (w64 (w64 ((dw T).ra.au + (dw T).ra.kH) + (dw T).ra.aR) + (dw T).ra.draw) + (dw T).ra.advance) = w64 (af 3 (dw T).wQ + (dw T).rb.eG) := by
  show w64 (w64 (w64 (w64 (af 1 T.ax + 0) + 0) + (T.n.rin - T.n.aG)) + 0) = w64 (af 3 (vP T) + (af 1 T.ax + (T.n.rin - T.n.aG) - af 3 (vP T))); have w1 : w64 (af 1 T.ax) = af 1 T.ax := aa (by omega) (by omega); have w2 : w64 (af 1 T.ax + (T.n.rin - T.n.aG)) = af 1 T.ax + (T.n.rin - T.n.aG) := aa (by omega) (by omega); simp only [zbG, w1, w2]; rw [show af 3 (vP T) + (af 1 T.ax + (T.n.rin - T.n.aG) - af 3 (vP T)) = af 1 T.ax + (T.n.rin - T.n.aG) by omega, w2]
 refine jA (me az) (aS rfl (jA rfl (aS rfl (aS (zan.2 ⟨rfl, nL (l := (dw T).t.ax) cn.sF (zax (dg cn).2 (by decide))⟩) ?_)))); refine jA (me (show af 1 (cP T (bq T.ax)).ax = 0 by omega)) (aS rfl ?_); refine jA (me (show w64 ((vD T).1.rin - (vD T).1.aG) = 0 by rw [d1]; show w64 (T.n.rin - T.n.rin) = 0; rw [Int.sub_self]; rfl)) (aS rfl ?_); refine jA (me (show (vD T).1.fee = 0 by rw [d1])) (aS rfl ?_); refine jA (me (show (vD T).1.out = 0 by rw [d1])) (jA rfl (jA rfl rfl))
theorem Rp (m : Nat) (hm : 1 <= m) (ts : List Dat) (xa : ao) (xb : an) (x1 x2 x3 x4 x5 : List Dat) : ∀ (c n : Nat) (i : Nat) (T : ab), i + c = min ts.length 8 -> c < n -> dk T -> T.n.dt = false -> T.n.period = (i : Int) -> (∀ d ∈ T.ax, d.i 0 ≠ 1099511627776) -> ((bu (⟨xa, x1, x2, xb, x3, x4, x5⟩ : aP)).getD (0, 0)).1 = af 1 T.aC -> xb.clean = T.b.clean ->
 rO m n (ts, 0, (i : Int), xa, xb, T.a, T.b, T.n, x1, x2, x3, x4, x5, T.aC, T.notes, T.s0, T.s1, T.s2, T.tr, T.ax) = some [.b true] := by
 intro c
 induction c with
 | zero =>
  intro n i T hi hn h ho hp hid hs hc; obtain ⟨n, rfl⟩ := al n (by omega); rw [uc]; unfold yI; dsimp only
  by_cases h1 : i < ts.length
  . rw [bz (by omega), aB (by omega)]
  . rw [aB (by omega)]
 | succ c ih =>
  intro n i T hi hn h ho hp hid hs hc; obtain ⟨n, rfl⟩ := al n (by omega); have ll := jF h; have tl := cI h; have pl := dg h; have gn := dB h; have D := cq h.lW; have b := dO h; have r0 := h.sJ; have r := h.res; have pe := h.period; have f := h.fee; have o := h.out; have ad : T.b.advance <= 1099511627776 := D.advance.2; have cl : 0 <= T.b.clean /\ T.b.clean <= 100000 := D.clean; have po : 0 <= af 1 T.aC /\ af 1 T.aC <= 1099511627776 := D.ax; have sl := fD _ gn.2; have hlg := nL h.sF (zax pl.2 (by decide)); have hnl : (dq T.n T.ax T.tr).length < 1099511627776 := by rw [DW]; omega
  have hll : T.ax.length < 1000000 /\ T.tr.length < 1000000 := ⟨ll.2.2.2.2.2.1, ll.2.2.2.2.2.2⟩
  rw [uc]; unfold yI; dsimp only; rw [bz (by omega), bz (by omega)]; refine aS (zan.2 ⟨rfl, zad hll⟩) ?_
  rw [jh (by omega) (by omega), aV (by omega)]; refine gS fun d15 _ => ?_
  refine aS (zan.2 ⟨rfl, Hh h⟩) ?_
  refine gS fun l e16 => ?_
  have he : (cP T l).e = 0 := by rw [e16]; exact GL h _ _ _ _ _ _
  have hlen : l.length <= 64 := OI he; rw [nf (by omega) (by omega), nf (by omega) (by omega)]; have eT : (⟨T.a, T.b, T.n, T.aC, T.notes, T.s0, T.s1, T.s2, T.ax, T.tr⟩ : ab) = T := rfl; rw [eT]; refine aS (zan.2 ⟨rfl, dZ.2 h⟩) ?_
  rw [F3 l hid ho (by omega)]; dsimp only [bd, noR]; obtain ⟨hC, hN, hO, hP, hM, hX, hD, hR, hQ⟩ := uu h ho (by omega) he; have hpe : T.n.period < 600 := by omega
  have fin : rO m n (ts, 0, w64 ((i : Int) + 1), xa, xb, (bB T l).t.a, (bB T l).t.b, (bB T l).t.n, x1, x2, x3, x4, x5, (bB T l).t.aC, (bB T l).t.notes, (bB T l).t.s0, (bB T l).t.s1, (bB T l).t.s2, (bB T l).t.tr, (bB T l).t.ax) = some [.b true] := by
   have hids : (bB T l).t.ax.map (fun d => d.i 0) = T.ax.map (fun d => d.i 0) := (jZ h he).2.1; have nx := ih n (i + 1) (bB T l).t (by omega) (by omega) hN hO (by rw [hP, hp]; omega) (fun d hd => by
    have hm : d.i 0 ∈ T.ax.map (fun d => d.i 0) := by rw [<- hids]; exact za3.2 ⟨d, hd, rfl⟩
    obtain ⟨y, hy, e⟩ := za3.1 hm; rw [<- e]; exact hid y hy) hs hc
   rw [aa (n := (i : Int) + 1) (by omega) (by omega)]; exact nx
  refine jB rfl ?_
  refine aS (zan.2 ⟨rfl, zad hll⟩) (aS (zad hnl) ?_); rw [oF]; refine jB rfl ?_
  refine aS (zan.2 ⟨rfl, cV gn⟩) ?_
  by_cases hcl : xb.clean > 0
  case neg =>
   rw [aB hcl]; exact uf m _ h ho hpe he (fun hm => hcl (by rw [hc]; exact hm.1.1)) ts _ xa xb x1 x2 x3 x4 x5 fin
  rw [bz hcl]; refine aS rfl (aS (zan.2 ⟨rfl, hlg⟩) ?_); have pr : 0 <= af 1 T.aC * T.b.clean /\ af 1 T.aC * T.b.clean <= 1099511627776 * 100000 := ⟨zaZ po.1 cl.1, Int.mul_le_mul po.2 cl.2 cl.1 (by decide)⟩
  have e1 : w64 (af 1 ((ae ([.r [.r T.ax]] : List Dat) 0).d 0) * 10000) = af 1 T.ax * 10000 := aa (n := af 1 T.ax * 10000) (by omega) (by omega); have e2 : w64 (((bu (⟨xa, x1, x2, xb, x3, x4, x5⟩ : aP)).getD (0, 0)).1 * xb.clean) = af 1 T.aC * T.b.clean := by rw [hs, hc]; exact aa (by omega) (by omega)
  rw [e1, e2]
  by_cases ht : af 1 T.ax * 10000 <= af 1 T.aC * T.b.clean
  case neg =>
   rw [aB ht]; exact uf m _ h ho hpe he (fun hm => ht hm.1.2) ts _ xa xb x1 x2 x3 x4 x5 fin
  rw [bz ht]; refine aS rfl (aS (zan.2 ⟨rfl, hlg⟩) (aS rfl (aS rfl (aS rfl ?_)))); have e3 : w64 (af 1 ((ae ([.r [.r T.ax]] : List Dat) 0).d 0) + w64 (T.n.rin - T.n.aG)) = af 1 T.ax + (T.n.rin - T.n.aG) := by
   rw [aa (n := T.n.rin - T.n.aG) (by omega) (by omega)]; exact aa (n := af 1 T.ax + (T.n.rin - T.n.aG)) (by omega) (by omega)
  have e4 : w64 (w64 (w64 (bn aK T.tr + af 5 T.tr) + T.n.fee) + T.n.out) = bn aK T.tr + af 5 T.tr + T.n.fee + T.n.out := by
   rw [aa (n := bn aK T.tr + af 5 T.tr) (by omega) (by omega), aa (n := bn aK T.tr + af 5 T.tr + T.n.fee) (by omega) (by omega)]; exact aa (by omega) (by omega)
  rw [e3, e4]
  by_cases hm : Gi T
  case neg =>
   have hx : ¬ (af 1 T.ax + (T.n.rin - T.n.aG) >= bn aK T.tr + af 5 T.tr + T.n.fee + T.n.out) := fun hx => hm ⟨⟨by rw [<- hc]; exact hcl, ht⟩, hx⟩
   rw [zaL hx]; exact uf m _ h ho hpe he hm ts _ xa xb x1 x2 x3 x4 x5 fin
  rw [zad (show af 1 T.ax + (T.n.rin - T.n.aG) >= bn aK T.tr + af 5 T.tr + T.n.fee + T.n.out from hm.2)]; exact IY m _ l h ho hm ts _ xa xb _ x1 x2 x3 x4 x5
set_option maxHeartbeats 8000000 in
theorem PB (b0 : Int) (wb0 : (Lit.int .i64 b0).wf = true) (b1 : Int) (wb1 : (Lit.int .i64 b1).wf = true) (b2 : Int) (wb2 : (Lit.int .i64 b2).wf = true) (b3 : Int) (wb3 : (Lit.int .i64 b3).wf = true) (b4 : Int) (wb4 : (Lit.int .i64 b4).wf = true) (b5 : Int) (wb5 : (Lit.int .i64 b5).wf = true) (b6 : Int) (wb6 : (Lit.int .i64 b6).wf = true) (b7 : Int) (wb7 : (Lit.int .i64 b7).wf = true) (b8 : Int) (wb8 : (Lit.int .i64 b8).wf = true) (b9 : Int) (wb9 : (Lit.int .i64 b9).wf = true) (b10 : Int) (wb10 : (Lit.int .i64 b10).wf = true) (b11 : Int) (wb11 : (Lit.int .i64 b11).wf = true) (b12 : Int) (wb12 : (Lit.int .i64 b12).wf = true) (b13 : List Int) (wb13 : b13.length <= 140737488355328 /\ ∀ x ∈ b13, (Lit.int .i64 x).wf = true) (b14 : List Int) (wb14 : b14.length <= 140737488355328 /\ ∀ x ∈ b14, (Lit.int .i64 x).wf = true) (b15 : List Int) (wb15 : b15.length <= 140737488355328 /\ ∀ x ∈ b15, (Lit.int .i64 x).wf = true) (b16 : List Int) (wb16 : b16.length <= 140737488355328 /\ ∀ x ∈ b16, (Lit.int .i64 x).wf = true) (b17 : List Int) (wb17 : b17.length <= 140737488355328 /\ ∀ x ∈ b17, (Lit.int .i64 x).wf = true) (b18 : List Int) (wb18 : b18.length <= 140737488355328 /\ ∀ x ∈ b18, (Lit.int .i64 x).wf = true) (b19 : List Int) (wb19 : b19.length <= 140737488355328 /\ ∀ x ∈ b19, (Lit.int .i64 x).wf = true) (b20 : List Dat) (wb20 : b20.length <= 140737488355328 /\ ∀ x ∈ b20, WfR [.ints .i64, .ints .i64, .ints .i64, .ints .i64, .ints .i64, .ints .i64] x.sub) (b21 : Int) (wb21 : (Lit.int .i64 b21).wf = true) : ∃ m, t10 m ((⟨(⟨b0, b1, b2⟩ : ao), (⟨b3, b4, b5, b6, b7, b8, b9, b10, b11, b12⟩ : an), b13, b14, b15, b16, b17, b18, b19⟩ : cS), b20, b21) = some [.b true] := by
 have hn : (⟨⟨b0, b1, b2⟩, ⟨b3, b4, b5, b6, b7, b8, b9, b10, b11, b12⟩, b13, b14, b15, b16, b17, b18, b19⟩ : cS).notes.length <= 140737488355328 := wb14.1; generalize (⟨⟨b0, b1, b2⟩, ⟨b3, b4, b5, b6, b7, b8, b9, b10, b11, b12⟩, b13, b14, b15, b16, b17, b18, b19⟩ : cS) = k at hn; have w := bc (a := b21) (show (0 : Int) <= 100000 by decide); have hs : (bu ({ aQ k with b := { (aQ k).b with clean := within b21 0 100000 } } : aP)).isSome = true := BE (CX k) w; have h : dk (kp ({ aQ k with b := { (aQ k).b with clean := within b21 0 100000 } } : aP)) := A7 hs; have hT : dN ({ aQ k with b := { (aQ k).b with clean := within b21 0 100000 } } : aP) = kp ({ aQ k with b := { (aQ k).b with clean := within b21 0 100000 } } : aP) := I3 hs; refine ⟨130000, ?_⟩; unfold t10; dsimp only [lt]; rw [aV hn, aV (Bd k), hs, if_pos rfl, if_pos rfl]; refine jB rfl (jB rfl (aS rfl ?_)); rw [hT]; refine Rp 130000 (by omega) b20 _ _ _ _ _ _ _ (min b20.length 8) 130000 0 (kp ({ aQ k with b := { (aQ k).b with clean := within b21 0 100000 } } : aP)) (by omega) (by omega) h rfl rfl (fun d hd => ?_) ?_ rfl
 . obtain ⟨x, hx, rfl⟩ := za3.1 hd; have := Dz k x hx; show x.i 0 ≠ _; omega
 . exact (cq hs).NV
set_option maxRecDepth 20000 in
theorem pG {HH : Type} {enc : TypeId × Value -> HH} {w : World} {base : Nat} {vs : List Value} {ds : List (DataW HH)} {ps : List MemPlace} (hsh : w.ShapedOpen Tryz.prog)
 (hd : DataW.TrodAll enc Tryz.prog w 0 (fun _ => true) true Tryz.f10.params.toList vs ds ps) {us' : List TypeId} {gs : List (DataW HH)} (hz : (DataW.weightsEach Tryz.prog (Tryz.f10.params.toList ++ us') (ds ++ gs)).all (· <= reachBytes) = true) (hval : ∀ (j : Nat) t v, Tryz.f10.params.toList[j]? = some t -> vs[j]? = some v -> Value.okWide Tryz.prog w .any base t v) :
 Calls Tryz.prog 10 vs.toArray w fun e w' => e = .returned (.bool true) /\ RowKit.Below w.heap.size w w' :=
 Hi Seat.mix Seat.names GZ MA (pars := mZ) (by kernel_rfl) (fun us h => by
  change WfU [.int .i64, .int .i64, .int .i64, .int .i64, .int .i64, .int .i64, .int .i64, .int .i64, .int .i64, .int .i64, .int .i64, .int .i64, .int .i64, .ints .i64, .ints .i64, .ints .i64, .ints .i64, .ints .i64, .ints .i64, .ints .i64, .ag [.ints .i64, .ints .i64, .ints .i64, .ints .i64, .ints .i64, .ints .i64], .int .i64] us at h; obtain ⟨b0, u, rfl, wb0, h⟩ := fG h; obtain ⟨b1, u, rfl, wb1, h⟩ := fG h; obtain ⟨b2, u, rfl, wb2, h⟩ := fG h; obtain ⟨b3, u, rfl, wb3, h⟩ := fG h; obtain ⟨b4, u, rfl, wb4, h⟩ := fG h; obtain ⟨b5, u, rfl, wb5, h⟩ := fG h; obtain ⟨b6, u, rfl, wb6, h⟩ := fG h; obtain ⟨b7, u, rfl, wb7, h⟩ := fG h; obtain ⟨b8, u, rfl, wb8, h⟩ := fG h; obtain ⟨b9, u, rfl, wb9, h⟩ := fG h; obtain ⟨b10, u, rfl, wb10, h⟩ := fG h; obtain ⟨b11, u, rfl, wb11, h⟩ := fG h; obtain ⟨b12, u, rfl, wb12, h⟩ := fG h; obtain ⟨b13, u, rfl, wb13, h⟩ := jY h; obtain ⟨b14, u, rfl, wb14, h⟩ := jY h; obtain ⟨b15, u, rfl, wb15, h⟩ := jY h; obtain ⟨b16, u, rfl, wb16, h⟩ := jY h; obtain ⟨b17, u, rfl, wb17, h⟩ := jY h; obtain ⟨b18, u, rfl, wb18, h⟩ := jY h; obtain ⟨b19, u, rfl, wb19, h⟩ := jY h; obtain ⟨b20, u, rfl, wb20, h⟩ := E8 h; obtain ⟨b21, u, rfl, wb21, h⟩ := fG h; obtain rfl := IG h; obtain ⟨m, hm⟩ := PB b0 wb0 b1 wb1 b2 wb2 b3 wb3 b4 wb4 b5 wb5 b6 wb6 b7 wb7 b8 wb8 b9 wb9 b10 wb10 b11 wb11 b12 wb12 b13 wb13 b14 wb14 b15 wb15 b16 wb16 b17 wb17 b18 wb18 b19 wb19 b20 wb20 b21 wb21; have G : N10.Ct Tryz.prog LQ KN (Uns.enc ((⟨(⟨b0, b1, b2⟩ : ao), (⟨b3, b4, b5, b6, b7, b8, b9, b10, b11, b12⟩ : an), b13, b14, b15, b16, b17, b18, b19⟩ : cS), b20, b21)) ([yh (rO m m)]) = t10 m ((⟨(⟨b0, b1, b2⟩ : ao), (⟨b3, b4, b5, b6, b7, b8, b9, b10, b11, b12⟩ : an), b13, b14, b15, b16, b17, b18, b19⟩ : cS), b20, b21) := by kernel_rfl
  exact N10.MO ak F9.right (W := [yh (rO m m)]) (by kernel_rfl) (by kernel_rfl) (by kernel_rfl) (aJ (QF m m) aA) (G.trans hm)) hsh hd hz hval
end
end Go.Proofs.YtdbkoeefnodejaaGreat
