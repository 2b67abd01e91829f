/- Part of a proof: Closing, ClosePlain, Close, Runs, TheWord, Record, ReportRuns, Back, WReportBack. Conditions: none. -/
import Derived.Test.YtcbnpnaagbhknaaGreatQ5
set_option linter.unusedVariables false
set_option linter.unusedSimpArgs false
set_option linter.unnecessarySimpa false
set_option linter.unusedSectionVars false
namespace Go.Proofs.YtcbnpnaagbhknaaGreat
noncomputable section
open Go Go.Proofs.YtcbnpnaagbhknaaGreat.Ev
set_option maxRecDepth 20000
@[ext] structure bj where
 call : Bool
 period : Int
 mode : Int
 aj : Int
 bR : Int
 aD : Int
 aK : Int
 draw : Int
 advance : Int
 fee : Int
 due : Int
instance : Uns bj := Uns.via (B := Bool × Int × Int × Int × Int × Int × Int × Int × Int × Int × Int) (fun x => (x.call, x.period, x.mode, x.aj, x.bR, x.aD, x.aK, x.draw, x.advance, x.fee, x.due)) (fun x => match x with | (call, period, mode, aj, bR, aD, aK, draw, advance, fee, due) => ⟨call, period, mode, aj, bR, aD, aK, draw, advance, fee, due⟩) (fun _ => rfl)
@[ext] structure aZ where
 bw : Int
 aY : Int
 aV : Int
 out : Int
 jt : Int
instance : Uns aZ := Uns.via (B := Int × Int × Int × Int × Int) (fun x => (x.bw, x.aY, x.aV, x.out, x.jt)) (fun x => match x with | (bw, aY, aV, out, jt) => ⟨bw, aY, aV, out, jt⟩) (fun _ => rfl)
def cW (a : aw) (p bal r : Int) : Int := zJ bal r a.basis (eZ a.year a.month 1 p) (eU a.year a.month 1 p) (gh a.year a.month 1 p) (eZ a.year a.month 1 (p + 1)) (eU a.year a.month 1 (p + 1)) (gh a.year a.month 1 (p + 1))
theorem qg {y m p : Int} (h1 : 1 <= y) (h2 : y <= 9000) (h3 : 1 <= m) (h4 : m <= 12) (h5 : 0 <= p) (h6 : p <= 700) : 1 <= eZ y m 1 p /\ eZ y m 1 p <= 9999 /\ 1 <= eU y m 1 p /\ eU y m 1 p <= 12 /\ gh y m 1 p = 1 /\ bT (eZ y m 1 p) (eU y m 1 p) (gh y m 1 p) = true /\ 12 * eZ y m 1 p + eU y m 1 p = 12 * y + m + p := by
 have l1 := lF (y := y) (m := m) h1 (by omega) h3 h4; have hs : fR y m 1 p = true := by
  unfold fR; rw [show bT y m 1 = true from cZ.2 ⟨by omega, by omega⟩]; simp only [zbh, zai]; omega
 unfold eZ eU gh; rw [hs, if_pos rfl, if_pos rfl, if_pos rfl]; have l2 := lF (y := (12 * y + m - 1 + p) / 12) (m := (12 * y + m - 1 + p) % 12 + 1) (by omega) (by omega) (by omega) (by omega); have hd : min 1 (cE ((12 * y + m - 1 + p) / 12) ((12 * y + m - 1 + p) % 12 + 1)) = 1 := by omega
 rw [hd]; exact ⟨by omega, by omega, by omega, by omega, rfl, cZ.2 ⟨by omega, by omega⟩, by omega⟩
theorem zv {b y m y' m' : Int} (h1 : 1 <= y) (h2 : y <= 9999) (h3 : 1 <= m) (h4 : m <= 12) (h5 : 12 * y' + m' = 12 * y + m + 1) (h6 : 1 <= m') (h7 : m' <= 12) (r1 : bT y m 1 = true) (r2 : bT y' m' 1 = true) : 0 <= ji b y m 1 y' m' 1 /\ ji b y m 1 y' m' 1 <= 731 := by
 have n1 := pn r1; have n2 := pn r2; have a1 := nK h1; have a2 := nK (y := y + 1) (by omega); have q1 := oi y; have q2 := oi (y + 1); unfold ji
 split
 . split
   . unfold com; rw [if_neg (by omega)]; omega
   . split
     . rename_i h _ _; have hy : y' = y \/ y' = y + 1 := by omega
       rcases hy with rfl | rfl <;> omega
     . omega
 . omega
theorem ES {n b : Int} (p : Int) (hp : p = 3600000 \/ p = 3650000) (h1 : 0 <= n) (h2 : n <= 1099511627776) (h3 : 0 <= b) (h4 : b <= 3655000) : 0 <= mdV n b p 2 /\ mdV n b p 2 <= 1200000000000 := by
 unfold mdV
 split
 . have hm := zbR h4 h1; have hz := za0 h1 h3; have e := zbc (n * b) p; have r0 := zbC (n * b) (show p ≠ 0 by omega); have d0 : 0 <= n * b / p := zbt hz (by omega); have d1 : n * b / p <= 1117000000000 := by
    have : n * b < 4018800800000000001 := by omega
    rcases hp with rfl | rfl <;> omega
   unfold mdQ
   split <;> omega
 . omega
theorem ot {a : aw} {p bal : Int} (r : Int) (h1 : 1 <= a.year) (h2 : a.year <= 9000) (h3 : 1 <= a.month) (h4 : a.month <= 12) (h5 : 0 <= p) (h6 : p <= 650) (b0 : 0 <= bal) (b1 : bal <= 1099511627776) : 0 <= cW a p bal r /\ cW a p bal r <= 1200000000000 := by
 obtain ⟨s1, s2, s3, s4, s5, s6, s7⟩ := qg h1 h2 h3 h4 h5 (by omega); obtain ⟨t1, t2, t3, t4, t5, t6, t7⟩ := qg h1 h2 h3 h4 (show 0 <= p + 1 by omega) (by omega); unfold cW zJ; rw [s5] at s6 ⊢; rw [t5] at t6 ⊢
 split
 . rename_i hr; have hd := zv (b := a.basis) s1 s2 s3 s4 (by omega) t3 t4 s6 t6; have k0 := za0 hr.1 hd.1; have k1 := Int.mul_le_mul hr.2 hd.2 hd.1 (show (0 : Int) <= 5000 by omega); exact ES _ (by unfold tu; split <;> omega) b0 b1 k0 (by omega)
 . omega
def dX (a : aw) (p : Int) (d : Dat) : Dat := yG (cW a p (bk d) (d.i 2)) d
theorem Eo {d : Dat} (h : aI d = true) : 0 <= bk d /\ bk d <= 1099511627776 := by
 have := ca h; unfold bk; omega
def N34 : aC := ⟨T84.tab, 34, ⟨[.ptr 0 0 0, .int .i64], cd 0, 0⟩, ⟨[.int .i64, .int .i64], cd 0, 0⟩, []⟩
abbrev Dp : Type := Int × Int × Int × Int × aw × az × ak × List Dat × List Dat × List Dat × List Dat × List Dat × List Dat × List Dat × Int × Int × Int × Int × Int × Int
def xJ (m : Nat) (k : Dp -> Option (List Un)) : Dp -> Option (List Un) := fun (a0, a1, a2, a3, a4, a5, a6, a7, a8, a9, a10, a11, a12, a13, a14, a15, a16, a17, a18, a19) =>
 bif decide (a3 < a2) then
 chk (inb a3 a13.length) <|
 chk (decide (a3.toNat < a13.length)) <|
 lt (ag a13 a3.toNat : Dat) fun d9 =>
 chk (decide (a3.toNat < a13.length)) <|
 lt ((zJ (w64 (w64 ((d9.i 1) - w64 ((d9.i 3) - (d9.i 4))) - (d9.i 6))) ((ag a13 a3.toNat).i 2) a4.basis a14 a15 a16 a17 a18 a19) : Int) fun x12 =>
 chk (decide (0 <= x12 /\ x12 <= 1125899906842624) && (decide (0 <= (a3.toNat : Int) /\ (a3.toNat : Int).toNat < a13.length) && aI (ag a13 (a3.toNat : Int).toNat))) <|
 k (a0, (w64 (a1 + x12)), a2, (w64 (a3 + 1)), a4, a5, a6, a7, a8, a9, a10, a11, a12, (a13.set (a3.toNat : Int).toNat (yG x12 (ag a13 (a3.toNat : Int).toNat))), a14, a15, a16, a17, a18, a19)
 else
 some ([.i a0, .i a1] ++ Uns.enc (a4 : aw) ++ Uns.enc (a5 : az) ++ Uns.enc (a6 : ak) ++ [.d a7, .d a8, .d a9, .d a10, .d a11, .d a12, .d a13])
def u6 (m : Nat) : Nat -> Dp -> Option (List Un) := bp (xJ m)
theorem uY (m : Nat) (n : Nat) : u6 m (n + 1) = xJ m (u6 m n) := rfl
def GG (F : Dp -> Option (List Un)) : aW := ⟨[.lp [0, 1, 0, 1, 1, 1, 1, 1], .blk 0, .code [1, 1, 1, 1, 1, 1]], ⟨frm 88 [(0, .ptr 0 0 0), (6, .ptr 9 0 0), (7, .ptr 10 0 0), (8, .int .i64), (10, .int .i64), (49, .int .i64), (50, .int .i64)], cd 0 ++ [.cells [.int .i64, .int .i64, .int .i64], .cells [.int .i64, .int .i64, .int .i64]], 0⟩, onU F⟩
theorem OU (m : Nat) : ∀ n, HO N34 (GG (u6 m n)) := au ah T84.right (fun k => [GG k]) (fun k h => (aL h aA)) fun k a => by kernel_rfl
def t34 (m : Nat) : Int × aw × az × ak × List Dat × List Dat × List Dat × List Dat × List Dat × List Dat × List Dat -> Option (List Un) := fun (a0, a1, a2, a3, a4, a5, a6, a7, a8, a9, a10) =>
 lt ((eZ a1.year a1.month 1 a3.period) : Int) fun x1 =>
 lt ((eU a1.year a1.month 1 a3.period) : Int) fun x2 =>
 lt ((gh a1.year a1.month 1 a3.period) : Int) fun x3 =>
 lt ((eZ a1.year a1.month 1 (w64 (a3.period + 1))) : Int) fun x4 =>
 lt ((eU a1.year a1.month 1 (w64 (a3.period + 1))) : Int) fun x5 =>
 lt ((gh a1.year a1.month 1 (w64 (a3.period + 1))) : Int) fun x6 =>
 lt ((zJ a0 a2.fee a1.basis x1 x2 x3 x4 x5 x6) : Int) fun x7 =>
 u6 m m (x7, 0, (a10.length : Int), 0, a1, a2, ({ a3 with fee := (w64 (a3.fee + x7)) } : ak), a4, a5, a6, a7, a8, a9, a10, x1, x2, x3, x4, x5, x6)
theorem Ka (m : Nat) (fe : Int) (xa : aw) (xb : az) (xn : ak) (x1 x2 x3 x4 x5 x6 : List Dat) (p : Int) (hf : ∀ d, aI d = true -> 0 <= cW xa p (bk d) (d.i 2) /\ cW xa p (bk d) (d.i 2) <= 1200000000000) : ∀ (rest pre : List Dat) (n : Nat) (s : Int), rest.length < n -> (pre ++ rest).length <= 1000 -> (∀ d ∈ rest, aI d = true) -> 0 <= s -> s <= 1200000000000 * pre.length ->
 u6 m n (fe, s, ((pre ++ rest).length : Int), (pre.length : Int), xa, xb, xn, x1, x2, x3, x4, x5, x6, pre ++ rest, eZ xa.year xa.month 1 p, eU xa.year xa.month 1 p, gh xa.year xa.month 1 p, eZ xa.year xa.month 1 (p + 1), eU xa.year xa.month 1 (p + 1), gh xa.year xa.month 1 (p + 1)) =
  some ([.i fe, .i (s + bt (fun d => cW xa p (bk d) (d.i 2)) rest)] ++ Uns.enc xa ++ Uns.enc xb ++ Uns.enc xn ++ [.d x1, .d x2, .d x3, .d x4, .d x5, .d x6, .d (pre ++ rest.map (dX xa p))]) := by
 intro rest
 induction rest with
 | nil =>
  intro pre n s hn hl hg s0 s1; obtain ⟨n, rfl⟩ := al n (by simp at hn; omega); rw [uY]; unfold xJ; dsimp only; simp [aF, bt]
 | cons x rest ih =>
  intro pre n s hn hl hg s0 s1; obtain ⟨n, rfl⟩ := al n (by simp at hn; omega); simp only [zac, zad] at hn hl; have hx := ca (hg x (by simp)); have hb := hf x (hg x (by simp)); have hgx := hg x (by simp); have := ih (pre ++ [dX xa p x]) n (s + cW xa p (bk x) (x.i 2)) (by omega) (by simp; omega) (fun d hd => hg d (by simp [hd])) (by omega) (by simp; omega); have e : w64 (w64 (x.i 1 - w64 (x.i 3 - x.i 4)) - x.i 6) = bk x := by rw [aa (n := x.i 3 - x.i 4) (by omega) (by omega), aa (n := x.i 1 - _) (by omega) (by omega), aa (by omega) (by omega)]; rfl
  have e2 : ∀ z, zJ z (x.i 2) xa.basis (eZ xa.year xa.month 1 p) (eU xa.year xa.month 1 p) (gh xa.year xa.month 1 p) (eZ xa.year xa.month 1 (p + 1)) (eU xa.year xa.month 1 (p + 1)) (gh xa.year xa.month 1 (p + 1)) = cW xa p z (x.i 2) := fun z => rfl
  rw [uY]; unfold xJ; dsimp only; simp only [bt, zaN, LNi, ax, lt_eq, e, e2, hgx, zbb, DE]; rw [show yG (cW xa p (bk x) (x.i 2)) x = dX xa p x from rfl]; simp (disch := omega) only [TRa, TRi, aa, LNl, LNi, zaa, ax]; simp only [LNl, LNi, zaa] at this ⊢; exact this
def f34 : Int × aw × az × ak × List Dat × List Dat × List Dat × List Dat × List Dat × List Dat × List Dat -> Bool × List Un := fun (a0, a1, a2, a3, a4, a5, a6, a7, a8, a9, a10) => (decide ((1 <= a1.year /\ a1.year <= 9000 /\ 1 <= a1.month /\ a1.month <= 12) /\ (0 <= a3.period /\ a3.period <= 600) /\ (0 <= a3.fee /\ a3.fee <= 1125899906842624) /\ (0 <= a0 /\ a0 <= 1099511627776)) && (decide (a10.length <= 1000) && a10.all aI), [.i (cW a1 a3.period a0 a2.fee), .i (bt (fun d => cW a1 a3.period (bk d) (d.i 2)) a10)] ++ Uns.enc ((a1) : aw) ++ Uns.enc ((a2) : az) ++ Uns.enc (({ a3 with fee := a3.fee + cW a1 a3.period a0 a2.fee }) : ak) ++ [.d (a4), .d (a5), .d (a6), .d (a7), .d (a8), .d (a9), .d (a10.map (dX a1 a3.period))])
theorem Nw (a0 : Int) (a1 : aw) (a2 : az) (a3 : ak) (a4 : List Dat) (a5 : List Dat) (a6 : List Dat) (a7 : List Dat) (a8 : List Dat) (a9 : List Dat) (a10 : List Dat) (hc : (decide ((1 <= a1.year /\ a1.year <= 9000 /\ 1 <= a1.month /\ a1.month <= 12) /\ (0 <= a3.period /\ a3.period <= 600) /\ (0 <= a3.fee /\ a3.fee <= 1125899906842624) /\ (0 <= a0 /\ a0 <= 1099511627776)) && (decide (a10.length <= 1000) && a10.all aI)) = true) : ∃ m, t34 m (a0, a1, a2, a3, a4, a5, a6, a7, a8, a9, a10) = some ([.i (cW a1 a3.period a0 a2.fee), .i (bt (fun d => cW a1 a3.period (bk d) (d.i 2)) a10)] ++ Uns.enc ((a1) : aw) ++ Uns.enc ((a2) : az) ++ Uns.enc (({ a3 with fee := a3.fee + cW a1 a3.period a0 a2.fee }) : ak) ++ [.d (a4), .d (a5), .d (a6), .d (a7), .d (a8), .d (a9), .d (a10.map (dX a1 a3.period))]) := by
 simp only [zab, zai, zan] at hc; obtain ⟨⟨⟨h1, h2, h3, h4⟩, ⟨h5, h6⟩, ⟨h7, h8⟩, h9, h10⟩, h11, h12⟩ := hc; have hs := ot a2.fee h1 h2 h3 h4 h5 (show a3.period <= 650 by omega) h9 h10; have hf : ∀ d, aI d = true -> 0 <= cW a1 a3.period (bk d) (d.i 2) /\ cW a1 a3.period (bk d) (d.i 2) <= 1200000000000 := fun d hd => ot _ h1 h2 h3 h4 h5 (by omega) (Eo hd).1 (Eo hd).2
 refine ⟨a10.length + 1, ?_⟩; unfold t34; dsimp only [lt]; rw [aa (n := a3.period + 1) (by omega) (by omega)]; refine (show u6 _ _ (cW a1 a3.period a0 a2.fee, 0, (a10.length : Int), 0, a1, a2, { a3 with fee := w64 (a3.fee + cW a1 a3.period a0 a2.fee) }, a4, a5, a6, a7, a8, a9, a10, _, _, _, _, _, _) = _ from ?_); rw [aa (n := a3.fee + _) (by omega) (by omega)]; exact (Ka _ _ a1 a2 _ a4 a5 a6 a7 a8 a9 a3.period hf a10 [] (a10.length + 1) 0 (by omega) (by simpa using h11) h12 (by omega) (by simp)).trans (by simp only [za2, zaV])
theorem JH : ER 34 (mkE N34.en N34.ex f34) := an ah T84.right (fun m => [GG (u6 m m)]) (t := t34) (by kernel_rfl) (fun m => (aL (OU m m) aA)) (fun m a => by kernel_rfl) fun (a0, a1, a2, a3, a4, a5, a6, a7, a8, a9, a10) hc => Nw a0 a1 a2 a3 a4 a5 a6 a7 a8 a9 a10 hc
def T34 : Tb Tryz.prog LQ TE XX := T84.add 34 _ JH
def AN (x : Int) (d : Dat) : Int := max (min x (d.i 5)) 0
def mM (x : Int) (d : Dat) : Dat := .r [.n (d.i 0), .n (d.i 1), .n (d.i 2), .n (d.i 3), .n (d.i 4), .n (d.i 5 - AN x d), .n (d.i 6)]
def iK (n : ak) (p : Dat) : ak := if p.i 1 = 1 then { n with fee := n.fee - p.i 3 } else if p.i 1 = 2 then { n with out := n.out - p.i 3 } else if p.i 1 = 6 then { n with rin := n.rin + p.i 3 } else n
def jS (c : List Dat) (p : Dat) : List Dat := if p.i 1 = 1 then c else if p.i 1 = 2 then c else if p.i 1 = 6 then c else if p.i 1 = 3 then c.set (p.i 2).toNat (mM (p.i 3) (ag c (p.i 2).toNat)) else c.set (p.i 2).toNat (rm (p.i 3) (ag c (p.i 2).toNat))
def cT : List Dat -> ak -> List Dat -> ak × List Dat
 | [], n, c => (n, c)
 | p :: l, n, c => cT l (iK n p) (jS c p)
def EB (k : Nat) (p : Dat) : Bool := decide (0 <= p.i 3) && (decide (p.i 1 = 1 \/ p.i 1 = 2 \/ p.i 1 = 6) || decide (0 <= p.i 2 /\ p.i 2 < (k : Int)))
theorem rF {k : Nat} {p : Dat} (h : EB k p = true) : 0 <= p.i 3 /\ ((p.i 1 = 1 \/ p.i 1 = 2 \/ p.i 1 = 6) \/ (0 <= p.i 2 /\ p.i 2 < (k : Int))) := by
 simp only [EB, zab, zbg, zai] at h; exact h
def wo (l : List Dat) (n : ak) (c : List Dat) : Bool := decide (l.length <= 1000000) && (l.all (EB c.length) && (decide (ao 3 l <= 144115188075855872 /\ (0 <= n.fee /\ n.fee <= 144115188075855872) /\ (0 <= n.out /\ n.out <= 144115188075855872) /\ (0 <= n.rin /\ n.rin <= 144115188075855872)) && (decide (c.length <= 1000) && c.all aI)))
theorem wi (c : List Dat) (p : Dat) : (jS c p).length = c.length := by
 unfold jS; repeat' split
 all_goals simp
theorem xK {d : Dat} (x : Int) (h : aI d = true) : aI (mM x d) = true := by
 have := ca h; refine zah ?_
 simp only [mM, AN, eA, eV, tY, nu, nL]; omega
theorem BC {c : List Dat} {p : Dat} (hp : EB c.length p = true) (h : dD c) : dD (jS c p) := by
 have hp := rF hp; unfold jS
 by_cases h1 : p.i 1 = 1
 . rw [if_pos h1]; exact h
 rw [if_neg h1]
 by_cases h2 : p.i 1 = 2
 . rw [if_pos h2]; exact h
 rw [if_neg h2]
 by_cases h3 : p.i 1 = 6
 . rw [if_pos h3]; exact h
 rw [if_neg h3]; have hj : (p.i 2).toNat < c.length := by omega
 split
 . exact mX h (xK _ (cq hj h.2))
 . exact mX h (E4 _ (cq hj h.2))
def N41 : aC := ⟨T34.tab, 41, ⟨[.np 0 0 0, .ai (sI 4)], cd 0, 0⟩, ⟨[], cd 0, 0⟩, []⟩
abbrev CY : Type := Int × List Dat × Int × Int × aw × az × ak × List Dat × List Dat × List Dat × List Dat × List Dat × List Dat × List Dat
def yz (m : Nat) (k : CY -> Option (List Un)) : CY -> Option (List Un) := fun (a0, a1, a2, a3, a4, a5, a6, a7, a8, a9, a10, a11, a12, a13) =>
 bif decide (a3 < a2) then
 chk (inb a3 a1.length) <|
 chk (decide (a3.toNat < a1.length)) <|
 lt (ag a1 a3.toNat : Dat) fun d1 =>
 bif (d1.i 1) == 1 then
 chk (decide (0 <= a0)) <|
 chk (decide (0 <= a0)) <|
 k (a0, a1, a2, (w64 (a3 + 1)), a4, a5, ({ a6 with fee := (w64 (a6.fee - (d1.i 3))) } : ak), a7, a8, a9, a10, a11, a12, a13)
 else
 bif (d1.i 1) == 2 then
 chk (decide (0 <= a0)) <|
 chk (decide (0 <= a0)) <|
 k (a0, a1, a2, (w64 (a3 + 1)), a4, a5, ({ a6 with out := (w64 (a6.out - (d1.i 3))) } : ak), a7, a8, a9, a10, a11, a12, a13)
 else
 bif (d1.i 1) == 6 then
 chk (decide (0 <= a0)) <|
 chk (decide (0 <= 0) && decide ((0 : Int) <= a6.rin /\ (0 : Int) <= (d1.i 3) /\ a6.rin + (d1.i 3) <= (1152921504606846976 : Int))) <|
 k (a0, a1, a2, (w64 (a3 + 1)), a4, a5, ({ a6 with rin := a6.rin + (d1.i 3) }), a7, a8, a9, a10, a11, a12, a13)
 else
 bif (d1.i 1) == 3 then
 chk (decide (0 <= a0)) <|
 chk (inb (d1.i 2) a13.length) <|
 chk (decide ((d1.i 2).toNat < a13.length)) <|
 lt (ag a13 ((d1.i 2).toNat) : Dat) fun d5 =>
 lt ((if (d5.i 5) < (d1.i 3) then (d5.i 5) else (d1.i 3)) : Int) fun x6 =>
 chk (decide ((d1.i 2).toNat < a13.length)) <|
 chk (decide ((d1.i 2).toNat < a13.length)) <|
 lt (ag a13 ((d1.i 2).toNat) : Dat) fun d9 =>
 k (a0, a1, a2, (w64 (a3 + 1)), a4, a5, a6, a7, a8, a9, a10, a11, a12, (List.set a13 ((d1.i 2).toNat) (.r [.n (d9.i 0), .n (d9.i 1), .n (d9.i 2), .n (d9.i 3), .n (d9.i 4), .n (w64 (((ag a13 ((d1.i 2).toNat)).i 5) - (if x6 < 0 then 0 else x6))), .n (d9.i 6)])))
 else
 chk (decide (0 <= a0)) <|
 chk (inb (d1.i 2) a13.length) <|
 chk (decide (0 <= ((d1.i 2).toNat : Int) /\ ((d1.i 2).toNat : Int).toNat < a13.length) && aI (ag a13 ((d1.i 2).toNat : Int).toNat)) <|
 k (a0, a1, a2, (w64 (a3 + 1)), a4, a5, a6, a7, a8, a9, a10, a11, a12, (a13.set ((d1.i 2).toNat : Int).toNat (rm (d1.i 3) (ag a13 ((d1.i 2).toNat : Int).toNat))))
 else
 some (Uns.enc (a4 : aw) ++ Uns.enc (a5 : az) ++ Uns.enc (a6 : ak) ++ [.d a7, .d a8, .d a9, .d a10, .d a11, .d a12, .d a13])
def vL (m : Nat) : Nat -> CY -> Option (List Un) := bp (yz m)
theorem uU (m : Nat) (n : Nat) : vL m (n + 1) = yz m (vL m n) := rfl
def HF (F : CY -> Option (List Un)) : aW := ⟨[.lp [0, 1], .blk 0], ⟨frm 67 [(0, .np 0 0 0), (6, .ai (sI 4)), (7, .int .i64), (8, .int .i64)], cd 0, 0⟩, onU F⟩
theorem P7 (m : Nat) : ∀ n, HO N41 (HF (vL m n)) := au ah T34.right (fun k => [HF k]) (fun k h => (aL h aA)) fun k a => by kernel_rfl
def t41 (m : Nat) : Int × List Dat × aw × az × ak × List Dat × List Dat × List Dat × List Dat × List Dat × List Dat × List Dat -> Option (List Un) := fun (a0, a1, a2, a3, a4, a5, a6, a7, a8, a9, a10, a11) =>
 vL m m (a0, a1, (a1.length : Int), 0, a2, a3, a4, a5, a6, a7, a8, a9, a10, a11)
theorem L5 (m : Nat) (p0 : Int) (hp0 : 0 <= p0) (xa : aw) (xb : az) (x1 x2 x3 x4 x5 x6 : List Dat) : ∀ (rest pre : List Dat) (n : Nat) (y : ak) (c : List Dat), rest.length < n -> (pre ++ rest).length <= 1000000 -> (∀ d ∈ rest, EB c.length d = true) -> dD c ->
 (-288230376151711744 <= y.fee - ao 3 rest /\ y.fee <= 288230376151711744) -> (-288230376151711744 <= y.out - ao 3 rest /\ y.out <= 288230376151711744) -> (0 <= y.rin /\ y.rin + ao 3 rest <= 576460752303423488) ->
 vL m n (p0, pre ++ rest, ((pre ++ rest).length : Int), (pre.length : Int), xa, xb, y, x1, x2, x3, x4, x5, x6, c) = some (Uns.enc xa ++ Uns.enc xb ++ Uns.enc (cT rest y c).1 ++ [.d x1, .d x2, .d x3, .d x4, .d x5, .d x6, .d (cT rest y c).2]) := by
 intro rest
 induction rest with
 | nil =>
  intro pre n y c hn hl hp hg f1 f2 f3; obtain ⟨n, rfl⟩ := al n (by simp at hn; omega); rw [uU]; unfold yz; dsimp only; simp [aF, cT]
 | cons x rest ih =>
  intro pre n y c hn hl hp hg f1 f2 f3; obtain ⟨n, rfl⟩ := al n (by simp at hn; omega); simp only [zac, zad] at hn hl; have hx := rF (hp x (by simp)); have hr := fun d hd => hp d (zaP _ hd)
  have hs := fI 3 rest fun d hd => (rF (hr d hd)).1
  have hT := BC (hp x (by simp)) hg; have hN : (-288230376151711744 <= (iK y x).fee - ao 3 rest /\ (iK y x).fee <= 288230376151711744) /\ (-288230376151711744 <= (iK y x).out - ao 3 rest /\ (iK y x).out <= 288230376151711744) /\ (0 <= (iK y x).rin /\ (iK y x).rin + ao 3 rest <= 576460752303423488) := by
   simp only [ao] at f1 f2 f3; unfold iK
   by_cases h1 : x.i 1 = 1
   . rw [if_pos h1]; simp only; omega
   rw [if_neg h1]
   by_cases h2 : x.i 1 = 2
   . rw [if_pos h2]; simp only; omega
   rw [if_neg h2]
   by_cases h3 : x.i 1 = 6
   . rw [if_pos h3]; simp only; omega
   rw [if_neg h3]; omega
  have := ih (pre ++ [x]) n (iK y x) (jS c x) (by omega) (by simp; omega) (by rw [wi]; exact hr) hT hN.1 hN.2.1 hN.2.2; simp only [ao] at f1 f2 f3; simp only [cT]; rw [uU]; unfold yz; dsimp only; unfold iK jS at this ⊢
  by_cases h1 : x.i 1 = 1
  . simp only [if_pos h1] at this ⊢; simp (disch := omega) only [TRa, TRi, aa, LNl, LNi, zaa, ax]; simp only [LNl, LNi, zaa] at this ⊢; exact this
  simp only [if_neg h1] at this ⊢
  by_cases h2 : x.i 1 = 2
  . simp only [if_pos h2] at this ⊢; simp (disch := omega) only [TRa, TRi, aa, LNl, LNi, zaa, ax]; simp only [LNl, LNi, zaa] at this ⊢; exact this
  simp only [if_neg h2] at this ⊢
  by_cases h6 : x.i 1 = 6
  . simp only [if_pos h6] at this ⊢; simp only [show decide ((0 : Nat) <= 0) = true from rfl, zbh]; simp (disch := omega) only [TRa, TRi, aa, LNl, LNi, zaa, ax]; simp only [LNl, LNi, zaa] at this ⊢; exact this
  simp only [if_neg h6] at this ⊢; have hj : (x.i 2).toNat < c.length := by omega
  have hd := ca (cq hj hg.2); have hd2 := cq hj hg.2; have hjn : (((x.i 2).toNat : Int)).toNat = (x.i 2).toNat := zaF _
  by_cases h3 : x.i 1 = 3
  . simp only [if_pos h3] at this ⊢; have e : (if (if (ag c (x.i 2).toNat).i 5 < x.i 3 then (ag c (x.i 2).toNat).i 5 else x.i 3) < 0 then 0 else (if (ag c (x.i 2).toNat).i 5 < x.i 3 then (ag c (x.i 2).toNat).i 5 else x.i 3)) = AN (x.i 3) (ag c (x.i 2).toNat) := by unfold AN; omega
    have hv : 0 <= AN (x.i 3) (ag c (x.i 2).toNat) /\ AN (x.i 3) (ag c (x.i 2).toNat) <= (ag c (x.i 2).toNat).i 5 := by unfold AN; omega
    simp (disch := omega) only [lt_eq, dV, aO, bJ, gV, gg, LNl, LNi, zaa, ax, e]; rw [aa (n := (ag c (x.i 2).toNat).i 5 - _) (by omega) (by omega), aa (by omega) (by omega)]; unfold mM at this; simp only [LNl, LNi, zaa] at this ⊢; exact this
  . simp only [if_neg h3] at this ⊢; simp (disch := omega) only [lt_eq, dV, aO, bJ, gV, gg, LNl, LNi, zaa, ax, hd2, zbb]; rw [aa (by omega) (by omega)]; simp only [LNl, LNi, zaa] at this ⊢; exact this
def f41 : Int × List Dat × aw × az × ak × List Dat × List Dat × List Dat × List Dat × List Dat × List Dat × List Dat -> Bool × List Un := fun (a0, a1, a2, a3, a4, a5, a6, a7, a8, a9, a10, a11) => (decide (0 <= a0) && wo a1 a4 a11, Uns.enc ((a2) : aw) ++ Uns.enc ((a3) : az) ++ Uns.enc (((cT a1 a4 a11).1) : ak) ++ [.d (a5), .d (a6), .d (a7), .d (a8), .d (a9), .d (a10), .d ((cT a1 a4 a11).2)])
theorem Nj (a0 : Int) (a1 : List Dat) (a2 : aw) (a3 : az) (a4 : ak) (a5 : List Dat) (a6 : List Dat) (a7 : List Dat) (a8 : List Dat) (a9 : List Dat) (a10 : List Dat) (a11 : List Dat) (hc : (decide (0 <= a0) && wo a1 a4 a11) = true) : ∃ m, t41 m (a0, a1, a2, a3, a4, a5, a6, a7, a8, a9, a10, a11) = some (Uns.enc ((a2) : aw) ++ Uns.enc ((a3) : az) ++ Uns.enc (((cT a1 a4 a11).1) : ak) ++ [.d (a5), .d (a6), .d (a7), .d (a8), .d (a9), .d (a10), .d ((cT a1 a4 a11).2)]) := by
 simp only [wo, zab, zai, zan] at hc; obtain ⟨h0, h1, h2, ⟨h3, h4, h5, h6⟩, h7, h8⟩ := hc; have hs := fI 3 a1 fun d hd => (rF (h2 d hd)).1
 refine ⟨a1.length + 1, ?_⟩; exact L5 _ a0 h0 a2 a3 a5 a6 a7 a8 a9 a10 a1 [] (a1.length + 1) a4 a11 (by omega) (by simpa using h1) h2 ⟨h7, h8⟩ (by omega) (by omega) (by omega)
theorem Kf : ER 41 (mkE N41.en N41.ex f41) := an ah T34.right (fun m => [HF (vL m m)]) (t := t41) (by kernel_rfl) (fun m => (aL (P7 m m) aA)) (fun m a => by kernel_rfl) fun (a0, a1, a2, a3, a4, a5, a6, a7, a8, a9, a10, a11) hc => Nj a0 a1 a2 a3 a4 a5 a6 a7 a8 a9 a10 a11 hc
def T41 : Tb Tryz.prog LQ TE XX := T34.add 41 _ Kf
def tG (parts aY has : Int) : Int := max (mdV aY parts 10000 0 - has) 0
def eJ (d : Dat) : Dat := .r [.n (d.i 0), .n (bk d), .n (d.i 5)]
theorem Lz (n b p h : Int) : 0 <= mdV n b p h /\ mdV n b p h <= 1152921504606846976 := by
 unfold mdV
 split
 . rename_i hk; simp only [nH, zai] at hk; have : 0 <= n * b / p := zbt (za0 hk.1 (by omega)) (by omega); refine ⟨?_, by omega⟩; unfold mdQ
   split <;> omega
 . omega
theorem y6 {l : List Dat} (h1 : l.length <= 1000) (h2 : ∀ d ∈ l, cU d = true) : 0 <= ao 1 l /\ ao 1 l <= 1099511627776000 := by
 have := yX 1 1099511627776 l fun d hd => oh (h2 d hd)
 omega
def N39 : aC := ⟨T41.tab, 39, ⟨[.ptr 0 0 0, .agg [.int .i64, .int .i64, .int .i64, .int .i64]], cd 0, 9⟩, ⟨[.agg [.int .i64, .int .i64, .int .i64, .int .i64, .buf 9 3]], cd 0 ++ [.ai (sI 3)], 9⟩, []⟩
abbrev DR : Type := Int × Int × aw × az × ak × List Dat × List Dat × List Dat × List Dat × List Dat × List Dat × List Dat × Int × Int × Int × Int × Int × Int × Int × Int × List Dat × List Dat
def xM (m : Nat) (k : DR -> Option (List Un)) : DR -> Option (List Un) := fun (a0, a1, a2, a3, a4, a5, a6, a7, a8, a9, a10, a11, a12, a13, a14, a15, a16, a17, a18, a19, a20, a21) =>
 bif decide (a1 < a0) then
 chk (inb a1 a11.length) <|
 chk (decide (a1.toNat < a11.length)) <|
 lt (ag a11 a1.toNat : Dat) fun d8 =>
 chk (fits (a21.length + 1) 24) <|
 k (a0, (w64 (a1 + 1)), a2, a3, a4, a5, a6, a7, a8, a9, a10, a11, a12, a13, a14, a15, a16, a17, a18, a19, a20, (a21 ++ ([.r [.n (d8.i 0), .n (w64 (w64 ((d8.i 1) - w64 ((d8.i 3) - (d8.i 4))) - (d8.i 6))), .n (d8.i 5)]])))
 else
 some ([.i a16, .i a17, .i a18, .i a19] ++ Uns.enc (a2 : aw) ++ Uns.enc (a3 : az) ++ Uns.enc (a4 : ak) ++ [.d a5, .d a6, .d a7, .d a8, .d a9, .d a10, .d a11, .d a21])
def tA (m : Nat) : Nat -> DR -> Option (List Un) := bp (xM m)
theorem uV (m : Nat) (n : Nat) : tA m (n + 1) = xM m (tA m n) := rfl
def GJ (F : DR -> Option (List Un)) : aW := ⟨[.lp [0, 1, 0, 1, 1, 1], .blk 0, .code [1, 1, 1, 1]], ⟨frm 78 [(4, .ptr 9 0 0), (9, .ptr 10 0 0), (57, .buf 8 7), (58, .int .i64), (59, .int .i64)], cd 0 ++ [.cells [.int .i64, .int .i64, .int .i64, .int .i64, .buf 11 3], .cells [.int .i64, .int .i64, .int .i64, .int .i64, .buf 12 3], .ai (sI 3), .ai (sI 3)], 9⟩, onU F⟩
theorem PX (m : Nat) : ∀ n, HO N39 (GJ (tA m n)) := au ah T41.right (fun k => [GJ k]) (fun k h => (aL h aA)) fun k a => by kernel_rfl
def t39 (m : Nat) : Int × Int × Int × Int × aw × az × ak × List Dat × List Dat × List Dat × List Dat × List Dat × List Dat × List Dat -> Option (List Un) := fun (a0, a1, a2, a3, a4, a5, a6, a7, a8, a9, a10, a11, a12, a13) =>
 chk (decide (0 <= 0) && (decide (a13.length <= 1000) && a13.all aI)) <|
 lt ((w64 ((w64 (a0 + a3)) + a2)) : Int) fun x1 =>
 chk (decide (0 < ([.r [.r a12]] : List Dat).length) && (decide (((ag ([.r [.r a12]] : List Dat) 0).d 0).length <= 1000) && ((ag ([.r [.r a12]] : List Dat) 0).d 0).all cU)) <|
 lt ((w64 (a6.rin - a6.bl)) : Int) fun x4 =>
 lt ((mdV (ao 1 ((ag ([.r [.r a12]] : List Dat) 0).d 0)) a5.target 10000 0) : Int) fun x5 =>
 tA m m ((a13.length : Int), 0, a4, a5, a6, a7, a8, a9, a10, a11, a12, a13, 0, 0, 0, 0, a6.fee, a6.out, (if (bt bk a13) < x1 then (bt bk a13) else x1), (if (w64 (x5 - x4)) < 0 then 0 else (w64 (x5 - x4))), [], [])
theorem PA (m : Nat) (xa : aw) (xb : az) (xn : ak) (x1 x2 x3 x4 x5 x6 z0 : List Dat) (z1 z2 z3 z4 w1 w2 w3 w4 : Int) : ∀ (rest pre : List Dat) (n : Nat), rest.length < n -> (pre ++ rest).length <= 1000 -> (∀ d ∈ rest, aI d = true) ->
 tA m n (((pre ++ rest).length : Int), (pre.length : Int), xa, xb, xn, x1, x2, x3, x4, x5, x6, pre ++ rest, z1, z2, z3, z4, w1, w2, w3, w4, z0, pre.map eJ) =
  some ([.i w1, .i w2, .i w3, .i w4] ++ Uns.enc xa ++ Uns.enc xb ++ Uns.enc xn ++ [.d x1, .d x2, .d x3, .d x4, .d x5, .d x6, .d (pre ++ rest), .d ((pre ++ rest).map eJ)]) := by
 intro rest
 induction rest with
 | nil =>
  intro pre n hn hl hg; obtain ⟨n, rfl⟩ := al n (by simp at hn; omega); rw [uV]; unfold xM; dsimp only; simp [aF]
 | cons x rest ih =>
  intro pre n hn hl hg; obtain ⟨n, rfl⟩ := al n (by simp at hn; omega); simp only [zac, zad] at hn hl; have e := Js (hg x (by simp)); have := ih (pre ++ [x]) n (by omega) (by simp; omega) (fun d hd => hg d (by simp [hd])); rw [List.map_append, show [x].map eJ = [.r [.n (x.i 0), .n (bk x), .n (x.i 5)]] from rfl] at this; rw [uV]; unfold xM; dsimp only; simp only [LNi, ax, lt_eq, e]; simp (disch := omega) only [TRa, TRi, aa, LNl, LNi, zaa, ax]; simp only [LNl, LNi, zaa] at this ⊢; exact this
def f39 : Int × Int × Int × Int × aw × az × ak × List Dat × List Dat × List Dat × List Dat × List Dat × List Dat × List Dat -> Bool × List Un := fun (a0, a1, a2, a3, a4, a5, a6, a7, a8, a9, a10, a11, a12, a13) => (decide (((0 <= a0 /\ a0 <= 1125899906842624) /\ (0 <= a2 /\ a2 <= 1125899906842624) /\ (0 <= a3 /\ a3 <= 1125899906842624)) /\ (0 <= a6.bl /\ a6.bl <= a6.rin /\ a6.rin <= 1152921504606846976)) && ((decide (a12.length <= 1000) && a12.all cU) && (decide (a13.length <= 1000) && a13.all aI)), [.i (a6.fee), .i (a6.out), .i (min (a0 + a3 + a2) (bt bk a13)), .i (tG a5.target (ao 1 a12) (a6.rin - a6.bl))] ++ Uns.enc ((a4) : aw) ++ Uns.enc ((a5) : az) ++ Uns.enc ((a6) : ak) ++ [.d (a7), .d (a8), .d (a9), .d (a10), .d (a11), .d (a12), .d (a13), .d (a13.map eJ)])
theorem Ma (a0 : Int) (a1 : Int) (a2 : Int) (a3 : Int) (a4 : aw) (a5 : az) (a6 : ak) (a7 : List Dat) (a8 : List Dat) (a9 : List Dat) (a10 : List Dat) (a11 : List Dat) (a12 : List Dat) (a13 : List Dat) (hc : (decide (((0 <= a0 /\ a0 <= 1125899906842624) /\ (0 <= a2 /\ a2 <= 1125899906842624) /\ (0 <= a3 /\ a3 <= 1125899906842624)) /\ (0 <= a6.bl /\ a6.bl <= a6.rin /\ a6.rin <= 1152921504606846976)) && ((decide (a12.length <= 1000) && a12.all cU) && (decide (a13.length <= 1000) && a13.all aI))) = true) : ∃ m, t39 m (a0, a1, a2, a3, a4, a5, a6, a7, a8, a9, a10, a11, a12, a13) = some ([.i (a6.fee), .i (a6.out), .i (min (a0 + a3 + a2) (bt bk a13)), .i (tG a5.target (ao 1 a12) (a6.rin - a6.bl))] ++ Uns.enc ((a4) : aw) ++ Uns.enc ((a5) : az) ++ Uns.enc ((a6) : ak) ++ [.d (a7), .d (a8), .d (a9), .d (a10), .d (a11), .d (a12), .d (a13), .d (a13.map eJ)]) := by
 simp only [zab, zai, zan] at hc; obtain ⟨⟨⟨h1, h2, h3⟩, h4, h5, h6⟩, ⟨h7, h8⟩, h9, h10⟩ := hc; have hg : dD a13 := ⟨h9, h10⟩
 have hb := y6 h7 h8; have hs := (gT a13 h10).1; have hm := Lz (ao 1 a12) a5.target 10000 0; have hlb : (decide (a12.length <= 1000) && a12.all cU) = true := by rw [zab, zan]; exact ⟨zah h7, h8⟩
 refine ⟨a13.length + 1, ?_⟩; unfold t39 tG; dsimp only [lt]; refine ba (by rw [eD hg]; rfl) ?_
 refine ba (zaq.2 ⟨rfl, hlb⟩) ?_
 change tA _ _ (_, _, _, _, _, _, _, _, _, _, _, _, _, _, _, _, _, _, (if bt bk a13 < w64 (w64 (a0 + a3) + a2) then bt bk a13 else w64 (w64 (a0 + a3) + a2)), (if w64 (mdV (ao 1 a12) a5.target 10000 0 - w64 (a6.rin - a6.bl)) < 0 then 0 else w64 (mdV (ao 1 a12) a5.target 10000 0 - w64 (a6.rin - a6.bl))), _, _) = _; rw [aa (n := a0 + a3) (by omega) (by omega), aa (n := a0 + a3 + a2) (by omega) (by omega), aa (n := a6.rin - a6.bl) (by omega) (by omega), aa (n := mdV _ _ _ _ - _) (by omega) (by omega)]; rw [show (if bt bk a13 < a0 + a3 + a2 then bt bk a13 else a0 + a3 + a2) = min (a0 + a3 + a2) (bt bk a13) by omega, show ∀ z : Int, (if z < 0 then 0 else z) = max z 0 from fun z => by omega]; exact PA _ a4 a5 a6 a7 a8 a9 a10 a11 a12 _ _ _ _ _ _ _ _ _ a13 [] (a13.length + 1) (by omega) (by simpa using h9) h10
theorem IU : ER 39 (mkE N39.en N39.ex f39) := an ah T41.right (fun m => [GJ (tA m m)]) (t := t39) (by kernel_rfl) (fun m => (aL (PX m m) aA)) (fun m a => by kernel_rfl) fun (a0, a1, a2, a3, a4, a5, a6, a7, a8, a9, a10, a11, a12, a13) hc => Ma a0 a1 a2 a3 a4 a5 a6 a7 a8 a9 a10 a11 a12 a13 hc
def T39 : Tb Tryz.prog LQ TE XX := T41.add 39 _ IU
theorem vi : ∀ (k : Nat) (n : Int), bZ n k ++ [n + k] = bZ n (k + 1)
 | 0, n => by simp [bZ]
 | k + 1, n => by
  have := vi k (n + 1); simp only [bZ, zaX, zaA, zaa] at this ⊢; rw [<- this, show n + 1 + (k : Int) = n + ((k : Int) + 1) by omega]
theorem tn (u p l r : Int) : 0 <= cG u p l r /\ cG u p l r <= max u 0 /\ cG u p l r <= max (u - p) 0 /\ cG u p l r <= max (l - r) 0 := by unfold cG; omega
def N42 : aC := ⟨T39.tab, 42, ⟨[.ptr 0 0 0, .agg [.int .i64, .int .i64, .int .i64, .int .i64]], cd 0, 0⟩, ⟨[], cd 0, 0⟩, []⟩
abbrev Da : Type := Int × Int × Int × aw × az × ak × List Dat × List Dat × List Dat × List Dat × List Dat × List Dat × List Dat × List Int
def zp (m : Nat) (k : Da -> Option (List Un)) : Da -> Option (List Un) := fun (a0, a1, a2, a3, a4, a5, a6, a7, a8, a9, a10, a11, a12, a13) =>
 bif decide (a2 < a1) then
 chk (inb a2 a12.length) <|
 chk (fits (a13.length + ([(a2.toNat : Int)]).length) 8) <|
 k (a0, a1, (w64 (a2 + 1)), a3, a4, a5, a6, a7, a8, a9, a10, a11, a12, (a13 ++ ([(a2.toNat : Int)])))
 else
 chk (decide (0 < ([.r [.r a11]] : List Dat).length) && (decide (((ag ([.r [.r a11]] : List Dat) 0).d 0).length <= 1000) && ((ag ([.r [.r a11]] : List Dat) 0).d 0).all cU)) <|
 lt ((ao 1 ((ag ([.r [.r a11]] : List Dat) 0).d 0)) : Int) fun x1 =>
 chk (decide ((-1152921504606846976 <= a0 /\ a0 <= 1152921504606846976) /\ (-1152921504606846976 <= x1 /\ x1 <= 1152921504606846976) /\ (-1152921504606846976 <= a5.aD /\ a5.aD <= 1152921504606846976) /\ (-1152921504606846976 <= a5.aK /\ a5.aK <= 1152921504606846976))) <|
 chk (decide ((cG a0 x1 a5.aD a5.aK) <= 1152921504606846976) && ((decide (a13 = bZ 0 a12.length)) && (decide (a12.length <= 1000) && a12.all aI))) <|
 some (Uns.enc (a3 : aw) ++ Uns.enc (a4 : az) ++ Uns.enc (a5 : ak) ++ [.d a6, .d a7, .d a8, .d a9, .d a10, .d a11, .d (fj (cG a0 x1 a5.aD a5.aK) a12)])
def vH (m : Nat) : Nat -> Da -> Option (List Un) := bp (zp m)
theorem ub (m : Nat) (n : Nat) : vH m (n + 1) = zp m (vH m n) := rfl
def G6 (F : Da -> Option (List Un)) : aW := ⟨[.lp [0, 1, 0, 1, 1, 1, 1, 1], .blk 0, .code [1, 1, 1, 1, 1, 1]], ⟨frm 70 [(0, .ptr 0 0 0), (7, .int .i64), (8, .buf 9 1), (39, .int .i64), (40, .int .i64)], cd 0 ++ [.dB 8 7 0], 0⟩, onU F⟩
theorem Qa (m : Nat) : ∀ n, HO N42 (G6 (vH m n)) := au ah T39.right (fun k => [G6 k]) (fun k h => (aL h aA)) fun k a => by kernel_rfl
def t42 (m : Nat) : Int × Int × Int × Int × aw × az × ak × List Dat × List Dat × List Dat × List Dat × List Dat × List Dat × List Dat -> Option (List Un) := fun (a0, a1, a2, a3, a4, a5, a6, a7, a8, a9, a10, a11, a12, a13) =>
 chk (decide (0 <= 0) && (decide (a13.length <= 1000) && a13.all aI)) <|
 vH m m ((bt unD a13), (a13.length : Int), 0, a4, a5, ({ a6 with aD := (w64 (a6.aD + a2)), aK := (w64 (a6.aK + a3)) } : ak), a7, a8, a9, a10, a11, a12, a13, [])
theorem Pm (m : Nat) (u : Int) (xa : aw) (xb : az) (y : ak) (x1 x2 x3 x4 x5 x6 x7 : List Dat) (hu : 0 <= u /\ u <= 1099511627776000) (h1 : 0 <= y.aD /\ y.aD <= 1152921504606846976) (h2 : 0 <= y.aK /\ y.aK <= 1152921504606846976) (h3 : (decide (x6.length <= 1000) && x6.all cU) = true) (hb : 0 <= ao 1 x6 /\ ao 1 x6 <= 1099511627776000) (hg : dD x7) : ∀ (k i n : Nat), i + k = x7.length -> k < n ->
 vH m n (u, (x7.length : Int), (i : Int), xa, xb, y, x1, x2, x3, x4, x5, x6, x7, bZ 0 i) = some (Uns.enc xa ++ Uns.enc xb ++ Uns.enc y ++ [.d x1, .d x2, .d x3, .d x4, .d x5, .d x6, .d (fj (cG u (ao 1 x6) y.aD y.aK) x7)]) := by
 intro k
 induction k with
 | zero =>
  intro i n hi hn; obtain ⟨n, rfl⟩ := al n (by omega); have ht := tn u (ao 1 x6) y.aD y.aK; have hgb := eD hg; obtain rfl : i = x7.length := by omega
  rw [ub]; unfold zp; dsimp only; rw [aF (by omega)]; dsimp only [lt]; refine ba (zaq.2 ⟨rfl, h3⟩) ?_
  change chk (decide ((-1152921504606846976 <= u /\ u <= 1152921504606846976) /\ (-1152921504606846976 <= ao 1 x6 /\ ao 1 x6 <= 1152921504606846976) /\ (-1152921504606846976 <= y.aD /\ y.aD <= 1152921504606846976) /\ (-1152921504606846976 <= y.aK /\ y.aK <= 1152921504606846976))) (chk (decide (cG u (ao 1 x6) y.aD y.aK <= 1152921504606846976) && (decide (bZ 0 x7.length = bZ 0 x7.length) && (decide (x7.length <= 1000) && x7.all aI))) _) = _; rw [aO (by omega)]; exact ba (by rw [zab, zab]; exact ⟨@zah _ _ (by omega), @zah _ _ rfl, hgb⟩) rfl
 | succ k ih =>
  intro i n hi hn; obtain ⟨n, rfl⟩ := al n (by omega); have hg1 := hg.1; have hL := fG i 0; have := ih (i + 1) n (by omega) (by omega); rw [<- vi i 0] at this; rw [ub]; unfold zp; dsimp only; simp (disch := omega) only [TRa, TRi, aa, LNl, LNi, zaa, hL]; simp only [LNl, LNi, zaa] at this ⊢; exact this
def f42 : Int × Int × Int × Int × aw × az × ak × List Dat × List Dat × List Dat × List Dat × List Dat × List Dat × List Dat -> Bool × List Un := fun (a0, a1, a2, a3, a4, a5, a6, a7, a8, a9, a10, a11, a12, a13) => (decide (((0 <= a0 /\ a0 <= 1125899906842624) /\ (0 <= a2 /\ a2 <= 1125899906842624) /\ (0 <= a3 /\ a3 <= 1125899906842624)) /\ (0 <= a6.aD /\ a6.aD <= 1125899906842624) /\ (0 <= a6.aK /\ a6.aK <= 1125899906842624)) && ((decide (a12.length <= 1000) && a12.all cU) && (decide (a13.length <= 1000) && a13.all aI)), Uns.enc ((a4) : aw) ++ Uns.enc ((a5) : az) ++ Uns.enc (({ a6 with aD := a6.aD + a2, aK := a6.aK + a3 }) : ak) ++ [.d (a7), .d (a8), .d (a9), .d (a10), .d (a11), .d (a12), .d (fj (cG (bt unD a13) (ao 1 a12) (a6.aD + a2) (a6.aK + a3)) a13)])
theorem L1 (a0 : Int) (a1 : Int) (a2 : Int) (a3 : Int) (a4 : aw) (a5 : az) (a6 : ak) (a7 : List Dat) (a8 : List Dat) (a9 : List Dat) (a10 : List Dat) (a11 : List Dat) (a12 : List Dat) (a13 : List Dat) (hc : (decide (((0 <= a0 /\ a0 <= 1125899906842624) /\ (0 <= a2 /\ a2 <= 1125899906842624) /\ (0 <= a3 /\ a3 <= 1125899906842624)) /\ (0 <= a6.aD /\ a6.aD <= 1125899906842624) /\ (0 <= a6.aK /\ a6.aK <= 1125899906842624)) && ((decide (a12.length <= 1000) && a12.all cU) && (decide (a13.length <= 1000) && a13.all aI))) = true) : ∃ m, t42 m (a0, a1, a2, a3, a4, a5, a6, a7, a8, a9, a10, a11, a12, a13) = some (Uns.enc ((a4) : aw) ++ Uns.enc ((a5) : az) ++ Uns.enc (({ a6 with aD := a6.aD + a2, aK := a6.aK + a3 }) : ak) ++ [.d (a7), .d (a8), .d (a9), .d (a10), .d (a11), .d (a12), .d (fj (cG (bt unD a13) (ao 1 a12) (a6.aD + a2) (a6.aK + a3)) a13)]) := by
 simp only [zab, zai, zan] at hc; obtain ⟨⟨⟨h1, h2, h3⟩, h4, h5⟩, ⟨h7, h8⟩, h9, h10⟩ := hc; have hg : dD a13 := ⟨h9, h10⟩
 have hb := y6 h7 h8; have hs := (gT a13 h10).2.2.2.1; refine ⟨a13.length + 1, ?_⟩; unfold t42; dsimp only; refine ba (by rw [eD hg]; rfl) ?_
 rw [aa (n := a6.aD + a2) (by omega) (by omega), aa (n := a6.aK + a3) (by omega) (by omega)]; exact Pm _ _ a4 a5 { a6 with aD := a6.aD + a2, aK := a6.aK + a3 } a7 a8 a9 a10 a11 a12 a13 (by omega) (by simp only; omega) (by simp only; omega) (by rw [zab, zan]; exact ⟨zah h7, h8⟩) hb hg a13.length 0 (a13.length + 1) (by omega) (by omega)
theorem Kb : ER 42 (mkE N42.en N42.ex f42) := an ah T39.right (fun m => [G6 (vH m m)]) (t := t42) (by kernel_rfl) (fun m => (aL (Qa m m) aA)) (fun m a => by kernel_rfl) fun (a0, a1, a2, a3, a4, a5, a6, a7, a8, a9, a10, a11, a12, a13) hc => L1 a0 a1 a2 a3 a4 a5 a6 a7 a8 a9 a10 a11 a12 a13 hc
def T42 : Tb Tryz.prog LQ TE XX := T39.add 42 _ Kb
def BJ (d : Dat) : Dat := .r [.n (bk d), .n (d.i 5), .n (d.i 6)]
def N46 : aC := ⟨T42.tab, 46, ⟨[.agg [.bool, .int .i64, .int .i64, .int .i64, .int .i64, .int .i64, .int .i64, .int .i64, .int .i64, .int .i64, .int .i64, .buf 9 4, .int .i64, .int .i64, .int .i64, .int .i64, .int .i64, .dx, .int .i64], .np 0 0 0], cd 0 ++ [.ai (sI 4)], 10⟩, ⟨[.agg [.bool, .int .i64, .int .i64, .int .i64, .int .i64, .int .i64, .int .i64, .int .i64, .int .i64, .int .i64, .int .i64, .buf 9 4, .int .i64, .int .i64, .int .i64, .int .i64, .int .i64, .buf 10 3, .int .i64]], cd 0 ++ [.ai (sI 4), .ai (sI 3)], 10⟩, []⟩
abbrev CJ : Type := Int × Int × aw × az × ak × List Dat × List Dat × List Dat × List Dat × List Dat × List Dat × List Dat × List Dat × bj × aZ × Int × bj × aZ × Int × List Dat × List Dat × List Dat
def xZ (m : Nat) (k : CJ -> Option (List Un)) : CJ -> Option (List Un) := fun (a0, a1, a2, a3, a4, a5, a6, a7, a8, a9, a10, a11, a12, a13, a14, a15, a16, a17, a18, a19, a20, a21) =>
 bif decide (a1 < a0) then
 chk (inb a1 a11.length) <|
 chk (decide (a1.toNat < a11.length)) <|
 lt (ag a11 a1.toNat : Dat) fun d3 =>
 chk (fits (a19.length + 1) 24) <|
 k (a0, (w64 (a1 + 1)), a2, a3, a4, a5, a6, a7, a8, a9, a10, a11, a12, a13, a14, a15, a16, a17, a18, (a19 ++ ([.r [.n (w64 (w64 ((d3.i 1) - w64 ((d3.i 3) - (d3.i 4))) - (d3.i 6))), .n (d3.i 5), .n (d3.i 6)]])), a20, a21)
 else
 some (Uns.enc (a13 : bj) ++ Uns.enc (a14 : aZ) ++ [.i a15] ++ Uns.enc (a2 : aw) ++ Uns.enc (a3 : az) ++ Uns.enc (a4 : ak) ++ [.d a5, .d a6, .d a7, .d a8, .d a9, .d a10, .d a11, .d a12, .d a19])
def xj (m : Nat) : Nat -> CJ -> Option (List Un) := bp (xZ m)
theorem uu (m : Nat) (n : Nat) : xj m (n + 1) = xZ m (xj m n) := rfl
def Hv (F : CJ -> Option (List Un)) : aW := ⟨[.lp [0, 1, 0, 1, 1], .blk 0, .code [1, 1, 1]], ⟨frm 58 [(2, .ptr 10 0 0), (4, .ptr 11 0 0), (38, .buf 8 7), (39, .int .i64), (40, .int .i64)], cd 0 ++ [.ai (sI 4), .cells [.bool, .int .i64, .int .i64, .int .i64, .int .i64, .int .i64, .int .i64, .int .i64, .int .i64, .int .i64, .int .i64, .buf 9 4, .int .i64, .int .i64, .int .i64, .int .i64, .int .i64, .buf 12 3, .int .i64], .cells [.bool, .int .i64, .int .i64, .int .i64, .int .i64, .int .i64, .int .i64, .int .i64, .int .i64, .int .i64, .int .i64, .buf 13 4, .int .i64, .int .i64, .int .i64, .int .i64, .int .i64, .buf 14 3, .int .i64], .ai (sI 3), .ai (sI 4), .ai (sI 3)], 10⟩, onU F⟩
theorem Oz (m : Nat) : ∀ n, HO N46 (Hv (xj m n)) := au ah T42.right (fun k => [Hv k]) (fun k h => (aL h aA)) fun k a => by kernel_rfl
def t46 (m : Nat) : bj × aZ × Int × Int × aw × az × ak × List Dat × List Dat × List Dat × List Dat × List Dat × List Dat × List Dat × List Dat -> Option (List Un) := fun (a0, a1, a2, a3, a4, a5, a6, a7, a8, a9, a10, a11, a12, a13, a14) =>
 chk (decide (0 <= a3)) <|
 chk (decide (0 < ([.r [.r a12]] : List Dat).length) && (decide (((ag ([.r [.r a12]] : List Dat) 0).d 0).length <= 1000) && ((ag ([.r [.r a12]] : List Dat) 0).d 0).all cU)) <|
 chk (decide (0 <= a3)) <|
 chk (decide (0 <= a3)) <|
 chk (decide (0 <= a3)) <|
 chk (decide (0 <= a3)) <|
 chk (decide (0 <= a3)) <|
 xj m m ((a13.length : Int), 0, a4, a5, a6, a7, a8, a9, a10, a11, a12, a13, a14, a0, (⟨a1.bw, (ao 1 ((ag ([.r [.r a12]] : List Dat) 0).d 0)), (w64 (a6.rin - a6.bl)), a6.out, a6.fee⟩ : aZ), a6.mode, (⟨false, 0, 0, 0, 0, 0, 0, 0, 0, 0, 0⟩ : bj), (⟨0, 0, 0, 0, 0⟩ : aZ), 0, [], [], [])
theorem Kw (m : Nat) (xa : aw) (xb : az) (xn : ak) (x1 x2 x3 x4 x5 x6 py : List Dat) (ra za : bj) (rb zb : aZ) (nx zx : Int) (z1 z2 : List Dat) : ∀ (rest pre : List Dat) (n : Nat), rest.length < n -> (pre ++ rest).length <= 1000 -> (∀ d ∈ rest, aI d = true) ->
 xj m n (((pre ++ rest).length : Int), (pre.length : Int), xa, xb, xn, x1, x2, x3, x4, x5, x6, pre ++ rest, py, ra, rb, nx, za, zb, zx, pre.map BJ, z1, z2) =
  some (Uns.enc ra ++ Uns.enc rb ++ [.i nx] ++ Uns.enc xa ++ Uns.enc xb ++ Uns.enc xn ++ [.d x1, .d x2, .d x3, .d x4, .d x5, .d x6, .d (pre ++ rest), .d py, .d ((pre ++ rest).map BJ)]) := by
 intro rest
 induction rest with
 | nil =>
  intro pre n hn hl hg; obtain ⟨n, rfl⟩ := al n (by simp at hn; omega); rw [uu]; unfold xZ; dsimp only; simp [aF]
 | cons x rest ih =>
  intro pre n hn hl hg; obtain ⟨n, rfl⟩ := al n (by simp at hn; omega); simp only [zac, zad] at hn hl; have e := Js (hg x (by simp)); have := ih (pre ++ [x]) n (by omega) (by simp; omega) (fun d hd => hg d (by simp [hd])); rw [List.map_append, show [x].map BJ = [.r [.n (bk x), .n (x.i 5), .n (x.i 6)]] from rfl] at this; rw [uu]; unfold xZ; dsimp only; simp only [LNi, ax, lt_eq, e]; simp (disch := omega) only [TRa, TRi, aa, LNl, LNi, zaa, ax]; simp only [LNl, LNi, zaa] at this ⊢; exact this
def f46 : bj × aZ × Int × Int × aw × az × ak × List Dat × List Dat × List Dat × List Dat × List Dat × List Dat × List Dat × List Dat -> Bool × List Un := fun (a0, a1, a2, a3, a4, a5, a6, a7, a8, a9, a10, a11, a12, a13, a14) => (decide (0 <= a3) && (decide (0 <= a6.bl /\ a6.bl <= a6.rin /\ a6.rin <= 1152921504606846976) && ((decide (a12.length <= 1000) && a12.all cU) && (decide (a13.length <= 1000) && a13.all aI))), Uns.enc ((a0) : bj) ++ Uns.enc (((⟨a1.bw, ao 1 a12, a6.rin - a6.bl, a6.out, a6.fee⟩ : aZ)) : aZ) ++ [.i (a6.mode)] ++ Uns.enc ((a4) : aw) ++ Uns.enc ((a5) : az) ++ Uns.enc ((a6) : ak) ++ [.d (a7), .d (a8), .d (a9), .d (a10), .d (a11), .d (a12), .d (a13), .d (a14), .d (a13.map BJ)])
theorem NX (a0 : bj) (a1 : aZ) (a2 : Int) (a3 : Int) (a4 : aw) (a5 : az) (a6 : ak) (a7 : List Dat) (a8 : List Dat) (a9 : List Dat) (a10 : List Dat) (a11 : List Dat) (a12 : List Dat) (a13 : List Dat) (a14 : List Dat) (hc : (decide (0 <= a3) && (decide (0 <= a6.bl /\ a6.bl <= a6.rin /\ a6.rin <= 1152921504606846976) && ((decide (a12.length <= 1000) && a12.all cU) && (decide (a13.length <= 1000) && a13.all aI)))) = true) : ∃ m, t46 m (a0, a1, a2, a3, a4, a5, a6, a7, a8, a9, a10, a11, a12, a13, a14) = some (Uns.enc ((a0) : bj) ++ Uns.enc (((⟨a1.bw, ao 1 a12, a6.rin - a6.bl, a6.out, a6.fee⟩ : aZ)) : aZ) ++ [.i (a6.mode)] ++ Uns.enc ((a4) : aw) ++ Uns.enc ((a5) : az) ++ Uns.enc ((a6) : ak) ++ [.d (a7), .d (a8), .d (a9), .d (a10), .d (a11), .d (a12), .d (a13), .d (a14), .d (a13.map BJ)]) := by
 simp only [zab, zai, zan] at hc; obtain ⟨h0, ⟨h4, h5, h6⟩, ⟨h7, h8⟩, h9, h10⟩ := hc; have hb := y6 h7 h8; have hlb : (decide (a12.length <= 1000) && a12.all cU) = true := by rw [zab, zan]; exact ⟨zah h7, h8⟩
 refine ⟨a13.length + 1, ?_⟩; unfold t46; dsimp only [lt]; simp only [aO h0]; refine ba (zaq.2 ⟨rfl, hlb⟩) ?_
 rw [aa (n := a6.rin - a6.bl) (by omega) (by omega)]; exact Kw _ a4 a5 a6 a7 a8 a9 a10 a11 a12 a14 a0 _ _ _ _ _ _ _ a13 [] (a13.length + 1) (by omega) (by simpa using h9) h10
theorem Lk : ER 46 (mkE N46.en N46.ex f46) := an ah T42.right (fun m => [Hv (xj m m)]) (t := t46) (by kernel_rfl) (fun m => (aL (Oz m m) aA)) (fun m a => by kernel_rfl) fun (a0, a1, a2, a3, a4, a5, a6, a7, a8, a9, a10, a11, a12, a13, a14) hc => NX a0 a1 a2 a3 a4 a5 a6 a7 a8 a9 a10 a11 a12 a13 a14 hc
def T46 : Tb Tryz.prog LQ TE XX := T42.add 46 _ Lk
def JL (a b p : Int) : Bool := decide (0 <= a /\ a <= 1099511627776 /\ 0 <= b /\ b <= 1099511627776 /\ 0 <= p /\ p <= 100000)
def bM (a b p : Int) : Bool := JL a b p && decide (b * p <= a * 10000)
def cC (a b p : Int) : Bool := JL a b p && decide (a * 10000 <= b * p)
def N87 : aC := ⟨T46.tab, 87, ⟨[.int .i64, .int .i64, .int .i64], [], 0⟩, ⟨[.bool], [], 0⟩, []⟩
def t87 (m : Nat) : Int × Int × Int -> Option (List Un) := fun (a0, a1, a2) =>
 bif decide (a0 >= 0) then
 bif (decide (a0 <= 1099511627776)) then
 bif decide (a1 >= 0) then
 bif (decide (a1 <= 1099511627776)) then
 bif decide (a2 >= 0) then
 bif decide (a2 <= 100000) then
 some ([.b (decide ((w64 (a0 * 10000)) >= (w64 (a1 * a2))))])
 else
 some ([.b false])
 else
 some ([.b false])
 else
 some ([.b false])
 else
 some ([.b false])
 else
 some ([.b false])
 else
 some ([.b false])
def f87 : Int × Int × Int -> Bool × List Un := fun (a0, a1, a2) => (true, [.b (bM a0 a1 a2)])
theorem L4 (a0 : Int) (a1 : Int) (a2 : Int) : ∃ m, t87 m (a0, a1, a2) = some ([.b (bM a0 a1 a2)]) := by
 unfold t87 bM JL; dsimp only [ge_iff_le]
 by_cases h : 0 <= a0 /\ a0 <= 1099511627776 /\ 0 <= a1 /\ a1 <= 1099511627776 /\ 0 <= a2 /\ a2 <= 100000
 . obtain ⟨h1, h2, h3, h4, h5, h6⟩ := h; have hm := Int.mul_le_mul h4 h6 h5 (show (0 : Int) <= 1099511627776 by omega); have hm0 := za0 h3 h5; refine ⟨0, ?_⟩; rw [zah (show 0 <= a0 /\ a0 <= 1099511627776 /\ 0 <= a1 /\ a1 <= 1099511627776 /\ 0 <= a2 /\ a2 <= 100000 from ⟨h1, h2, h3, h4, h5, h6⟩)]; simp (disch := omega) only [TRa, aa, zbh]
 . refine ⟨0, ?_⟩; rw [zaQ h]
   by_cases h1 : 0 <= a0
   . by_cases h2 : a0 <= 1099511627776
     . by_cases h3 : 0 <= a1
       . by_cases h4 : a1 <= 1099511627776
         . by_cases h5 : 0 <= a2
           . simp [h1, h2, h3, h4, h5, show ¬ a2 <= 100000 by omega]
           . simp [h1, h2, h3, h4, h5]
         . simp [h1, h2, h3, h4]
       . simp [h1, h2, h3]
     . simp [h1, h2]
   . simp [h1]
theorem Ld : ER 87 (mkE N87.en N87.ex f87) := an ah T46.right (fun m => []) (t := t87) (by kernel_rfl) (fun m => aA) (fun m a => by kernel_rfl) fun (a0, a1, a2) hc => L4 a0 a1 a2
def T87 : Tb Tryz.prog LQ TE XX := T46.add 87 _ Ld
def N88 : aC := ⟨T87.tab, 88, ⟨[.int .i64, .int .i64, .int .i64], [], 0⟩, ⟨[.bool], [], 0⟩, []⟩
def t88 (m : Nat) : Int × Int × Int -> Option (List Un) := fun (a0, a1, a2) =>
 bif decide (a0 >= 0) then
 bif (decide (a0 <= 1099511627776)) then
 bif decide (a1 >= 0) then
 bif (decide (a1 <= 1099511627776)) then
 bif decide (a2 >= 0) then
 bif decide (a2 <= 100000) then
 some ([.b (decide ((w64 (a0 * 10000)) <= (w64 (a1 * a2))))])
 else
 some ([.b false])
 else
 some ([.b false])
 else
 some ([.b false])
 else
 some ([.b false])
 else
 some ([.b false])
 else
 some ([.b false])
def f88 : Int × Int × Int -> Bool × List Un := fun (a0, a1, a2) => (true, [.b (cC a0 a1 a2)])
theorem LI (a0 : Int) (a1 : Int) (a2 : Int) : ∃ m, t88 m (a0, a1, a2) = some ([.b (cC a0 a1 a2)]) := by
 unfold t88 cC JL; dsimp only [ge_iff_le]
 by_cases h : 0 <= a0 /\ a0 <= 1099511627776 /\ 0 <= a1 /\ a1 <= 1099511627776 /\ 0 <= a2 /\ a2 <= 100000
 . obtain ⟨h1, h2, h3, h4, h5, h6⟩ := h; have hm := Int.mul_le_mul h4 h6 h5 (show (0 : Int) <= 1099511627776 by omega); have hm0 := za0 h3 h5; refine ⟨0, ?_⟩; rw [zah (show 0 <= a0 /\ a0 <= 1099511627776 /\ 0 <= a1 /\ a1 <= 1099511627776 /\ 0 <= a2 /\ a2 <= 100000 from ⟨h1, h2, h3, h4, h5, h6⟩)]; simp (disch := omega) only [TRa, aa, zbh]
 . refine ⟨0, ?_⟩; rw [zaQ h]
   by_cases h1 : 0 <= a0
   . by_cases h2 : a0 <= 1099511627776
     . by_cases h3 : 0 <= a1
       . by_cases h4 : a1 <= 1099511627776
         . by_cases h5 : 0 <= a2
           . simp [h1, h2, h3, h4, h5, show ¬ a2 <= 100000 by omega]
           . simp [h1, h2, h3, h4, h5]
         . simp [h1, h2, h3, h4]
       . simp [h1, h2, h3]
     . simp [h1, h2]
   . simp [h1]
theorem It : ER 88 (mkE N88.en N88.ex f88) := an ah T87.right (fun m => []) (t := t88) (by kernel_rfl) (fun m => aA) (fun m a => by kernel_rfl) fun (a0, a1, a2) hc => LI a0 a1 a2
def T88 : Tb Tryz.prog LQ TE XX := T87.add 88 _ It
def N44 : aC := ⟨T88.tab, 44, ⟨[.agg [.int .i64, .int .i64, .int .i64, .int .i64, .int .i64], .agg [.int .i64, .int .i64, .int .i64, .int .i64, .int .i64, .int .i64, .int .i64]], [], 0⟩, ⟨[.agg [.bool, .bool, .bool, .bool]], [], 0⟩, []⟩
def t44 (m : Nat) : Int × Int × Int × Int × Int × Int × Int × Int × Int × Int × Int × Int -> Option (List Un) := fun (a0, a1, a2, a3, a4, a5, a6, a7, a8, a9, a10, a11) =>
 bif a0 == 0 then
 bif a1 == 0 then
 bif a2 == 0 then
 bif a3 == 0 then
 some ([.b true, .b true, .b true, .b true])
 else
 some ([.b true, .b true, .b true, .b (cC a11 a6 a3)])
 else
 bif a3 == 0 then
 some ([.b true, .b true, .b (cC a10 a5 a2), .b true])
 else
 some ([.b true, .b true, .b (cC a10 a5 a2), .b (cC a11 a6 a3)])
 else
 bif a2 == 0 then
 bif a3 == 0 then
 some ([.b true, .b (bM a8 a9 a1), .b true, .b true])
 else
 some ([.b true, .b (bM a8 a9 a1), .b true, .b (cC a11 a6 a3)])
 else
 bif a3 == 0 then
 some ([.b true, .b (bM a8 a9 a1), .b (cC a10 a5 a2), .b true])
 else
 some ([.b true, .b (bM a8 a9 a1), .b (cC a10 a5 a2), .b (cC a11 a6 a3)])
 else
 bif a1 == 0 then
 bif a2 == 0 then
 bif a3 == 0 then
 some ([.b (bM a5 a7 a0), .b true, .b true, .b true])
 else
 some ([.b (bM a5 a7 a0), .b true, .b true, .b (cC a11 a6 a3)])
 else
 bif a3 == 0 then
 some ([.b (bM a5 a7 a0), .b true, .b (cC a10 a5 a2), .b true])
 else
 some ([.b (bM a5 a7 a0), .b true, .b (cC a10 a5 a2), .b (cC a11 a6 a3)])
 else
 bif a2 == 0 then
 bif a3 == 0 then
 some ([.b (bM a5 a7 a0), .b (bM a8 a9 a1), .b true, .b true])
 else
 some ([.b (bM a5 a7 a0), .b (bM a8 a9 a1), .b true, .b (cC a11 a6 a3)])
 else
 bif a3 == 0 then
 some ([.b (bM a5 a7 a0), .b (bM a8 a9 a1), .b (cC a10 a5 a2), .b true])
 else
 some ([.b (bM a5 a7 a0), .b (bM a8 a9 a1), .b (cC a10 a5 a2), .b (cC a11 a6 a3)])
def f44 : Int × Int × Int × Int × Int × Int × Int × Int × Int × Int × Int × Int -> Bool × List Un := fun (a0, a1, a2, a3, a4, a5, a6, a7, a8, a9, a10, a11) => (true, [.b ((a0 == 0 || bM a5 a7 a0)), .b ((a1 == 0 || bM a8 a9 a1)), .b ((a2 == 0 || cC a10 a5 a2)), .b ((a3 == 0 || cC a11 a6 a3))])
theorem M8 (a0 : Int) (a1 : Int) (a2 : Int) (a3 : Int) (a4 : Int) (a5 : Int) (a6 : Int) (a7 : Int) (a8 : Int) (a9 : Int) (a10 : Int) (a11 : Int) : ∃ m, t44 m (a0, a1, a2, a3, a4, a5, a6, a7, a8, a9, a10, a11) = some ([.b ((a0 == 0 || bM a5 a7 a0)), .b ((a1 == 0 || bM a8 a9 a1)), .b ((a2 == 0 || cC a10 a5 a2)), .b ((a3 == 0 || cC a11 a6 a3))]) := by
 refine ⟨0, ?_⟩; unfold t44; dsimp only; cases a0 == 0 <;> cases a1 == 0 <;> cases a2 == 0 <;> cases a3 == 0 <;> rfl
theorem K0 : ER 44 (mkE N44.en N44.ex f44) := an ah T88.right (fun m => []) (t := t44) (by kernel_rfl) (fun m => aA) (fun m a => by kernel_rfl) fun (a0, a1, a2, a3, a4, a5, a6, a7, a8, a9, a10, a11) hc => M8 a0 a1 a2 a3 a4 a5 a6 a7 a8 a9 a10 a11
def T44 : Tb Tryz.prog LQ TE XX := T88.add 44 _ K0
def fA (need has : Int) : Int := max (min (max need 0) has) 0
def B9 (need has may : Int) : Int := max (min (max need 0 - fA need has) may) 0
def N36 : aC := ⟨T44.tab, 36, ⟨[.int .i64, .np 0 0 20, .int .i64, .int .i64], cd 0, 0⟩, ⟨[.int .i64, .int .i64], cd 0, 0⟩, []⟩
def t36 (m : Nat) : Int × Int × Int × Int × aw × az × ak × List Dat × List Dat × List Dat × List Dat × List Dat × List Dat × List Dat -> Option (List Un) := fun (a0, a1, a2, a3, a4, a5, a6, a7, a8, a9, a10, a11, a12, a13) =>
 lt ((if a0 < 0 then 0 else a0) : Int) fun x1 =>
 bif (!((decide (a1 < 0)) && true)) then
 chk (decide (0 <= a1)) <|
 lt ((w64 (a6.rin - a6.bl)) : Int) fun x3 =>
 lt ((if x3 < x1 then x3 else x1) : Int) fun x4 =>
 lt ((if x4 < 0 then 0 else x4) : Int) fun x5 =>
 chk (decide (0 <= a1)) <|
 chk (decide (0 <= a1)) <|
 lt ((if (w64 (a3 - a2)) < (w64 (x1 - x5)) then (w64 (a3 - a2)) else (w64 (x1 - x5))) : Int) fun x6 =>
 some ([.i x5, .i (if x6 < 0 then 0 else x6)] ++ Uns.enc (a4 : aw) ++ Uns.enc (a5 : az) ++ Uns.enc (({ a6 with bl := (w64 (a6.bl + x5)) } : ak) : ak) ++ [.d a7, .d a8, .d a9, .d a10, .d a11, .d a12, .d a13])
 else
 lt ((if (w64 (a3 - a2)) < (w64 (x1 - 0)) then (w64 (a3 - a2)) else (w64 (x1 - 0))) : Int) fun x8 =>
 some ([.i 0, .i (if x8 < 0 then 0 else x8)] ++ Uns.enc (a4 : aw) ++ Uns.enc (a5 : az) ++ Uns.enc (a6 : ak) ++ [.d a7, .d a8, .d a9, .d a10, .d a11, .d a12, .d a13])
def f36 : Int × Int × Int × Int × aw × az × ak × List Dat × List Dat × List Dat × List Dat × List Dat × List Dat × List Dat -> Bool × List Un := fun (a0, a1, a2, a3, a4, a5, a6, a7, a8, a9, a10, a11, a12, a13) => (decide (0 <= a1) && decide ((-1152921504606846976 <= a0 /\ a0 <= 1152921504606846976) /\ ((0 : Int) <= a6.bl /\ a6.bl <= a6.rin /\ a6.rin <= (1152921504606846976 : Int)) /\ (0 <= a2 /\ a2 <= 1152921504606846976) /\ (0 <= a3 /\ a3 <= 1152921504606846976)), [.i (fA a0 (a6.rin - a6.bl)), .i (B9 a0 (a6.rin - a6.bl) (a3 - a2))] ++ Uns.enc ((a4) : aw) ++ Uns.enc ((a5) : az) ++ Uns.enc (({ a6 with bl := a6.bl + fA a0 (a6.rin - a6.bl) }) : ak) ++ [.d (a7), .d (a8), .d (a9), .d (a10), .d (a11), .d (a12), .d (a13)])
theorem Mi (a0 : Int) (a1 : Int) (a2 : Int) (a3 : Int) (a4 : aw) (a5 : az) (a6 : ak) (a7 : List Dat) (a8 : List Dat) (a9 : List Dat) (a10 : List Dat) (a11 : List Dat) (a12 : List Dat) (a13 : List Dat) (hc : (decide (0 <= a1) && decide ((-1152921504606846976 <= a0 /\ a0 <= 1152921504606846976) /\ ((0 : Int) <= a6.bl /\ a6.bl <= a6.rin /\ a6.rin <= (1152921504606846976 : Int)) /\ (0 <= a2 /\ a2 <= 1152921504606846976) /\ (0 <= a3 /\ a3 <= 1152921504606846976))) = true) : ∃ m, t36 m (a0, a1, a2, a3, a4, a5, a6, a7, a8, a9, a10, a11, a12, a13) = some ([.i (fA a0 (a6.rin - a6.bl)), .i (B9 a0 (a6.rin - a6.bl) (a3 - a2))] ++ Uns.enc ((a4) : aw) ++ Uns.enc ((a5) : az) ++ Uns.enc (({ a6 with bl := a6.bl + fA a0 (a6.rin - a6.bl) }) : ak) ++ [.d (a7), .d (a8), .d (a9), .d (a10), .d (a11), .d (a12), .d (a13)]) := by
 simp only [zab, zai] at hc; obtain ⟨h0, ⟨h1, h2⟩, ⟨h3, h4, h5⟩, ⟨h6, h7⟩, h8, h9⟩ := hc; refine ⟨0, ?_⟩; unfold t36; dsimp only; simp only [zbb, lt_eq, zaQ (show ¬ a1 < 0 by omega), Bool.not_false, zaC, zah h0, iF]; rw [aa (n := a6.rin - a6.bl) (by omega) (by omega), aa (n := a3 - a2) (by omega) (by omega)]; have e : (if (if a6.rin - a6.bl < (if a0 < 0 then 0 else a0) then a6.rin - a6.bl else (if a0 < 0 then 0 else a0)) < 0 then 0 else (if a6.rin - a6.bl < (if a0 < 0 then 0 else a0) then a6.rin - a6.bl else (if a0 < 0 then 0 else a0))) = fA a0 (a6.rin - a6.bl) := by unfold fA; omega
 have hd : 0 <= fA a0 (a6.rin - a6.bl) /\ fA a0 (a6.rin - a6.bl) <= 1152921504606846976 /\ fA a0 (a6.rin - a6.bl) <= max a0 0 /\ fA a0 (a6.rin - a6.bl) <= a6.rin - a6.bl := by unfold fA; omega
 rw [e, show (if a0 < 0 then 0 else a0) = max a0 0 by omega, aa (n := max a0 0 - _) (by omega) (by omega), aa (n := a6.bl + _) (by omega) (by omega)]; rw [show (if (if a3 - a2 < max a0 0 - fA a0 (a6.rin - a6.bl) then a3 - a2 else max a0 0 - fA a0 (a6.rin - a6.bl)) < 0 then 0 else (if a3 - a2 < max a0 0 - fA a0 (a6.rin - a6.bl) then a3 - a2 else max a0 0 - fA a0 (a6.rin - a6.bl))) = B9 a0 (a6.rin - a6.bl) (a3 - a2) by unfold B9; omega]
theorem Ib : ER 36 (mkE N36.en N36.ex f36) := an ah T44.right (fun m => []) (t := t36) (by kernel_rfl) (fun m => aA) (fun m a => by kernel_rfl) fun (a0, a1, a2, a3, a4, a5, a6, a7, a8, a9, a10, a11, a12, a13) hc => Mi a0 a1 a2 a3 a4 a5 a6 a7 a8 a9 a10 a11 a12 a13 hc
def T36 : Tb Tryz.prog LQ TE XX := T44.add 36 _ Ib
def fi (d : bo) (m : Int) : List Dat := if m = 0 then d.s0 else if m = 1 then d.s1 else if m = 2 then d.s2 else []
def N40 : aC := ⟨T36.tab, 40, ⟨[.agg [.int .i64, .int .i64, .int .i64, .ai (sI 2), .ai (sI 3), .int .i64, .int .i64, .int .i64, .int .i64, .int .i64, .int .i64, .int .i64, .int .i64, .int .i64, .int .i64, .ai (sI 2), .ai (sI 2), .ai (sI 2)], .agg [.int .i64, .int .i64]], [], 0⟩, ⟨[.buf 0 2], [.ai (sI 2)], 0⟩, []⟩
def t40 (m : Nat) : bo × Int × Int -> Option (List Un) := fun (a0, a1, a2) =>
 bif decide (a1 < 0) then
 some ([.d ([])])
 else
 bif decide (a1 >= 3) then
 some ([.d ([])])
 else
 chk (inb a1 3) <|
 chk (decide (a1.toNat < 3)) <|
 chk (decide ((List.getD [a0.s0, a0.s1, a0.s2] a1.toNat []).length < 1000000)) <|
 some ([.d (List.getD [a0.s0, a0.s1, a0.s2] a1.toNat [])])
def f40 : bo × Int × Int -> Bool × List Un := fun (a0, a1, a2) => (decide (a0.s0.length < 1000000 /\ a0.s1.length < 1000000 /\ a0.s2.length < 1000000), [.d (fi a0 a1)])
theorem MP (a0 : bo) (a1 : Int) (a2 : Int) (hc : (decide (a0.s0.length < 1000000 /\ a0.s1.length < 1000000 /\ a0.s2.length < 1000000)) = true) : ∃ m, t40 m (a0, a1, a2) = some ([.d (fi a0 a1)]) := by
 obtain ⟨h1, h2, h3⟩ := zaj hc; refine ⟨0, ?_⟩; unfold t40 fi; dsimp only
 by_cases c0 : a1 < 0
 . rw [bJ c0, if_neg (by omega), if_neg (by omega), if_neg (by omega)]
 by_cases c3 : a1 >= 3
 . rw [aF c0, bJ c3, if_neg (by omega), if_neg (by omega), if_neg (by omega)]
 rw [aF c0, aF c3, dV (by omega) (by omega), aO (by omega)]; obtain rfl | rfl | rfl : a1 = 0 \/ a1 = 1 \/ a1 = 2 := by omega
 . exact (aO h1).trans rfl
 . exact (aO h2).trans rfl
 . exact (aO h3).trans rfl
theorem Ir : ER 40 (mkE N40.en N40.ex f40) := an ah T36.right (fun m => []) (t := t40) (by kernel_rfl) (fun m => aA) (fun m a => by kernel_rfl) fun (a0, a1, a2) hc => MP a0 a1 a2 hc
def T40 : Tb Tryz.prog LQ TE XX := T36.add 40 _ Ir
def jw (d : Dat) : Prop := 0 <= d.i 1 /\ 0 <= d.i 2 /\ d.i 1 + d.i 2 <= 1099511627776 /\ (0 <= d.i 3 /\ d.i 3 <= 12) /\ (d.b 4 = true -> d.i 1 = 0) /\ (d.b 4 = false -> d.i 2 = 0)
theorem zZ {p q r s l : Int} (h : nf p q r s l = true) : (0 <= p /\ p <= 1099511627776) /\ (0 <= q /\ q <= 1099511627776) /\ (0 <= r /\ r <= 1099511627776) /\ (0 <= s /\ s <= 1099511627776) /\ 0 <= l /\ l <= 12 := by
 simp only [nf, zab, zai] at h; omega
theorem G5 {x d : Dat} (hx : jw x) (hl : nf (d.i 1) (d.i 2) (d.i 3) (d.i 4) (d.i 5) = true) (hm : EO x d = true) : jw (lI x d) /\ (lI x d).i 1 = x.i 1 - (d.i 1 + d.i 2) - gB (x.i 1) (d.i 1) (d.i 2) (d.b 6) /\ (lI x d).i 2 = x.i 2 + gB (x.i 1) (d.i 1) (d.i 2) (d.b 6) - d.i 4 /\
 0 <= gB (x.i 1) (d.i 1) (d.i 2) (d.b 6) /\ d.i 1 + d.i 2 + gB (x.i 1) (d.i 1) (d.i 2) (d.b 6) <= x.i 1 /\ d.i 4 <= x.i 2 + gB (x.i 1) (d.i 1) (d.i 2) (d.b 6) := by
 obtain ⟨x1, x2, x3, x4, x5, x6⟩ := hx; have l := zZ hl; have e1 : (lI x d).i 1 = sU (x.i 1) (d.i 1) (d.i 2) (d.b 6) := rfl; have e2 : (lI x d).i 2 = nF (x.i 1) (x.i 2) (d.i 1) (d.i 2) (d.i 4) (d.b 6) := rfl; have e3 : (lI x d).i 3 = oa (x.i 1) (x.b 4) (d.i 1) (d.i 2) (d.i 5) (d.b 6) := rfl; have e4 : (lI x d).b 4 = (d.b 6 || x.b 4) := Qr _; unfold jw; rw [e1, e2, e3, e4]; unfold EO Br at hm; unfold sU nF oa gB; generalize d.i 1 = p at *
 generalize d.i 2 = q at *
 generalize d.i 3 = r at *
 generalize d.i 4 = s at *
 generalize d.i 5 = t at *
 generalize x.i 1 = b at *
 generalize x.i 2 = o at *
 clear e1 e2 e3 e4 hl; cases hb : x.b 4
 . have := x6 hb; simp only [hb, zao, show w64 (b - p) = b - p from aa (by omega) (by omega), show w64 (b - p - q) = b - p - q from aa (by omega) (by omega)] at hm; simp only [show w64 (p + q) = p + q from aa (by omega) (by omega), show w64 (b - (p + q)) = b - (p + q) from aa (by omega) (by omega)]
   by_cases hn : b - p - q < 0
   . rw [zah hn] at hm; cases hm
   rw [zaQ hn, zao] at hm; cases hd : d.b 6
   . simp only [hd, zao, zaw] at hm; subst hm; simp only [zao, Bool.or_self, zbm, zbT, show w64 o = o from aa (by omega) (by omega)]; have hz : 0 <= (bif b - (p + q) == 0 then 0 else t) /\ (bif b - (p + q) == 0 then 0 else t) <= 12 := by cases (b - (p + q) == 0) <;> simp only [zaC, zao] <;> omega
     and_intros <;> first | trivial | omega | (intro h; cases h; done) | (intro _; omega)
   . simp only [hd, zaC, show w64 (o + (b - p - q)) = o + (b - p - q) from aa (by omega) (by omega)] at hm; have hr : s <= o + (b - p - q) := by
      by_cases hs : s <= o + (b - p - q)
      . exact hs
      . rw [zaQ hs, zao, zaw] at hm; omega
     simp only [zaC, Bool.or_false, show w64 (o + (b - (p + q))) = o + (b - (p + q)) from aa (by omega) (by omega), show w64 (o + (b - (p + q)) - s) = o + (b - (p + q)) - s from aa (by omega) (by omega)]
     and_intros <;> first | trivial | omega | (intro h; cases h; done) | (intro _; omega)
 . have := x5 hb; subst this; rw [hb] at hm; simp only [zaC, zab, zaw, Bool.not_eq_true', zai] at hm; obtain ⟨rfl, rfl, h3, h4, h5, h6⟩ := hm; rw [h5]; simp only [zaC, zao, zca, show w64 0 = 0 by decide, zbm, zbT, show w64 (o - s) = o - s from aa (by omega) (by omega)]
   and_intros <;> first | trivial | omega | (intro h; cases h; done) | (intro _; omega)
theorem oF {β : Type} (f : Dat -> β) (y : Dat) : ∀ (l : List Dat) (j : Nat), j < l.length -> f y = f (ag l j) -> (l.set j y).map f = l.map f
 | [], j, h, _ => by simp at h
 | d :: l, 0, _, h => by simp only [List.set_cons_zero, zaN, h]; rfl
 | d :: l, j + 1, h, hy => by simp only [zbQ, zaN, oF f y l j (by simpa using h) hy]
theorem fH {l : List Dat} (h : ∀ d ∈ l, jw d) : 0 <= ao 1 l /\ 0 <= ao 2 l := ⟨fI 1 l fun d hd => (h d hd).1, fI 2 l fun d hd => (h d hd).2.1⟩
theorem vJ : ∀ (t l : List Dat) (last p q s r : Int) (x : FI), (∀ d ∈ l, jw d) -> sN last t = true -> jK l p q s r t = some x -> ao 1 l + ao 2 l <= 1099511627776 -> (0 <= p /\ p + ao 1 l <= 4398046511104) -> (0 <= s /\ s + ao 1 l <= 4398046511104) -> (0 <= r /\ r + ao 1 l + ao 2 l <= 4398046511104) -> (0 <= q /\ q + 1099511627776 * t.length <= 1125899906842624) ->
 (∀ d ∈ x.aY, jw d) /\ x.aY.map (fun d => d.i 0) = l.map (fun d => d.i 0) /\ ao 1 x.aY = ao 1 l - (x.p - p) - (x.l - s) /\ ao 2 x.aY = ao 2 l + (x.l - s) - (x.r - r) /\ p <= x.p /\ s <= x.l /\ r <= x.r /\ (q <= x.q /\ x.q <= q + 1099511627776 * t.length) /\ x.e = 0
 | [], l, last, p, q, s, r, x, hl, ht, h, b1, b2, b3, b4, b5 => by
  simp only [jK, zak] at h; subst h; exact ⟨hl, rfl, by simp, by simp, by simp, by simp, by simp, by simp, rfl⟩
 | d :: t, l, last, p, q, s, r, x, hl, ht, h, b1, b2, b3, b4, b5 => by
  simp only [sN] at ht
  split at ht
  . cases ht
  . split at ht
    . rename_i hT; unfold jK at h
      split at h
      . cases h
      . rename_i hi
        split at h
        . rename_i hm; rcases yM (d.i 0) l 0 with hj | ⟨hj1, hj2⟩
          . omega
          . have hj : (fm (d.i 0) 0 l).toNat < l.length := by omega
            generalize (fm (d.i 0) 0 l).toNat = j at *
            obtain ⟨r1, r2, r3, r4, r5, r6⟩ := G5 (hl _ (uq hj)) hT hm; have lt := zZ hT; have s1 := mI 1 (lI (ag l j) d) l j hj; have s2 := mI 2 (lI (ag l j) d) l j hj; have hl' := C5 (p := jw) (j := j) hl r1; obtain ⟨n1, n2⟩ := fH hl; obtain ⟨n3, n4⟩ := fH hl'; rw [r2] at s1; rw [r3] at s2; simp only [zac, zaA, zaa] at b5; generalize gB ((ag l j).i 1) (d.i 1) (d.i 2) (d.b 6) = z at *
            rw [show w64 (d.i 1 + d.i 2) = d.i 1 + d.i 2 from aa (by omega) (by omega), show w64 (p + (d.i 1 + d.i 2)) = p + (d.i 1 + d.i 2) from aa (by omega) (by omega), show w64 (q + d.i 3) = q + d.i 3 from aa (by omega) (by omega), show w64 (s + z) = s + z from aa (by omega) (by omega), show w64 (r + d.i 4) = r + d.i 4 from aa (by omega) (by omega)] at h; obtain ⟨c1, c2, c3, c4, c5, c6, c7, c8, c9⟩ := vJ t _ _ _ _ _ _ x hl' ht h (by omega) (by omega) (by omega) (by omega) (by omega); refine ⟨c1, c2.trans (oF _ _ _ _ hj rfl), by omega, by omega, by omega, by omega, by omega, ?_, c9⟩; simp only [zac, zaA, zaa]; omega
        . cases h
    . cases ht
theorem EL {t l : List Dat} (hl : ∀ d ∈ l, jw d) (b : ao 1 l + ao 2 l <= 1099511627776) (he : (aB t l).e = 0) :
 (∀ d ∈ (aB t l).aY, jw d) /\ (aB t l).aY.map (fun d => d.i 0) = l.map (fun d => d.i 0) /\ ao 1 (aB t l).aY = ao 1 l - (aB t l).p - (aB t l).l /\ ao 2 (aB t l).aY = ao 2 l + (aB t l).l - (aB t l).r /\
 0 <= (aB t l).p /\ 0 <= (aB t l).l /\ 0 <= (aB t l).r /\ 0 <= (aB t l).q /\ (aB t l).q <= 70368744177664 := by
 unfold aB at he ⊢
 split at he
 . rename_i ht; rw [if_pos ht]; simp only [qI, zab, zai] at ht; cases hx : jK l 0 0 0 0 t with
   | none => rw [hx] at he; cases he
   | some x =>
    obtain ⟨n1, n2⟩ := fH hl; obtain ⟨c1, c2, c3, c4, c5, c6, c7, c8, c9⟩ := vJ t l 0 0 0 0 0 x hl ht.2 hx b (by omega) (by omega) (by omega) (by omega); simp only [zbo]; exact ⟨c1, c2, by omega, by omega, c5, c6, c7, c8.1, by omega⟩
 . cases he
theorem mg (f : Dat -> Bool) : ∀ l : List Dat, (∀ d ∈ l, 0 <= d.i 3) -> 0 <= bm f l
 | [], _ => zb9 0
 | d :: l, h => by
  have := h d (by simp); have := mg f l fun x hx => h x (by simp [hx])
  simp only [bm]; cases f d <;> simp only [zaC, zao] <;> omega
def rE (d e : Dat) (b s : Int) : Prop := e.i 0 = d.i 0 /\ e.i 1 = d.i 1 /\ e.i 2 = d.i 2 /\ e.i 3 = d.i 3 + b /\ e.i 4 = d.i 4 /\ e.i 5 = d.i 5 - s /\ e.i 6 = d.i 6
def amt (f : Dat -> Bool) (d : Dat) : Int := bif f d then d.i 3 else 0
theorem gH (f : Dat -> Bool) (d : Dat) (l : List Dat) : bm f (d :: l) = amt f d + bm f l := rfl
theorem Hh {n : ak} {x : Dat} {c : List Dat} (h3 : 0 <= x.i 3) (hk : (x.i 1 = 1 \/ x.i 1 = 2 \/ x.i 1 = 6) \/ (0 <= x.i 2 /\ x.i 2 < (c.length : Int))) (hb : ∀ i, i < c.length -> amt (toB i) x <= bk (ag c i) /\ amt (toI i) x <= (ag c i).i 5) :
 iK n x = { n with fee := n.fee - amt kF x, out := n.out - amt kR x, rin := n.rin + amt kT x } /\ ∀ i, i < c.length -> rE (ag c i) (ag (jS c x) i) (amt (toB i) x) (amt (toI i) x) := by
 have zero : ∀ i, kI x = false -> kB x = false -> rE (ag c i) (ag c i) (amt (toB i) x) (amt (toI i) x) := fun i h1 h2 => by
  simp only [amt, toB, toI, h1, h2, zbF, zao]; exact ⟨rfl, rfl, rfl, by omega, rfl, by omega, rfl⟩
 unfold iK jS
 by_cases h1 : x.i 1 = 1
 . have a1 : kF x = true := by simp [kF, h1]
   have a2 : kR x = false := by simp [kR, h1]
   have a3 : kT x = false := by simp [kT, h1]
   have a4 : kI x = false := by simp [kI, h1]
   have a5 : kB x = false := by simp [kB, a1]
   rw [if_pos h1, if_pos h1]; refine ⟨?_, fun i hi => zero i a4 a5⟩; simp only [amt, a1, a2, a3, zaC, zao, zbm, zbT]
 rw [if_neg h1, if_neg h1]; have a1 : kF x = false := oV h1
 by_cases h2 : x.i 1 = 2
 . have a2 : kR x = true := by simp [kR, h2]
   have a3 : kT x = false := by simp [kT, h2]
   have a4 : kI x = false := by simp [kI, h2]
   have a5 : kB x = false := by simp [kB, a2]
   rw [if_pos h2, if_pos h2]; refine ⟨?_, fun i hi => zero i a4 a5⟩; simp only [amt, a1, a2, a3, zaC, zao, zbm, zbT]
 rw [if_neg h2, if_neg h2]; have a2 : kR x = false := oV h2
 by_cases h6 : x.i 1 = 6
 . have a3 : kT x = true := by simp [kT, h6]
   have a4 : kI x = false := by simp [kI, h6]
   have a5 : kB x = false := by simp [kB, a3]
   rw [if_pos h6, if_pos h6]; refine ⟨?_, fun i hi => zero i a4 a5⟩; simp only [amt, a1, a2, a3, zaC, zao, zbm, zbT]
 rw [if_neg h6, if_neg h6]; have a3 : kT x = false := oV h6; refine ⟨by simp only [amt, a1, a2, a3, zao, zbm, zbT], fun i hi => ?_⟩; have hj : (x.i 2).toNat < c.length := by omega
 have hx2 : x.i 2 = ((x.i 2).toNat : Int) := by omega
 generalize (x.i 2).toNat = j at *
 have hbj := hb j hj
 by_cases h3' : x.i 1 = 3
 . have a4 : kI x = true := by simp [kI, h3']
   have a5 : kB x = false := by simp [kB, a4]
   rw [if_pos h3']; simp only [amt, toB, toI, a4, a5, zbF, zbh, zao, hx2] at hbj ⊢
   by_cases hij : i = j
   . subst hij; rw [beq_self_eq_true, zaC] at hbj ⊢; rw [uC hj]; refine ⟨rfl, rfl, rfl, by simp only [mM, eV]; omega, rfl, ?_, rfl⟩; simp only [mM, nu, AN]; omega
   . rw [show ((j : Int) == (i : Int)) = false from oV (by omega), zao, l7 hij]; exact ⟨rfl, rfl, rfl, by omega, rfl, by omega, rfl⟩
 . have a4 : kI x = false := oV h3'; have a5 : kB x = true := by simp [kB, a1, a2, a3, a4]
   rw [if_neg h3']; simp only [amt, toB, toI, a4, a5, zbF, zbh, zao, hx2] at hbj ⊢
   by_cases hij : i = j
   . subst hij; rw [beq_self_eq_true, zaC] at hbj ⊢; rw [uC hj]; refine ⟨rfl, rfl, rfl, ?_, rfl, by simp only [rm, nu]; omega, rfl⟩; simp only [rm, eV, mF]; omega
   . rw [show ((j : Int) == (i : Int)) = false from oV (by omega), zao, l7 hij]; exact ⟨rfl, rfl, rfl, by omega, rfl, by omega, rfl⟩
theorem w7 : ∀ (p : List Dat) (n : ak) (c : List Dat), (∀ d ∈ p, 0 <= d.i 3) -> (∀ d ∈ p, (d.i 1 = 1 \/ d.i 1 = 2 \/ d.i 1 = 6) \/ (0 <= d.i 2 /\ d.i 2 < (c.length : Int))) -> (∀ i, i < c.length -> bm (toB i) p <= bk (ag c i) /\ bm (toI i) p <= (ag c i).i 5) ->
 (cT p n c).1 = { n with fee := n.fee - bm kF p, out := n.out - bm kR p, rin := n.rin + bm kT p } /\ (cT p n c).2.length = c.length /\ ∀ i, i < c.length -> rE (ag c i) (ag (cT p n c).2 i) (bm (toB i) p) (bm (toI i) p)
 | [], n, c, _, _, _ => by
  refine ⟨by simp [cT, bm], rfl, fun i hi => ⟨rfl, rfl, rfl, ?_, rfl, ?_, rfl⟩⟩ <;> simp [cT, bm]
 | x :: p, n, c, h0, hk, hb => by
  have n0 := fun f => mg f p fun d hd => h0 d (zaP _ hd)
  have hx0 := h0 x (by simp); have m0 : ∀ f, 0 <= amt f x := fun f => by unfold amt; cases f x <;> simp only [zaC, zao] <;> omega
  obtain ⟨o1, o2⟩ := Hh (n := n) hx0 (hk x (by simp)) fun i hi => by
   have := hb i hi; rw [gH, gH] at this; have := n0 (toB i); have := n0 (toI i); omega
  have hl := wi c x; obtain ⟨i1, i2, i3⟩ := w7 p (iK n x) (jS c x) (fun d hd => h0 d (zaP _ hd)) (fun d hd => by rw [hl]; exact hk d (zaP _ hd)) fun i hi => by
   rw [hl] at hi; have := hb i hi; rw [gH, gH] at this; obtain ⟨_, e1, _, e3, e4, e5, e6⟩ := o2 i hi; unfold bk at this ⊢; omega
  refine ⟨?_, i2.trans hl, fun i hi => ?_⟩
  . show (cT p (iK n x) (jS c x)).1 = _; rw [i1, o1]; simp only [gH, Int.sub_sub, Int.add_assoc]
  . obtain ⟨e0, e1, e2, e3, e4, e5, e6⟩ := o2 i hi; obtain ⟨f0, f1, f2, f3, f4, f5, f6⟩ := i3 i (by rw [hl]; exact hi); rw [gH, gH]; exact ⟨f0.trans e0, f1.trans e1, f2.trans e2, by show (ag (cT p (iK n x) (jS c x)).2 i).i 3 = _; omega, f4.trans e4, by show (ag (cT p (iK n x) (jS c x)).2 i).i 5 = _; omega, f6.trans e6⟩
def fZ (d e : Dat) : Prop := e.i 0 = d.i 0 /\ e.i 1 = d.i 1 /\ e.i 2 = d.i 2 /\ e.i 3 = d.i 3 /\ e.i 4 = d.i 4 /\ e.i 5 = d.i 5
theorem fZ.refl (d : Dat) : fZ d d := ⟨rfl, rfl, rfl, rfl, rfl, rfl⟩
theorem fZ.trans {a b c : Dat} (h : fZ a b) (k : fZ b c) : fZ a c := ⟨k.1.trans h.1, k.2.1.trans h.2.1, k.2.2.1.trans h.2.2.1, k.2.2.2.1.trans h.2.2.2.1, k.2.2.2.2.1.trans h.2.2.2.2.1, k.2.2.2.2.2.trans h.2.2.2.2.2⟩
structure eH (c c' : List Dat) : Prop where
 len : c'.length = c.length
 row : ∀ i, i < c.length -> fZ (ag c i) (ag c' i)
theorem eH.refl (c : List Dat) : eH c c := ⟨rfl, fun _ _ => .refl _⟩
theorem eH.trans {a b c : List Dat} (h : eH a b) (k : eH b c) : eH a c := ⟨k.len.trans h.len, fun i hi => (h.row i hi).trans (k.row i (by rw [h.len]; exact hi))⟩
theorem eH.set {c : List Dat} {j : Nat} {y : Dat} (hj : j < c.length) (h : fZ (ag c j) y) : eH c (c.set j y) := ⟨zbd, fun i hi => by
 by_cases e : i = j
 . subst e; rw [uC hj]; exact h
 . rw [l7 e]; exact .refl _⟩
theorem zN (w : Int) (d : Dat) : fZ d (dJ w d) := ⟨rfl, rfl, rfl, rfl, rfl, rfl⟩
theorem BI (w : Int) (d : Dat) : fZ d (fy w d) := ⟨rfl, rfl, rfl, rfl, rfl, rfl⟩
theorem vR (f : Dat -> Int) : ∀ c : List Dat, (∀ d ∈ c, f d = 0) -> bt f c = 0
 | [], _ => rfl
 | d :: c, h => by simp only [bt, h d (by simp), vR f c fun x hx => h x (by simp [hx])]; rfl
theorem vI (j : Nat) : ∀ c : List Dat, (∀ d ∈ c, d.i j = 0) -> ao j c = 0
 | [], _ => rfl
 | d :: c, h => by simp only [ao, h d (by simp), vI j c fun x hx => h x (by simp [hx])]; rfl
theorem KH {c : List Dat} {j : Nat} {y : Dat} (hj : j < c.length) (h : fZ (ag c j) y) : bt unD (c.set j y) = bt unD c := by
 obtain ⟨_, h1, _, h3, h4, _⟩ := h; rw [Am _ _ _ _ hj]; unfold unD; omega
theorem DP (t : Int) : ∀ (k : Nat) (c : List Dat), dD c -> tB t c < k -> dD (rn k t c) /\ eH c (rn k t c) /\ (ao 6 c <= t -> ao 6 (rn k t c) = min t (bt unD c)) /\ (t <= ao 6 c -> rn k t c = c)
 | 0, c, _, h => by omega
 | k + 1, c, hg, h => by
  have hu := gT c hg.2; unfold rn
  by_cases hs : ao 6 c < t
  . rw [if_pos hs]
    by_cases hj : ft c c.length 0 (-1) < 0
    . rw [if_pos hj]; refine ⟨hg, .refl c, fun _ => ?_, fun _ => rfl⟩; have h0 := ((rP c c.length 0 (-1) (by omega) (.inl (by omega))).1 hj).2; have : bt bk c = 0 := vR _ _ fun d hd => by
       obtain ⟨i, hi, rfl⟩ := oB hd; have := h0 i (by omega) hi; have := (Eo (cq hi hg.2)).1; omega
      omega
    . rw [if_neg hj]; obtain ⟨a1, a2, a3, a4⟩ := Ln hg hs (by omega); have hw := zN (t - ao 6 c) (ag c (ft c c.length 0 (-1)).toNat); have hun := KH a1 hw; have has := eH.set a1 hw; generalize c.set (ft c c.length 0 (-1)).toNat (dJ (t - ao 6 c) (ag c (ft c c.length 0 (-1)).toNat)) = c' at *
      obtain ⟨b1, b2, b3, b4⟩ := DP t k c' a2 (by omega); exact ⟨b1, has.trans b2, fun _ => by rw [b3 a4, hun], fun _ => by omega⟩
  . rw [if_neg hs]; exact ⟨hg, .refl c, fun _ => by omega, fun _ => rfl⟩
theorem CH (t : Int) (h0 : 0 <= t) : ∀ (k : Nat) (c : List Dat), dD c -> uX t c < k -> dD (pz k t c) /\ eH c (pz k t c) /\ (t <= ao 6 c -> ao 6 (pz k t c) = t) /\ (ao 6 c <= t -> pz k t c = c)
 | 0, c, _, h => by omega
 | k + 1, c, hg, h => by
  have hu := gT c hg.2; unfold pz
  by_cases hs : t < ao 6 c
  . rw [if_pos hs]
    by_cases hj : fq c c.length 0 (-1) < 0
    . have h0 := ((rJ c c.length 0 (-1) (by omega) (.inl (by omega))).1 hj).2; have : ao 6 c = 0 := vI _ _ fun d hd => by
       obtain ⟨i, hi, rfl⟩ := oB hd; have := h0 i (by omega) hi; have := (ca (cq hi hg.2)).2.2.2.2.1; omega
      omega
    . rw [if_neg hj]; obtain ⟨a1, a2, a3, a4⟩ := Lm hg hs (by omega); have has := eH.set a1 (BI (ao 6 c - t) (ag c (fq c c.length 0 (-1)).toNat)); generalize c.set (fq c c.length 0 (-1)).toNat (fy (ao 6 c - t) (ag c (fq c c.length 0 (-1)).toNat)) = c' at *
      obtain ⟨b1, b2, b3, b4⟩ := CH t h0 k c' a2 (by omega); exact ⟨b1, has.trans b2, fun _ => b3 a4, fun _ => by omega⟩
  . rw [if_neg hs]; exact ⟨hg, .refl c, fun _ => by omega, fun _ => rfl⟩
theorem ED {t : Int} {c : List Dat} (hg : dD c) (h0 : 0 <= t) (h1 : t <= bt unD c) : dD (fj t c) /\ eH c (fj t c) /\ ao 6 (fj t c) = t := by
 obtain ⟨a1, a2, a3, a4⟩ := DP t (c.length + 2) c hg (zU t c); unfold fj; rw [show max t 0 = t by omega]; obtain ⟨b1, b2, b3, b4⟩ := CH t h0 (c.length + 2) (rn (c.length + 2) t c) a1 (by have := zO t (rn (c.length + 2) t c); rwa [a2.len] at this); refine ⟨b1, a2.trans b2, ?_⟩
 by_cases hs : ao 6 c <= t
 . have := a3 hs; rw [b4 (by omega)]; omega
 . rw [a4 (by omega)] at b3 ⊢; exact b3 (by omega)
structure Pf (d : bo) : Prop where
 year : 1 <= d.a.year /\ d.a.year <= 9000
 month : 1 <= d.a.month /\ d.a.month <= 12
 basis : 0 <= d.a.basis /\ d.a.basis <= 2
 fee : 0 <= d.b.fee /\ d.b.fee <= 5000
 aV : 0 <= d.b.aV /\ d.b.aV <= 1099511627776
 target : 0 <= d.b.target /\ d.b.target <= 10000
 advance : 0 <= d.b.advance /\ d.b.advance <= 1099511627776
 eL : 0 <= d.b.eL /\ d.b.eL <= 600
 oc : 0 <= d.b.oc /\ d.b.oc <= 100000
 ic : 0 <= d.b.ic /\ d.b.ic <= 100000
 late : 0 <= d.b.late /\ d.b.late <= 100000
 nQ : 0 <= d.b.nQ /\ d.b.nQ <= 100000
 clean : 0 <= d.b.clean /\ d.b.clean <= 100000
 Qt : ((cu d).getD (0, 0)).1 = ao 1 d.bg
 aY : 0 <= ao 1 d.bg /\ ao 1 d.bg <= 1099511627776
 OW : 1 <= d.bg.length /\ d.bg.length <= 64
 GH : ∀ x ∈ d.bg, 0 <= x.i 1 /\ x.i 1 <= 1099511627776
 ids : (d.bg.map fun x => x.i 0).Pairwise (· < ·)
 pos : ∀ x ∈ d.bg, 0 < x.i 0
 Qi : 1 <= d.notes.length /\ d.notes.length <= 8
 note : ∀ x ∈ d.notes, (0 <= x.i 0 /\ x.i 0 <= 7) /\ (1 <= x.i 1 /\ x.i 1 <= 1099511627776) /\ (0 <= x.i 2 /\ x.i 2 <= 5000)
 sumn : ao 1 d.notes <= ao 1 d.bg
 s0 : ev d.s0 = true
 s1 : ev d.s1 = true
 s2 : ev d.s2 = true
theorem v8 : ∀ (l : List Dat) (last all r : Int), 0 <= all -> jj last all l = some r -> r = all + ao 1 l /\ (all <= 1099511627776 -> r <= 1099511627776) /\ (∀ x ∈ l, 0 <= x.i 1 /\ x.i 1 <= 1099511627776 /\ last < x.i 0) /\ (l.map fun x => x.i 0).Pairwise (· < ·)
 | [], last, all, r, h0, h => by
  simp only [jj, zak] at h; subst h; exact ⟨by simp [ao], fun h => h, fun x hx => by simp at hx, List.Pairwise.nil⟩
 | d :: l, last, all, r, h0, h => by
  unfold jj at h
  split at h
  . cases h
  . rename_i hl
    split at h
    . rename_i hb; obtain ⟨h1, h2, h3, h4⟩ := v8 l _ _ _ (by omega) h; refine ⟨by simp only [ao]; omega, fun _ => h2 (by omega), fun x hx => ?_, ?_⟩
      . rcases za4.1 hx with rfl | hx
        . omega
        . have := h3 x hx; omega
      . simp only [zaN, List.pairwise_cons]; refine ⟨fun y hy => ?_, h4⟩; obtain ⟨x, hx, rfl⟩ := zbq.1 hy; exact (h3 x hx).2.2
    . cases h
theorem xg (most : Int) (hm : most <= 1099511627776) : ∀ (l : List Dat) (all r : Int), 0 <= all -> mh most all l = some r -> r = all + ao 1 l /\ (all <= most -> r <= most) /\ ∀ x ∈ l, (0 <= x.i 0 /\ x.i 0 <= 7) /\ (1 <= x.i 1 /\ x.i 1 <= 1099511627776) /\ (0 <= x.i 2 /\ x.i 2 <= 5000)
 | [], all, r, h0, h => by
  simp only [mh, zak] at h; subst h; exact ⟨by simp [ao], fun h => h, fun x hx => by simp at hx⟩
 | d :: l, all, r, h0, h => by
  unfold mh at h
  split at h
  . rename_i hb; obtain ⟨h1, h2, h3⟩ := xg most hm l _ _ (by omega) h; refine ⟨by simp only [ao]; omega, fun _ => h2 (by omega), fun x hx => ?_⟩; rcases za4.1 hx with rfl | hx
    . omega
    . exact h3 x hx
  . cases h
theorem fc {d : bo} (h : (cu d).isSome = true) : Pf d := by
 unfold cu at h
 split at h
 . cases h
 . rename_i p hp
   split at h
   . cases h
   . rename_i n hn
     split at h
     . rename_i hc; have hs : cu d = some (p, n) := by unfold cu; simp only [hp, hn, if_pos hc]
       simp only [zab, nz, zai] at hc; obtain ⟨⟨t1, t2, t3, t4, t5, t6, t7, t8, t9, t10, t11, t12, t13⟩, s0, s1, s2⟩ := hc; unfold eX at hp
       split at hp
       . rename_i hl; obtain ⟨l1, l2, l3, l4⟩ := v8 _ _ _ _ (by omega) hp; have l2 := l2 (by omega); unfold jM at hn
         split at hn
         . rename_i hnl; obtain ⟨n1, n2, n3⟩ := xg p (by omega) _ _ _ (by omega) hn; have h0 := fI 1 d.bg fun x hx => (l3 x hx).1
           have n2 := n2 (by omega); exact ⟨t6, t7, t8, t9, t10, t11, t12, t13, t1, t2, t3, t4, t5, by rw [hs]; show p = _; omega, by omega, hl, fun x hx => ⟨(l3 x hx).1, (l3 x hx).2.1⟩, l4, fun x hx => (l3 x hx).2.2, hnl, n3, by omega, s0, s1, s2⟩
         . cases hn
       . cases hp
     . cases h
def iu (T : ae) : bo := ⟨T.a, T.bg, T.notes, T.b, T.s0, T.s1, T.s2⟩
structure me (T : ae) : Prop where
 xG : (cu (iu T)).isSome = true
 O9 : T.tr.map (fun d => (d.i 0, d.i 1, d.i 2)) = T.notes.map (fun d => (d.i 0, d.i 1, d.i 2))
 IP : ∀ d ∈ T.tr, aI d = true /\ d.i 5 <= 1200000000000 * T.n.period
 ids : T.aY.map (fun d => d.i 0) = T.bg.map (fun d => d.i 0)
 GH : ∀ d ∈ T.aY, jw d
 bal : ao 1 T.aY + ao 2 T.aY + T.n.aK <= ao 1 T.bg
 lost : T.n.aD - T.n.aK = ao 2 T.aY
 Gi : 0 <= T.n.aK
 period : 0 <= T.n.period /\ T.n.period <= 600
 mode : 0 <= T.n.mode /\ T.n.mode <= 2
 bf : 0 <= T.n.bf /\ T.n.bf <= T.n.period
 fee : 0 <= T.n.fee /\ T.n.fee <= 1200000000000 * T.n.period
 out : 0 <= T.n.out /\ T.n.out <= T.b.advance
 res : 0 <= T.n.bl /\ T.n.bl <= T.n.rin /\ T.n.rin <= 1200000000000 * (T.n.period + 1)
 down : ao 6 T.tr <= ao 2 T.aY
section
variable (T : ae) (l : List Dat)
def cP : FI := aB l T.aY
def oM : Int := cW T.a T.n.period (ao 1 T.aY) T.b.fee
def E7 : Int := bt (fun d => cW T.a T.n.period (bk d) (d.i 2)) T.tr
def cTr : List Dat := T.tr.map (dX T.a T.n.period)
def cIn : Int := (cP T l).p + (cP T l).q + (cP T l).r
def lK : Int := T.n.fee + oM T + ao 5 (cTr T) - cIn T l
def fK : Int := fA (lK T l) (T.n.rin - T.n.bl)
def nX : Int := B9 (lK T l) (T.n.rin - T.n.bl) (T.b.advance - T.n.out)
def cN1 : ak := { T.n with fee := T.n.fee + oM T, bl := T.n.bl + fK T l }
def cX : bc := ⟨cIn T l + fK T l + nX T l, T.n.fee + oM T, T.n.out, min ((cP T l).p + (cP T l).r + (cP T l).l) (bt bk (cTr T)), tG T.b.target (ao 1 (cP T l).aY) (T.n.rin - (T.n.bl + fK T l))⟩
def di : bc × List Dat × List Dat := dE 0 (fi (iu T) T.n.mode) (cX T l) ((cTr T).map eJ)
def dh : ak × List Dat := cT (di T l).2.2 (cN1 T l) (cTr T)
def cN2 : ak := { (dh T l).1 with out := (dh T l).1.out + nX T l, aD := (dh T l).1.aD + (cP T l).l, aK := (dh T l).1.aK + (cP T l).r }
def Cw : List Dat := fj (cG (bt unD (dh T l).2) (ao 1 (cP T l).aY) (cN2 T l).aD (cN2 T l).aK) (dh T l).2
def Dl : Int × Int := dK T.n.mode T.n.bf T.b.eL (T.b.oc == 0 || bM (ao 1 (cP T l).aY) (bt bk (Cw T l)) T.b.oc) (T.b.ic == 0 || bM (min (cP T l).q 1099511627776) (min (E7 T) 1099511627776) T.b.ic)
 (T.b.late == 0 || cC (ct 2 (cP T l).aY + ct 3 (cP T l).aY) (ao 1 (cP T l).aY) T.b.late) (T.b.nQ == 0 || cC ((cN2 T l).aD - (cN2 T l).aK) (ao 1 T.bg) T.b.nQ)
def cN3 : ak := { cN2 T l with mode := (Dl T l).1, bf := (Dl T l).2, period := T.n.period + 1 }
end
structure Bg where
 ra : bj
 rb : aZ
 next : Int
 e : Int
 t : ae
 aM : List Dat
 notes : List Dat
def noR (e : Int) (T : ae) : Bg := ⟨⟨false, 0, 0, 0, 0, 0, 0, 0, 0, 0, 0⟩, ⟨0, 0, 0, 0, 0⟩, 0, e, T, [], []⟩
def Hf (T : ae) (l : List Dat) : Bg :=
 ⟨⟨false, T.n.period + 1, T.n.mode, (cP T l).p, (cP T l).q, (cP T l).l, (cP T l).r, fK T l, nX T l, oM T, E7 T⟩, ⟨(di T l).1.ar, ao 1 (cP T l).aY, (cN2 T l).rin - (cN2 T l).bl, (cN2 T l).out, (cN2 T l).fee⟩, (Dl T l).1, 0,
  { T with n := cN3 T l, aY := (cP T l).aY, tr := Cw T l }, (di T l).2.2, (Cw T l).map BJ⟩
def aT (T : ae) (l : List Dat) : Bg := bif T.n.oO then noR 5 T else bif decide (T.n.period >= 600) then noR 4 T else bif (cP T l).e != 0 then noR (cP T l).e T else Hf T l
theorem Fq (f : Dat -> Dat) {l : List Dat} {i : Nat} (h : i < l.length) : ag (l.map f) i = f (ag l i) := by
 rw [mw (by simpa using h), mw h, List.getElem_map]
theorem Af (a : aw) (p : Int) : ∀ l : List Dat, ao 5 (l.map (dX a p)) = ao 5 l + bt (fun d => cW a p (bk d) (d.i 2)) l /\ ao 6 (l.map (dX a p)) = ao 6 l /\ bt bk (l.map (dX a p)) = bt bk l
 | [] => ⟨rfl, rfl, rfl⟩
 | d :: l => by
  obtain ⟨h1, h2, h3⟩ := Af a p l; have e5 : (dX a p d).i 5 = d.i 5 + cW a p (bk d) (d.i 2) := rfl; have e6 : (dX a p d).i 6 = d.i 6 := rfl; have eb : bk (dX a p d) = bk d := rfl; simp only [zaN, ao, bt, h1, h2, h3, e5, e6, eb]
  and_intros <;> first | trivial | omega
theorem Df (f : Dat -> Int) (b : Int) : ∀ l : List Dat, (∀ d ∈ l, 0 <= f d /\ f d <= b) -> 0 <= bt f l /\ bt f l <= b * l.length
 | [], _ => by simp [bt]
 | d :: l, h => by
  have h1 := h d (by simp); have h2 := Df f b l fun x hx => h x (by simp [hx])
  simp only [bt, zac, zaA, zb2]; omega
theorem GS {n b : Int} (h1 : 0 <= n) (h2 : n <= 1099511627776) (h3 : 0 <= b) (h4 : b <= 10000) : mdV n b 10000 0 = n * b / 10000 /\ 0 <= mdV n b 10000 0 /\ mdV n b 10000 0 <= n := by
 have hm := zbR h4 h1; have hz := za0 h1 h3; have i := Pv (n := n) (b := b) (p := 10000) (h := 0) h1 (by omega) h3 (by omega) (by omega) (by omega) (by omega) (by omega) (by omega); rw [i.2.1, NP]; omega
theorem jk {l : List Dat} (h : ev l = true) : 1 <= l.length /\ l.length <= 16 := by
 simp only [ev, zab, zai] at h; omega
theorem E0 {T : ae} {i : Nat} (hi : i < (cTr T).length) : ag ((cTr T).map eJ) i = eJ (ag (cTr T) i) := Fq _ hi
section
variable {T : ae} {l : List Dat} (h : me T) (hp : T.n.period < 600) (he : (cP T l).e = 0)
include h
theorem wH : T.tr.length = T.notes.length := by
 have := congrArg List.length h.O9; simpa using this
theorem gZ : T.tr.length <= 8 /\ 1 <= T.tr.length := by
 have := (fc h.xG).Qi; rw [wH h]; exact ⟨this.2, this.1⟩
theorem zG : dD T.tr := ⟨by have := gZ h; omega, fun d hd => (h.IP d hd).1⟩
theorem ue : T.aY.length = T.bg.length /\ T.aY.length <= 64 := by
 have := congrArg List.length h.ids; have := (fc h.xG).OW; simp only [za1, iu] at *
 omega
theorem j9 : 0 <= ao 1 T.aY /\ 0 <= ao 2 T.aY /\ ao 1 T.aY + ao 2 T.aY + T.n.aK <= 1099511627776 := by
 have h1 := fH h.GH; have h2 := (fc h.xG).aY.2; have h3 := h.bal; have : ao 1 (iu T).bg = ao 1 T.bg := rfl; omega
theorem mT : (0 <= oM T /\ oM T <= 1200000000000) /\ dD (cTr T) /\ (∀ d ∈ cTr T, d.i 5 <= 1200000000000 * (T.n.period + 1)) /\ (E7 T = ao 5 (cTr T) - ao 5 T.tr /\ 0 <= E7 T /\ E7 T <= 1200000000000 * T.tr.length) /\ bt bk (cTr T) = bt bk T.tr /\ ao 6 (cTr T) = ao 6 T.tr := by
 have D := fc h.xG; obtain ⟨b1, b2, b3⟩ := j9 h; have r0 := h.Gi; have hs : ∀ d ∈ T.tr, 0 <= cW T.a T.n.period (bk d) (d.i 2) /\ cW T.a T.n.period (bk d) (d.i 2) <= 1200000000000 := fun d hd =>
  ot _ D.year.1 D.year.2 D.month.1 D.month.2 h.period.1 (by have := h.period.2; omega) (Eo (h.IP d hd).1).1 (Eo (h.IP d hd).1).2
 obtain ⟨a1, a2, a3⟩ := Af T.a T.n.period T.tr; have sd := Df (fun d => cW T.a T.n.period (bk d) (d.i 2)) 1200000000000 T.tr hs; have hsh : ∀ d ∈ cTr T, aI d = true /\ d.i 5 <= 1200000000000 * (T.n.period + 1) := fun d hd => by
  obtain ⟨x, hx, rfl⟩ := zbq.1 hd; obtain ⟨g, g5⟩ := h.IP x hx; have g' := ca g; have := hs x hx; have := h.period; have e5 : (dX T.a T.n.period x).i 5 = x.i 5 + cW T.a T.n.period (bk x) (x.i 2) := rfl; refine ⟨zah ?_, by omega⟩; rw [e5]; show (0 <= x.i 1 /\ x.i 1 <= 1099511627776 /\ 0 <= x.i 3 /\ x.i 4 = 0 /\ 0 <= x.i 6 /\ x.i 3 + x.i 6 <= x.i 1 /\ _); omega
 refine ⟨ot _ D.year.1 D.year.2 D.month.1 D.month.2 h.period.1 (by have := h.period.2; omega) b1 (by omega), ⟨by simp only [cTr, za1]; have := gZ h; omega, fun d hd => (hsh d hd).1⟩, fun d hd => (hsh d hd).2, ⟨?_, sd.1, sd.2⟩, a3, a2⟩; show bt _ T.tr = ao 5 (T.tr.map (dX T.a T.n.period)) - ao 5 T.tr; omega
theorem rU : (cTr T).length = T.tr.length := by simp [cTr]
include he
theorem rq : (∀ d ∈ (cP T l).aY, jw d) /\ (cP T l).aY.map (fun d => d.i 0) = T.aY.map (fun d => d.i 0) /\ ao 1 (cP T l).aY = ao 1 T.aY - (cP T l).p - (cP T l).l /\ ao 2 (cP T l).aY = ao 2 T.aY + (cP T l).l - (cP T l).r /\
 0 <= (cP T l).p /\ 0 <= (cP T l).l /\ 0 <= (cP T l).r /\ 0 <= (cP T l).q /\ (cP T l).q <= 70368744177664 := by
 have b := j9 h; have r0 := h.Gi; exact EL h.GH (by omega) he
theorem nk : (0 <= cIn T l /\ cIn T l <= 75000000000000) /\ (-1000000000000000 <= lK T l /\ lK T l <= 10000000000000000) /\ (0 <= fK T l /\ fK T l <= T.n.rin - T.n.bl /\ fK T l <= max (lK T l) 0) /\ (0 <= nX T l /\ nX T l <= T.b.advance - T.n.out) := by
 obtain ⟨p1, p2, p3, p4, p5, p6, p7, p8, p9⟩ := rq h he; obtain ⟨a1, a2, a3, a4, a5⟩ := mT h; have n1 := fH p1; have b := j9 h; have r0 := h.Gi; have hi : 0 <= cIn T l /\ cIn T l <= 75000000000000 := by unfold cIn; omega
 have s5 := (gT (cTr T) a2.2).2.1; have hl := gZ h; have f := h.fee; have p := h.period; have s5' : ao 5 (cTr T) <= 1200000000000 * 601 * 8 := by
  have := yX 5 (1200000000000 * 601) (cTr T) fun d hd => ⟨(ca (a2.2 d hd)).2.2.2.2.2.2.1, by have := a3 d hd; omega⟩
  have := rU h; omega
 have hn : -1000000000000000 <= lK T l /\ lK T l <= 10000000000000000 := by unfold lK; omega
 have r := h.res; have o := h.out; refine ⟨hi, hn, ?_, ?_⟩
 . unfold fK fA; omega
 . unfold nX B9; omega
theorem xP : m9 (cX T l) = true /\ aP ((cTr T).map eJ) = true /\ ((cX T l).room <= 1099511627776 /\ (cX T l).ar <= 800000000000000) := by
 obtain ⟨p1, p2, p3, p4, p5, p6, p7, p8, p9⟩ := rq h he; obtain ⟨a1, a2, a3, a4, a5⟩ := mT h; obtain ⟨c1, c2, c3, c4⟩ := nk h he; have n1 := fH p1; have b := j9 h; have D := fc h.xG; have r := h.res; have o := h.out; have hpe := h.period; have f := h.fee; have r0 := h.Gi; have sb := (gT (cTr T) a2.2).1; have tg : 0 <= T.b.target /\ T.b.target <= 10000 := D.target; have ad : T.b.advance <= 1099511627776 := D.advance.2; have g := GS (n := ao 1 (cP T l).aY) (b := T.b.target) n1.1 (by omega) tg.1 tg.2; refine ⟨zah ?_, sV (by rw [za1]; exact a2.1) fun d hd => ?_, ?_, ?_⟩
 . simp only [cX, tG]; omega
 . obtain ⟨x, hx, rfl⟩ := zbq.1 hd; have g := ca (a2.2 x hx); have gb := Eo (a2.2 x hx); simp only [jR, eJ, zab, eA, iC]; clear p1 p2 p3 p4 p5 p6 p7 p8 p9 a1 a3 a4 a5 c1 c2 c3 c4 D r o f r0 sb tg ad b n1 hpe; exact ⟨rfl, zah (by omega)⟩
 . simp only [cX, tG]; omega
 . simp only [cX]; omega
end
section
variable {T : ae} {l : List Dat} (h : me T) (hp : T.n.period < 600) (he : (cP T l).e = 0)
include h
theorem qN : ev (fi (iu T) T.n.mode) = true := by
 have D := fc h.xG; have m := h.mode; unfold fi
 by_cases m0 : T.n.mode = 0
 . rw [if_pos m0]; exact D.s0
 rw [if_neg m0]
 by_cases m1 : T.n.mode = 1
 . rw [if_pos m1]; exact D.s1
 rw [if_neg m1, if_pos (by omega)]; exact D.s2
include he
theorem wa : Kept (cX T l) ((cTr T).map eJ) (di T l).2.2 (di T l).1 (di T l).2.1 /\ (∀ d ∈ (di T l).2.2, GD T.tr.length 0 (fi (iu T) T.n.mode) d) /\ m9 (di T l).1 = true /\ aP (di T l).2.1 = true /\ (di T l).2.2.length <= 128000 := by
 obtain ⟨x1, x2, x3, x4⟩ := xP h he; have k := vO (fi (iu T) T.n.mode) 0 (cX T l) _ x1 x2; have o := CW (fi (iu T) T.n.mode) 0 (cX T l) _ x1 x2; have sl := jk (qN h); have e : ((cTr T).map eJ).length = T.tr.length := by rw [za1, rU h]
 rw [e] at k; exact ⟨k.1, k.2.1, o.1, o.2.1, by have := o.2.2.2; unfold di; omega⟩
theorem tD : (∀ d ∈ (di T l).2.2, 1 <= d.i 3 /\ ((d.i 1 = 1 \/ d.i 1 = 2 \/ d.i 1 = 6) \/ (0 <= d.i 2 /\ d.i 2 < (T.tr.length : Int)))) /\ ao 3 (di T l).2.2 <= 800000000000000 /\
 (0 <= bm kF (di T l).2.2 /\ bm kF (di T l).2.2 <= T.n.fee + oM T) /\ (0 <= bm kR (di T l).2.2 /\ bm kR (di T l).2.2 <= T.n.out) /\ (0 <= bm kT (di T l).2.2 /\ bm kT (di T l).2.2 <= (cX T l).room) /\
 ∀ i, i < T.tr.length -> (0 <= bm (toB i) (di T l).2.2 /\ bm (toB i) (di T l).2.2 <= bk (ag (cTr T) i)) /\ (0 <= bm (toI i) (di T l).2.2 /\ bm (toI i) (di T l).2.2 <= (ag (cTr T) i).i 5) := by
 obtain ⟨k, p, g, c, _⟩ := wa h he; obtain ⟨x1, x2, x3, x4⟩ := xP h he; have g := rT g; have hpp : ∀ d ∈ (di T l).2.2, 1 <= d.i 3 /\ ((d.i 1 = 1 \/ d.i 1 = 2 \/ d.i 1 = 6) \/ (0 <= d.i 2 /\ d.i 2 < (T.tr.length : Int))) := fun d hd => by
  obtain ⟨_, _, h1, h2, h3, h4⟩ := p d hd; refine ⟨h2, ?_⟩; rw [<- h1] at h4
  by_cases hn : d.i 2 < 0
  . exact .inl (h4.1 hn)
  . exact .inr (by omega)
 have n0 := fun f => mg f (di T l).2.2 fun d hd => by have := (hpp d hd).1; omega
 have kf := k.fee; have kr := k.bG; have kt := k.room; have kc := k.ar; have e1 : (cX T l).fee = T.n.fee + oM T := rfl; have e2 : (cX T l).bG = T.n.out := rfl; refine ⟨hpp, by omega, ⟨n0 _, by omega⟩, ⟨n0 _, by omega⟩, ⟨n0 _, by omega⟩, fun i hi => ?_⟩; have hl := rU h; have hr := k.row i (by rw [za1]; omega); rw [E0 (by omega)] at hr; have hc := cm ((bK c).2 _ (uq (l := (di T l).2.1) (j := i) (by rw [k.len, za1]; omega))); rw [hr] at hc; have b1 : (eJ (ag (cTr T) i)).i 1 = bk (ag (cTr T) i) := rfl; have b2 : (eJ (ag (cTr T) i)).i 2 = (ag (cTr T) i).i 5 := rfl; simp only [eA, iC, b1, b2] at hc; exact ⟨⟨n0 _, by omega⟩, ⟨n0 _, by omega⟩⟩
theorem kG : (dh T l).1 = { T.n with fee := T.n.fee + oM T - bm kF (di T l).2.2, out := T.n.out - bm kR (di T l).2.2, rin := T.n.rin + bm kT (di T l).2.2, bl := T.n.bl + fK T l } /\ (dh T l).2.length = T.tr.length /\ dD (dh T l).2 /\
 (∀ i, i < T.tr.length -> rE (ag (cTr T) i) (ag (dh T l).2 i) (bm (toB i) (di T l).2.2) (bm (toI i) (di T l).2.2)) /\ wo (di T l).2.2 (cN1 T l) (cTr T) = true := by
 obtain ⟨s1, s2, s3, s4, s5, s6⟩ := tD h he; obtain ⟨k, p, g, c, pl⟩ := wa h he; obtain ⟨a1, a2, a3, a4, a5⟩ := mT h; obtain ⟨c1, c2, c3, c4⟩ := nk h he; have hl := rU h; obtain ⟨d1, d2, d3⟩ := w7 (di T l).2.2 (cN1 T l) (cTr T) (fun d hd => by have := (s1 d hd).1; omega) (fun d hd => by rw [hl]; exact (s1 d hd).2) (fun i hi => by have := s6 i (by omega); omega); have f := h.fee; have o := h.out; have r := h.res; have hpe := h.period; have ad : T.b.advance <= 1099511627776 := (fc h.xG).advance.2; have hg : dD (dh T l).2 := by
  have hdl : (dh T l).2.length = (cTr T).length := d2; refine ⟨by have := a2.1; omega, fun d hd => ?_⟩; obtain ⟨i, hi, rfl⟩ := oB hd; obtain ⟨_, e1, _, e3, e4, e5, e6⟩ := d3 i (by omega); have := s6 i (by omega); have gi := ca (cq (c := cTr T) (i := i) (by omega) a2.2); have e1' : (ag (dh T l).2 i).i 1 = (ag (cTr T) i).i 1 := e1; have e3' : (ag (dh T l).2 i).i 3 = (ag (cTr T) i).i 3 + bm (toB i) (di T l).2.2 := e3; have e4' : (ag (dh T l).2 i).i 4 = (ag (cTr T) i).i 4 := e4; have e5' : (ag (dh T l).2 i).i 5 = (ag (cTr T) i).i 5 - bm (toI i) (di T l).2.2 := e5; have e6' : (ag (dh T l).2 i).i 6 = (ag (cTr T) i).i 6 := e6; refine zah ?_
  rw [e1', e3', e4', e5', e6']; unfold bk at this; omega
 refine ⟨d1, d2.trans hl, hg, fun i hi => d3 i (by omega), ?_⟩; simp only [wo, zab, zai, zan]; refine ⟨by omega, fun d hd => ?_, ⟨by omega, ?_⟩, a2⟩
 . have := s1 d hd; simp only [EB, zab, zbg, zai, hl]; exact ⟨by omega, this.2⟩
 . simp only [cN1]; omega
theorem Ah : cN2 T l = { T.n with fee := T.n.fee + oM T - bm kF (di T l).2.2, out := T.n.out - bm kR (di T l).2.2 + nX T l, rin := T.n.rin + bm kT (di T l).2.2, bl := T.n.bl + fK T l, aD := T.n.aD + (cP T l).l, aK := T.n.aK + (cP T l).r } := by
 unfold cN2; rw [(kG h he).1]
theorem wN : 0 <= cG (bt unD (dh T l).2) (ao 1 (cP T l).aY) (cN2 T l).aD (cN2 T l).aK /\ cG (bt unD (dh T l).2) (ao 1 (cP T l).aY) (cN2 T l).aD (cN2 T l).aK <= bt unD (dh T l).2 /\
 cG (bt unD (dh T l).2) (ao 1 (cP T l).aY) (cN2 T l).aD (cN2 T l).aK <= ao 2 (cP T l).aY /\ (cN2 T l).aD - (cN2 T l).aK = ao 2 (cP T l).aY := by
 obtain ⟨p1, p2, p3, p4, p5, p6, p7, p8, p9⟩ := rq h he; have g := (kG h he).2.2.1; have u := (gT _ g.2).2.2.2.1; have t := tn (bt unD (dh T l).2) (ao 1 (cP T l).aY) (cN2 T l).aD (cN2 T l).aK; have n1 := fH p1; have hl := h.lost; have e : (cN2 T l).aD - (cN2 T l).aK = ao 2 (cP T l).aY := by rw [Ah h he]; simp only; omega
 omega
theorem EZ : dD (Cw T l) /\ eH (dh T l).2 (Cw T l) /\ ao 6 (Cw T l) = cG (bt unD (dh T l).2) (ao 1 (cP T l).aY) (cN2 T l).aD (cN2 T l).aK := by
 have t := wN h he; exact ED (kG h he).2.2.1 t.1 t.2.1
end
def sE (T : ae) : Bool := @decide (me T) (Classical.propDecidable _)
theorem sC {T : ae} : sE T = true ↔ me T := by unfold sE; simp
theorem Dg {l : List Dat} (h : ∀ d ∈ l, jw d) (hl : l.length <= 1000) : (decide (l.length <= 1000) && l.all cU) = true := by
 rw [zab, zan]; exact ⟨zah hl, fun d hd => zah (by have := h d hd; unfold jw at this; omega)⟩
theorem Ca {T : ae} (h : me T) : T.bg.length < 1000000 /\ T.notes.length < 1000000 /\ T.s0.length < 1000000 /\ T.s1.length < 1000000 /\ T.s2.length < 1000000 /\ T.aY.length < 1000000 /\ T.tr.length < 1000000 := by
 have D := fc h.xG; have h0 := jk D.s0; have h1 := jk D.s1; have h2 := jk D.s2; have h3 := ue h; have h4 := gZ h; have h5 := wH h; have : (iu T).bg = T.bg := rfl; have := D.OW; simp only [iu] at *
 omega
theorem AL {T : ae} (h : me T) : (fi (iu T) T.n.mode).length <= 16 := (jk (qN h)).2
def N11 : aC := ⟨T40.tab, 11, ⟨[.np 0 0 0, .ai (sB 6)], cd 0, 0⟩, ⟨[.agg [.bool, .int .i64, .int .i64, .int .i64, .int .i64, .int .i64, .int .i64, .int .i64, .int .i64, .int .i64, .int .i64, .buf 17 4, .int .i64, .int .i64, .int .i64, .int .i64, .int .i64, .buf 18 3, .int .i64], .int .i64], [.cells [.int .i64, .int .i64, .int .i64, .buf 9 2, .buf 10 3, .int .i64, .int .i64, .int .i64, .int .i64, .int .i64, .int .i64, .int .i64, .int .i64, .int .i64, .int .i64, .buf 11 2, .buf 12 2, .buf 13 2, .ptr 14 0 0, .buf 16 7, .int .i64, .int .i64, .int .i64, .int .i64, .int .i64, .int .i64, .int .i64, .int .i64, .int .i64, .bool], .gone, .gone, .gone, .gone, .gone, .gone, .gone, .gone, .ai (sI 2), .ai (sI 3), .ai (sI 2), .ai (sI 2), .ai (sI 2), .cells [.buf 15 5], .ai (sB 4), .ai (sI 7), .ai (sI 4), .ai (sI 3)], 0⟩, []⟩
def t11 (m : Nat) : Int × List Dat × aw × az × ak × List Dat × List Dat × List Dat × List Dat × List Dat × List Dat × List Dat -> Option (List Un) := fun (a0, a1, a2, a3, a4, a5, a6, a7, a8, a9, a10, a11) =>
 chk (decide (0 <= a0)) <|
 bif a4.oO then
 some (Uns.enc ((⟨false, 0, 0, 0, 0, 0, 0, 0, 0, 0, 0⟩ : bj) : bj) ++ Uns.enc ((⟨0, 0, 0, 0, 0⟩ : aZ) : aZ) ++ [.i 0, .i 5] ++ Uns.enc (a2 : aw) ++ Uns.enc (a3 : az) ++ Uns.enc (a4 : ak) ++ [.d a5, .d a6, .d a7, .d a8, .d a9, .d a10, .d a11, .d ([]), .d ([])])
 else
 chk (decide (0 <= a0)) <|
 bif (decide (a4.period >= 600)) then
 some (Uns.enc ((⟨false, 0, 0, 0, 0, 0, 0, 0, 0, 0, 0⟩ : bj) : bj) ++ Uns.enc ((⟨0, 0, 0, 0, 0⟩ : aZ) : aZ) ++ [.i 0, .i 4] ++ Uns.enc (a2 : aw) ++ Uns.enc (a3 : az) ++ Uns.enc (a4 : ak) ++ [.d a5, .d a6, .d a7, .d a8, .d a9, .d a10, .d a11, .d ([]), .d ([])])
 else
 chk (decide (0 <= a0) && decide (a5.length < 1000000 /\ a6.length < 1000000 /\ a7.length < 1000000 /\ a8.length < 1000000 /\ a9.length < 1000000 /\ a10.length < 1000000 /\ a11.length < 1000000)) <|
 chk (decide (0 < ([.r [.r a10]] : List Dat).length) && (decide (((ag ([.r [.r a10]] : List Dat) 0).d 0).length <= 1000) && ((ag ([.r [.r a10]] : List Dat) 0).d 0).all cU)) <|
 lt ((ao 1 ((ag ([.r [.r a10]] : List Dat) 0).d 0)) : Int) fun x2 =>
 chk (decide (a10.length < 1000000)) <|
 bif (((aB a1 a10).e) != 0) then
 some (Uns.enc ((⟨false, 0, 0, 0, 0, 0, 0, 0, 0, 0, 0⟩ : bj) : bj) ++ Uns.enc ((⟨0, 0, 0, 0, 0⟩ : aZ) : aZ) ++ [.i 0, .i ((aB a1 a10).e)] ++ Uns.enc (a2 : aw) ++ Uns.enc (a3 : az) ++ Uns.enc (a4 : ak) ++ [.d a5, .d a6, .d a7, .d a8, .d a9, .d a10, .d a11, .d ([]), .d ([])])
 else
 chk (decide ((1 <= a2.year /\ a2.year <= 9000 /\ 1 <= a2.month /\ a2.month <= 12) /\ (0 <= a4.period /\ a4.period <= 600) /\ (0 <= a4.fee /\ a4.fee <= 1125899906842624) /\ (0 <= x2 /\ x2 <= 1099511627776)) && (decide (a11.length <= 1000) && a11.all aI)) <|
 lt ((bt (fun d => cW a2 a4.period (bk d) (d.i 2)) a11) : Int) fun x4 =>
 lt (({ a4 with fee := a4.fee + cW a2 a4.period x2 a3.fee }) : ak) fun g5 =>
 chk (decide (0 <= 0) && (decide ((a11.map (dX a2 a4.period)).length <= 1000) && (a11.map (dX a2 a4.period)).all aI)) <|
 lt ((w64 (g5.fee + (ao 5 (a11.map (dX a2 a4.period))))) : Int) fun x6 =>
 lt ((w64 ((w64 ((w64 ((w64 (((aB a1 a10).p) + ((aB a1 a10).q))) + ((aB a1 a10).r))) + 0)) + 0)) : Int) fun x9 =>
 chk (decide (0 <= 0) && decide ((-1152921504606846976 <= (w64 (x6 - x9)) /\ (w64 (x6 - x9)) <= 1152921504606846976) /\ ((0 : Int) <= g5.bl /\ g5.bl <= g5.rin /\ g5.rin <= (1152921504606846976 : Int)) /\ (0 <= g5.out /\ g5.out <= 1152921504606846976) /\ (0 <= a3.advance /\ a3.advance <= 1152921504606846976))) <|
 lt ((fA (w64 (x6 - x9)) (g5.rin - g5.bl)) : Int) fun x10 =>
 lt ((B9 (w64 (x6 - x9)) (g5.rin - g5.bl) (a3.advance - g5.out)) : Int) fun x11 =>
 lt (({ g5 with bl := g5.bl + fA (w64 (x6 - x9)) (g5.rin - g5.bl) }) : ak) fun g12 =>
 lt ((w64 ((w64 ((w64 ((w64 (((aB a1 a10).p) + ((aB a1 a10).q))) + ((aB a1 a10).r))) + x10)) + x11)) : Int) fun x15 =>
 chk (decide (((0 <= ((aB a1 a10).p) /\ ((aB a1 a10).p) <= 1125899906842624) /\ (0 <= ((aB a1 a10).l) /\ ((aB a1 a10).l) <= 1125899906842624) /\ (0 <= ((aB a1 a10).r) /\ ((aB a1 a10).r) <= 1125899906842624)) /\ (0 <= g12.bl /\ g12.bl <= g12.rin /\ g12.rin <= 1152921504606846976)) && ((decide (((aB a1 a10).aY).length <= 1000) && ((aB a1 a10).aY).all cU) && (decide ((a11.map (dX a2 a4.period)).length <= 1000) && (a11.map (dX a2 a4.period)).all aI))) <|
 lt ((min (((aB a1 a10).p) + ((aB a1 a10).r) + ((aB a1 a10).l)) (bt bk (a11.map (dX a2 a4.period)))) : Int) fun x16 =>
 lt ((tG a3.target (ao 1 ((aB a1 a10).aY)) (g12.rin - g12.bl)) : Int) fun x17 =>
 chk (decide ((⟨a2, a5, a6, a3, a7, a8, a9⟩ : bo).s0.length < 1000000 /\ (⟨a2, a5, a6, a3, a7, a8, a9⟩ : bo).s1.length < 1000000 /\ (⟨a2, a5, a6, a3, a7, a8, a9⟩ : bo).s2.length < 1000000)) <|
 lt ((fi (⟨a2, a5, a6, a3, a7, a8, a9⟩ : bo) g12.mode) : List Dat) fun l18 =>
 chk (decide (l18.length <= 1000000) && (m9 ⟨x15, g12.fee, g12.out, x16, x17⟩ && aP ((a11.map (dX a2 a4.period)).map eJ))) <|
 lt (((dE 0 l18 ⟨x15, g12.fee, g12.out, x16, x17⟩ ((a11.map (dX a2 a4.period)).map eJ)).2.2) : List Dat) fun l24 =>
 chk (decide (0 <= 0) && wo l24 g12 (a11.map (dX a2 a4.period))) <|
 lt (((cT l24 g12 (a11.map (dX a2 a4.period))).1).out : Int) fun x26 =>
 chk (decide (((0 <= ((aB a1 a10).p) /\ ((aB a1 a10).p) <= 1125899906842624) /\ (0 <= ((aB a1 a10).l) /\ ((aB a1 a10).l) <= 1125899906842624) /\ (0 <= ((aB a1 a10).r) /\ ((aB a1 a10).r) <= 1125899906842624)) /\ (0 <= ({ ((cT l24 g12 (a11.map (dX a2 a4.period))).1) with out := (w64 (x26 + x11)) } : ak).aD /\ ({ ((cT l24 g12 (a11.map (dX a2 a4.period))).1) with out := (w64 (x26 + x11)) } : ak).aD <= 1125899906842624) /\ (0 <= ({ ((cT l24 g12 (a11.map (dX a2 a4.period))).1) with out := (w64 (x26 + x11)) } : ak).aK /\ ({ ((cT l24 g12 (a11.map (dX a2 a4.period))).1) with out := (w64 (x26 + x11)) } : ak).aK <= 1125899906842624)) && ((decide (((aB a1 a10).aY).length <= 1000) && ((aB a1 a10).aY).all cU) && (decide (((cT l24 g12 (a11.map (dX a2 a4.period))).2).length <= 1000) && ((cT l24 g12 (a11.map (dX a2 a4.period))).2).all aI))) <|
 lt (({ ({ ((cT l24 g12 (a11.map (dX a2 a4.period))).1) with out := (w64 (x26 + x11)) } : ak) with aD := ({ ((cT l24 g12 (a11.map (dX a2 a4.period))).1) with out := (w64 (x26 + x11)) } : ak).aD + ((aB a1 a10).l), aK := ({ ((cT l24 g12 (a11.map (dX a2 a4.period))).1) with out := (w64 (x26 + x11)) } : ak).aK + ((aB a1 a10).r) }) : ak) fun g27 =>
 lt ((fj (cG (bt unD ((cT l24 g12 (a11.map (dX a2 a4.period))).2)) (ao 1 ((aB a1 a10).aY)) (({ ((cT l24 g12 (a11.map (dX a2 a4.period))).1) with out := (w64 (x26 + x11)) } : ak).aD + ((aB a1 a10).l)) (({ ((cT l24 g12 (a11.map (dX a2 a4.period))).1) with out := (w64 (x26 + x11)) } : ak).aK + ((aB a1 a10).r))) ((cT l24 g12 (a11.map (dX a2 a4.period))).2)) : List Dat) fun l28 =>
 chk (decide (0 <= 0) && ((decide (((aB a1 a10).aY).length <= 1000) && ((aB a1 a10).aY).all cU) && (decide (l28.length <= 1000) && l28.all aI))) <|
 lt ((a3.oc == 0 || bM (ao 1 ((aB a1 a10).aY)) (bt bk l28) a3.oc) : Bool) fun x32 =>
 lt ((a3.ic == 0 || bM (min ((aB a1 a10).q) 1099511627776) (min x4 1099511627776) a3.ic) : Bool) fun x33 =>
 lt ((a3.late == 0 || cC (ct 2 ((aB a1 a10).aY) + ct 3 ((aB a1 a10).aY)) (ao 1 ((aB a1 a10).aY)) a3.late) : Bool) fun x34 =>
 lt ((a3.nQ == 0 || cC (w64 (g27.aD - g27.aK)) (((cu (⟨a2, a5, a6, a3, a7, a8, a9⟩ : bo)).getD (0, 0)).1) a3.nQ) : Bool) fun x35 =>
 chk (decide (0 <= g27.bf /\ g27.bf <= 1000000)) <|
 chk (decide (0 <= a0)) <|
 chk (decide (0 <= a0) && (decide (0 <= ({ g27 with mode := (dK g27.mode g27.bf a3.eL x32 x33 x34 x35).1, bf := (dK g27.mode g27.bf a3.eL x32 x33 x34 x35).2, period := (w64 (g27.period + 1)) } : ak).bl /\ ({ g27 with mode := (dK g27.mode g27.bf a3.eL x32 x33 x34 x35).1, bf := (dK g27.mode g27.bf a3.eL x32 x33 x34 x35).2, period := (w64 (g27.period + 1)) } : ak).bl <= ({ g27 with mode := (dK g27.mode g27.bf a3.eL x32 x33 x34 x35).1, bf := (dK g27.mode g27.bf a3.eL x32 x33 x34 x35).2, period := (w64 (g27.period + 1)) } : ak).rin /\ ({ g27 with mode := (dK g27.mode g27.bf a3.eL x32 x33 x34 x35).1, bf := (dK g27.mode g27.bf a3.eL x32 x33 x34 x35).2, period := (w64 (g27.period + 1)) } : ak).rin <= 1152921504606846976) && ((decide (((aB a1 a10).aY).length <= 1000) && ((aB a1 a10).aY).all cU) && (decide (l28.length <= 1000) && l28.all aI)))) <|
 some (Uns.enc ((⟨false, (w64 (a4.period + 1)), a4.mode, (aB a1 a10).p, (aB a1 a10).q, (aB a1 a10).l, (aB a1 a10).r, x10, x11, (cW a2 a4.period x2 a3.fee), x4⟩ : bj) : bj) ++ Uns.enc ((⟨(⟨((dE 0 l18 ⟨x15, g12.fee, g12.out, x16, x17⟩ ((a11.map (dX a2 a4.period)).map eJ)).1.ar), 0, 0, 0, 0⟩ : aZ).bw, ao 1 ((aB a1 a10).aY), ({ g27 with mode := (dK g27.mode g27.bf a3.eL x32 x33 x34 x35).1, bf := (dK g27.mode g27.bf a3.eL x32 x33 x34 x35).2, period := (w64 (g27.period + 1)) } : ak).rin - ({ g27 with mode := (dK g27.mode g27.bf a3.eL x32 x33 x34 x35).1, bf := (dK g27.mode g27.bf a3.eL x32 x33 x34 x35).2, period := (w64 (g27.period + 1)) } : ak).bl, ({ g27 with mode := (dK g27.mode g27.bf a3.eL x32 x33 x34 x35).1, bf := (dK g27.mode g27.bf a3.eL x32 x33 x34 x35).2, period := (w64 (g27.period + 1)) } : ak).out, ({ g27 with mode := (dK g27.mode g27.bf a3.eL x32 x33 x34 x35).1, bf := (dK g27.mode g27.bf a3.eL x32 x33 x34 x35).2, period := (w64 (g27.period + 1)) } : ak).fee⟩ : aZ) : aZ) ++ [.i (({ g27 with mode := (dK g27.mode g27.bf a3.eL x32 x33 x34 x35).1, bf := (dK g27.mode g27.bf a3.eL x32 x33 x34 x35).2, period := (w64 (g27.period + 1)) } : ak).mode), .i 0] ++ Uns.enc (a2 : aw) ++ Uns.enc (a3 : az) ++ Uns.enc (({ g27 with mode := (dK g27.mode g27.bf a3.eL x32 x33 x34 x35).1, bf := (dK g27.mode g27.bf a3.eL x32 x33 x34 x35).2, period := (w64 (g27.period + 1)) } : ak) : ak) ++ [.d a5, .d a6, .d a7, .d a8, .d a9, .d ((aB a1 a10).aY), .d l28, .d l24, .d (l28.map BJ)])
def f11 : Int × List Dat × aw × az × ak × List Dat × List Dat × List Dat × List Dat × List Dat × List Dat × List Dat -> Bool × List Un := fun (a0, a1, a2, a3, a4, a5, a6, a7, a8, a9, a10, a11) => (decide (0 <= a0) && sE (⟨a2, a3, a4, a5, a6, a7, a8, a9, a10, a11⟩ : ae), Uns.enc (((aT (⟨a2, a3, a4, a5, a6, a7, a8, a9, a10, a11⟩ : ae) a1).ra) : bj) ++ Uns.enc (((aT (⟨a2, a3, a4, a5, a6, a7, a8, a9, a10, a11⟩ : ae) a1).rb) : aZ) ++ [.i ((aT (⟨a2, a3, a4, a5, a6, a7, a8, a9, a10, a11⟩ : ae) a1).next), .i ((aT (⟨a2, a3, a4, a5, a6, a7, a8, a9, a10, a11⟩ : ae) a1).e)] ++ Uns.enc (((aT (⟨a2, a3, a4, a5, a6, a7, a8, a9, a10, a11⟩ : ae) a1).t.a) : aw) ++ Uns.enc (((aT (⟨a2, a3, a4, a5, a6, a7, a8, a9, a10, a11⟩ : ae) a1).t.b) : az) ++ Uns.enc (((aT (⟨a2, a3, a4, a5, a6, a7, a8, a9, a10, a11⟩ : ae) a1).t.n) : ak) ++ [.d ((aT (⟨a2, a3, a4, a5, a6, a7, a8, a9, a10, a11⟩ : ae) a1).t.bg), .d ((aT (⟨a2, a3, a4, a5, a6, a7, a8, a9, a10, a11⟩ : ae) a1).t.notes), .d ((aT (⟨a2, a3, a4, a5, a6, a7, a8, a9, a10, a11⟩ : ae) a1).t.s0), .d ((aT (⟨a2, a3, a4, a5, a6, a7, a8, a9, a10, a11⟩ : ae) a1).t.s1), .d ((aT (⟨a2, a3, a4, a5, a6, a7, a8, a9, a10, a11⟩ : ae) a1).t.s2), .d ((aT (⟨a2, a3, a4, a5, a6, a7, a8, a9, a10, a11⟩ : ae) a1).t.aY), .d ((aT (⟨a2, a3, a4, a5, a6, a7, a8, a9, a10, a11⟩ : ae) a1).t.tr), .d ((aT (⟨a2, a3, a4, a5, a6, a7, a8, a9, a10, a11⟩ : ae) a1).aM), .d ((aT (⟨a2, a3, a4, a5, a6, a7, a8, a9, a10, a11⟩ : ae) a1).notes)])
set_option maxHeartbeats 4000000 in
theorem MZ (a0 : Int) (a1 : List Dat) (a2 : aw) (a3 : az) (a4 : ak) (a5 : List Dat) (a6 : List Dat) (a7 : List Dat) (a8 : List Dat) (a9 : List Dat) (a10 : List Dat) (a11 : List Dat) (hc : (decide (0 <= a0) && sE (⟨a2, a3, a4, a5, a6, a7, a8, a9, a10, a11⟩ : ae)) = true) : ∃ m, t11 m (a0, a1, a2, a3, a4, a5, a6, a7, a8, a9, a10, a11) = some (Uns.enc (((aT (⟨a2, a3, a4, a5, a6, a7, a8, a9, a10, a11⟩ : ae) a1).ra) : bj) ++ Uns.enc (((aT (⟨a2, a3, a4, a5, a6, a7, a8, a9, a10, a11⟩ : ae) a1).rb) : aZ) ++ [.i ((aT (⟨a2, a3, a4, a5, a6, a7, a8, a9, a10, a11⟩ : ae) a1).next), .i ((aT (⟨a2, a3, a4, a5, a6, a7, a8, a9, a10, a11⟩ : ae) a1).e)] ++ Uns.enc (((aT (⟨a2, a3, a4, a5, a6, a7, a8, a9, a10, a11⟩ : ae) a1).t.a) : aw) ++ Uns.enc (((aT (⟨a2, a3, a4, a5, a6, a7, a8, a9, a10, a11⟩ : ae) a1).t.b) : az) ++ Uns.enc (((aT (⟨a2, a3, a4, a5, a6, a7, a8, a9, a10, a11⟩ : ae) a1).t.n) : ak) ++ [.d ((aT (⟨a2, a3, a4, a5, a6, a7, a8, a9, a10, a11⟩ : ae) a1).t.bg), .d ((aT (⟨a2, a3, a4, a5, a6, a7, a8, a9, a10, a11⟩ : ae) a1).t.notes), .d ((aT (⟨a2, a3, a4, a5, a6, a7, a8, a9, a10, a11⟩ : ae) a1).t.s0), .d ((aT (⟨a2, a3, a4, a5, a6, a7, a8, a9, a10, a11⟩ : ae) a1).t.s1), .d ((aT (⟨a2, a3, a4, a5, a6, a7, a8, a9, a10, a11⟩ : ae) a1).t.s2), .d ((aT (⟨a2, a3, a4, a5, a6, a7, a8, a9, a10, a11⟩ : ae) a1).t.aY), .d ((aT (⟨a2, a3, a4, a5, a6, a7, a8, a9, a10, a11⟩ : ae) a1).t.tr), .d ((aT (⟨a2, a3, a4, a5, a6, a7, a8, a9, a10, a11⟩ : ae) a1).aM), .d ((aT (⟨a2, a3, a4, a5, a6, a7, a8, a9, a10, a11⟩ : ae) a1).notes)]) := by
 have h0 := zaj (zaq.1 hc).1; have h := sC.1 (zaq.1 hc).2; clear hc; have hl := Ca h; have hpl := ue h; have hts := gZ h; have hpe : 0 <= a4.period /\ a4.period <= 600 := h.period; have hpa : 0 <= a4.bf /\ a4.bf <= a4.period := h.bf; refine ⟨0, ?_⟩; unfold t11; cases ho : a4.oO with
 | true =>
  have hC : aT (⟨a2, a3, a4, a5, a6, a7, a8, a9, a10, a11⟩ : ae) a1 = noR 5 (⟨a2, a3, a4, a5, a6, a7, a8, a9, a10, a11⟩ : ae) := by unfold aT; rw [show ((⟨a2, a3, a4, a5, a6, a7, a8, a9, a10, a11⟩ : ae)).n.oO = true from ho]; rfl
  rw [hC]; dsimp only; exact ba (zah h0) (xi ho rfl)
 | false =>
 dsimp only; refine ba (zah h0) (iM ho (ba (zah h0) ?_))
 by_cases hp : a4.period >= 600
 . have hC : aT (⟨a2, a3, a4, a5, a6, a7, a8, a9, a10, a11⟩ : ae) a1 = noR 4 (⟨a2, a3, a4, a5, a6, a7, a8, a9, a10, a11⟩ : ae) := by unfold aT; rw [show ((⟨a2, a3, a4, a5, a6, a7, a8, a9, a10, a11⟩ : ae)).n.oO = false from ho, sf, bJ hp]
   rw [hC, bJ hp]; rfl
 rw [aF hp]; refine ba (zaq.2 ⟨zah h0, zah hl⟩) ?_
 refine ba (zaq.2 ⟨rfl, Dg (l := a10) h.GH (zaE hpl.2 (by decide))⟩) ?_
 refine j5 fun x2 e2 => ?_
 obtain rfl : x2 = ao 1 a10 := e2; refine ba (zah hl.2.2.2.2.2.1) ?_
 by_cases he : (cP (⟨a2, a3, a4, a5, a6, a7, a8, a9, a10, a11⟩ : ae) a1).e = 0
 case neg =>
  have hC : aT (⟨a2, a3, a4, a5, a6, a7, a8, a9, a10, a11⟩ : ae) a1 = noR (cP (⟨a2, a3, a4, a5, a6, a7, a8, a9, a10, a11⟩ : ae) a1).e (⟨a2, a3, a4, a5, a6, a7, a8, a9, a10, a11⟩ : ae) := by unfold aT; rw [show ((⟨a2, a3, a4, a5, a6, a7, a8, a9, a10, a11⟩ : ae)).n.oO = false from ho, sf, aF hp, m5 he]
  rw [hC]; exact m5 he
 have hC : aT (⟨a2, a3, a4, a5, a6, a7, a8, a9, a10, a11⟩ : ae) a1 = Hf (⟨a2, a3, a4, a5, a6, a7, a8, a9, a10, a11⟩ : ae) a1 := by unfold aT; rw [show ((⟨a2, a3, a4, a5, a6, a7, a8, a9, a10, a11⟩ : ae)).n.oO = false from ho, sf, aF hp, mQ he]
 rw [hC]; refine Eq.trans (mQ he) ?_
 have hp' : ((⟨a2, a3, a4, a5, a6, a7, a8, a9, a10, a11⟩ : ae)).n.period < 600 := by simp only; omega
 have D := fc h.xG; have b : 0 <= ao 1 a10 /\ 0 <= ao 2 a10 /\ ao 1 a10 + ao 2 a10 + a4.aK <= 1099511627776 := j9 h; have r0 : 0 <= a4.aK := h.Gi; have f : 0 <= a4.fee /\ a4.fee <= 1200000000000 * a4.period := h.fee; have o : 0 <= a4.out /\ a4.out <= a3.advance := h.out; have r : 0 <= a4.bl /\ a4.bl <= a4.rin /\ a4.rin <= 1200000000000 * (a4.period + 1) := h.res; have lo : a4.aD - a4.aK = ao 2 a10 := h.lost; obtain ⟨q1, q2, q3, q4, q5, q6, q7, q8, q9⟩ := rq h he; obtain ⟨c1, c2, c3, c4, c5⟩ := mT h; obtain ⟨m1, m2, m3, m4⟩ := nk h he; have m3 : 0 <= fK (⟨a2, a3, a4, a5, a6, a7, a8, a9, a10, a11⟩ : ae) a1 /\ fK (⟨a2, a3, a4, a5, a6, a7, a8, a9, a10, a11⟩ : ae) a1 <= a4.rin - a4.bl := ⟨m3.1, m3.2.1⟩
 have m4 : 0 <= nX (⟨a2, a3, a4, a5, a6, a7, a8, a9, a10, a11⟩ : ae) a1 /\ nX (⟨a2, a3, a4, a5, a6, a7, a8, a9, a10, a11⟩ : ae) a1 <= a3.advance - a4.out := m4; obtain ⟨x1, x2, x3, x4⟩ := xP h he; obtain ⟨d1, d2, d3, d4, d5⟩ := kG h he; obtain ⟨t1, t2, t3⟩ := EZ h he; have u2 := Ah h he; have k := AL h; have ad : 0 <= a3.advance /\ a3.advance <= 1099511627776 := D.advance; have nq := fH q1; have hpa9 : a10.length <= 64 := hpl.2; have hqlen : (cP (⟨a2, a3, a4, a5, a6, a7, a8, a9, a10, a11⟩ : ae) a1).aY.length <= 1000 := by
  have hq : (cP (⟨a2, a3, a4, a5, a6, a7, a8, a9, a10, a11⟩ : ae) a1).aY.length = a10.length := by have := congrArg List.length q2; simpa using this
  omega
 have hpo := Dg q1 hqlen; have s5 := (gT _ c2.2).2.1; have st := tD h he; have q3 : ao 1 (cP (⟨a2, a3, a4, a5, a6, a7, a8, a9, a10, a11⟩ : ae) a1).aY = ao 1 a10 - (cP (⟨a2, a3, a4, a5, a6, a7, a8, a9, a10, a11⟩ : ae) a1).p - (cP (⟨a2, a3, a4, a5, a6, a7, a8, a9, a10, a11⟩ : ae) a1).l := q3; have q4 : ao 2 (cP (⟨a2, a3, a4, a5, a6, a7, a8, a9, a10, a11⟩ : ae) a1).aY = ao 2 a10 + (cP (⟨a2, a3, a4, a5, a6, a7, a8, a9, a10, a11⟩ : ae) a1).l - (cP (⟨a2, a3, a4, a5, a6, a7, a8, a9, a10, a11⟩ : ae) a1).r := q4; have stT := st.2.2.2.2.1; have stR : 0 <= bm kR (di (⟨a2, a3, a4, a5, a6, a7, a8, a9, a10, a11⟩ : ae) a1).2.2 /\ bm kR (di (⟨a2, a3, a4, a5, a6, a7, a8, a9, a10, a11⟩ : ae) a1).2.2 <= a4.out := st.2.2.2.1; have s5l : ao 5 (cTr (⟨a2, a3, a4, a5, a6, a7, a8, a9, a10, a11⟩ : ae)) <= 1125899906842624000 := by have := c2.1; omega
 refine ba (zaq.2 ⟨zah ⟨⟨D.year.1, D.year.2, D.month.1, D.month.2⟩, hpe, ⟨f.1, by omega⟩, b.1, by omega⟩, eD (zG h)⟩) ?_
 refine j5 fun x3' e3 => ?_
 obtain rfl : x3' = E7 (⟨a2, a3, a4, a5, a6, a7, a8, a9, a10, a11⟩ : ae) := e3; refine j5 fun g4 e4 => ?_
 obtain rfl : g4 = { a4 with fee := a4.fee + oM (⟨a2, a3, a4, a5, a6, a7, a8, a9, a10, a11⟩ : ae) } := e4; refine ba (zaq.2 ⟨rfl, eD c2⟩) ?_
 refine j5 fun x5 e5 => ?_
 obtain rfl : x5 = a4.fee + oM (⟨a2, a3, a4, a5, a6, a7, a8, a9, a10, a11⟩ : ae) + ao 5 (cTr (⟨a2, a3, a4, a5, a6, a7, a8, a9, a10, a11⟩ : ae)) := e5.trans (aa (n := a4.fee + oM (⟨a2, a3, a4, a5, a6, a7, a8, a9, a10, a11⟩ : ae) + ao 5 (cTr (⟨a2, a3, a4, a5, a6, a7, a8, a9, a10, a11⟩ : ae))) (by omega) (by omega)); refine j5 fun x8 e8 => ?_
 obtain rfl : x8 = cIn (⟨a2, a3, a4, a5, a6, a7, a8, a9, a10, a11⟩ : ae) a1 := e8.trans (by
  have i := m1; unfold cIn at i ⊢; rw [show w64 ((aB a1 a10).p + (aB a1 a10).q) = (cP (⟨a2, a3, a4, a5, a6, a7, a8, a9, a10, a11⟩ : ae) a1).p + (cP (⟨a2, a3, a4, a5, a6, a7, a8, a9, a10, a11⟩ : ae) a1).q from aa (by show _ <= (cP (⟨a2, a3, a4, a5, a6, a7, a8, a9, a10, a11⟩ : ae) a1).p + (cP (⟨a2, a3, a4, a5, a6, a7, a8, a9, a10, a11⟩ : ae) a1).q; omega) (by show (cP (⟨a2, a3, a4, a5, a6, a7, a8, a9, a10, a11⟩ : ae) a1).p + (cP (⟨a2, a3, a4, a5, a6, a7, a8, a9, a10, a11⟩ : ae) a1).q <= _; omega)]; rw [show w64 ((cP (⟨a2, a3, a4, a5, a6, a7, a8, a9, a10, a11⟩ : ae) a1).p + (cP (⟨a2, a3, a4, a5, a6, a7, a8, a9, a10, a11⟩ : ae) a1).q + (aB a1 a10).r) = (cP (⟨a2, a3, a4, a5, a6, a7, a8, a9, a10, a11⟩ : ae) a1).p + (cP (⟨a2, a3, a4, a5, a6, a7, a8, a9, a10, a11⟩ : ae) a1).q + (cP (⟨a2, a3, a4, a5, a6, a7, a8, a9, a10, a11⟩ : ae) a1).r from aa (by show _ <= (cP (⟨a2, a3, a4, a5, a6, a7, a8, a9, a10, a11⟩ : ae) a1).p + (cP (⟨a2, a3, a4, a5, a6, a7, a8, a9, a10, a11⟩ : ae) a1).q + (cP (⟨a2, a3, a4, a5, a6, a7, a8, a9, a10, a11⟩ : ae) a1).r; omega) (by show (cP (⟨a2, a3, a4, a5, a6, a7, a8, a9, a10, a11⟩ : ae) a1).p + (cP (⟨a2, a3, a4, a5, a6, a7, a8, a9, a10, a11⟩ : ae) a1).q + (cP (⟨a2, a3, a4, a5, a6, a7, a8, a9, a10, a11⟩ : ae) a1).r <= _; omega)]; have w : w64 ((cP (⟨a2, a3, a4, a5, a6, a7, a8, a9, a10, a11⟩ : ae) a1).p + (cP (⟨a2, a3, a4, a5, a6, a7, a8, a9, a10, a11⟩ : ae) a1).q + (cP (⟨a2, a3, a4, a5, a6, a7, a8, a9, a10, a11⟩ : ae) a1).r) = (cP (⟨a2, a3, a4, a5, a6, a7, a8, a9, a10, a11⟩ : ae) a1).p + (cP (⟨a2, a3, a4, a5, a6, a7, a8, a9, a10, a11⟩ : ae) a1).q + (cP (⟨a2, a3, a4, a5, a6, a7, a8, a9, a10, a11⟩ : ae) a1).r := aa (by omega) (by omega); simp only [zbT, w])
 have en : w64 (a4.fee + oM (⟨a2, a3, a4, a5, a6, a7, a8, a9, a10, a11⟩ : ae) + ao 5 (cTr (⟨a2, a3, a4, a5, a6, a7, a8, a9, a10, a11⟩ : ae)) - cIn (⟨a2, a3, a4, a5, a6, a7, a8, a9, a10, a11⟩ : ae) a1) = lK (⟨a2, a3, a4, a5, a6, a7, a8, a9, a10, a11⟩ : ae) a1 := aa (by show _ <= lK (⟨a2, a3, a4, a5, a6, a7, a8, a9, a10, a11⟩ : ae) a1; omega) (by show lK (⟨a2, a3, a4, a5, a6, a7, a8, a9, a10, a11⟩ : ae) a1 <= _; omega); rw [en]; refine ba (zaq.2 ⟨rfl, zah ⟨by omega, ⟨r.1, r.2.1, by show a4.rin <= _; omega⟩, ⟨o.1, by show a4.out <= _; omega⟩, D.advance.1, by omega⟩⟩) ?_
 refine j5 fun x9 e9 => ?_
 obtain rfl : x9 = fK (⟨a2, a3, a4, a5, a6, a7, a8, a9, a10, a11⟩ : ae) a1 := e9; refine j5 fun x10 e10 => ?_
 obtain rfl : x10 = nX (⟨a2, a3, a4, a5, a6, a7, a8, a9, a10, a11⟩ : ae) a1 := e10; refine j5 fun g11 e11 => ?_
 obtain rfl : g11 = cN1 (⟨a2, a3, a4, a5, a6, a7, a8, a9, a10, a11⟩ : ae) a1 := e11; refine j5 fun x14 e14 => ?_
 obtain rfl : x14 = (cX (⟨a2, a3, a4, a5, a6, a7, a8, a9, a10, a11⟩ : ae) a1).ar := e14.trans (by
  have i := m1; have z : (cX (⟨a2, a3, a4, a5, a6, a7, a8, a9, a10, a11⟩ : ae) a1).ar = cIn (⟨a2, a3, a4, a5, a6, a7, a8, a9, a10, a11⟩ : ae) a1 + fK (⟨a2, a3, a4, a5, a6, a7, a8, a9, a10, a11⟩ : ae) a1 + nX (⟨a2, a3, a4, a5, a6, a7, a8, a9, a10, a11⟩ : ae) a1 := rfl; rw [z]; unfold cIn at i ⊢; rw [show w64 ((aB a1 a10).p + (aB a1 a10).q) = (cP (⟨a2, a3, a4, a5, a6, a7, a8, a9, a10, a11⟩ : ae) a1).p + (cP (⟨a2, a3, a4, a5, a6, a7, a8, a9, a10, a11⟩ : ae) a1).q from aa (by show _ <= (cP (⟨a2, a3, a4, a5, a6, a7, a8, a9, a10, a11⟩ : ae) a1).p + (cP (⟨a2, a3, a4, a5, a6, a7, a8, a9, a10, a11⟩ : ae) a1).q; omega) (by show (cP (⟨a2, a3, a4, a5, a6, a7, a8, a9, a10, a11⟩ : ae) a1).p + (cP (⟨a2, a3, a4, a5, a6, a7, a8, a9, a10, a11⟩ : ae) a1).q <= _; omega)]; rw [show w64 ((cP (⟨a2, a3, a4, a5, a6, a7, a8, a9, a10, a11⟩ : ae) a1).p + (cP (⟨a2, a3, a4, a5, a6, a7, a8, a9, a10, a11⟩ : ae) a1).q + (aB a1 a10).r) = (cP (⟨a2, a3, a4, a5, a6, a7, a8, a9, a10, a11⟩ : ae) a1).p + (cP (⟨a2, a3, a4, a5, a6, a7, a8, a9, a10, a11⟩ : ae) a1).q + (cP (⟨a2, a3, a4, a5, a6, a7, a8, a9, a10, a11⟩ : ae) a1).r from aa (by show _ <= (cP (⟨a2, a3, a4, a5, a6, a7, a8, a9, a10, a11⟩ : ae) a1).p + (cP (⟨a2, a3, a4, a5, a6, a7, a8, a9, a10, a11⟩ : ae) a1).q + (cP (⟨a2, a3, a4, a5, a6, a7, a8, a9, a10, a11⟩ : ae) a1).r; omega) (by show (cP (⟨a2, a3, a4, a5, a6, a7, a8, a9, a10, a11⟩ : ae) a1).p + (cP (⟨a2, a3, a4, a5, a6, a7, a8, a9, a10, a11⟩ : ae) a1).q + (cP (⟨a2, a3, a4, a5, a6, a7, a8, a9, a10, a11⟩ : ae) a1).r <= _; omega)]; rw [aa (n := (cP (⟨a2, a3, a4, a5, a6, a7, a8, a9, a10, a11⟩ : ae) a1).p + (cP (⟨a2, a3, a4, a5, a6, a7, a8, a9, a10, a11⟩ : ae) a1).q + (cP (⟨a2, a3, a4, a5, a6, a7, a8, a9, a10, a11⟩ : ae) a1).r + fK (⟨a2, a3, a4, a5, a6, a7, a8, a9, a10, a11⟩ : ae) a1) (by omega) (by omega), aa (n := (cP (⟨a2, a3, a4, a5, a6, a7, a8, a9, a10, a11⟩ : ae) a1).p + (cP (⟨a2, a3, a4, a5, a6, a7, a8, a9, a10, a11⟩ : ae) a1).q + (cP (⟨a2, a3, a4, a5, a6, a7, a8, a9, a10, a11⟩ : ae) a1).r + fK (⟨a2, a3, a4, a5, a6, a7, a8, a9, a10, a11⟩ : ae) a1 + nX (⟨a2, a3, a4, a5, a6, a7, a8, a9, a10, a11⟩ : ae) a1) (by omega) (by omega)])
 have c1r : (0 <= (cN1 (⟨a2, a3, a4, a5, a6, a7, a8, a9, a10, a11⟩ : ae) a1).bl /\ (cN1 (⟨a2, a3, a4, a5, a6, a7, a8, a9, a10, a11⟩ : ae) a1).bl <= (cN1 (⟨a2, a3, a4, a5, a6, a7, a8, a9, a10, a11⟩ : ae) a1).rin /\ (cN1 (⟨a2, a3, a4, a5, a6, a7, a8, a9, a10, a11⟩ : ae) a1).rin <= 1152921504606846976) := by
  show 0 <= a4.bl + fK (⟨a2, a3, a4, a5, a6, a7, a8, a9, a10, a11⟩ : ae) a1 /\ a4.bl + fK (⟨a2, a3, a4, a5, a6, a7, a8, a9, a10, a11⟩ : ae) a1 <= a4.rin /\ a4.rin <= _; omega
 refine ba (zaq.2 ⟨zah ⟨⟨⟨q5, by show (cP (⟨a2, a3, a4, a5, a6, a7, a8, a9, a10, a11⟩ : ae) a1).p <= _; omega⟩, ⟨q6, by show (cP (⟨a2, a3, a4, a5, a6, a7, a8, a9, a10, a11⟩ : ae) a1).l <= _; omega⟩, q7, by show (cP (⟨a2, a3, a4, a5, a6, a7, a8, a9, a10, a11⟩ : ae) a1).r <= _; omega⟩, c1r⟩, zaq.2 ⟨hpo, eD c2⟩⟩) ?_
 refine j5 fun x15 e15 => ?_
 obtain rfl : x15 = (cX (⟨a2, a3, a4, a5, a6, a7, a8, a9, a10, a11⟩ : ae) a1).aj := e15; refine j5 fun x16 e16 => ?_
 obtain rfl : x16 = (cX (⟨a2, a3, a4, a5, a6, a7, a8, a9, a10, a11⟩ : ae) a1).room := e16; refine ba (zah ⟨hl.2.2.1, hl.2.2.2.1, hl.2.2.2.2.1⟩) ?_
 refine j5 fun l17 e17 => ?_
 obtain rfl : l17 = fi (iu (⟨a2, a3, a4, a5, a6, a7, a8, a9, a10, a11⟩ : ae)) ((⟨a2, a3, a4, a5, a6, a7, a8, a9, a10, a11⟩ : ae)).n.mode := e17; refine ba (zaq.2 ⟨zah (by omega), zaq.2 ⟨x1, x2⟩⟩) ?_
 refine j5 fun l23 e23 => ?_
 obtain rfl : l23 = (di (⟨a2, a3, a4, a5, a6, a7, a8, a9, a10, a11⟩ : ae) a1).2.2 := e23; refine ba d5 ?_
 refine j5 fun x25 e25 => ?_
 obtain rfl : x25 = (dh (⟨a2, a3, a4, a5, a6, a7, a8, a9, a10, a11⟩ : ae) a1).1.out := e25; have eo : w64 ((dh (⟨a2, a3, a4, a5, a6, a7, a8, a9, a10, a11⟩ : ae) a1).1.out + nX (⟨a2, a3, a4, a5, a6, a7, a8, a9, a10, a11⟩ : ae) a1) = (cN2 (⟨a2, a3, a4, a5, a6, a7, a8, a9, a10, a11⟩ : ae) a1).out := by
  refine Eq.trans (aa ?_ ?_) rfl
  . rw [d1]; show _ <= a4.out - bm kR (di (⟨a2, a3, a4, a5, a6, a7, a8, a9, a10, a11⟩ : ae) a1).2.2 + nX (⟨a2, a3, a4, a5, a6, a7, a8, a9, a10, a11⟩ : ae) a1; omega
  . rw [d1]; show a4.out - bm kR (di (⟨a2, a3, a4, a5, a6, a7, a8, a9, a10, a11⟩ : ae) a1).2.2 + nX (⟨a2, a3, a4, a5, a6, a7, a8, a9, a10, a11⟩ : ae) a1 <= _; omega
 rw [eo]; refine ba (zaq.2 ⟨zah ⟨⟨⟨q5, by show (cP (⟨a2, a3, a4, a5, a6, a7, a8, a9, a10, a11⟩ : ae) a1).p <= _; omega⟩, ⟨q6, by show (cP (⟨a2, a3, a4, a5, a6, a7, a8, a9, a10, a11⟩ : ae) a1).l <= _; omega⟩, q7, by show (cP (⟨a2, a3, a4, a5, a6, a7, a8, a9, a10, a11⟩ : ae) a1).r <= _; omega⟩, ⟨by show 0 <= (dh (⟨a2, a3, a4, a5, a6, a7, a8, a9, a10, a11⟩ : ae) a1).1.aD; rw [d1]; show 0 <= a4.aD; omega, by show (dh (⟨a2, a3, a4, a5, a6, a7, a8, a9, a10, a11⟩ : ae) a1).1.aD <= _; rw [d1]; show a4.aD <= _; omega⟩, by show 0 <= (dh (⟨a2, a3, a4, a5, a6, a7, a8, a9, a10, a11⟩ : ae) a1).1.aK; rw [d1]; exact r0, by show (dh (⟨a2, a3, a4, a5, a6, a7, a8, a9, a10, a11⟩ : ae) a1).1.aK <= _; rw [d1]; show a4.aK <= _; omega⟩, zaq.2 ⟨hpo, eD d3⟩⟩) ?_
 refine j5 fun g26 e26 => ?_
 obtain rfl : g26 = cN2 (⟨a2, a3, a4, a5, a6, a7, a8, a9, a10, a11⟩ : ae) a1 := e26; refine j5 fun l27 e27 => ?_
 obtain rfl : l27 = Cw (⟨a2, a3, a4, a5, a6, a7, a8, a9, a10, a11⟩ : ae) a1 := e27; refine ba (zaq.2 ⟨rfl, zaq.2 ⟨hpo, eD t1⟩⟩) ?_
 refine j5 fun x31 e31 => ?_
 refine j5 fun x32 e32 => ?_
 refine j5 fun x33 e33 => ?_
 refine j5 fun x34 e34 => ?_
 have g4 := (wN h he).2.2.2; have el : w64 ((cN2 (⟨a2, a3, a4, a5, a6, a7, a8, a9, a10, a11⟩ : ae) a1).aD - (cN2 (⟨a2, a3, a4, a5, a6, a7, a8, a9, a10, a11⟩ : ae) a1).aK) = (cN2 (⟨a2, a3, a4, a5, a6, a7, a8, a9, a10, a11⟩ : ae) a1).aD - (cN2 (⟨a2, a3, a4, a5, a6, a7, a8, a9, a10, a11⟩ : ae) a1).aK := aa (by omega) (by omega); rw [el, show ((cu (⟨a2, a5, a6, a3, a7, a8, a9⟩ : bo)).getD (0, 0)).1 = ao 1 a5 from D.Qt] at e34; have n2m : (cN2 (⟨a2, a3, a4, a5, a6, a7, a8, a9, a10, a11⟩ : ae) a1).mode = a4.mode /\ (cN2 (⟨a2, a3, a4, a5, a6, a7, a8, a9, a10, a11⟩ : ae) a1).bf = a4.bf /\ (cN2 (⟨a2, a3, a4, a5, a6, a7, a8, a9, a10, a11⟩ : ae) a1).period = a4.period := by rw [u2]; exact ⟨rfl, rfl, rfl⟩
 have ep : w64 ((cN2 (⟨a2, a3, a4, a5, a6, a7, a8, a9, a10, a11⟩ : ae) a1).period + 1) = a4.period + 1 := by rw [n2m.2.2]; exact aa (by omega) (by omega)
 have ex : dK (cN2 (⟨a2, a3, a4, a5, a6, a7, a8, a9, a10, a11⟩ : ae) a1).mode (cN2 (⟨a2, a3, a4, a5, a6, a7, a8, a9, a10, a11⟩ : ae) a1).bf a3.eL x31 x32 x33 x34 = Dl (⟨a2, a3, a4, a5, a6, a7, a8, a9, a10, a11⟩ : ae) a1 := by rw [n2m.1, n2m.2.1, e31, e32, e33, e34]; rfl
 rw [ep, ex]; refine ba (zah ?_) ?_
 . rw [n2m.2.1]; omega
 have c2r : (0 <= (cN2 (⟨a2, a3, a4, a5, a6, a7, a8, a9, a10, a11⟩ : ae) a1).bl /\ (cN2 (⟨a2, a3, a4, a5, a6, a7, a8, a9, a10, a11⟩ : ae) a1).bl <= (cN2 (⟨a2, a3, a4, a5, a6, a7, a8, a9, a10, a11⟩ : ae) a1).rin /\ (cN2 (⟨a2, a3, a4, a5, a6, a7, a8, a9, a10, a11⟩ : ae) a1).rin <= 1152921504606846976) := by
  rw [u2]; show 0 <= a4.bl + fK (⟨a2, a3, a4, a5, a6, a7, a8, a9, a10, a11⟩ : ae) a1 /\ a4.bl + fK (⟨a2, a3, a4, a5, a6, a7, a8, a9, a10, a11⟩ : ae) a1 <= a4.rin + bm kT (di (⟨a2, a3, a4, a5, a6, a7, a8, a9, a10, a11⟩ : ae) a1).2.2 /\ a4.rin + bm kT (di (⟨a2, a3, a4, a5, a6, a7, a8, a9, a10, a11⟩ : ae) a1).2.2 <= _; omega
 refine ba (zah h0) ?_
 refine ba (zaq.2 ⟨zah h0, zaq.2 ⟨zah c2r, zaq.2 ⟨hpo, eD t1⟩⟩⟩) ?_
 rw [show w64 (a4.period + 1) = a4.period + 1 from aa (by omega) (by omega)]; rfl
theorem DY : ER 11 (mkE N11.en N11.ex f11) := an ah T40.right (fun m => []) (t := t11) (by kernel_rfl) (fun m => aA) (fun m a => by kernel_rfl) fun (a0, a1, a2, a3, a4, a5, a6, a7, a8, a9, a10, a11) hc => MZ a0 a1 a2 a3 a4 a5 a6 a7 a8 a9 a10 a11 hc
def T11 : Tb Tryz.prog LQ TE XX := T40.add 11 _ DY
theorem sZ (d : Dat) : (gx d).i 0 = d.i 0 /\ (gx d).i 1 = d.i 1 /\ (gx d).i 2 = 0 /\ (gx d).i 3 = 0 /\ (gx d).b 4 = false := ⟨rfl, rfl, rfl, rfl, rfl⟩
theorem vV : ∀ l : List Dat, ao 1 (l.map gx) = ao 1 l /\ ao 2 (l.map gx) = 0
 | [] => ⟨rfl, rfl⟩
 | d :: l => by
  obtain ⟨h1, h2⟩ := vV l; simp only [zaN, ao, h1, h2, (sZ d).2.1, (sZ d).2.2.1]; exact ⟨trivial, rfl⟩
theorem wm : ∀ l : List Dat, ao 5 (l.map qi) = 0 /\ ao 6 (l.map qi) = 0
 | [] => ⟨rfl, rfl⟩
 | d :: l => by
  obtain ⟨h1, h2⟩ := wm l; simp only [zaN, ao, h1, h2, qi, nu, nL]
  decide
theorem H7 {d : bo} (h : (cu d).isSome = true) : me (cK d) := by
 have D := fc h; obtain ⟨s1, s2⟩ := vV d.bg; obtain ⟨n5, n6⟩ := wm d.notes; refine ⟨h, ?_, fun x hx => ?_, ?_, fun x hx => ?_, ?_, ?_, zb9 _, ?_, ?_, ?_, ?_, ?_, ?_, ?_⟩
 . simp only [cK, zb5]; rfl
 . obtain ⟨y, hy, rfl⟩ := zbq.1 (show x ∈ d.notes.map qi from hx); have := D.note y hy; refine ⟨zah ?_, ?_⟩
   . show (0 <= y.i 1 /\ y.i 1 <= 1099511627776 /\ (0 : Int) <= 0 /\ (0 : Int) = 0 /\ (0 : Int) <= 0 /\ (0 : Int) + 0 <= y.i 1 /\ (0 : Int) <= 0 /\ (0 : Int) <= 1125899906842624); omega
   . show (0 : Int) <= 1200000000000 * 0; omega
 . simp only [cK, zb5]; rfl
 . obtain ⟨y, hy, rfl⟩ := zbq.1 (show x ∈ d.bg.map gx from hx); have := D.GH y hy; obtain ⟨_, e1, e2, e3, e4⟩ := sZ y; unfold jw; rw [e1, e2, e3, e4]
   and_intros <;> first | omega | (intro h; cases h; done) | (intro _; rfl)
 . show ao 1 (d.bg.map gx) + ao 2 (d.bg.map gx) + 0 <= ao 1 d.bg; omega
 . show (0 : Int) - 0 = ao 2 (d.bg.map gx); omega
 . show (0 : Int) <= 0 /\ (0 : Int) <= 600; omega
 . show (0 : Int) <= 0 /\ (0 : Int) <= 2; omega
 . show (0 : Int) <= 0 /\ (0 : Int) <= 0; omega
 . show (0 : Int) <= 0 /\ (0 : Int) <= 1200000000000 * 0; omega
 . exact ⟨zb9 _, D.advance.1⟩
 . show (0 : Int) <= 0 /\ 0 <= d.b.aV /\ d.b.aV <= 1200000000000 * (0 + 1)
   have := D.aV; omega
 . show ao 6 (d.notes.map qi) <= ao 2 (d.bg.map gx); omega
theorem NL {d : bo} (h : (cu d).isSome = true) : iB d = cK d := by unfold iB; rw [if_pos h]
def dy : bo := ⟨⟨2024, 1, 0⟩, [.r [.n 1, .n 100]], [.r [.n 0, .n 100, .n 0]], ⟨0, 0, 0, 0, 0, 0, 0, 0, 0, 0⟩, [.r [.n 3, .n 0], .r [.n 7, .n 0]], [.r [.n 3, .n 0], .r [.n 7, .n 0]], [.r [.n 3, .n 0], .r [.n 7, .n 0]]⟩
theorem sD : (cu dy).isSome = true := by kernel_rfl
theorem Gj : iB dy = cK dy := NL sD
theorem Pc : me (cK dy) := H7 sD
def lA : List Dat := [.r [.n 1, .n 40, .n 0, .n 0, .n 0, .n 0, .n (bI false)]]
theorem Es : (aT (cK dy) lA).ra = ⟨false, 1, 0, 40, 0, 0, 0, 0, 0, 0, 0⟩ /\ (aT (cK dy) lA).rb = ⟨0, 60, 0, 0, 0⟩ /\ (aT (cK dy) lA).next = 0 /\ (aT (cK dy) lA).e = 0 /\ (aT (cK dy) lA).aM = [.r [.n 1, .n 7, .n 0, .n 40]] /\ (aT (cK dy) lA).notes = [.r [.n 60, .n 0, .n 0]] := by
 refine ⟨?_, ?_, ?_, ?_, ?_, ?_⟩ <;> kernel_rfl
def N10 : aC := ⟨T11.tab, 10, ⟨[], [], 0⟩, ⟨[.agg [.int .i64, .int .i64, .int .i64, .buf 0 2, .buf 1 3, .int .i64, .int .i64, .int .i64, .int .i64, .int .i64, .int .i64, .int .i64, .int .i64, .int .i64, .int .i64, .buf 2 2, .buf 3 2, .buf 4 2]], [.ai (sI 2), .ai (sI 3), .ai (sI 2), .ai (sI 2), .ai (sI 2)], 0⟩, []⟩
def t10 (m : Nat) : Unit -> Option (List Un) := fun _ =>
 some (Uns.enc ((⟨2024, 1, 0⟩ : aw) : aw) ++ Uns.enc ((⟨0, 0, 0, 0, 0, 0, 0, 0, 0, 0⟩ : az) : az) ++ [.d ([.r [.n 1, .n 100]] : List Dat), .d ([.r [.n 0, .n 100, .n 0]] : List Dat), .d ([.r [.n 3, .n 0], .r [.n 7, .n 0]] : List Dat), .d ([.r [.n 3, .n 0], .r [.n 7, .n 0]] : List Dat), .d ([.r [.n 3, .n 0], .r [.n 7, .n 0]] : List Dat)])
def f10 : Unit -> Bool × List Un := fun _ => (true, Uns.enc ((dy.a) : aw) ++ Uns.enc ((dy.b) : az) ++ [.d (dy.bg), .d (dy.notes), .d (dy.s0), .d (dy.s1), .d (dy.s2)])
theorem Md : ∃ m, t10 m () = some (Uns.enc ((dy.a) : aw) ++ Uns.enc ((dy.b) : az) ++ [.d (dy.bg), .d (dy.notes), .d (dy.s0), .d (dy.s1), .d (dy.s2)]) := by
 exact ⟨0, rfl⟩
theorem Kl : ER 10 (mkE N10.en N10.ex f10) := an ah T11.right (fun m => []) (t := t10) (by kernel_rfl) (fun m => aA) (fun m a => by kernel_rfl) fun _ hc => Md
def T10 : Tb Tryz.prog LQ TE XX := T11.add 10 _ Kl
def oC (n : Int) : List Int := [wu8 (Int.fdiv n 72057594037927936), wu8 (Int.fdiv n 281474976710656), wu8 (Int.fdiv n 1099511627776), wu8 (Int.fdiv n 4294967296), wu8 (Int.fdiv n 16777216), wu8 (Int.fdiv n 65536), wu8 (Int.fdiv n 256), wu8 (Int.fdiv n 1)]
def cQ (l : List Int) : List Int := l.flatMap oC
theorem Fv : (2 : Int) ^ (min (56 : Int).toNat 64) = 72057594037927936 /\ (2 : Int) ^ (min (48 : Int).toNat 64) = 281474976710656 /\ (2 : Int) ^ (min (40 : Int).toNat 64) = 1099511627776 /\ (2 : Int) ^ (min (32 : Int).toNat 64) = 4294967296 /\ (2 : Int) ^ (min (24 : Int).toNat 64) = 16777216 /\ (2 : Int) ^ (min (16 : Int).toNat 64) = 65536 /\ (2 : Int) ^ (min (8 : Int).toNat 64) = 256 /\ (2 : Int) ^ (min (0 : Int).toNat 64) = 1 := by decide
def N48 : aC := ⟨T10.tab, 48, ⟨[.ints .i64], [], 0⟩, ⟨[.buf 0 1], [.ints .u8], 0⟩, [[0, 1, 1, 0, 0, 1, 1, 0, 0, 1, 0, 1, 1]]⟩
abbrev Dt : Type := List Int × Int × Int × List Int
def yZ (m : Nat) (k : Dt -> Option (List Un)) : Dt -> Option (List Un) := fun (a0, a1, a2, a3) =>
 bif decide (a2 < a1) then
 chk (inb a2 a0.length) <|
 chk (decide (a2.toNat < a0.length)) <|
 lt ((Int.fdiv (a0.getD a2.toNat 0) (2 ^ (min (56 : Int).toNat 64))) : Int) fun x1 =>
 chk (fits (a3.length + 1) 1) <|
 chk (fits ((a3 ++ ([(wu8 x1)])).length + 1) 1) <|
 lt (((a3 ++ ([(wu8 x1)])) ++ ([(wu8 (Int.fdiv (a0.getD a2.toNat 0) (2 ^ (min (48 : Int).toNat 64))))])) : List Int) fun l3 =>
 lt ((Int.fdiv (a0.getD a2.toNat 0) (2 ^ (min (40 : Int).toNat 64))) : Int) fun x4 =>
 chk (fits (l3.length + 1) 1) <|
 chk (fits ((l3 ++ ([(wu8 x4)])).length + 1) 1) <|
 lt (((l3 ++ ([(wu8 x4)])) ++ ([(wu8 (Int.fdiv (a0.getD a2.toNat 0) (2 ^ (min (32 : Int).toNat 64))))])) : List Int) fun l6 =>
 lt ((Int.fdiv (a0.getD a2.toNat 0) (2 ^ (min (24 : Int).toNat 64))) : Int) fun x7 =>
 chk (fits (l6.length + 1) 1) <|
 chk (fits ((l6 ++ ([(wu8 x7)])).length + 1) 1) <|
 lt (((l6 ++ ([(wu8 x7)])) ++ ([(wu8 (Int.fdiv (a0.getD a2.toNat 0) (2 ^ (min (16 : Int).toNat 64))))])) : List Int) fun l9 =>
 lt ((Int.fdiv (a0.getD a2.toNat 0) (2 ^ (min (8 : Int).toNat 64))) : Int) fun x10 =>
 chk (fits (l9.length + 1) 1) <|
 chk (fits ((l9 ++ ([(wu8 x10)])).length + 1) 1) <|
 k (a0, a1, (w64 (a2 + 1)), ((l9 ++ ([(wu8 x10)])) ++ ([(wu8 (Int.fdiv (a0.getD a2.toNat 0) (2 ^ (min (0 : Int).toNat 64))))])))
 else
 some ([.l a3])
def wZ (m : Nat) : Nat -> Dt -> Option (List Un) := bp (yZ m)
theorem so (m : Nat) (n : Nat) : wZ m (n + 1) = yZ m (wZ m n) := rfl
def Fi (F : Dt -> Option (List Un)) : aW := ⟨[.lp [0, 1, 0, 1, 1], .blk 0, .code [1, 1, 1]], ⟨frm 27 [(3, .buf 0 1), (7, .ints .i64), (8, .int .i64), (9, .int .i64)], [.ints .u8], 0⟩, onU F⟩
theorem Ow (m : Nat) : ∀ n, HO N48 (Fi (wZ m n)) := au ah T10.right (fun k => [Fi k]) (fun k h => (aL h aA)) fun k a => by kernel_rfl
def t48 (m : Nat) : List Int -> Option (List Un) := fun a0 =>
 wZ m m (a0, (a0.length : Int), 0, [])
theorem Kc (m : Nat) : ∀ (rest pre acc : List Int) (n : Nat), rest.length < n -> (pre ++ rest).length <= 1000000 -> acc.length = 8 * pre.length -> wZ m n (pre ++ rest, ((pre ++ rest).length : Int), (pre.length : Int), acc) = some [.l (acc ++ cQ rest)] := by
 intro rest
 induction rest with
 | nil =>
  intro pre acc n hn hl ha; obtain ⟨n, rfl⟩ := al n (by simp at hn; omega); rw [so]; unfold yZ; dsimp only; rw [aF (by simp)]; simp [cQ]
 | cons x rest ih =>
  intro pre acc n hn hl ha; obtain ⟨n, rfl⟩ := al n (by simp at hn; omega); simp only [zac, zad] at hn hl; rw [so]; unfold yZ; dsimp only; rw [bJ (by simp only [zad, zac]; omega), dV (by omega) (by simp only [zad, zac]; omega), aO (by simp)]; have hx : (pre ++ x :: rest).getD (pre.length : Int).toNat 0 = x := by simp
  obtain ⟨p1, p2, p3, p4, p5, p6, p7, p8⟩ := Fv; have f : ∀ k, k <= 8 -> fits (acc.length + k) 1 = true := fun k hk => zah (by omega)
  dsimp only [lt]; simp only [hx, p1, p2, p3, p4, p5, p6, p7, p8, zad, zac, zay, zaD, za3, Nat.reduceAdd, f 1 (by decide), f 2 (by decide), f 3 (by decide), f 4 (by decide), f 5 (by decide), f 6 (by decide), f 7 (by decide), f 8 (by decide), chk, zaC]; have := ih (pre ++ [x]) (acc ++ oC x) n (by omega) (by simp; omega) (by simp [oC, ha]; omega); have e : w64 ((pre.length : Int) + 1) = ((pre ++ [x]).length : Int) := by
   rw [aa (by omega) (by omega)]; simp
  rw [e]; have e2 : acc ++ cQ (x :: rest) = (acc ++ oC x) ++ cQ rest := by simp [cQ]
  rw [e2, <- this]; simp only [zaJ, zaX, zaV, oC, zad, zac, zay, zaD, za3, Nat.add_comm 1]
def f48 : List Int -> Bool × List Un := fun a0 => (decide (a0.length <= 1000000), [.l (cQ a0)])
theorem NF (a0 : List Int) (hc : (decide (a0.length <= 1000000)) = true) : ∃ m, t48 m a0 = some ([.l (cQ a0)]) := by
 have hl := zaj hc; refine ⟨a0.length + 1, ?_⟩; have := Kc (a0.length + 1) a0 [] [] (a0.length + 1) (by omega) (by simpa using hl) rfl; simp only [zaV] at this; exact this
theorem KF : ER 48 (mkE N48.en N48.ex f48) := an ah T10.right (fun m => [Fi (wZ m m)]) (t := t48) (by kernel_rfl) (fun m => (aL (Ow m m) aA)) (fun m a => by kernel_rfl) fun a0 hc => NF a0 hc
def T48 : Tb Tryz.prog LQ TE XX := T10.add 48 _ KF
structure RdR where
 v : Int
 o : Int
 n : Int
 bad : Bool
 l : List Int
def rdN (o n : Int) (bad : Bool) (l : List Int) : RdR := bif bad || (n.toNat : Int) == 0 then ⟨0, o.toNat, n.toNat, true, l⟩ else ⟨l.getD o.toNat 0, ((o.toNat + 1 : Nat) : Int), ((n.toNat - 1 : Nat) : Int), bad, l⟩
def rdM (o n : Int) (bad : Bool) (l : List Int) (most : Int) : RdR := let r := rdN o n bad l; bif decide (r.v < 0) || decide (r.v > most) then { r with v := 0, bad := true } else r
def N95 : aC := ⟨T48.tab, 95, ⟨[.ptr 0 0 0], [.cells [.sl 1 1, .bool], .ints .i64], 0⟩, ⟨[.int .i64], [.cells [.sl 1 1, .bool], .ints .i64], 0⟩, []⟩
def t95 (m : Nat) : Int × Int × Bool × List Int -> Option (List Un) := fun (a0, a1, a2, a3) =>
 bif a2 then
 some ([.i 0, .i (a0.toNat : Int), .i (a1.toNat : Int), .b true, .l a3])
 else
 bif (a1.toNat : Int) == 0 then
 some ([.i 0, .i (a0.toNat : Int), .i (a1.toNat : Int), .b true, .l a3])
 else
 chk (inb 0 a1.toNat) <|
 chk (decide (a0.toNat < a3.length)) <|
 chk (true && (true && decide (1 <= a1.toNat /\ a1.toNat <= a1.toNat))) <|
 some ([.i (a3.getD a0.toNat 0), .i (((a0.toNat + 1) : Nat) : Int), .i (((a1.toNat - 1) : Nat) : Int), .b a2, .l a3])
def f95 : Int × Int × Bool × List Int -> Bool × List Un := fun (a0, a1, a2, a3) => (decide (a0.toNat + a1.toNat <= a3.length), [.i ((rdN a0 a1 a2 a3).v), .i ((rdN a0 a1 a2 a3).o), .i ((rdN a0 a1 a2 a3).n), .b ((rdN a0 a1 a2 a3).bad), .l ((rdN a0 a1 a2 a3).l)])
theorem Mn (a0 : Int) (a1 : Int) (a2 : Bool) (a3 : List Int) (hc : (decide (a0.toNat + a1.toNat <= a3.length)) = true) : ∃ m, t95 m (a0, a1, a2, a3) = some ([.i ((rdN a0 a1 a2 a3).v), .i ((rdN a0 a1 a2 a3).o), .i ((rdN a0 a1 a2 a3).n), .b ((rdN a0 a1 a2 a3).bad), .l ((rdN a0 a1 a2 a3).l)]) := by
 have hl := zaj hc; refine ⟨0, ?_⟩; unfold t95 rdN; dsimp only; cases a2 with
 | true => rfl
 | false =>
  rw [zca]; cases h : ((a1.toNat : Int) == 0) with
  | true => rfl
  | false =>
   have h : ¬ (a1.toNat : Int) = 0 := by simpa using h
   rw [zao, zao, zao, dV (by decide) (by omega), aO (by omega)]; exact ba (by simp; omega) rfl
theorem C9 : ER 95 (mkE N95.en N95.ex f95) := an ah T48.right (fun m => []) (t := t95) (by kernel_rfl) (fun m => aA) (fun m a => by kernel_rfl) fun (a0, a1, a2, a3) hc => Mn a0 a1 a2 a3 hc
def T95 : Tb Tryz.prog LQ TE XX := T48.add 95 _ C9
def QC : RdR -> List Un := fun r => [.i r.v, .i r.o, .i r.n, .b r.bad, .l r.l]
def Qh : Int × Int × Bool × List Int -> Bool × RdR := fun (a0, a1, a2, a3) => (decide (a0.toNat + a1.toNat <= a3.length), (rdN a0 a1 a2 a3))
theorem H5 : ER 95 (mkB N95.en N95.ex Qh QC) := rebind C9 fun (a0, a1, a2, a3) => rfl
def Nn : Tb Tryz.prog LQ TE XX := T95.add 95 _ H5
def N52 : aC := ⟨Nn.tab, 52, ⟨[.ptr 0 0 0], [.cells [.sl 1 1, .bool], .ints .i64], 2⟩, ⟨[.bool], [.cells [.sl 1 1, .bool], .ints .i64], 2⟩, []⟩
def t52 (m : Nat) : Int × Int × Bool × List Int -> Option (List Un) := fun (a0, a1, a2, a3) =>
 bif !a2 then
 some ([.b ((a1.toNat : Int) == 0), .i (a0.toNat : Int), .i (a1.toNat : Int), .b a2, .l a3])
 else
 some ([.b false, .i (a0.toNat : Int), .i (a1.toNat : Int), .b a2, .l a3])
def f52 : Int × Int × Bool × List Int -> Bool × List Un := fun (a0, a1, a2, a3) => (true, [.b ((!a2 && (a1.toNat : Int) == 0)), .i ((a0.toNat : Int)), .i ((a1.toNat : Int)), .b (a2), .l (a3)])
theorem Mp (a0 : Int) (a1 : Int) (a2 : Bool) (a3 : List Int) : ∃ m, t52 m (a0, a1, a2, a3) = some ([.b ((!a2 && (a1.toNat : Int) == 0)), .i ((a0.toNat : Int)), .i ((a1.toNat : Int)), .b (a2), .l (a3)]) := by
 refine ⟨0, ?_⟩; unfold t52; cases a2 <;> rfl
theorem JJ : ER 52 (mkE N52.en N52.ex f52) := an ah Nn.right (fun m => []) (t := t52) (by kernel_rfl) (fun m => aA) (fun m a => by kernel_rfl) fun (a0, a1, a2, a3) hc => Mp a0 a1 a2 a3
def T52 : Tb Tryz.prog LQ TE XX := Nn.add 52 _ JJ
def N50 : aC := ⟨T52.tab, 50, ⟨[.ints .i64], [], 0⟩, ⟨[.ptr 0 0 0], [.cells [.sl 1 1, .bool], .ints .i64], 0⟩, []⟩
def t50 (m : Nat) : List Int -> Option (List Un) := fun a0 =>
 chk (decide (a0.length < 1000000)) <|
 some ([.i 0, .i (a0.length : Int), .b false, .l a0])
def f50 : List Int -> Bool × List Un := fun a0 => (decide (a0.length < 1000000), [.i (0), .i ((a0.length : Int)), .b (false), .l (a0)])
theorem LR (a0 : List Int) (hc : (decide (a0.length < 1000000)) = true) : ∃ m, t50 m a0 = some ([.i (0), .i ((a0.length : Int)), .b (false), .l (a0)]) := by
 refine ⟨0, ?_⟩; unfold t50; exact ba hc rfl
theorem IQ : ER 50 (mkE N50.en N50.ex f50) := an ah T52.right (fun m => []) (t := t50) (by kernel_rfl) (fun m => aA) (fun m a => by kernel_rfl) fun a0 hc => LR a0 hc
def T50 : Tb Tryz.prog LQ TE XX := T52.add 50 _ IQ
def N94 : aC := ⟨T50.tab, 94, ⟨[.ptr 0 0 0, .int .i64], [.cells [.sl 1 1, .bool], .ints .i64], 0⟩, ⟨[.int .i64], [.cells [.sl 1 1, .bool], .ints .i64], 0⟩, []⟩
def t94 (m : Nat) : Int × Int × Int × Bool × List Int -> Option (List Un) := fun (a0, a1, a2, a3, a4) =>
 chk (decide ((a1.toNat : Int).toNat + (a2.toNat : Int).toNat <= a4.length)) <|
 bd ((rdN (a1.toNat : Int) (a2.toNat : Int) a3 a4) : RdR) fun r1 =>
 bif decide (r1.v < 0) then
 some ([.i 0, .i (r1.o.toNat : Int), .i (r1.n.toNat : Int), .b true, .l r1.l])
 else
 bif decide (r1.v > a0) then
 some ([.i 0, .i (r1.o.toNat : Int), .i (r1.n.toNat : Int), .b true, .l r1.l])
 else
 some ([.i r1.v, .i (r1.o.toNat : Int), .i (r1.n.toNat : Int), .b r1.bad, .l r1.l])
theorem KQ (o n : Int) (b : Bool) (l : List Int) : ((rdN o n b l).o.toNat : Int) = (rdN o n b l).o /\ ((rdN o n b l).n.toNat : Int) = (rdN o n b l).n := by
 unfold rdN; cases (b || (n.toNat : Int) == 0) with
 | true => exact ⟨rfl, rfl⟩
 | false => exact ⟨rfl, rfl⟩
theorem Em (o n : Int) (b : Bool) (l : List Int) : rdN (o.toNat : Int) (n.toNat : Int) b l = rdN o n b l := rfl
def f94 : Int × Int × Int × Bool × List Int -> Bool × List Un := fun (a0, a1, a2, a3, a4) => (decide (a1.toNat + a2.toNat <= a4.length), [.i ((rdM a1 a2 a3 a4 a0).v), .i ((rdM a1 a2 a3 a4 a0).o), .i ((rdM a1 a2 a3 a4 a0).n), .b ((rdM a1 a2 a3 a4 a0).bad), .l ((rdM a1 a2 a3 a4 a0).l)])
theorem LB (a0 : Int) (a1 : Int) (a2 : Int) (a3 : Bool) (a4 : List Int) (hc : (decide (a1.toNat + a2.toNat <= a4.length)) = true) : ∃ m, t94 m (a0, a1, a2, a3, a4) = some ([.i ((rdM a1 a2 a3 a4 a0).v), .i ((rdM a1 a2 a3 a4 a0).o), .i ((rdM a1 a2 a3 a4 a0).n), .b ((rdM a1 a2 a3 a4 a0).bad), .l ((rdM a1 a2 a3 a4 a0).l)]) := by
 have hl := zaj hc; refine ⟨0, ?_⟩; unfold t94; dsimp only [bd]; refine ba (zah (by omega)) ?_
 rw [Em]; obtain ⟨n1, n2⟩ := KQ a1 a2 a3 a4; rw [n1, n2]; unfold rdM; dsimp only; cases decide ((rdN a1 a2 a3 a4).v < 0) with
 | true => rfl
 | false => cases decide ((rdN a1 a2 a3 a4).v > a0) <;> rfl
theorem DM : ER 94 (mkE N94.en N94.ex f94) := an ah T50.right (fun m => []) (t := t94) (by kernel_rfl) (fun m => aA) (fun m a => by kernel_rfl) fun (a0, a1, a2, a3, a4) hc => LB a0 a1 a2 a3 a4 hc
def T94 : Tb Tryz.prog LQ TE XX := T50.add 94 _ DM
def Qn : RdR -> List Un := fun r => [.i r.v, .i r.o, .i r.n, .b r.bad, .l r.l]
def Qp : Int × Int × Int × Bool × List Int -> Bool × RdR := fun (a0, a1, a2, a3, a4) => (decide (a1.toNat + a2.toNat <= a4.length), (rdM a1 a2 a3 a4 a0))
theorem Hs : ER 94 (mkB N94.en N94.ex Qp Qn) := rebind DM fun (a0, a1, a2, a3, a4) => rfl
def IM : Tb Tryz.prog LQ TE XX := T94.add 94 _ Hs
def vu (n : Int) : Bool := decide (0 <= n) && decide (n <= 1152921504606846976)
def N54 : aC := ⟨IM.tab, 54, ⟨[.ints .i64], [], 0⟩, ⟨[.bool], [], 0⟩, []⟩
abbrev CS : Type := List Int × Int × Int
def xl (m : Nat) (k : CS -> Option (List Un)) : CS -> Option (List Un) := fun (a0, a1, a2) =>
 bif decide (a2 < a1) then
 chk (inb a2 a0.length) <|
 chk (decide (a2.toNat < a0.length)) <|
 bif (decide ((a0.getD a2.toNat 0) < 0)) then
 some ([.b false])
 else
 bif (decide ((a0.getD a2.toNat 0) > 1152921504606846976)) then
 some ([.b false])
 else
 k (a0, a1, (w64 (a2 + 1)))
 else
 some ([.b true])
def wq (m : Nat) : Nat -> CS -> Option (List Un) := bp (xl m)
theorem vg (m : Nat) (n : Nat) : wq m (n + 1) = xl m (wq m n) := rfl
def F7 (F : CS -> Option (List Un)) : aW := ⟨[.lp [0, 1, 0, 1], .blk 0, .code [1, 1]], ⟨frm 18 [(5, .ints .i64), (6, .int .i64), (7, .int .i64)], [], 0⟩, onU F⟩
theorem O4 (m : Nat) : ∀ n, HO N54 (F7 (wq m n)) := au ah IM.right (fun k => [F7 k]) (fun k h => (aL h aA)) fun k a => by kernel_rfl
def t54 (m : Nat) : List Int -> Option (List Un) := fun a0 =>
 wq m m (a0, (a0.length : Int), 0)
theorem PY (m : Nat) : ∀ (rest pre : List Int) (n : Nat), rest.length < n -> (pre ++ rest).length <= 1000000 -> wq m n (pre ++ rest, ((pre ++ rest).length : Int), (pre.length : Int)) = some [.b (rest.all vu)] := by
 intro rest
 induction rest with
 | nil =>
  intro pre n hn hl; obtain ⟨n, rfl⟩ := al n (by simp at hn; omega); rw [vg]; unfold xl; dsimp only; rw [aF (by simp)]; rfl
 | cons x rest ih =>
  intro pre n hn hl; obtain ⟨n, rfl⟩ := al n (by simp at hn; omega); simp only [zac, zad] at hn hl; rw [vg]; unfold xl; dsimp only; rw [bJ (by simp only [zad, zac]; omega), dV (by omega) (by simp only [zad, zac]; omega), aO (by simp)]; have hx : (pre ++ x :: rest).getD (pre.length : Int).toNat 0 = x := by simp
  have := ih (pre ++ [x]) n (by omega) (by simp; omega); have e : w64 ((pre.length : Int) + 1) = ((pre ++ [x]).length : Int) := by
   rw [aa (by omega) (by omega)]; simp
  have e3 : pre ++ x :: rest = (pre ++ [x]) ++ rest := by simp
  rw [hx, Ab, xt, e, e3, this, kv, kv]; simp only [List.all_cons, vu, Bool.and_assoc]
def f54 : List Int -> Bool × List Un := fun a0 => (decide (a0.length <= 1000000), [.b (a0.all vu)])
theorem NY (a0 : List Int) (hc : (decide (a0.length <= 1000000)) = true) : ∃ m, t54 m a0 = some ([.b (a0.all vu)]) := by
 have hl := zaj hc; refine ⟨a0.length + 1, ?_⟩; exact PY (a0.length + 1) a0 [] (a0.length + 1) (by omega) (by simpa using hl)
theorem Ix : ER 54 (mkE N54.en N54.ex f54) := an ah IM.right (fun m => [F7 (wq m m)]) (t := t54) (by kernel_rfl) (fun m => (aL (O4 m m) aA)) (fun m a => by kernel_rfl) fun a0 hc => NY a0 hc
def T54 : Tb Tryz.prog LQ TE XX := IM.add 54 _ Ix
structure D0 where
 ra : bj
 rb : aZ
 next : Int
 aM : List Dat
 notes : List Dat
 r : RdR
def nx (r : RdR) : RdR := rdN r.o r.n r.bad r.l
def mx (r : RdR) (most : Int) : RdR := rdM r.o r.n r.bad r.l most
def jG : Nat -> RdR -> List Dat × RdR
 | 0, r => ([], r)
 | k + 1, r => let s := nx (nx (nx (nx r))); (.r [.n (nx r).v, .n (nx (nx r)).v, .n (nx (nx (nx r))).v, .n s.v] :: (jG k s).1, (jG k s).2)
def g9 : Nat -> RdR -> List Dat × RdR
 | 0, r => ([], r)
 | k + 1, r => let s := nx (nx (nx r)); (.r [.n (nx r).v, .n (nx (nx r)).v, .n s.v] :: (g9 k s).1, (g9 k s).2)
def Ag (r1 r17 : RdR) : bj × aZ × Int :=
 let r2 := nx r1; let r3 := nx r2; let r4 := nx r3; let r5 := nx r4; let r6 := nx r5; let r7 := nx r6; let r8 := nx r7; let r9 := nx r8; let r10 := nx r9; let r11 := nx r10; let r12 := nx r11; let r13 := nx r12; let r14 := nx r13; let r15 := nx r14; let r16 := nx r15
 (⟨r1.v == 1, r2.v, r3.v, r4.v, r5.v, r6.v, r7.v, r8.v, r9.v, r10.v, r11.v⟩, ⟨r12.v, r13.v, r14.v, r15.v, r16.v⟩, r17.v)
def dz (o n : Int) (bad : Bool) (l : List Int) : D0 :=
 let r1 := rdM o n bad l 1
 let r17 := nx (nx (nx (nx (nx (nx (nx (nx (nx (nx (nx (nx (nx (nx (nx (nx r1)))))))))))))))
 let h := Ag r1 r17
 let r18 := mx r17 160
 let p := jG r18.v.toNat r18
 let r24 := mx p.2 8
 let q := g9 r24.v.toNat r24
 ⟨h.1, h.2.1, h.2.2, p.1, q.1, q.2⟩
def RdI (r : RdR) : Prop := (r.o.toNat : Int) = r.o /\ (r.n.toNat : Int) = r.n /\ r.o.toNat + r.n.toNat <= r.l.length
theorem Lt {o n : Int} {b : Bool} {l : List Int} (h : o.toNat + n.toNat <= l.length) : RdI (rdN o n b l) /\ (rdN o n b l).l = l := by
 unfold rdN RdI; cases hb : (b || (n.toNat : Int) == 0) with
 | true => exact ⟨⟨rfl, rfl, h⟩, rfl⟩
 | false =>
  simp only [zbG, zbJ] at hb; refine ⟨⟨rfl, rfl, ?_⟩, rfl⟩; simp only [zao, zaF]; omega
theorem dg {r : RdR} (h : RdI r) : RdI (nx r) := (Lt h.2.2).1
theorem F0 {o n : Int} {b : Bool} {l : List Int} {most : Int} (h : o.toNat + n.toNat <= l.length) : RdI (rdM o n b l most) := by
 have := (Lt (b := b) h).1; unfold rdM; dsimp only; cases (decide ((rdN o n b l).v < 0) || decide ((rdN o n b l).v > most)) <;> exact this
theorem JT {r : RdR} {most : Int} (h : RdI r) : RdI (mx r most) := F0 h.2.2
theorem C4 {o n : Int} {b : Bool} {l : List Int} {most : Int} (hm : 0 <= most) : 0 <= (rdM o n b l most).v /\ (rdM o n b l most).v <= most := by
 unfold rdM; dsimp only; cases h : (decide ((rdN o n b l).v < 0) || decide ((rdN o n b l).v > most)) with
 | true => exact ⟨zb9 _, hm⟩
 | false =>
  simp only [zbG, decide_eq_false_iff_not] at h; simp only [zao]; omega
theorem CU : ∀ (k : Nat) {r : RdR}, RdI r -> RdI (jG k r).2
 | 0, r, h => h
 | k + 1, r, h => CU k (dg (dg (dg (dg h))))
theorem CO : ∀ (k : Nat) {r : RdR}, RdI r -> RdI (g9 k r).2
 | 0, r, h => h
 | k + 1, r, h => CO k (dg (dg (dg h)))
def N51 : aC := ⟨T54.tab, 51, ⟨[.ptr 0 0 0], [.cells [.sl 1 1, .bool], .ints .i64], 0⟩, ⟨[.agg [.bool, .int .i64, .int .i64, .int .i64, .int .i64, .int .i64, .int .i64, .int .i64, .int .i64, .int .i64, .int .i64, .buf 2 4, .int .i64, .int .i64, .int .i64, .int .i64, .int .i64, .buf 3 3, .int .i64]], [.cells [.sl 1 1, .bool], .ints .i64, .ai (sI 4), .ai (sI 3)], 0⟩, [[0, 1, 0, 1, 1, 1], [0, 1, 0, 1, 0, 0, 1, 1, 0, 0, 1, 0, 1, 1, 1, 1], [0, 1, 0, 1, 0, 0, 1, 1, 0, 0, 1, 0, 1, 1, 1, 1, 1]]⟩
abbrev C7 : Type := Int × Int × Int × Int × Bool × List Int × bj × aZ × Int × bj × aZ × Int × List Dat × List Dat × List Dat × List Dat
abbrev C8 : Type := Int × Int × Int × Int × Bool × List Int × bj × aZ × Int × bj × aZ × Int × List Dat × List Dat × List Dat × List Dat
def xW (m : Nat) (k : C7 -> Option (List Un)) : C7 -> Option (List Un) := fun (a0, a1, a2, a3, a4, a5, a6, a7, a8, a9, a10, a11, a12, a13, a14, a15) =>
 bif decide (a1 < a0) then
 chk (decide ((a2.toNat : Int).toNat + (a3.toNat : Int).toNat <= a5.length)) <|
 bd ((rdN (a2.toNat : Int) (a3.toNat : Int) a4 a5) : RdR) fun r25 =>
 chk (decide ((r25.o.toNat : Int).toNat + (r25.n.toNat : Int).toNat <= r25.l.length)) <|
 bd ((rdN (r25.o.toNat : Int) (r25.n.toNat : Int) r25.bad r25.l) : RdR) fun r26 =>
 chk (decide ((r26.o.toNat : Int).toNat + (r26.n.toNat : Int).toNat <= r26.l.length)) <|
 bd ((rdN (r26.o.toNat : Int) (r26.n.toNat : Int) r26.bad r26.l) : RdR) fun r27 =>
 chk (fits (a15.length + 1) 24) <|
 k (a0, (w64 (a1 + 1)), (r27.o.toNat : Int), (r27.n.toNat : Int), r27.bad, r27.l, a6, a7, a8, a9, a10, a11, a12, a13, a14, (a15 ++ ([.r [.n r25.v, .n r26.v, .n r27.v]])))
 else
 some (Uns.enc (a9 : bj) ++ Uns.enc (a10 : aZ) ++ [.i a11, .i (a2.toNat : Int), .i (a3.toNat : Int), .b a4, .l a5, .d a14, .d a15])
def vZ (m : Nat) : Nat -> C7 -> Option (List Un) := bp (xW m)
theorem uy (m : Nat) (n : Nat) : vZ m (n + 1) = xW m (vZ m n) := rfl
def HJ (F : C7 -> Option (List Un)) : aW := ⟨[.lp [0, 1, 0, 1, 1, 1, 1, 1], .blk 6, .code [1, 1, 1, 1, 1, 1]], ⟨frm 92 [(0, .ptr 0 0 0), (2, .ptr 2 0 0), (3, .ptr 3 0 0), (73, .int .i64), (74, .int .i64)], [.cells [.sl 1 1, .bool], .ints .i64, .cells [.bool, .int .i64, .int .i64, .int .i64, .int .i64, .int .i64, .int .i64, .int .i64, .int .i64, .int .i64, .int .i64, .buf 4 4, .int .i64, .int .i64, .int .i64, .int .i64, .int .i64, .buf 5 3, .int .i64], .cells [.bool, .int .i64, .int .i64, .int .i64, .int .i64, .int .i64, .int .i64, .int .i64, .int .i64, .int .i64, .int .i64, .buf 6 4, .int .i64, .int .i64, .int .i64, .int .i64, .int .i64, .buf 7 3, .int .i64], .ai (sI 4), .ai (sI 3), .ai (sI 4), .ai (sI 3)], 0⟩, onU F⟩
def xk (m : Nat) (k : C8 -> Option (List Un)) : C8 -> Option (List Un) := fun (a0, a1, a2, a3, a4, a5, a6, a7, a8, a9, a10, a11, a12, a13, a14, a15) =>
 bif decide (a1 < a0) then
 chk (decide ((a2.toNat : Int).toNat + (a3.toNat : Int).toNat <= a5.length)) <|
 bd ((rdN (a2.toNat : Int) (a3.toNat : Int) a4 a5) : RdR) fun r19 =>
 chk (decide ((r19.o.toNat : Int).toNat + (r19.n.toNat : Int).toNat <= r19.l.length)) <|
 bd ((rdN (r19.o.toNat : Int) (r19.n.toNat : Int) r19.bad r19.l) : RdR) fun r20 =>
 chk (decide ((r20.o.toNat : Int).toNat + (r20.n.toNat : Int).toNat <= r20.l.length)) <|
 bd ((rdN (r20.o.toNat : Int) (r20.n.toNat : Int) r20.bad r20.l) : RdR) fun r21 =>
 chk (decide ((r21.o.toNat : Int).toNat + (r21.n.toNat : Int).toNat <= r21.l.length)) <|
 bd ((rdN (r21.o.toNat : Int) (r21.n.toNat : Int) r21.bad r21.l) : RdR) fun r22 =>
 chk (fits (a14.length + 1) 32) <|
 k (a0, (w64 (a1 + 1)), (r22.o.toNat : Int), (r22.n.toNat : Int), r22.bad, r22.l, a6, a7, a8, a9, a10, a11, a12, a13, (a14 ++ ([.r [.n r19.v, .n r20.v, .n r21.v, .n r22.v]])), a15)
 else
 chk (decide ((a2.toNat : Int).toNat + (a3.toNat : Int).toNat <= a5.length)) <|
 bd ((rdM (a2.toNat : Int) (a3.toNat : Int) a4 a5 8) : RdR) fun r24 =>
 vZ m m (r24.v, 0, (r24.o.toNat : Int), (r24.n.toNat : Int), r24.bad, r24.l, a6, a7, a8, a9, a10, a11, a12, a13, a14, a15)
def vY (m : Nat) : Nat -> C8 -> Option (List Un) := bp (xk m)
theorem tw (m : Nat) (n : Nat) : vY m (n + 1) = xk m (vY m n) := rfl
def GW (F : C8 -> Option (List Un)) : aW := ⟨[.lp [0, 1, 0, 1, 1, 1, 1], .blk 2, .code [1, 1, 1, 1, 1]], ⟨frm 92 [(0, .ptr 0 0 0), (2, .ptr 2 0 0), (3, .ptr 3 0 0), (47, .int .i64), (48, .int .i64)], [.cells [.sl 1 1, .bool], .ints .i64, .cells [.bool, .int .i64, .int .i64, .int .i64, .int .i64, .int .i64, .int .i64, .int .i64, .int .i64, .int .i64, .int .i64, .buf 4 4, .int .i64, .int .i64, .int .i64, .int .i64, .int .i64, .buf 5 3, .int .i64], .cells [.bool, .int .i64, .int .i64, .int .i64, .int .i64, .int .i64, .int .i64, .int .i64, .int .i64, .int .i64, .int .i64, .buf 6 4, .int .i64, .int .i64, .int .i64, .int .i64, .int .i64, .buf 7 3, .int .i64], .ai (sI 4), .ai (sI 3), .ai (sI 4), .ai (sI 3)], 0⟩, onU F⟩
theorem PW (m : Nat) : ∀ n, HO N51 (HJ (vZ m n)) := au ah T54.right (fun k => [HJ k]) (fun k h => (aL h aA)) fun k a => by kernel_rfl
theorem PC (m : Nat) : ∀ n, HO N51 (GW (vY m n)) := au ah T54.right (fun k => [GW k, HJ (vZ m m)]) (fun k h => (aL h (aL (PW m m) aA))) fun k a => by kernel_rfl
def t51 (m : Nat) : Int × Int × Bool × List Int -> Option (List Un) := fun (a0, a1, a2, a3) =>
 chk (decide ((a0.toNat : Int).toNat + (a1.toNat : Int).toNat <= a3.length)) <|
 bd ((rdM (a0.toNat : Int) (a1.toNat : Int) a2 a3 1) : RdR) fun r1 =>
 chk (decide ((r1.o.toNat : Int).toNat + (r1.n.toNat : Int).toNat <= r1.l.length)) <|
 bd ((rdN (r1.o.toNat : Int) (r1.n.toNat : Int) r1.bad r1.l) : RdR) fun r2 =>
 chk (decide ((r2.o.toNat : Int).toNat + (r2.n.toNat : Int).toNat <= r2.l.length)) <|
 bd ((rdN (r2.o.toNat : Int) (r2.n.toNat : Int) r2.bad r2.l) : RdR) fun r3 =>
 chk (decide ((r3.o.toNat : Int).toNat + (r3.n.toNat : Int).toNat <= r3.l.length)) <|
 bd ((rdN (r3.o.toNat : Int) (r3.n.toNat : Int) r3.bad r3.l) : RdR) fun r4 =>
 chk (decide ((r4.o.toNat : Int).toNat + (r4.n.toNat : Int).toNat <= r4.l.length)) <|
 bd ((rdN (r4.o.toNat : Int) (r4.n.toNat : Int) r4.bad r4.l) : RdR) fun r5 =>
 chk (decide ((r5.o.toNat : Int).toNat + (r5.n.toNat : Int).toNat <= r5.l.length)) <|
 bd ((rdN (r5.o.toNat : Int) (r5.n.toNat : Int) r5.bad r5.l) : RdR) fun r6 =>
 chk (decide ((r6.o.toNat : Int).toNat + (r6.n.toNat : Int).toNat <= r6.l.length)) <|
 bd ((rdN (r6.o.toNat : Int) (r6.n.toNat : Int) r6.bad r6.l) : RdR) fun r7 =>
 chk (decide ((r7.o.toNat : Int).toNat + (r7.n.toNat : Int).toNat <= r7.l.length)) <|
 bd ((rdN (r7.o.toNat : Int) (r7.n.toNat : Int) r7.bad r7.l) : RdR) fun r8 =>
 chk (decide ((r8.o.toNat : Int).toNat + (r8.n.toNat : Int).toNat <= r8.l.length)) <|
 bd ((rdN (r8.o.toNat : Int) (r8.n.toNat : Int) r8.bad r8.l) : RdR) fun r9 =>
 chk (decide ((r9.o.toNat : Int).toNat + (r9.n.toNat : Int).toNat <= r9.l.length)) <|
 bd ((rdN (r9.o.toNat : Int) (r9.n.toNat : Int) r9.bad r9.l) : RdR) fun r10 =>
 chk (decide ((r10.o.toNat : Int).toNat + (r10.n.toNat : Int).toNat <= r10.l.length)) <|
 bd ((rdN (r10.o.toNat : Int) (r10.n.toNat : Int) r10.bad r10.l) : RdR) fun r11 =>
 chk (decide ((r11.o.toNat : Int).toNat + (r11.n.toNat : Int).toNat <= r11.l.length)) <|
 bd ((rdN (r11.o.toNat : Int) (r11.n.toNat : Int) r11.bad r11.l) : RdR) fun r12 =>
 chk (decide ((r12.o.toNat : Int).toNat + (r12.n.toNat : Int).toNat <= r12.l.length)) <|
 bd ((rdN (r12.o.toNat : Int) (r12.n.toNat : Int) r12.bad r12.l) : RdR) fun r13 =>
 chk (decide ((r13.o.toNat : Int).toNat + (r13.n.toNat : Int).toNat <= r13.l.length)) <|
 bd ((rdN (r13.o.toNat : Int) (r13.n.toNat : Int) r13.bad r13.l) : RdR) fun r14 =>
 chk (decide ((r14.o.toNat : Int).toNat + (r14.n.toNat : Int).toNat <= r14.l.length)) <|
 bd ((rdN (r14.o.toNat : Int) (r14.n.toNat : Int) r14.bad r14.l) : RdR) fun r15 =>
 chk (decide ((r15.o.toNat : Int).toNat + (r15.n.toNat : Int).toNat <= r15.l.length)) <|
 bd ((rdN (r15.o.toNat : Int) (r15.n.toNat : Int) r15.bad r15.l) : RdR) fun r16 =>
 chk (decide ((r16.o.toNat : Int).toNat + (r16.n.toNat : Int).toNat <= r16.l.length)) <|
 bd ((rdN (r16.o.toNat : Int) (r16.n.toNat : Int) r16.bad r16.l) : RdR) fun r17 =>
 chk (decide ((r17.o.toNat : Int).toNat + (r17.n.toNat : Int).toNat <= r17.l.length)) <|
 bd ((rdM (r17.o.toNat : Int) (r17.n.toNat : Int) r17.bad r17.l 160) : RdR) fun r18 =>
 vY m m (r18.v, 0, (r18.o.toNat : Int), (r18.n.toNat : Int), r18.bad, r18.l, (⟨false, 0, 0, 0, 0, 0, 0, 0, 0, 0, 0⟩ : bj), (⟨0, 0, 0, 0, 0⟩ : aZ), 0, (⟨r1.v == 1, r2.v, r3.v, r4.v, r5.v, r6.v, r7.v, r8.v, r9.v, r10.v, r11.v⟩ : bj), (⟨r12.v, r13.v, r14.v, r15.v, r16.v⟩ : aZ), r17.v, [], [], [], [])
theorem ME (m : Nat) (xa : bj) (xb : aZ) (xn : Int) (ya : bj) (yb : aZ) (yn : Int) (z1 z2 p : List Dat) : ∀ (c : Nat) (n : Nat) (k : Nat) (r : RdR) (acc : List Dat), c < n -> k + c <= 8 -> acc.length <= k -> RdI r ->
 vZ m n (((k + c : Nat) : Int), (k : Int), r.o, r.n, r.bad, r.l, xa, xb, xn, ya, yb, yn, z1, z2, p, acc) = some (Uns.enc ya ++ Uns.enc yb ++ [.i yn, .i (g9 c r).2.o, .i (g9 c r).2.n, .b (g9 c r).2.bad, .l (g9 c r).2.l, .d p, .d (acc ++ (g9 c r).1)]) := by
 intro c
 induction c with
 | zero =>
  intro n k r acc hn hk ha hr; obtain ⟨n, rfl⟩ := al n (by omega); rw [uy]; unfold xW; dsimp only; rw [aF (by omega), hr.1, hr.2.1]; simp [g9]
 | succ c ih =>
  intro n k r acc hn hk ha hr; obtain ⟨n, rfl⟩ := al n (by omega); rw [uy]; unfold xW; dsimp only; have h1 := dg hr; have h2 := dg h1; have h3 := dg h2; rw [bJ (by omega)]; dsimp only [bd]; rw [hr.1, hr.2.1]; refine ba (zah hr.2.2) ?_
  rw [show rdN r.o r.n r.bad r.l = nx r from rfl, h1.1, h1.2.1]; refine ba (zah h1.2.2) ?_
  rw [show rdN (nx r).o (nx r).n (nx r).bad (nx r).l = nx (nx r) from rfl, h2.1, h2.2.1]; refine ba (zah h2.2.2) ?_
  rw [show rdN (nx (nx r)).o (nx (nx r)).n (nx (nx r)).bad (nx (nx r)).l = nx (nx (nx r)) from rfl, h3.1, h3.2.1]; rw [jn (by omega) (by omega)]; have := ih n (k + 1) (nx (nx (nx r))) (acc ++ [.r [.n (nx r).v, .n (nx (nx r)).v, .n (nx (nx (nx r))).v]]) (by omega) (by omega) (by simp; omega) h3; have e : w64 ((k : Int) + 1) = ((k + 1 : Nat) : Int) := by rw [aa (by omega) (by omega)]; simp
  rw [e, show k + (c + 1) = k + 1 + c by omega, this]; simp only [g9, zaJ, zaX, zaV]
theorem MX (m : Nat) (hm : 9 <= m) (xa : bj) (xb : aZ) (xn : Int) (ya : bj) (yb : aZ) (yn : Int) (z1 z2 : List Dat) : ∀ (c : Nat) (n : Nat) (k : Nat) (r : RdR) (acc : List Dat), c < n -> k + c <= 160 -> acc.length <= k -> RdI r ->
 vY m n (((k + c : Nat) : Int), (k : Int), r.o, r.n, r.bad, r.l, xa, xb, xn, ya, yb, yn, z1, z2, acc, []) =
  (let p := jG c r; let t := mx p.2 8; let q := g9 t.v.toNat t; some (Uns.enc ya ++ Uns.enc yb ++ [.i yn, .i q.2.o, .i q.2.n, .b q.2.bad, .l q.2.l, .d (acc ++ p.1), .d q.1])) := by
 intro c
 induction c with
 | zero =>
  intro n k r acc hn hk ha hr; obtain ⟨n, rfl⟩ := al n (by omega); rw [tw]; unfold xk; dsimp only; rw [aF (by omega), hr.1, hr.2.1]; dsimp only [bd]; refine ba (zah hr.2.2) ?_
  have ht := JT (most := 8) hr; rw [show rdM r.o r.n r.bad r.l 8 = mx r 8 from rfl, ht.1, ht.2.1]; have hv : 0 <= (mx r 8).v /\ (mx r 8).v <= 8 := C4 (by decide); have := ME m xa xb xn ya yb yn z1 z2 acc (mx r 8).v.toNat m 0 (mx r 8) [] (by omega) (by omega) (by simp) ht; rw [show (((0 + (mx r 8).v.toNat : Nat)) : Int) = (mx r 8).v by omega] at this; simp only [jG, zaZ]; exact this
 | succ c ih =>
  intro n k r acc hn hk ha hr; obtain ⟨n, rfl⟩ := al n (by omega); rw [tw]; unfold xk; dsimp only; have h1 := dg hr; have h2 := dg h1; have h3 := dg h2; have h4 := dg h3; rw [bJ (by omega)]; dsimp only [bd]; rw [hr.1, hr.2.1]; refine ba (zah hr.2.2) ?_
  rw [show rdN r.o r.n r.bad r.l = nx r from rfl, h1.1, h1.2.1]; refine ba (zah h1.2.2) ?_
  rw [show rdN (nx r).o (nx r).n (nx r).bad (nx r).l = nx (nx r) from rfl, h2.1, h2.2.1]; refine ba (zah h2.2.2) ?_
  rw [show rdN (nx (nx r)).o (nx (nx r)).n (nx (nx r)).bad (nx (nx r)).l = nx (nx (nx r)) from rfl, h3.1, h3.2.1]; refine ba (zah h3.2.2) ?_
  rw [show rdN (nx (nx (nx r))).o (nx (nx (nx r))).n (nx (nx (nx r))).bad (nx (nx (nx r))).l = nx (nx (nx (nx r))) from rfl, h4.1, h4.2.1]; rw [jn (by omega) (by omega)]; have := ih n (k + 1) (nx (nx (nx (nx r)))) (acc ++ [.r [.n (nx r).v, .n (nx (nx r)).v, .n (nx (nx (nx r))).v, .n (nx (nx (nx (nx r)))).v]]) (by omega) (by omega) (by simp; omega) h4; have e : w64 ((k : Int) + 1) = ((k + 1 : Nat) : Int) := by rw [aa (by omega) (by omega)]; simp
  rw [e, show k + (c + 1) = k + 1 + c by omega, this]; simp only [jG, zaJ, zaX, zaV]
theorem iH {r : RdR} (h : RdI r) {β : Type} (f : RdR -> Option β) : (chk (decide ((r.o.toNat : Int).toNat + (r.n.toNat : Int).toNat <= r.l.length)) <| bd (rdN (r.o.toNat : Int) (r.n.toNat : Int) r.bad r.l) f) = f (nx r) := by
 rw [h.1, h.2.1]; exact ba (zah h.2.2) rfl
def f51 : Int × Int × Bool × List Int -> Bool × List Un := fun (a0, a1, a2, a3) => (decide (a0.toNat + a1.toNat <= a3.length), Uns.enc (((dz a0 a1 a2 a3).ra) : bj) ++ Uns.enc (((dz a0 a1 a2 a3).rb) : aZ) ++ [.i ((dz a0 a1 a2 a3).next), .i ((dz a0 a1 a2 a3).r.o), .i ((dz a0 a1 a2 a3).r.n), .b ((dz a0 a1 a2 a3).r.bad), .l ((dz a0 a1 a2 a3).r.l), .d ((dz a0 a1 a2 a3).aM), .d ((dz a0 a1 a2 a3).notes)])
set_option maxHeartbeats 2000000 in
theorem M9 (a0 : Int) (a1 : Int) (a2 : Bool) (a3 : List Int) (hc : (decide (a0.toNat + a1.toNat <= a3.length)) = true) : ∃ m, t51 m (a0, a1, a2, a3) = some (Uns.enc (((dz a0 a1 a2 a3).ra) : bj) ++ Uns.enc (((dz a0 a1 a2 a3).rb) : aZ) ++ [.i ((dz a0 a1 a2 a3).next), .i ((dz a0 a1 a2 a3).r.o), .i ((dz a0 a1 a2 a3).r.n), .b ((dz a0 a1 a2 a3).r.bad), .l ((dz a0 a1 a2 a3).r.l), .d ((dz a0 a1 a2 a3).aM), .d ((dz a0 a1 a2 a3).notes)]) := by
 have hl := zaj hc; refine ⟨200, ?_⟩; unfold t51; have i1 : RdI (rdM a0 a1 a2 a3 1) := F0 hl; refine ba (zah hl) ?_
 rw [show bd (rdM (a0.toNat : Int) (a1.toNat : Int) a2 a3 1) = bd (rdM a0 a1 a2 a3 1) from rfl]; have e1 : ∀ {β : Type} (f : RdR -> Option β), bd (rdM a0 a1 a2 a3 1) f = f (rdM a0 a1 a2 a3 1) := fun f => rfl
 rw [e1]; have i2 := dg i1; have i3 := dg i2; have i4 := dg i3; have i5 := dg i4; have i6 := dg i5; have i7 := dg i6; have i8 := dg i7; have i9 := dg i8; have i10 := dg i9; have i11 := dg i10; have i12 := dg i11; have i13 := dg i12; have i14 := dg i13; have i15 := dg i14; have i16 := dg i15; have i17 := dg i16; rw [iH i1, iH i2, iH i3, iH i4, iH i5, iH i6, iH i7, iH i8, iH i9, iH i10, iH i11, iH i12, iH i13, iH i14, iH i15, iH i16]; rw [i17.1, i17.2.1]; refine ba (zah i17.2.2) ?_
 dsimp only [bd]; have i18 := JT (most := 160) i17; unfold dz; dsimp only; generalize nx (nx (nx (nx (nx (nx (nx (nx (nx (nx (nx (nx (nx (nx (nx (nx (rdM a0 a1 a2 a3 1)))))))))))))))) = r17 at *
 rw [show rdM r17.o r17.n r17.bad r17.l 160 = mx r17 160 from rfl, i18.1, i18.2.1]; have hv : 0 <= (mx r17 160).v /\ (mx r17 160).v <= 160 := C4 (by decide); have := MX 200 (by decide) (⟨false, 0, 0, 0, 0, 0, 0, 0, 0, 0, 0⟩ : bj) (⟨0, 0, 0, 0, 0⟩ : aZ) 0 (Ag (rdM a0 a1 a2 a3 1) r17).1 (Ag (rdM a0 a1 a2 a3 1) r17).2.1 (Ag (rdM a0 a1 a2 a3 1) r17).2.2 [] [] (mx r17 160).v.toNat 200 0 (mx r17 160) [] (by omega) (by omega) (by simp) i18; rw [show (((0 + (mx r17 160).v.toNat : Nat)) : Int) = (mx r17 160).v by omega] at this; exact this
theorem Dz : ER 51 (mkE N51.en N51.ex f51) := an ah T54.right (fun m => [GW (vY m m)]) (t := t51) (by kernel_rfl) (fun m => (aL (PC m m) aA)) (fun m a => by kernel_rfl) fun (a0, a1, a2, a3) hc => M9 a0 a1 a2 a3 hc
def T51 : Tb Tryz.prog LQ TE XX := T54.add 51 _ Dz
def Qm : D0 -> List Un := fun r => Uns.enc (r.ra : bj) ++ Uns.enc (r.rb : aZ) ++ [.i r.next, .i r.r.o, .i r.r.n, .b r.r.bad, .l r.r.l, .d r.aM, .d r.notes]
def QL : Int × Int × Bool × List Int -> Bool × D0 := fun (a0, a1, a2, a3) => (decide (a0.toNat + a1.toNat <= a3.length), (dz a0 a1 a2 a3))
theorem Hy : ER 51 (mkB N51.en N51.ex QL Qm) := rebind Dz fun (a0, a1, a2, a3) => rfl
def FN : Tb Tryz.prog LQ TE XX := T51.add 51 _ Hy
theorem Au {α : Type} {c d : Bool} {F Y : α} : (bif c then (bif !d then F else Y) else F) = bif c && d then Y else F := by cases c <;> cases d <;> rfl
theorem cond_not {α : Type} {d : Bool} {F Y : α} : (bif !d then F else Y) = bif d then Y else F := by cases d <;> rfl
def uc (d : Dat) : Bool := decide (d.i 0 >= 0) && (decide (d.i 0 <= 15) && (decide (d.i 1 >= 1) && (decide (d.i 1 <= 7) && (decide (d.i 2 >= -1) && (decide (d.i 2 <= 7) && (decide (d.i 3 >= 1) && decide (d.i 3 <= 1152921504606846976)))))))
def qA (d : Dat) : Bool := ([d.i 0, d.i 1, d.i 2] : List Int).all vu
def uB (ra : bj) (rb : aZ) : List Int := [ra.aj, ra.bR, ra.aD, ra.aK, ra.draw, ra.advance, ra.fee, ra.due, rb.bw, rb.aY, rb.aV, rb.out, rb.jt]
def bW (ra : bj) (aM : List Dat) (rb : aZ) (notes : List Dat) (next : Int) : Bool :=
 decide (ra.period >= 0) && (decide (ra.period <= 600) && (decide (ra.mode >= 0) && (decide (ra.mode <= 2) && (decide (next >= 0) && (decide (next <= 2) && ((uB ra rb).all vu && (decide ((aM.length : Int) <= 160) && (decide ((notes.length : Int) <= 8) && (aM.all uc && notes.all qA)))))))))
def N15 : aC := ⟨FN.tab, 15, ⟨[.agg [.bool, .int .i64, .int .i64, .int .i64, .int .i64, .int .i64, .int .i64, .int .i64, .int .i64, .int .i64, .int .i64, .ai (sI 4), .int .i64, .int .i64, .int .i64, .int .i64, .int .i64, .ai (sI 3), .int .i64]], [], 0⟩, ⟨[.bool], [], 0⟩, []⟩
abbrev CD : Type := List Dat × Int × Int
abbrev Dw : Type := List Dat × Int × Int × bj × List Dat × aZ × List Dat × Int
def yi (m : Nat) (k : CD -> Option (List Un)) : CD -> Option (List Un) := fun (a0, a1, a2) =>
 bif decide (a2 < a1) then
 chk (inb a2 a0.length) <|
 chk (decide (a2.toNat < a0.length)) <|
 lt (ag a0 a2.toNat : Dat) fun d8 =>
 chk (decide (([(d8.i 0), (d8.i 1), (d8.i 2)] : List Int).length <= 1000000)) <|
 bif !(([(d8.i 0), (d8.i 1), (d8.i 2)] : List Int).all vu) then
 some ([.b false])
 else
 k (a0, a1, (w64 (a2 + 1)))
 else
 some ([.b true])
def v7 (m : Nat) : Nat -> CD -> Option (List Un) := bp (yi m)
theorem sJ (m : Nat) (n : Nat) : v7 m (n + 1) = yi m (v7 m n) := rfl
def Hd (F : CD -> Option (List Un)) : aW := ⟨[.lp [0, 1, 0, 1, 1, 1], .blk 2, .code [1, 1, 1, 1]], ⟨frm 82 [(72, .ai (sI 3)), (73, .int .i64), (74, .int .i64)], [], 0⟩, onU F⟩
def yc (m : Nat) (k : Dw -> Option (List Un)) : Dw -> Option (List Un) := fun (a0, a1, a2, a3, a4, a5, a6, a7) =>
 bif decide (a2 < a1) then
 chk (inb a2 a0.length) <|
 chk (decide (a2.toNat < a0.length)) <|
 lt (ag a0 a2.toNat : Dat) fun d5 =>
 bif decide ((d5.i 0) >= 0) then
 bif !(decide ((d5.i 0) <= 15)) then
 some ([.b false])
 else
 bif decide ((d5.i 1) >= 1) then
 bif !(decide ((d5.i 1) <= 7)) then
 some ([.b false])
 else
 bif (decide ((d5.i 2) >= (-1))) then
 bif !(decide ((d5.i 2) <= 7)) then
 some ([.b false])
 else
 bif decide ((d5.i 3) >= 1) then
 bif !(decide ((d5.i 3) <= 1152921504606846976)) then
 some ([.b false])
 else
 k (a0, a1, (w64 (a2 + 1)), a3, a4, a5, a6, a7)
 else
 some ([.b false])
 else
 some ([.b false])
 else
 some ([.b false])
 else
 some ([.b false])
 else
 v7 m m (a6, (a6.length : Int), 0)
def sF (m : Nat) : Nat -> Dw -> Option (List Un) := bp (yc m)
theorem ur (m : Nat) (n : Nat) : sF m (n + 1) = yc m (sF m n) := rfl
def Fb (F : Dw -> Option (List Un)) : aW := ⟨[.lp [0, 1, 0, 1, 1], .blk 0, .code [1, 1, 1]], ⟨frm 82 [(1, .ptr 0 0 0), (42, .ai (sI 4)), (43, .int .i64), (44, .int .i64)], [.cells [.bool, .int .i64, .int .i64, .int .i64, .int .i64, .int .i64, .int .i64, .int .i64, .int .i64, .int .i64, .int .i64, .ai (sI 4), .int .i64, .int .i64, .int .i64, .int .i64, .int .i64, .ai (sI 3), .int .i64]], 0⟩, onU F⟩
theorem Ok (m : Nat) : ∀ n, HO N15 (Hd (v7 m n)) := au ah FN.right (fun k => [Hd k]) (fun k h => (aL h aA)) fun k a => by kernel_rfl
theorem Pg (m : Nat) : ∀ n, HO N15 (Fb (sF m n)) := au ah FN.right (fun k => [Fb k, Hd (v7 m m)]) (fun k h => (aL h (aL (Ok m m) aA))) fun k a => by kernel_rfl
def t15 (m : Nat) : bj × List Dat × aZ × List Dat × Int -> Option (List Un) := fun (a0, a1, a2, a3, a4) =>
 bif decide (a0.period >= 0) then
 bif !(decide (a0.period <= 600)) then
 some ([.b false])
 else
 bif decide (a0.mode >= 0) then
 bif !(decide (a0.mode <= 2)) then
 some ([.b false])
 else
 bif decide (a4 >= 0) then
 bif !(decide (a4 <= 2)) then
 some ([.b false])
 else
 chk (decide (([a0.aj, a0.bR, a0.aD, a0.aK, a0.draw, a0.advance, a0.fee, a0.due, a2.bw, a2.aY, a2.aV, a2.out, a2.jt] : List Int).length <= 1000000)) <|
 bif !(([a0.aj, a0.bR, a0.aD, a0.aK, a0.draw, a0.advance, a0.fee, a0.due, a2.bw, a2.aY, a2.aV, a2.out, a2.jt] : List Int).all vu) then
 some ([.b false])
 else
 bif (decide ((a1.length : Int) > 160)) then
 some ([.b false])
 else
 bif (decide ((a3.length : Int) > 8)) then
 some ([.b false])
 else
 sF m m (a1, (a1.length : Int), 0, a0, a1, a2, a3, a4)
 else
 some ([.b false])
 else
 some ([.b false])
 else
 some ([.b false])
theorem IF (m : Nat) : ∀ (rest pre : List Dat) (n : Nat), rest.length < n -> (pre ++ rest).length <= 1000000 -> v7 m n (pre ++ rest, ((pre ++ rest).length : Int), (pre.length : Int)) = some [.b (rest.all qA)] := by
 intro rest
 induction rest with
 | nil =>
  intro pre n hn hl; obtain ⟨n, rfl⟩ := al n (by simp at hn; omega); rw [sJ]; unfold yi; dsimp only; rw [aF (by simp)]; rfl
 | cons x rest ih =>
  intro pre n hn hl; obtain ⟨n, rfl⟩ := al n (by simp at hn; omega); simp only [zac, zad] at hn hl; rw [sJ]; unfold yi; dsimp only; rw [bJ (by simp only [zad, zac]; omega), dV (by omega) (by simp only [zad, zac]; omega), aO (by simp)]; have hx : ag (pre ++ x :: rest) (pre.length : Int).toNat = x := by simp [ag]
  have := ih (pre ++ [x]) n (by omega) (by simp; omega); have e : w64 ((pre.length : Int) + 1) = ((pre ++ [x]).length : Int) := by
   rw [aa (by omega) (by omega)]; simp
  have e3 : pre ++ x :: rest = (pre ++ [x]) ++ rest := by simp
  rw [hx]; dsimp only [lt]; refine ba rfl ?_
  rw [cond_not, e, e3, this, kv]; simp only [List.all_cons, qA]
theorem Lj (m : Nat) (ra : bj) (xp : List Dat) (rb : aZ) (notes : List Dat) (xn : Int) (hm : notes.length < m) (hn9 : notes.length <= 1000000) : ∀ (rest pre : List Dat) (n : Nat), rest.length < n -> (pre ++ rest).length <= 1000000 -> sF m n (pre ++ rest, ((pre ++ rest).length : Int), (pre.length : Int), ra, xp, rb, notes, xn) = some [.b (rest.all uc && notes.all qA)] := by
 intro rest
 induction rest with
 | nil =>
  intro pre n hn hl; obtain ⟨n, rfl⟩ := al n (by simp at hn; omega); rw [ur]; unfold yc; dsimp only; rw [aF (by simp)]; exact IF m notes [] m hm hn9
 | cons x rest ih =>
  intro pre n hn hl; obtain ⟨n, rfl⟩ := al n (by simp at hn; omega); simp only [zac, zad] at hn hl; rw [ur]; unfold yc; dsimp only; rw [bJ (by simp only [zad, zac]; omega), dV (by omega) (by simp only [zad, zac]; omega), aO (by simp)]; have hx : ag (pre ++ x :: rest) (pre.length : Int).toNat = x := by simp [ag]
  have := ih (pre ++ [x]) n (by omega) (by simp; omega); have e : w64 ((pre.length : Int) + 1) = ((pre ++ [x]).length : Int) := by
   rw [aa (by omega) (by omega)]; simp
  have e3 : pre ++ x :: rest = (pre ++ [x]) ++ rest := by simp
  rw [hx]; dsimp only [lt]; rw [e, e3, this]; simp only [Au, kv, List.all_cons, uc, Bool.and_assoc]
def f15 : bj × List Dat × aZ × List Dat × Int -> Bool × List Un := fun (a0, a1, a2, a3, a4) => (decide (a1.length <= 1000000) && decide (a3.length <= 1000000), [.b ((bW a0 a1 a2 a3 a4))])
theorem Nh (a0 : bj) (a1 : List Dat) (a2 : aZ) (a3 : List Dat) (a4 : Int) (hc : (decide (a1.length <= 1000000) && decide (a3.length <= 1000000)) = true) : ∃ m, t15 m (a0, a1, a2, a3, a4) = some ([.b ((bW a0 a1 a2 a3 a4))]) := by
 have hc' := hc; simp only [zab, zai] at hc'; obtain ⟨h1, h2⟩ := hc'; refine ⟨a1.length + a3.length + 1, ?_⟩; have this : sF (a1.length + a3.length + 1) (a1.length + a3.length + 1) (a1, (a1.length : Int), 0, a0, a1, a2, a3, a4) = some [.b (a1.all uc && a3.all qA)] := Lj (a1.length + a3.length + 1) a0 a1 a2 a3 a4 (by omega) h2 a1 [] (a1.length + a3.length + 1) (by omega) (by simpa using h1); unfold t15; dsimp only; rw [this]; simp only [Au, cond_not, xt]; rw [show (decide (([a0.aj, a0.bR, a0.aD, a0.aK, a0.draw, a0.advance, a0.fee, a0.due, a2.bw, a2.aY, a2.aV, a2.out, a2.jt] : List Int).length <= 1000000)) = true from rfl]; simp only [chk, zaC, kv, bW, uB, Bool.and_assoc]
theorem J2 : ER 15 (mkE N15.en N15.ex f15) := an ah FN.right (fun m => [Fb (sF m m)]) (t := t15) (by kernel_rfl) (fun m => (aL (Pg m m) aA)) (fun m a => by kernel_rfl) fun (a0, a1, a2, a3, a4) hc => Nh a0 a1 a2 a3 a4 hc
def T15 : Tb Tryz.prog LQ TE XX := FN.add 15 _ J2
def fw (d : Dat) : List Int := [d.i 0, d.i 1, d.i 2, d.i 3]
def gE (d : Dat) : List Int := [d.i 0, d.i 1, d.i 2]
def jb (ra : bj) (aM : List Dat) (rb : aZ) (next : Int) : List Int := [bI ra.call, ra.period, ra.mode, ra.aj, ra.bR, ra.aD, ra.aK, ra.draw, ra.advance, ra.fee, ra.due, rb.bw, rb.aY, rb.aV, rb.out, rb.jt, next, (aM.length : Int)]
def jF (ra : bj) (aM : List Dat) (rb : aZ) (notes : List Dat) (next : Int) : List Int := jb ra aM rb next ++ (aM.flatMap fw ++ ((notes.length : Int) :: notes.flatMap gE))
def dv (ra : bj) (aM : List Dat) (rb : aZ) (notes : List Dat) (next : Int) : List Int := bif bW ra aM rb notes next then cQ (jF ra aM rb notes next) else []
def N12 : aC := ⟨T15.tab, 12, ⟨[.agg [.bool, .int .i64, .int .i64, .int .i64, .int .i64, .int .i64, .int .i64, .int .i64, .int .i64, .int .i64, .int .i64, .ai (sI 4), .int .i64, .int .i64, .int .i64, .int .i64, .int .i64, .ai (sI 3), .int .i64]], [], 0⟩, ⟨[.buf 0 1], [.ints .u8], 0⟩, []⟩
abbrev DC : Type := List Dat × Int × Int × List Int
abbrev CM : Type := List Dat × Int × Int × bj × List Dat × aZ × List Dat × Int × List Int
def yL (m : Nat) (k : DC -> Option (List Un)) : DC -> Option (List Un) := fun (a0, a1, a2, a3) =>
 bif decide (a2 < a1) then
 chk (inb a2 a0.length) <|
 chk (decide (a2.toNat < a0.length)) <|
 lt (ag a0 a2.toNat : Dat) fun d4 =>
 chk (fits (a3.length + 3) 8) <|
 k (a0, a1, (w64 (a2 + 1)), (a3 ++ ([(d4.i 0), (d4.i 1), (d4.i 2)])))
 else
 chk (decide (a3.length <= 1000000)) <|
 some ([.l (cQ a3)])
def vW (m : Nat) : Nat -> DC -> Option (List Un) := bp (yL m)
theorem tS (m : Nat) (n : Nat) : vW m (n + 1) = yL m (vW m n) := rfl
def Hj (F : DC -> Option (List Un)) : aW := ⟨[.lp [0, 1, 0, 1, 1, 1, 1, 1, 1, 1, 1], .blk 2, .code [1, 1, 1, 1, 1, 1, 1, 1, 1]], ⟨frm 69 [(4, .buf 0 1), (57, .ai (sI 3)), (58, .int .i64), (59, .int .i64)], [.ints .i64], 0⟩, onU F⟩
def yI (m : Nat) (k : CM -> Option (List Un)) : CM -> Option (List Un) := fun (a0, a1, a2, a3, a4, a5, a6, a7, a8) =>
 bif decide (a2 < a1) then
 chk (inb a2 a0.length) <|
 chk (decide (a2.toNat < a0.length)) <|
 lt (ag a0 a2.toNat : Dat) fun d1 =>
 chk (fits (a8.length + 4) 8) <|
 k (a0, a1, (w64 (a2 + 1)), a3, a4, a5, a6, a7, (a8 ++ ([(d1.i 0), (d1.i 1), (d1.i 2), (d1.i 3)])))
 else
 chk (fits (a8.length + 1) 8) <|
 vW m m (a6, (a6.length : Int), 0, (a8 ++ ([(a6.length : Int)])))
def qR (m : Nat) : Nat -> CM -> Option (List Un) := bp (yI m)
theorem uf (m : Nat) (n : Nat) : qR m (n + 1) = yI m (qR m n) := rfl
def FG (F : CM -> Option (List Un)) : aW := ⟨[.lp [0, 1, 0, 1, 1, 1, 1, 1, 1], .blk 0, .code [1, 1, 1, 1, 1, 1, 1]], ⟨frm 69 [(1, .ptr 0 0 0), (4, .buf 1 1), (32, .ai (sI 4)), (33, .int .i64), (34, .int .i64)], [.cells [.bool, .int .i64, .int .i64, .int .i64, .int .i64, .int .i64, .int .i64, .int .i64, .int .i64, .int .i64, .int .i64, .ai (sI 4), .int .i64, .int .i64, .int .i64, .int .i64, .int .i64, .ai (sI 3), .int .i64], .ints .i64], 0⟩, onU F⟩
theorem Po (m : Nat) : ∀ n, HO N12 (Hj (vW m n)) := au ah T15.right (fun k => [Hj k]) (fun k h => (aL h aA)) fun k a => by kernel_rfl
theorem PU (m : Nat) : ∀ n, HO N12 (FG (qR m n)) := au ah T15.right (fun k => [FG k, Hj (vW m m)]) (fun k h => (aL h (aL (Po m m) aA))) fun k a => by kernel_rfl
def t12 (m : Nat) : bj × List Dat × aZ × List Dat × Int -> Option (List Un) := fun (a0, a1, a2, a3, a4) =>
 chk (decide (a1.length <= 1000000) && decide (a3.length <= 1000000)) <|
 bif !(bW a0 a1 a2 a3 a4) then
 some ([.l ([])])
 else
 bif a0.call then
 qR m m (a1, (a1.length : Int), 0, a0, a1, a2, a3, a4, ([1, a0.period, a0.mode, a0.aj, a0.bR, a0.aD, a0.aK, a0.draw, a0.advance, a0.fee, a0.due, a2.bw, a2.aY, a2.aV, a2.out, a2.jt, a4, (a1.length : Int)] : List Int))
 else
 qR m m (a1, (a1.length : Int), 0, a0, a1, a2, a3, a4, ([0, a0.period, a0.mode, a0.aj, a0.bR, a0.aD, a0.aK, a0.draw, a0.advance, a0.fee, a0.due, a2.bw, a2.aY, a2.aV, a2.out, a2.jt, a4, (a1.length : Int)] : List Int))
theorem PQ (m : Nat) : ∀ (rest pre : List Dat) (acc : List Int) (n : Nat), rest.length < n -> (pre ++ rest).length <= 8 -> acc.length + 3 * rest.length <= 1000 -> vW m n (pre ++ rest, ((pre ++ rest).length : Int), (pre.length : Int), acc) = some [.l (cQ (acc ++ rest.flatMap gE))] := by
 intro rest
 induction rest with
 | nil =>
  intro pre acc n hn hl ha; obtain ⟨n, rfl⟩ := al n (by simp at hn; omega); rw [tS]; unfold yL; dsimp only; rw [aF (by simp)]; refine (ba (zah (by simp at ha; omega)) rfl).trans ?_
  simp
 | cons x rest ih =>
  intro pre acc n hn hl ha; obtain ⟨n, rfl⟩ := al n (by simp at hn; omega); simp only [zac, zad] at hn hl ha; rw [tS]; unfold yL; dsimp only; rw [bJ (by simp only [zad, zac]; omega), dV (by omega) (by simp only [zad, zac]; omega), aO (by simp)]; have hx : ag (pre ++ x :: rest) (pre.length : Int).toNat = x := by simp [ag]
  have := ih (pre ++ [x]) (acc ++ gE x) n (by omega) (by simp; omega) (by simp [gE]; omega); have e : w64 ((pre.length : Int) + 1) = ((pre ++ [x]).length : Int) := by
   rw [aa (by omega) (by omega)]; simp
  have e3 : pre ++ x :: rest = (pre ++ [x]) ++ rest := by simp
  rw [hx]; dsimp only [lt]; rw [jn (by omega) (by omega), e, e3]; refine Eq.trans this ?_
  simp
theorem O3 (m : Nat) (ra : bj) (xp : List Dat) (rb : aZ) (notes : List Dat) (xn : Int) (hm : notes.length < m) (h8 : notes.length <= 8) : ∀ (rest pre : List Dat) (acc : List Int) (n : Nat), rest.length < n -> (pre ++ rest).length <= 160 -> acc.length + 4 * rest.length <= 700 -> qR m n (pre ++ rest, ((pre ++ rest).length : Int), (pre.length : Int), ra, xp, rb, notes, xn, acc) = some [.l (cQ (acc ++ (rest.flatMap fw ++ ((notes.length : Int) :: notes.flatMap gE))))] := by
 intro rest
 induction rest with
 | nil =>
  intro pre acc n hn hl ha; obtain ⟨n, rfl⟩ := al n (by simp at hn; omega); rw [uf]; unfold yI; dsimp only; rw [aF (by simp)]; simp only [zay] at ha; rw [jn (by omega) (by omega)]; have := PQ m notes [] (acc ++ [(notes.length : Int)]) m hm (by simpa using h8) (by simp; omega); refine Eq.trans this ?_
  simp
 | cons x rest ih =>
  intro pre acc n hn hl ha; obtain ⟨n, rfl⟩ := al n (by simp at hn; omega); simp only [zac, zad] at hn hl ha; rw [uf]; unfold yI; dsimp only; rw [bJ (by simp only [zad, zac]; omega), dV (by omega) (by simp only [zad, zac]; omega), aO (by simp)]; have hx : ag (pre ++ x :: rest) (pre.length : Int).toNat = x := by simp [ag]
  have := ih (pre ++ [x]) (acc ++ fw x) n (by omega) (by simp; omega) (by simp [fw]; omega); have e : w64 ((pre.length : Int) + 1) = ((pre ++ [x]).length : Int) := by
   rw [aa (by omega) (by omega)]; simp
  have e3 : pre ++ x :: rest = (pre ++ [x]) ++ rest := by simp
  rw [hx]; dsimp only [lt]; rw [jn (by omega) (by omega), e, e3]; refine Eq.trans this ?_
  simp
def f12 : bj × List Dat × aZ × List Dat × Int -> Bool × List Un := fun (a0, a1, a2, a3, a4) => (decide (a1.length <= 1000000) && decide (a3.length <= 1000000), [.l (dv a0 a1 a2 a3 a4)])
theorem NV (a0 : bj) (a1 : List Dat) (a2 : aZ) (a3 : List Dat) (a4 : Int) (hc : (decide (a1.length <= 1000000) && decide (a3.length <= 1000000)) = true) : ∃ m, t12 m (a0, a1, a2, a3, a4) = some ([.l (dv a0 a1 a2 a3 a4)]) := by
 refine ⟨200, ?_⟩; unfold t12 dv; refine ba hc ?_
 cases hr : bW a0 a1 a2 a3 a4 with
 | false => rfl
 | true =>
  have hb : a1.length <= 160 /\ a3.length <= 8 := by
   unfold bW at hr; simp only [zab, zai] at hr; omega
  have key : ∀ c : Int, qR 200 200 (a1, (a1.length : Int), 0, a0, a1, a2, a3, a4, ([c, a0.period, a0.mode, a0.aj, a0.bR, a0.aD, a0.aK, a0.draw, a0.advance, a0.fee, a0.due, a2.bw, a2.aY, a2.aV, a2.out, a2.jt, a4, (a1.length : Int)] : List Int)) = some [.l (cQ (([c, a0.period, a0.mode, a0.aj, a0.bR, a0.aD, a0.aK, a0.draw, a0.advance, a0.fee, a0.due, a2.bw, a2.aY, a2.aV, a2.out, a2.jt, a4, (a1.length : Int)] : List Int) ++ (a1.flatMap fw ++ ((a3.length : Int) :: a3.flatMap gE))))] := fun c =>
   O3 200 a0 a1 a2 a3 a4 (by omega) hb.2 a1 [] _ 200 (by omega) (by simpa using hb.1) (by simp; omega)
  refine iM rfl ?_
  unfold jF jb; cases hcall : a0.call with
  | true => exact key 1
  | false => exact key 0
theorem J4 : ER 12 (mkE N12.en N12.ex f12) := an ah T15.right (fun m => [FG (qR m m)]) (t := t12) (by kernel_rfl) (fun m => (aL (PU m m) aA)) (fun m a => by kernel_rfl) fun (a0, a1, a2, a3, a4) hc => NV a0 a1 a2 a3 a4 hc
def T12 : Tb Tryz.prog LQ TE XX := T15.add 12 _ J4
structure AR where
 ra : bj
 rb : aZ
 next : Int
 ok : Bool
 aM : List Dat
 notes : List Dat
def DO : AR := ⟨⟨false, 0, 0, 0, 0, 0, 0, 0, 0, 0, 0⟩, ⟨0, 0, 0, 0, 0⟩, 0, false, [], []⟩
def rR (l : List Int) : AR :=
 let r := dz 0 (l.length : Int) false l
 bif !r.r.bad && r.r.n == 0 then (bif bW r.ra r.aM r.rb r.notes r.next then ⟨r.ra, r.rb, r.next, true, r.aM, r.notes⟩ else DO) else DO
def cO (xs : List Int) : AR := bif xs.length % 8 == 0 then rR (dw xs) else DO
def N13 : aC := ⟨T12.tab, 13, ⟨[.ints .u8], [], 0⟩, ⟨[.agg [.bool, .int .i64, .int .i64, .int .i64, .int .i64, .int .i64, .int .i64, .int .i64, .int .i64, .int .i64, .int .i64, .buf 0 4, .int .i64, .int .i64, .int .i64, .int .i64, .int .i64, .buf 1 3, .int .i64], .bool], [.ai (sI 4), .ai (sI 3)], 0⟩, []⟩
def t13 (m : Nat) : List Int -> Option (List Un) := fun a0 =>
 chk (decide (a0.length <= 140737488351232)) <|
 bif !(a0.length % 8 == 0) then
 some (Uns.enc ((⟨false, 0, 0, 0, 0, 0, 0, 0, 0, 0, 0⟩ : bj) : bj) ++ Uns.enc ((⟨0, 0, 0, 0, 0⟩ : aZ) : aZ) ++ [.i 0, .b false, .d ([]), .d ([])])
 else
 chk (decide ((iL a0).length < 1000000)) <|
 lt (((iL a0).length : Int) : Int) fun x1 =>
 chk (decide ((0 : Int).toNat + (x1.toNat : Int).toNat <= (iL a0).length)) <|
 bd ((dz 0 (x1.toNat : Int) false (iL a0)) : D0) fun r2 =>
 bif !(!r2.r.bad && ((r2.r.n.toNat : Int).toNat : Int) == 0) then
 some (Uns.enc ((⟨false, 0, 0, 0, 0, 0, 0, 0, 0, 0, 0⟩ : bj) : bj) ++ Uns.enc ((⟨0, 0, 0, 0, 0⟩ : aZ) : aZ) ++ [.i 0, .b false, .d ([]), .d ([])])
 else
 chk (decide (r2.aM.length <= 1000000) && decide (r2.notes.length <= 1000000)) <|
 bif !(bW r2.ra r2.aM r2.rb r2.notes r2.next) then
 some (Uns.enc ((⟨false, 0, 0, 0, 0, 0, 0, 0, 0, 0, 0⟩ : bj) : bj) ++ Uns.enc ((⟨0, 0, 0, 0, 0⟩ : aZ) : aZ) ++ [.i 0, .b false, .d ([]), .d ([])])
 else
 some (Uns.enc (r2.ra : bj) ++ Uns.enc (r2.rb : aZ) ++ [.i r2.next, .b true, .d r2.aM, .d r2.notes])
theorem xf (xs : List Int) : (dw xs).length = xs.length / 8 := by simp [dw]
theorem wy : ∀ (k : Nat) (r : RdR), (jG k r).1.length = k
 | 0, r => rfl
 | k + 1, r => by simp only [jG, zac, wy k]
theorem v5 : ∀ (k : Nat) (r : RdR), (g9 k r).1.length = k
 | 0, r => rfl
 | k + 1, r => by simp only [g9, zac, v5 k]
theorem JM {o n : Int} {b : Bool} {l : List Int} (h : o.toNat + n.toNat <= l.length) : RdI (dz o n b l).r /\ (dz o n b l).aM.length <= 160 /\ (dz o n b l).notes.length <= 8 := by
 have i1 : RdI (rdM o n b l 1) := F0 h; have i17 := dg (dg (dg (dg (dg (dg (dg (dg (dg (dg (dg (dg (dg (dg (dg (dg i1))))))))))))))); have i18 := JT (most := 160) i17; unfold dz; dsimp only; generalize nx (nx (nx (nx (nx (nx (nx (nx (nx (nx (nx (nx (nx (nx (nx (nx (rdM o n b l 1)))))))))))))))) = r17 at *
 have hv : 0 <= (mx r17 160).v /\ (mx r17 160).v <= 160 := C4 (by decide); have iP := CU (mx r17 160).v.toNat i18; have i24 := JT (most := 8) iP; have hw : 0 <= (mx (jG (mx r17 160).v.toNat (mx r17 160)).2 8).v /\ (mx (jG (mx r17 160).v.toNat (mx r17 160)).2 8).v <= 8 := C4 (by decide); refine ⟨CO _ i24, ?_, ?_⟩
 . rw [wy]; omega
 . rw [v5]; omega
def f13 : List Int -> Bool × List Un := fun a0 => (decide (a0.length <= 1000000), Uns.enc (((cO a0).ra) : bj) ++ Uns.enc (((cO a0).rb) : aZ) ++ [.i ((cO a0).next), .b ((cO a0).ok), .d ((cO a0).aM), .d ((cO a0).notes)])
theorem NR (a0 : List Int) (hc : (decide (a0.length <= 1000000)) = true) : ∃ m, t13 m a0 = some (Uns.enc (((cO a0).ra) : bj) ++ Uns.enc (((cO a0).rb) : aZ) ++ [.i ((cO a0).next), .b ((cO a0).ok), .d ((cO a0).aM), .d ((cO a0).notes)]) := by
 have hl := zaj hc; refine ⟨0, ?_⟩; unfold t13 cO; refine ba (zah (by omega)) ?_
 cases h8 : (a0.length % 8 == 0) with
 | false => rfl
 | true =>
  have e : iL a0 = dw a0 := by unfold iL; rw [h8]; rfl
  rw [e]; have hw := xf a0; refine iM rfl (ba (zah (by omega)) ?_); dsimp only [lt, bd]; refine ba (zah (by simp)) ?_
  rw [show (((dw a0).length : Int).toNat : Int) = ((dw a0).length : Int) from rfl]; obtain ⟨hI, hp, hn⟩ := JM (o := 0) (n := ((dw a0).length : Int)) (b := false) (l := dw a0) (by simp); rw [zaC]; unfold rR; dsimp only; generalize dz 0 ((dw a0).length : Int) false (dw a0) = r at *
  rw [show ((r.r.n.toNat : Int).toNat : Int) = r.r.n from hI.2.1]; cases hb : (!r.r.bad && r.r.n == 0) with
  | false => rfl
  | true =>
   refine iM rfl (ba (zaq.2 ⟨zah (by omega), zah (by omega)⟩) ?_); cases hr : bW r.ra r.aM r.rb r.notes r.next with
   | false => rfl
   | true => rfl
theorem Dh : ER 13 (mkE N13.en N13.ex f13) := an ah T12.right (fun m => []) (t := t13) (by kernel_rfl) (fun m => aA) (fun m a => by kernel_rfl) fun a0 hc => NR a0 hc
def T13 : Tb Tryz.prog LQ TE XX := T12.add 13 _ Dh
def Qy : AR -> List Un := fun r => Uns.enc (r.ra : bj) ++ Uns.enc (r.rb : aZ) ++ [.i r.next, .b r.ok, .d r.aM, .d r.notes]
def QO : List Int -> Bool × AR := fun a0 => (decide (a0.length <= 1000000), (cO a0))
theorem HA : ER 13 (mkB N13.en N13.ex QO Qy) := rebind Dh fun a0 => rfl
def Qv : Tb Tryz.prog LQ TE XX := T13.add 13 _ HA
def HS (T : ae) (l : List Dat) : Bool := @decide (T = cK dy /\ l = lA) (Classical.propDecidable _)
theorem zY {T : ae} {l : List Dat} : HS T l = true ↔ T = cK dy /\ l = lA := by unfold HS; simp
def Qb : Int × List Dat × aw × az × ak × List Dat × List Dat × List Dat × List Dat × List Dat × List Dat × List Dat -> Bool × List Un := fun (a0, a1, a2, a3, a4, a5, a6, a7, a8, a9, a10, a11) => (decide (0 <= a0) && HS (⟨a2, a3, a4, a5, a6, a7, a8, a9, a10, a11⟩ : ae) a1, Uns.enc (((⟨false, 1, 0, 40, 0, 0, 0, 0, 0, 0, 0⟩ : bj)) : bj) ++ Uns.enc (((⟨0, 60, 0, 0, 0⟩ : aZ)) : aZ) ++ [.i (0), .i (0)] ++ Uns.enc (((aT (cK dy) lA).t.a) : aw) ++ Uns.enc (((aT (cK dy) lA).t.b) : az) ++ Uns.enc (((aT (cK dy) lA).t.n) : ak) ++ [.d ((aT (cK dy) lA).t.bg), .d ((aT (cK dy) lA).t.notes), .d ((aT (cK dy) lA).t.s0), .d ((aT (cK dy) lA).t.s1), .d ((aT (cK dy) lA).t.s2), .d ((aT (cK dy) lA).t.aY), .d ((aT (cK dy) lA).t.tr), .d (([.r [.n 1, .n 7, .n 0, .n 40]] : List Dat)), .d (([.r [.n 60, .n 0, .n 0]] : List Dat))])
theorem Gx : ER 11 (mkE N11.en N11.ex Qb) := weaken DY fun (a0, a1, a2, a3, a4, a5, a6, a7, a8, a9, a10, a11) hc => by
 have hc : (decide (0 <= a0) && HS (⟨a2, a3, a4, a5, a6, a7, a8, a9, a10, a11⟩ : ae) a1) = true := hc; have h0 := (zaq.1 hc).1; obtain ⟨e1, e2⟩ := zY.1 (zaq.1 hc).2; have hq : (decide (0 <= a0) && sE (⟨a2, a3, a4, a5, a6, a7, a8, a9, a10, a11⟩ : ae)) = true := zaq.2 ⟨h0, by rw [e1]; exact sC.2 Pc⟩; obtain ⟨o1, o2, o3, o4, o5, o6⟩ := Es; refine Prod.ext (hq.trans hc.symm) ?_
 unfold f11 Qb; dsimp only; rw [e1, e2, o1, o2, o3, o4, o5, o6]
def M1 : Tb Tryz.prog LQ TE XX := Qv.add 11 _ Gx
def N3 : aC := ⟨M1.tab, 3, ⟨[], [], 0⟩, ⟨[.bool], [], 0⟩, []⟩
def t3 (m : Nat) : Unit -> Option (List Un) := fun _ =>
 chk (decide (dy.bg.length < 1000000 /\ dy.notes.length < 1000000 /\ dy.s0.length < 1000000 /\ dy.s1.length < 1000000 /\ dy.s2.length < 1000000)) <|
 lt (((if (cu dy).isSome then 0 else -1) : Int) : Int) fun x1 =>
 bif ((decide (x1 < 0)) && true) then
 some ([.b false])
 else
 bif ((if (cu dy).isSome then 0 else 2) : Int) != 0 then
 some ([.b false])
 else
 chk (decide (0 <= x1) && HS (iB dy) ([.r [.n 1, .n 40, .n 0, .n 0, .n 0, .n 0, .n (bI false)]] : List Dat)) <|
 lt ((⟨false, 1, 0, 40, 0, 0, 0, 0, 0, 0, 0⟩ : bj) : bj) fun g4 =>
 lt ((⟨0, 60, 0, 0, 0⟩ : aZ) : aZ) fun g5 =>
 chk (decide (([.r [.n 1, .n 7, .n 0, .n 40]] : List Dat).length <= 1000000) && decide (([.r [.n 60, .n 0, .n 0]] : List Dat).length <= 1000000)) <|
 lt ((dv g4 ([.r [.n 1, .n 7, .n 0, .n 40]] : List Dat) g5 ([.r [.n 60, .n 0, .n 0]] : List Dat) 0) : List Int) fun l6 =>
 chk (decide (l6.length <= 1000000)) <|
 bd ((cO l6) : AR) fun r7 =>
 lt (ag ([.r [.n 1, .n 7, .n 0, .n 40]] : List Dat) 0 : Dat) fun d8 =>
 bif (d8.i 2) != 0 then
 chk (decide (([.r [.n 1, .n 7, .n 0, .n 40]] : List Dat).length <= 1000000) && decide (([.r [.n 60, .n 0, .n 0]] : List Dat).length <= 1000000)) <|
 bif (bW g4 ([.r [.n 1, .n 7, .n 0, .n 40]] : List Dat) g5 ([.r [.n 60, .n 0, .n 0]] : List Dat) 0) then
 bif ((l6.length : Int) == 208) then
 bif r7.ok then
 bif r7.ra.call == g4.call then
 bif (r7.ra.period == g4.period) then
 bif r7.ra.mode == g4.mode then
 bif ((r7.ra.aj == g4.aj) && ((r7.ra.bR == g4.bR) && ((r7.ra.aD == g4.aD) && ((r7.ra.aK == g4.aK) && true)))) then
 bif r7.ra.draw == g4.draw then
 bif (r7.ra.advance == g4.advance) then
 bif r7.ra.fee == g4.fee then
 bif r7.ra.due == g4.due then
 chk (decide (r7.aM.length < 1099511627776)) <|
 bif (cL 4 r7.aM ([.r [.n 1, .n 7, .n 0, .n 40]] : List Dat)) then
 bif (r7.rb.bw == g5.bw) then
 bif r7.rb.aY == g5.aY then
 bif (r7.rb.aV == g5.aV) then
 bif r7.rb.out == g5.out then
 bif r7.rb.jt == g5.jt then
 chk (decide (r7.notes.length < 1099511627776)) <|
 bif (cL 3 r7.notes ([.r [.n 60, .n 0, .n 0]] : List Dat)) then
 bif r7.next == 0 then
 some ([.b false])
 else
 some ([.b false])
 else
 some ([.b false])
 else
 some ([.b false])
 else
 some ([.b false])
 else
 some ([.b false])
 else
 some ([.b false])
 else
 some ([.b false])
 else
 some ([.b false])
 else
 some ([.b false])
 else
 some ([.b false])
 else
 some ([.b false])
 else
 some ([.b false])
 else
 some ([.b false])
 else
 some ([.b false])
 else
 some ([.b false])
 else
 some ([.b false])
 else
 some ([.b false])
 else
 some ([.b false])
 else
 some ([.b false])
 else
 bif (d8.i 1) == 3 then
 chk (decide (([.r [.n 1, .n 7, .n 0, .n 40]] : List Dat).length <= 1000000) && decide (([.r [.n 60, .n 0, .n 0]] : List Dat).length <= 1000000)) <|
 bif (bW g4 ([.r [.n 1, .n 7, .n 0, .n 40]] : List Dat) g5 ([.r [.n 60, .n 0, .n 0]] : List Dat) 0) then
 bif ((l6.length : Int) == 208) then
 bif r7.ok then
 bif r7.ra.call == g4.call then
 bif (r7.ra.period == g4.period) then
 bif r7.ra.mode == g4.mode then
 bif ((r7.ra.aj == g4.aj) && ((r7.ra.bR == g4.bR) && ((r7.ra.aD == g4.aD) && ((r7.ra.aK == g4.aK) && true)))) then
 bif r7.ra.draw == g4.draw then
 bif (r7.ra.advance == g4.advance) then
 bif r7.ra.fee == g4.fee then
 bif r7.ra.due == g4.due then
 chk (decide (r7.aM.length < 1099511627776)) <|
 bif (cL 4 r7.aM ([.r [.n 1, .n 7, .n 0, .n 40]] : List Dat)) then
 bif (r7.rb.bw == g5.bw) then
 bif r7.rb.aY == g5.aY then
 bif (r7.rb.aV == g5.aV) then
 bif r7.rb.out == g5.out then
 bif r7.rb.jt == g5.jt then
 chk (decide (r7.notes.length < 1099511627776)) <|
 bif (cL 3 r7.notes ([.r [.n 60, .n 0, .n 0]] : List Dat)) then
 bif r7.next == 0 then
 bif ((w64 (0 + (d8.i 3))) == 0) then
 some ([.b false])
 else
 some ([.b false])
 else
 some ([.b false])
 else
 some ([.b false])
 else
 some ([.b false])
 else
 some ([.b false])
 else
 some ([.b false])
 else
 some ([.b false])
 else
 some ([.b false])
 else
 some ([.b false])
 else
 some ([.b false])
 else
 some ([.b false])
 else
 some ([.b false])
 else
 some ([.b false])
 else
 some ([.b false])
 else
 some ([.b false])
 else
 some ([.b false])
 else
 some ([.b false])
 else
 some ([.b false])
 else
 some ([.b false])
 else
 some ([.b false])
 else
 chk (decide (([.r [.n 1, .n 7, .n 0, .n 40]] : List Dat).length <= 1000000) && decide (([.r [.n 60, .n 0, .n 0]] : List Dat).length <= 1000000)) <|
 bif (bW g4 ([.r [.n 1, .n 7, .n 0, .n 40]] : List Dat) g5 ([.r [.n 60, .n 0, .n 0]] : List Dat) 0) then
 bif ((l6.length : Int) == 208) then
 bif r7.ok then
 bif r7.ra.call == g4.call then
 bif (r7.ra.period == g4.period) then
 bif r7.ra.mode == g4.mode then
 bif ((r7.ra.aj == g4.aj) && ((r7.ra.bR == g4.bR) && ((r7.ra.aD == g4.aD) && ((r7.ra.aK == g4.aK) && true)))) then
 bif r7.ra.draw == g4.draw then
 bif (r7.ra.advance == g4.advance) then
 bif r7.ra.fee == g4.fee then
 bif r7.ra.due == g4.due then
 chk (decide (r7.aM.length < 1099511627776)) <|
 bif (cL 4 r7.aM ([.r [.n 1, .n 7, .n 0, .n 40]] : List Dat)) then
 bif (r7.rb.bw == g5.bw) then
 bif r7.rb.aY == g5.aY then
 bif (r7.rb.aV == g5.aV) then
 bif r7.rb.out == g5.out then
 bif r7.rb.jt == g5.jt then
 chk (decide (r7.notes.length < 1099511627776)) <|
 bif (cL 3 r7.notes ([.r [.n 60, .n 0, .n 0]] : List Dat)) then
 bif r7.next == 0 then
 some ([.b ((w64 (0 + (d8.i 3))) == 40)])
 else
 some ([.b false])
 else
 some ([.b false])
 else
 some ([.b false])
 else
 some ([.b false])
 else
 some ([.b false])
 else
 some ([.b false])
 else
 some ([.b false])
 else
 some ([.b false])
 else
 some ([.b false])
 else
 some ([.b false])
 else
 some ([.b false])
 else
 some ([.b false])
 else
 some ([.b false])
 else
 some ([.b false])
 else
 some ([.b false])
 else
 some ([.b false])
 else
 some ([.b false])
 else
 some ([.b false])
 else
 some ([.b false])
def f3 : Unit -> Bool × List Un := fun _ => (true, [.b (true)])
theorem Ou : ∃ m, t3 m () = some ([.b (true)]) := by
 refine ⟨0, ?_⟩; unfold t3; dsimp only [lt]; refine ba (by kernel_rfl) ?_
 refine iM (by kernel_rfl) (iM (by kernel_rfl) (ba (zaq.2 ⟨by kernel_rfl, zY.2 ⟨Gj, rfl⟩⟩) ?_))
 kernel_rfl
theorem LV : ER 3 (mkE N3.en N3.ex f3) := an ah M1.right (fun m => []) (t := t3) (by kernel_rfl) (fun m => aA) (fun m a => by kernel_rfl) fun _ hc => Ou
def T3 : Tb Tryz.prog LQ TE XX := M1.add 3 _ LV
theorem IL (a c : Nat) (h : c < 256) : (256 * a) ||| c = 256 * a + c := by
 have := Nat.two_pow_add_eq_or_of_lt (i := 8) (b := c) (by simpa using h) a; simpa using this.symm
theorem mq (n c : Int) (h0 : 0 <= c) (h1 : c < 256) : Iw.stp n c = RowKit.wrap64 (n * 256 + c) := by
 unfold Iw.stp Go.bits; simp only [RowKit.wrap64]; rw [IntKind.wrap_i64, BitVec.toNat_or, zbZ, zbZ]; rw [show ((2 ^ IntKind.i64.bits : Nat) : Int) = 18446744073709551616 from rfl]; have e1 : (((n * 256 + 9223372036854775808) % 18446744073709551616 - 9223372036854775808) % 18446744073709551616).toNat = 256 * (n % 72057594037927936).toNat := by omega
 have e2 : (((c + 9223372036854775808) % 18446744073709551616 - 9223372036854775808) % 18446744073709551616).toNat = c.toNat := by omega
 rw [e1, e2, IL _ _ (by omega)]; omega
theorem Gt {n : Int} (h : -9223372036854775808 <= n /\ n <= 9223372036854775807) (f : Nat -> Int) (hf : ∀ i, i < 8 -> f i = (oC n).getD i 0) : Iw.val f 8 = n := by
 have b0 := hf 0 (by decide); have b1 := hf 1 (by decide); have b2 := hf 2 (by decide); have b3 := hf 3 (by decide); have b4 := hf 4 (by decide); have b5 := hf 5 (by decide); have b6 := hf 6 (by decide); have b7 := hf 7 (by decide); simp only [oC, zaI, zat] at b0 b1 b2 b3 b4 b5 b6 b7; have u8 : ∀ x : Int, wu8 x = x % 256 := fun x => by show IntKind.u8.wrap x = _; simp [IntKind.wrap, IntKind.bits, IntKind.signed]
 rw [u8] at b0 b1 b2 b3 b4 b5 b6 b7; have fd : ∀ (x k : Int), 0 < k -> Int.fdiv x k = x / k := fun x k hk => Int.fdiv_eq_ediv_of_nonneg _ (by omega)
 rw [fd _ _ (by decide)] at b0 b1 b2 b3 b4 b5 b6 b7; simp only [Iw.val, b0, b1, b2, b3, b4, b5, b6, b7]; rw [mq _ _ (by omega) (by omega), mq _ _ (by omega) (by omega), mq _ _ (by omega) (by omega), mq _ _ (by omega) (by omega), mq _ _ (by omega) (by omega), mq _ _ (by omega) (by omega), mq _ _ (by omega) (by omega), mq _ _ (by omega) (by omega)]; simp only [RowKit.wrap64]; omega
theorem mN (n : Int) : (oC n).length = 8 := rfl
theorem ob (l : List Int) : (cQ l).length = 8 * l.length := by
 induction l with
 | nil => rfl
 | cons x l ih => simp only [cQ, zby, zad, mN, zac] at ih ⊢; omega
theorem vT : ∀ (l : List Int) (k i : Nat), k < l.length -> i < 8 -> (cQ l).getD (k * 8 + i) 0 = (oC (l.getD k 0)).getD i 0
 | [], k, i, h, _ => by simp at h
 | x :: l, 0, i, _, hi => by
  simp only [cQ, zby, zb0, zaD, zag, zbi, zbo]; rw [zaB (by rw [mN]; exact hi)]
 | x :: l, k + 1, i, h, hi => by
  have := vT l k i (by simpa using h) hi; simp only [cQ, zby, zat, zag] at this ⊢; rw [zaM (by rw [mN]; omega), mN, show (k + 1) * 8 + i - 8 = k * 8 + i by omega]; exact this
theorem EP {l : List Int} (h : ∀ n ∈ l, -9223372036854775808 <= n /\ n <= 9223372036854775807) : dw (cQ l) = l := by
 have hl : (cQ l).length / 8 = l.length := by rw [ob]; omega
 apply List.ext_getElem
 . rw [xf, hl]
 . intro k h1 h2; have e0 : (dw (cQ l))[k] = Iw.val (fun i => (cQ l).getD (k * 8 + i) 0) 8 := by simp [dw]
   rw [e0]; have e := Gt (h l[k] (zbu h2)) (fun i => (cQ l).getD (k * 8 + i) 0) (fun i hi => by
    show (cQ l).getD (k * 8 + i) 0 = _; rw [vT l k i h2 hi]; simp [h2])
   exact e
def rdS (l : List Int) (k : Nat) (v : Int) : RdR := ⟨v, (k : Int), ((l.length - k : Nat) : Int), false, l⟩
theorem y4 {l : List Int} {k : Nat} (v : Int) (h : k < l.length) : nx (rdS l k v) = rdS l (k + 1) (l.getD k 0) := by
 unfold nx rdN rdS; have e : (((((l.length - k : Nat) : Int).toNat : Nat) : Int) == 0) = false := by
  rw [zbJ]; simp; omega
 rw [zca, e, zao]; simp only [zaF]; rw [show l.length - k - 1 = l.length - (k + 1) by omega]
theorem Od {l : List Int} {k : Nat} (v most : Int) (h : k < l.length) (h0 : 0 <= l.getD k 0) (h1 : l.getD k 0 <= most) : mx (rdS l k v) most = rdS l (k + 1) (l.getD k 0) := by
 have := y4 v h; unfold nx at this; unfold mx rdM; dsimp only; rw [this]; rw [show (rdS l (k + 1) (l.getD k 0)).v = l.getD k 0 from rfl, zaQ (show ¬ l.getD k 0 < 0 by omega), zaQ (show ¬ l.getD k 0 > most by omega)]; rfl
def nrP (d : Dat) : Dat := .r [.n (d.i 0), .n (d.i 1), .n (d.i 2), .n (d.i 3)]
def nrN (d : Dat) : Dat := .r [.n (d.i 0), .n (d.i 1), .n (d.i 2)]
theorem bx (A : List Int) (x : Int) (B : List Int) : (A ++ x :: B).getD A.length 0 = x := by simp
theorem Du (l : List Int) : ∀ (aM : List Dat) (A B : List Int) (v : Int), l = A ++ (aM.flatMap fw ++ B) -> ∃ v', jG aM.length (rdS l A.length v) = (aM.map nrP, rdS l (A.length + 4 * aM.length) v')
 | [], A, B, v, _ => ⟨v, rfl⟩
 | d :: aM, A, B, v, h => by
  have hl : l = A ++ (d.i 0 :: d.i 1 :: d.i 2 :: d.i 3 :: (aM.flatMap fw ++ B)) := by rw [h]; simp [fw]
  have hlen : l.length = A.length + 4 + (aM.flatMap fw ++ B).length := by rw [hl]; simp only [zad, zac]; omega
  have g0 : l.getD A.length 0 = d.i 0 := by rw [hl]; exact bx _ _ _
  have g1 : l.getD (A.length + 1) 0 = d.i 1 := by
   rw [hl, show A ++ (d.i 0 :: d.i 1 :: d.i 2 :: d.i 3 :: (aM.flatMap fw ++ B)) = (A ++ [d.i 0]) ++ (d.i 1 :: d.i 2 :: d.i 3 :: (aM.flatMap fw ++ B)) by simp]; rw [show A.length + 1 = (A ++ [d.i 0]).length by simp]; exact bx _ _ _
  have g2 : l.getD (A.length + 1 + 1) 0 = d.i 2 := by
   rw [hl, show A ++ (d.i 0 :: d.i 1 :: d.i 2 :: d.i 3 :: (aM.flatMap fw ++ B)) = (A ++ [d.i 0, d.i 1]) ++ (d.i 2 :: d.i 3 :: (aM.flatMap fw ++ B)) by simp]; rw [show A.length + 1 + 1 = (A ++ [d.i 0, d.i 1]).length by simp]; exact bx _ _ _
  have g3 : l.getD (A.length + 1 + 1 + 1) 0 = d.i 3 := by
   rw [hl, show A ++ (d.i 0 :: d.i 1 :: d.i 2 :: d.i 3 :: (aM.flatMap fw ++ B)) = (A ++ [d.i 0, d.i 1, d.i 2]) ++ (d.i 3 :: (aM.flatMap fw ++ B)) by simp]; rw [show A.length + 1 + 1 + 1 = (A ++ [d.i 0, d.i 1, d.i 2]).length by simp]; exact bx _ _ _
  obtain ⟨v', ih⟩ := Du l aM (A ++ fw d) B (d.i 3) (by rw [h]; simp); rw [show (A ++ fw d).length = A.length + 1 + 1 + 1 + 1 by simp [fw]] at ih; refine ⟨v', ?_⟩; simp only [zac, jG]; rw [y4 v (by omega), g0, y4 _ (by omega), g1, y4 _ (by omega), g2, y4 _ (by omega), g3, ih]; simp only [zaN, nrP]; rw [show A.length + 1 + 1 + 1 + 1 + 4 * aM.length = A.length + 4 * (aM.length + 1) by omega]; rfl
theorem D4 (l : List Int) : ∀ (ns : List Dat) (A B : List Int) (v : Int), l = A ++ (ns.flatMap gE ++ B) -> ∃ v', g9 ns.length (rdS l A.length v) = (ns.map nrN, rdS l (A.length + 3 * ns.length) v')
 | [], A, B, v, _ => ⟨v, rfl⟩
 | d :: ns, A, B, v, h => by
  have hl : l = A ++ (d.i 0 :: d.i 1 :: d.i 2 :: (ns.flatMap gE ++ B)) := by rw [h]; simp [gE]
  have hlen : l.length = A.length + 3 + (ns.flatMap gE ++ B).length := by rw [hl]; simp only [zad, zac]; omega
  have g0 : l.getD A.length 0 = d.i 0 := by rw [hl]; exact bx _ _ _
  have g1 : l.getD (A.length + 1) 0 = d.i 1 := by
   rw [hl, show A ++ (d.i 0 :: d.i 1 :: d.i 2 :: (ns.flatMap gE ++ B)) = (A ++ [d.i 0]) ++ (d.i 1 :: d.i 2 :: (ns.flatMap gE ++ B)) by simp]; rw [show A.length + 1 = (A ++ [d.i 0]).length by simp]; exact bx _ _ _
  have g2 : l.getD (A.length + 1 + 1) 0 = d.i 2 := by
   rw [hl, show A ++ (d.i 0 :: d.i 1 :: d.i 2 :: (ns.flatMap gE ++ B)) = (A ++ [d.i 0, d.i 1]) ++ (d.i 2 :: (ns.flatMap gE ++ B)) by simp]; rw [show A.length + 1 + 1 = (A ++ [d.i 0, d.i 1]).length by simp]; exact bx _ _ _
  obtain ⟨v', ih⟩ := D4 l ns (A ++ gE d) B (d.i 2) (by rw [h]; simp); rw [show (A ++ gE d).length = A.length + 1 + 1 + 1 by simp [gE]] at ih; refine ⟨v', ?_⟩; simp only [zac, g9]; rw [y4 v (by omega), g0, y4 _ (by omega), g1, y4 _ (by omega), g2, ih]; simp only [zaN, nrN]; rw [show A.length + 1 + 1 + 1 + 3 * ns.length = A.length + 3 * (ns.length + 1) by omega]; rfl
theorem Aj {ra : bj} {aM : List Dat} {rb : aZ} {notes : List Dat} {next : Int} (hr : bW ra aM rb notes next = true) : rR (jF ra aM rb notes next) = ⟨ra, rb, next, true, aM.map nrP, notes.map nrN⟩ := by
 have hb : aM.length <= 160 /\ notes.length <= 8 := by
  unfold bW at hr; simp only [zab, zai] at hr; omega
 generalize hl : jF ra aM rb notes next = l; have hlen : l.length = 18 + (4 * aM.length + (1 + 3 * notes.length)) := by
  have h1 : ∀ p : List Dat, (p.flatMap fw).length = 4 * p.length := fun p => by
   induction p with
   | nil => rfl
   | cons x p ih => simp only [zby, zad, ih, fw, zac, zay]; omega
  have h2 : ∀ p : List Dat, (p.flatMap gE).length = 3 * p.length := fun p => by
   induction p with
   | nil => rfl
   | cons x p ih => simp only [zby, zad, ih, gE, zac, zay]; omega
  rw [<- hl]; simp only [jF, jb, zad, zac, zay, h1, h2]; omega
 have s0 : (⟨0, 0, (l.length : Int), false, l⟩ : RdR) = rdS l 0 0 := rfl; have hd : ∀ i, i < 18 -> l.getD i 0 = (jb ra aM rb next).getD i 0 := fun i hi => by
  rw [<- hl]; unfold jF; simp only [zag]; rw [zaB (by simpa [jb] using hi)]
 have m1 : rdM 0 (l.length : Int) false l 1 = rdS l 1 (bI ra.call) := by
  have e : l.getD 0 0 = bI ra.call := hd 0 (by omega); have := Od (l := l) (k := 0) 0 1 (by omega) (by rw [e]; cases ra.call <;> decide) (by rw [e]; cases ra.call <;> decide); rw [e] at this; exact this
 have nxk : ∀ (k : Nat) (v : Int), k < 18 -> nx (rdS l k v) = rdS l (k + 1) ((jb ra aM rb next).getD k 0) := fun k v hk => by rw [y4 v (by omega), hd k hk]
 have m18 : mx (rdS l 17 next) 160 = rdS l 18 (aM.length : Int) := by
  have e : l.getD 17 0 = (aM.length : Int) := hd 17 (by omega); have := Od (l := l) (k := 17) next 160 (by omega) (by rw [e]; omega) (by rw [e]; omega)
  rwa [e] at this
 have h1 : ∀ p : List Dat, (p.flatMap fw).length = 4 * p.length := fun p => by
  induction p with
  | nil => rfl
  | cons x p ih => simp only [zby, zad, ih, fw, zac, zay]; omega
 obtain ⟨v1, p1⟩ := Du l aM (jb ra aM rb next) ((notes.length : Int) :: notes.flatMap gE) (aM.length : Int) hl.symm; have p1 : jG aM.length (rdS l 18 (aM.length : Int)) = (aM.map nrP, rdS l (18 + 4 * aM.length) v1) := p1; have hA : (jb ra aM rb next ++ aM.flatMap fw).length = 18 + 4 * aM.length := by rw [zad, h1]; rfl
 have m24 : mx (rdS l (18 + 4 * aM.length) v1) 8 = rdS l (18 + 4 * aM.length + 1) (notes.length : Int) := by
  have e : l.getD (18 + 4 * aM.length) 0 = (notes.length : Int) := by
   rw [<- hl]; unfold jF; rw [show jb ra aM rb next ++ (aM.flatMap fw ++ (notes.length : Int) :: notes.flatMap gE) = (jb ra aM rb next ++ aM.flatMap fw) ++ (notes.length : Int) :: notes.flatMap gE by simp, <- hA]; exact bx _ _ _
  have := Od (l := l) (k := 18 + 4 * aM.length) v1 8 (by omega) (by rw [e]; omega) (by rw [e]; omega)
  rwa [e] at this
 obtain ⟨v2, p2⟩ := D4 l notes (jb ra aM rb next ++ aM.flatMap fw ++ [(notes.length : Int)]) [] (notes.length : Int) (by rw [<- hl]; simp [jF]); rw [zad, hA] at p2; have p2 : g9 notes.length (rdS l (18 + 4 * aM.length + 1) (notes.length : Int)) = (notes.map nrN, rdS l (18 + 4 * aM.length + 1 + 3 * notes.length) v2) := p2; have key : dz 0 (l.length : Int) false l = ⟨ra, rb, next, aM.map nrP, notes.map nrN, rdS l (18 + 4 * aM.length + 1 + 3 * notes.length) v2⟩ := by
  unfold dz Ag; dsimp only; rw [m1]; simp (disch := omega) only [nxk, Nat.reduceAdd]; rw [show (jb ra aM rb next).getD 16 0 = next from rfl, m18]; rw [show (rdS l 18 (aM.length : Int)).v.toNat = aM.length from rfl, p1]; dsimp only; rw [m24]; rw [show (rdS l (18 + 4 * aM.length + 1) (notes.length : Int)).v.toNat = notes.length from rfl, p2]; have hc : ((rdS l 1 (bI ra.call)).v == 1) = ra.call := by cases h : ra.call <;> simp [rdS, bI, h]
  rw [hc]; rfl
 have hq : ∀ d : Dat, (nrP d).i 0 = d.i 0 /\ (nrP d).i 1 = d.i 1 /\ (nrP d).i 2 = d.i 2 /\ (nrP d).i 3 = d.i 3 := fun d => ⟨rfl, rfl, rfl, rfl⟩
 have hr2 : bW ra (aM.map nrP) rb (notes.map nrN) next = true := by
  unfold bW at hr ⊢; have a1 : (aM.map nrP).all uc = aM.all uc := by
   rw [List.all_map]; rfl
  have a2 : (notes.map nrN).all qA = notes.all qA := by
   rw [List.all_map]; rfl
  rw [za1, za1, a1, a2]; exact hr
 unfold rR; rw [key]; dsimp only; have hn : (rdS l (18 + 4 * aM.length + 1 + 3 * notes.length) v2).n = 0 := by
  show ((l.length - (18 + 4 * aM.length + 1 + 3 * notes.length) : Nat) : Int) = 0; omega
 rw [hn, hr2]; rfl
def jD (a0 : bj) (a1 : List Dat) (a2 : aZ) (a3 : List Dat) (a4 : Int) (a5 : bj) (a6 : List Dat) (a7 : aZ) (a8 : List Dat) (a9 : Int) : Bool :=
 (a0.call == a5.call) && ((a0.period == a5.period) && ((a0.mode == a5.mode) && (((a0.aj == a5.aj) && ((a0.bR == a5.bR) && ((a0.aD == a5.aD) && ((a0.aK == a5.aK) && true)))) && ((a0.draw == a5.draw) && ((a0.advance == a5.advance) && ((a0.fee == a5.fee) && ((a0.due == a5.due) && ((cL 4 a1 a6) && ((a2.bw == a7.bw) && ((a2.aY == a7.aY) && ((a2.aV == a7.aV) && ((a2.out == a7.out) && ((a2.jt == a7.jt) && ((cL 3 a3 a8) && (a4 == a9)))))))))))))))
def N16 : aC := ⟨T3.tab, 16, ⟨[.agg [.bool, .int .i64, .int .i64, .int .i64, .int .i64, .int .i64, .int .i64, .int .i64, .int .i64, .int .i64, .int .i64, .ai (sI 4), .int .i64, .int .i64, .int .i64, .int .i64, .int .i64, .ai (sI 3), .int .i64], .agg [.bool, .int .i64, .int .i64, .int .i64, .int .i64, .int .i64, .int .i64, .int .i64, .int .i64, .int .i64, .int .i64, .ai (sI 4), .int .i64, .int .i64, .int .i64, .int .i64, .int .i64, .ai (sI 3), .int .i64]], [], 0⟩, ⟨[.bool], [], 0⟩, []⟩
def t16 (m : Nat) : bj × List Dat × aZ × List Dat × Int × bj × List Dat × aZ × List Dat × Int -> Option (List Un) := fun (a0, a1, a2, a3, a4, a5, a6, a7, a8, a9) =>
 bif a0.call == a5.call then
 bif a0.period == a5.period then
 bif a0.mode == a5.mode then
 bif ((a0.aj == a5.aj) && ((a0.bR == a5.bR) && ((a0.aD == a5.aD) && ((a0.aK == a5.aK) && true)))) then
 bif a0.draw == a5.draw then
 bif (a0.advance == a5.advance) then
 bif a0.fee == a5.fee then
 bif a0.due == a5.due then
 chk (decide (a1.length < 1099511627776)) <|
 bif (cL 4 a1 a6) then
 bif (a2.bw == a7.bw) then
 bif a2.aY == a7.aY then
 bif (a2.aV == a7.aV) then
 bif a2.out == a7.out then
 bif a2.jt == a7.jt then
 chk (decide (a3.length < 1099511627776)) <|
 bif (cL 3 a3 a8) then
 some ([.b (a4 == a9)])
 else
 some ([.b false])
 else
 some ([.b false])
 else
 some ([.b false])
 else
 some ([.b false])
 else
 some ([.b false])
 else
 some ([.b false])
 else
 some ([.b false])
 else
 some ([.b false])
 else
 some ([.b false])
 else
 some ([.b false])
 else
 some ([.b false])
 else
 some ([.b false])
 else
 some ([.b false])
 else
 some ([.b false])
 else
 some ([.b false])
def f16 : bj × List Dat × aZ × List Dat × Int × bj × List Dat × aZ × List Dat × Int -> Bool × List Un := fun (a0, a1, a2, a3, a4, a5, a6, a7, a8, a9) => (decide (a1.length < 1099511627776) && decide (a3.length < 1099511627776), [.b (jD a0 a1 a2 a3 a4 a5 a6 a7 a8 a9)])
theorem NQ (a0 : bj) (a1 : List Dat) (a2 : aZ) (a3 : List Dat) (a4 : Int) (a5 : bj) (a6 : List Dat) (a7 : aZ) (a8 : List Dat) (a9 : Int) (hc : (decide (a1.length < 1099511627776) && decide (a3.length < 1099511627776)) = true) : ∃ m, t16 m (a0, a1, a2, a3, a4, a5, a6, a7, a8, a9) = some ([.b (jD a0 a1 a2 a3 a4 a5 a6 a7 a8 a9)]) := by
 have hc' := hc; simp only [zab, zai] at hc'; obtain ⟨h1, h2⟩ := hc'; refine ⟨0, ?_⟩; unfold t16; dsimp only; rw [zah h1, zah h2]; simp only [chk, zaC, kv, jD]
theorem Lc : ER 16 (mkE N16.en N16.ex f16) := an ah T3.right (fun m => []) (t := t16) (by kernel_rfl) (fun m => aA) (fun m a => by kernel_rfl) fun (a0, a1, a2, a3, a4, a5, a6, a7, a8, a9) hc => NQ a0 a1 a2 a3 a4 a5 a6 a7 a8 a9 hc
def T16 : Tb Tryz.prog LQ TE XX := T3.add 16 _ Lc
def qX : List Par := [(true, [.bool, .int .i64, .int .i64, .int .i64, .int .i64, .int .i64, .int .i64, .int .i64, .int .i64, .int .i64, .int .i64, .ai [.int .i64, .int .i64, .int .i64, .int .i64], .int .i64, .int .i64, .int .i64, .int .i64, .int .i64, .ai [.int .i64, .int .i64, .int .i64], .int .i64]), (true, [.bool, .int .i64, .int .i64, .int .i64, .int .i64, .int .i64, .int .i64, .int .i64, .int .i64, .int .i64, .int .i64, .ai [.int .i64, .int .i64, .int .i64, .int .i64], .int .i64, .int .i64, .int .i64, .int .i64, .int .i64, .ai [.int .i64, .int .i64, .int .i64], .int .i64])]
def N4 : aC := ⟨T16.tab, 4, ⟨List.map Par.vp qX, [], 0⟩, ⟨[.bool], [], 0⟩, []⟩
def t4 (m : Nat) : bj × List Dat × aZ × List Dat × Int × bj × List Dat × aZ × List Dat × Int -> Option (List Un) := fun (a0, a1, a2, a3, a4, a5, a6, a7, a8, a9) =>
 lt ((if 12 < (a1.length : Int) then 12 else (a1.length : Int)) : Int) fun x1 =>
 chk (decide (0 <= x1) && (true && decide (0 <= x1.toNat /\ x1.toNat <= a1.length))) <|
 chk (fits (0 + (List.take x1.toNat a1).length) 32) <|
 lt ((if 9 < (a3.length : Int) then 9 else (a3.length : Int)) : Int) fun x2 =>
 chk (decide (0 <= x2) && (true && decide (0 <= x2.toNat /\ x2.toNat <= a3.length))) <|
 chk (fits (0 + (List.take x2.toNat a3).length) 24) <|
 lt ((if 12 < (a6.length : Int) then 12 else (a6.length : Int)) : Int) fun x3 =>
 chk (decide (0 <= x3) && (true && decide (0 <= x3.toNat /\ x3.toNat <= a6.length))) <|
 chk (fits (0 + (List.take x3.toNat a6).length) 32) <|
 lt ((if 9 < (a8.length : Int) then 9 else (a8.length : Int)) : Int) fun x4 =>
 chk (decide (0 <= x4) && (true && decide (0 <= x4.toNat /\ x4.toNat <= a8.length))) <|
 chk (fits (0 + (List.take x4.toNat a8).length) 24) <|
 chk (decide ((List.take x1.toNat a1).length <= 1000000) && decide ((List.take x2.toNat a3).length <= 1000000)) <|
 lt ((dv a0 (List.take x1.toNat a1) a2 (List.take x2.toNat a3) a4) : List Int) fun l5 =>
 chk (decide ((List.take x3.toNat a6).length <= 1000000) && decide ((List.take x4.toNat a8).length <= 1000000)) <|
 lt ((dv a5 (List.take x3.toNat a6) a7 (List.take x4.toNat a8) a9) : List Int) fun l6 =>
 chk (decide ((List.take x1.toNat a1).length <= 1000000) && decide ((List.take x2.toNat a3).length <= 1000000)) <|
 bif !((decide ((l5.length : Int) > 0)) == (bW a0 (List.take x1.toNat a1) a2 (List.take x2.toNat a3) a4)) then
 some ([.b false])
 else
 chk (decide ((List.take x3.toNat a6).length <= 1000000) && decide ((List.take x4.toNat a8).length <= 1000000)) <|
 bif !((decide ((l6.length : Int) > 0)) == (bW a5 (List.take x3.toNat a6) a7 (List.take x4.toNat a8) a9)) then
 some ([.b false])
 else
 chk (decide (l5.length <= 1000000)) <|
 bd ((cO l5) : AR) fun r11 =>
 chk (decide ((List.take x1.toNat a1).length <= 1000000) && decide ((List.take x2.toNat a3).length <= 1000000)) <|
 bif !((bW a0 (List.take x1.toNat a1) a2 (List.take x2.toNat a3) a4) == r11.ok) then
 some ([.b false])
 else
 bif r11.ok then
 chk (decide (r11.aM.length < 1099511627776) && decide (r11.notes.length < 1099511627776)) <|
 bif !(jD r11.ra r11.aM r11.rb r11.notes r11.next a0 (List.take x1.toNat a1) a2 (List.take x2.toNat a3) a4) then
 some ([.b false])
 else
 bif !r11.ok then
 chk (decide (r11.aM.length < 1099511627776) && decide (r11.notes.length < 1099511627776)) <|
 bif !(jD r11.ra r11.aM r11.rb r11.notes r11.next (⟨false, 0, 0, 0, 0, 0, 0, 0, 0, 0, 0⟩ : bj) ([] : List Dat) (⟨0, 0, 0, 0, 0⟩ : aZ) ([] : List Dat) 0) then
 some ([.b false])
 else
 bif (l5.length : Int) == 0 then
 some ([.b true])
 else
 bif (l6.length : Int) == 0 then
 some ([.b true])
 else
 chk (decide (l5.length < 1099511627776)) <|
 chk (decide ((List.take x1.toNat a1).length < 1099511627776) && decide ((List.take x2.toNat a3).length < 1099511627776)) <|
 bif (gu l5 l6) == (jD a0 (List.take x1.toNat a1) a2 (List.take x2.toNat a3) a4 a5 (List.take x3.toNat a6) a7 (List.take x4.toNat a8) a9) then
 some ([.b true])
 else
 some ([.b false])
 else
 bif (l5.length : Int) == 0 then
 some ([.b true])
 else
 bif (l6.length : Int) == 0 then
 some ([.b true])
 else
 chk (decide (l5.length < 1099511627776)) <|
 chk (decide ((List.take x1.toNat a1).length < 1099511627776) && decide ((List.take x2.toNat a3).length < 1099511627776)) <|
 bif (gu l5 l6) == (jD a0 (List.take x1.toNat a1) a2 (List.take x2.toNat a3) a4 a5 (List.take x3.toNat a6) a7 (List.take x4.toNat a8) a9) then
 some ([.b true])
 else
 some ([.b false])
 else
 bif !r11.ok then
 chk (decide (r11.aM.length < 1099511627776) && decide (r11.notes.length < 1099511627776)) <|
 bif !(jD r11.ra r11.aM r11.rb r11.notes r11.next (⟨false, 0, 0, 0, 0, 0, 0, 0, 0, 0, 0⟩ : bj) ([] : List Dat) (⟨0, 0, 0, 0, 0⟩ : aZ) ([] : List Dat) 0) then
 some ([.b false])
 else
 bif (l5.length : Int) == 0 then
 some ([.b true])
 else
 bif (l6.length : Int) == 0 then
 some ([.b true])
 else
 chk (decide (l5.length < 1099511627776)) <|
 chk (decide ((List.take x1.toNat a1).length < 1099511627776) && decide ((List.take x2.toNat a3).length < 1099511627776)) <|
 bif (gu l5 l6) == (jD a0 (List.take x1.toNat a1) a2 (List.take x2.toNat a3) a4 a5 (List.take x3.toNat a6) a7 (List.take x4.toNat a8) a9) then
 some ([.b true])
 else
 some ([.b false])
 else
 bif (l5.length : Int) == 0 then
 some ([.b true])
 else
 bif (l6.length : Int) == 0 then
 some ([.b true])
 else
 chk (decide (l5.length < 1099511627776)) <|
 chk (decide ((List.take x1.toNat a1).length < 1099511627776) && decide ((List.take x2.toNat a3).length < 1099511627776)) <|
 bif (gu l5 l6) == (jD a0 (List.take x1.toNat a1) a2 (List.take x2.toNat a3) a4 a5 (List.take x3.toNat a6) a7 (List.take x4.toNat a8) a9) then
 some ([.b true])
 else
 some ([.b false])
theorem tM : ∀ (a b : List Dat), cL 4 a b = true ↔ a.map nrP = b.map nrP
 | [], [] => by simp [cL]
 | [], _ :: _ => by simp [cL]
 | _ :: _, [] => by simp [cL]
 | x :: a, y :: b => by
  have ih := tM a b; simp only [cL, zab, ih, zaN, List.cons.injEq]; refine and_congr_left fun _ => ?_
  simp [tJ, nrP]
theorem sw : ∀ (a b : List Dat), cL 3 a b = true ↔ a.map nrN = b.map nrN
 | [], [] => by simp [cL]
 | [], _ :: _ => by simp [cL]
 | _ :: _, [] => by simp [cL]
 | x :: a, y :: b => by
  have ih := sw a b; simp only [cL, zab, ih, zaN, List.cons.injEq]; refine and_congr_left fun _ => ?_
  simp [tJ, nrN]
theorem wv : ∀ (a b : List Int), gu a b = true ↔ a = b
 | [], [] => by simp [gu]
 | [], _ :: _ => by simp [gu]
 | _ :: _, [] => by simp [gu]
 | x :: a, y :: b => by
  have ih := wv a b; simp only [gu, zab, ih, zaw, List.cons.injEq]
theorem w6 {a0 : bj} {a1 : List Dat} {a2 : aZ} {a3 : List Dat} {a4 : Int} {a5 : bj} {a6 : List Dat} {a7 : aZ} {a8 : List Dat} {a9 : Int} : jD a0 a1 a2 a3 a4 a5 a6 a7 a8 a9 = true ↔ (a0 = a5 /\ a1.map nrP = a6.map nrP /\ a2 = a7 /\ a3.map nrN = a8.map nrN /\ a4 = a9) := by
 unfold jD; simp only [zab, zaw, tM, sw]; constructor
 . rintro ⟨h1, h2, h3, ⟨h4, h5, h6, h7, _⟩, h8, h9, h10, h11, h12, h13, h14, h15, h16, h17, h18, h19⟩
   exact ⟨bj.ext h1 h2 h3 h4 h5 h6 h7 h8 h9 h10 h11, h12, aZ.ext h13 h14 h15 h16 h17, h18, h19⟩
 . rintro ⟨rfl, h12, rfl, h18, rfl⟩
   exact ⟨rfl, rfl, rfl, ⟨rfl, rfl, rfl, rfl, trivial⟩, rfl, rfl, rfl, rfl, h12, rfl, rfl, rfl, rfl, rfl, h18, rfl⟩
theorem BM {ra : bj} {aM : List Dat} {rb : aZ} {notes : List Dat} {next : Int} (hr : bW ra aM rb notes next = true) : ∀ n ∈ jF ra aM rb notes next, -9223372036854775808 <= n /\ n <= 9223372036854775807 := by
 unfold bW uB at hr; simp only [List.all_cons, List.all_nil, vu, zab, zai, zan] at hr; obtain ⟨h1, h2, h3, h4, h5, h6, ⟨q1, q2, q3, q4, q5, q6, q7, q8, q9, q10, q11, q12, q13, _⟩, h8, h9, h10, h11⟩ := hr; have hb : 0 <= bI ra.call /\ bI ra.call <= 1 := by cases ra.call <;> decide
 intro n hn; unfold jF jb at hn; simp only [zbN, za4, List.mem_flatMap, List.not_mem_nil, or_false] at hn; rcases hn with (rfl | rfl | rfl | rfl | rfl | rfl | rfl | rfl | rfl | rfl | rfl | rfl | rfl | rfl | rfl | rfl | rfl | rfl) | ⟨d, hd, hn⟩ | rfl | ⟨d, hd, hn⟩
 all_goals try omega
 . have hp := h10 d hd; unfold uc at hp; simp only [zab, zai] at hp; simp only [fw, za4, List.not_mem_nil, or_false] at hn; rcases hn with rfl | rfl | rfl | rfl <;> omega
 . have hp := h11 d hd; unfold qA at hp; simp only [List.all_cons, List.all_nil, vu, zab, zai] at hp; simp only [gE, za4, List.not_mem_nil, or_false] at hn; rcases hn with rfl | rfl | rfl <;> omega
theorem decode_encode {ra : bj} {aM : List Dat} {rb : aZ} {notes : List Dat} {next : Int} (hr : bW ra aM rb notes next = true) : cO (dv ra aM rb notes next) = ⟨ra, rb, next, true, aM.map nrP, notes.map nrN⟩ := by
 unfold dv; rw [hr, zaC]; unfold cO; have hl := ob (jF ra aM rb notes next); have e : ((cQ (jF ra aM rb notes next)).length % 8 == 0) = true := by rw [zaw]; omega
 rw [e, zaC, EP (BM hr)]; exact Aj hr
theorem AY : cO [] = DO := by kernel_rfl
theorem nj {ra : bj} {aM : List Dat} {rb : aZ} {notes : List Dat} {next : Int} (hr : bW ra aM rb notes next = false) : dv ra aM rb notes next = [] := by unfold dv; rw [hr]; rfl
theorem nr {ra : bj} {aM : List Dat} {rb : aZ} {notes : List Dat} {next : Int} (hr : bW ra aM rb notes next = true) : 0 < (dv ra aM rb notes next).length /\ (dv ra aM rb notes next).length <= 1000000 := by
 have hb : aM.length <= 160 /\ notes.length <= 8 := by
  unfold bW at hr; simp only [zab, zai] at hr; omega
 unfold dv; rw [hr, zaC, ob]; have h1 : ∀ p : List Dat, (p.flatMap fw).length = 4 * p.length := fun p => by
  induction p with
  | nil => rfl
  | cons x p ih => simp only [zby, zad, ih, fw, zac, zay]; omega
 have h2 : ∀ p : List Dat, (p.flatMap gE).length = 3 * p.length := fun p => by
  induction p with
  | nil => rfl
  | cons x p ih => simp only [zby, zad, ih, gE, zac, zay]; omega
 simp only [jF, jb, zad, zac, zay, h1, h2]; omega
theorem C1 (p : List Dat) : p.flatMap fw = (p.map nrP).flatMap fw := by
 induction p with
 | nil => rfl
 | cons x p ih => simp only [zby, zaN, ih]; rfl
theorem D6 (p : List Dat) : p.flatMap gE = (p.map nrN).flatMap gE := by
 induction p with
 | nil => rfl
 | cons x p ih => simp only [zby, zaN, ih]; rfl
theorem FK {a0 : bj} {a1 : List Dat} {a2 : aZ} {a3 : List Dat} {a4 : Int} {a5 : bj} {a6 : List Dat} {a7 : aZ} {a8 : List Dat} {a9 : Int} (ha : bW a0 a1 a2 a3 a4 = true) (hb : bW a5 a6 a7 a8 a9 = true) :
 gu (dv a0 a1 a2 a3 a4) (dv a5 a6 a7 a8 a9) = jD a0 a1 a2 a3 a4 a5 a6 a7 a8 a9 := by
 rw [Bool.eq_iff_iff, wv, w6]; constructor
 . intro h; have e := decode_encode ha; rw [h, decode_encode hb] at e; simp only [AR.mk.injEq] at e; obtain ⟨e1, e2, e3, _, e5, e6⟩ := e; exact ⟨e1.symm, e5.symm, e2.symm, e6.symm, e3.symm⟩
 . rintro ⟨rfl, h1, rfl, h2, rfl⟩
   have l1 : a1.length = a6.length := by have := congrArg List.length h1; simpa using this
   have l2 : a3.length = a8.length := by have := congrArg List.length h2; simpa using this
   unfold dv; rw [ha, hb, zaC, zaC]; unfold jF jb; rw [C1 a1, h1, <- C1, D6 a3, h2, <- D6, l1, l2]
theorem DB (ra : bj) (aM : List Dat) (rb : aZ) (notes : List Dat) (next : Int) : decide (((dv ra aM rb notes next).length : Int) > 0) = bW ra aM rb notes next := by
 cases h : bW ra aM rb notes next with
 | false => rw [nj h]; rfl
 | true => exact zah (by have := (nr h).1; omega)
theorem yO {c : Int} (n : Nat) (h : 0 <= c) : 0 <= (if c < (n : Int) then c else (n : Int)) /\ (if c < (n : Int) then c else (n : Int)).toNat <= n /\ (if c < (n : Int) then c else (n : Int)) <= c := by split <;> omega
theorem LC (l : List Dat) : (l.map nrP).map nrP = l.map nrP := by rw [zb5]; rfl
theorem MI (l : List Dat) : (l.map nrN).map nrN = l.map nrN := by rw [zb5]; rfl
theorem HI (a0 : bj) (a1 : List Dat) (a2 : aZ) (a3 : List Dat) (a4 : Int) (a5 : bj) (a6 : List Dat) (a7 : aZ) (a8 : List Dat) (a9 : Int) : ∃ m, t4 m (a0, a1, a2, a3, a4, a5, a6, a7, a8, a9) = some [.b true] := by
 refine ⟨0, ?_⟩; unfold t4; dsimp only [lt]; obtain ⟨u1, u2, u3⟩ := yO (c := 12) a1.length (by decide); obtain ⟨v1, v2, v3⟩ := yO (c := 9) a3.length (by decide); obtain ⟨w1, w2, w3⟩ := yO (c := 12) a6.length (by decide); obtain ⟨z1, z2, z3⟩ := yO (c := 9) a8.length (by decide); generalize (if 12 < (a1.length : Int) then 12 else (a1.length : Int)) = x1 at *
 generalize (if 9 < (a3.length : Int) then 9 else (a3.length : Int)) = x2 at *
 generalize (if 12 < (a6.length : Int) then 12 else (a6.length : Int)) = x3 at *
 generalize (if 9 < (a8.length : Int) then 9 else (a8.length : Int)) = x4 at *
 have hc : ∀ (x : Int) (n : Nat), 0 <= x -> x.toNat <= n -> (decide (0 <= x) && (true && decide (0 <= x.toNat /\ x.toNat <= n))) = true := fun x n h k => by simp [h, k]
 have p1 : (List.take x1.toNat a1).length <= 12 := by rw [zaG]; omega
 have p2 : (List.take x2.toNat a3).length <= 9 := by rw [zaG]; omega
 have p3 : (List.take x3.toNat a6).length <= 12 := by rw [zaG]; omega
 have p4 : (List.take x4.toNat a8).length <= 9 := by rw [zaG]; omega
 refine ba (hc _ _ u1 u2) ?_
 refine ba (zah (by omega)) ?_
 refine ba (hc _ _ v1 v2) ?_
 refine ba (zah (by omega)) ?_
 refine ba (hc _ _ w1 w2) ?_
 refine ba (zah (by omega)) ?_
 refine ba (hc _ _ z1 z2) ?_
 refine ba (zah (by omega)) ?_
 generalize List.take x1.toNat a1 = p at *
 generalize List.take x2.toNat a3 = q at *
 generalize List.take x3.toNat a6 = r at *
 generalize List.take x4.toNat a8 = s at *
 have k1 : (decide (p.length <= 1000000) && decide (q.length <= 1000000)) = true := by rw [zah (show p.length <= 1000000 by omega), zah (show q.length <= 1000000 by omega)]; rfl
 have k2 : (decide (r.length <= 1000000) && decide (s.length <= 1000000)) = true := by rw [zah (show r.length <= 1000000 by omega), zah (show s.length <= 1000000 by omega)]; rfl
 refine ba k1 (ba k2 (ba k1 ?_)); rw [DB, DB]; refine iM (by simp) (ba k2 (iM (by simp) ?_)); cases hA : bW a0 p a2 q a4 with
 | false =>
  rw [nj hA, AY]; refine ba rfl ?_
  dsimp only [bd]; refine ba k1 (iM rfl (iM rfl (xi rfl (ba rfl (iM (by kernel_rfl) (xi rfl rfl))))))
 | true =>
  have l1 := nr hA; refine ba (zah l1.2) ?_
  rw [decode_encode hA]; dsimp only [bd]; have hq : jD a0 (p.map nrP) a2 (q.map nrN) a4 a0 p a2 q a4 = true := w6.2 ⟨rfl, LC p, rfl, MI q, rfl⟩; refine ba k1 (iM rfl (xi rfl (ba ?_ (iM (by rw [hq]; rfl) (iM rfl ?_)))))
  . rw [za1, za1, zah (show p.length < 1099511627776 by omega), zah (show q.length < 1099511627776 by omega)]; rfl
  refine iM (by rw [zbJ]; omega) ?_
  cases hB : bW a5 r a7 s a9 with
  | false =>
   rw [nj hB]; exact xi rfl rfl
  | true =>
   have l2 := nr hB; refine iM (by rw [zbJ]; omega) (ba (zah (by omega)) (ba ?_ (xi ?_ rfl)))
   . rw [zah (show p.length < 1099511627776 by omega), zah (show q.length < 1099511627776 by omega)]; rfl
   . rw [FK hA hB]; simp
set_option maxHeartbeats 2000000 in
theorem PL (b0 : Bool) (b1 : Int) (wb1 : (Lit.int .i64 b1).wf = true) (b2 : Int) (wb2 : (Lit.int .i64 b2).wf = true) (b3 : Int) (wb3 : (Lit.int .i64 b3).wf = true) (b4 : Int) (wb4 : (Lit.int .i64 b4).wf = true) (b5 : Int) (wb5 : (Lit.int .i64 b5).wf = true) (b6 : Int) (wb6 : (Lit.int .i64 b6).wf = true) (b7 : Int) (wb7 : (Lit.int .i64 b7).wf = true) (b8 : Int) (wb8 : (Lit.int .i64 b8).wf = true) (b9 : Int) (wb9 : (Lit.int .i64 b9).wf = true) (b10 : Int) (wb10 : (Lit.int .i64 b10).wf = true) (b11 : List Dat) (wb11 : b11.length <= 140737488355328 /\ ∀ x ∈ b11, WfR [.int .i64, .int .i64, .int .i64, .int .i64] x.sub) (b12 : Int) (wb12 : (Lit.int .i64 b12).wf = true) (b13 : Int) (wb13 : (Lit.int .i64 b13).wf = true) (b14 : Int) (wb14 : (Lit.int .i64 b14).wf = true) (b15 : Int) (wb15 : (Lit.int .i64 b15).wf = true) (b16 : Int) (wb16 : (Lit.int .i64 b16).wf = true) (b17 : List Dat) (wb17 : b17.length <= 140737488355328 /\ ∀ x ∈ b17, WfR [.int .i64, .int .i64, .int .i64] x.sub) (b18 : Int) (wb18 : (Lit.int .i64 b18).wf = true) (b19 : Bool) (b20 : Int) (wb20 : (Lit.int .i64 b20).wf = true) (b21 : Int) (wb21 : (Lit.int .i64 b21).wf = true) (b22 : Int) (wb22 : (Lit.int .i64 b22).wf = true) (b23 : Int) (wb23 : (Lit.int .i64 b23).wf = true) (b24 : Int) (wb24 : (Lit.int .i64 b24).wf = true) (b25 : Int) (wb25 : (Lit.int .i64 b25).wf = true) (b26 : Int) (wb26 : (Lit.int .i64 b26).wf = true) (b27 : Int) (wb27 : (Lit.int .i64 b27).wf = true) (b28 : Int) (wb28 : (Lit.int .i64 b28).wf = true) (b29 : Int) (wb29 : (Lit.int .i64 b29).wf = true) (b30 : List Dat) (wb30 : b30.length <= 140737488355328 /\ ∀ x ∈ b30, WfR [.int .i64, .int .i64, .int .i64, .int .i64] x.sub) (b31 : Int) (wb31 : (Lit.int .i64 b31).wf = true) (b32 : Int) (wb32 : (Lit.int .i64 b32).wf = true) (b33 : Int) (wb33 : (Lit.int .i64 b33).wf = true) (b34 : Int) (wb34 : (Lit.int .i64 b34).wf = true) (b35 : Int) (wb35 : (Lit.int .i64 b35).wf = true) (b36 : List Dat) (wb36 : b36.length <= 140737488355328 /\ ∀ x ∈ b36, WfR [.int .i64, .int .i64, .int .i64] x.sub) (b37 : Int) (wb37 : (Lit.int .i64 b37).wf = true) : ∃ m, t4 m ((⟨b0, b1, b2, b3, b4, b5, b6, b7, b8, b9, b10⟩ : bj), b11, (⟨b12, b13, b14, b15, b16⟩ : aZ), b17, b18, (⟨b19, b20, b21, b22, b23, b24, b25, b26, b27, b28, b29⟩ : bj), b30, (⟨b31, b32, b33, b34, b35⟩ : aZ), b36, b37) = some [.b true] := by
 exact HI _ _ _ _ _ _ _ _ _ _
set_option maxRecDepth 20000 in
theorem uT {HH : Type} {enc : TypeId × Value -> HH} {w : World} {base : Nat} {vs : List Value} {ds : List (DataW HH)} {ps : List MemPlace} (hsh : w.ShapedOpen Tryz.prog)
 (hd : DataW.TrodAll enc Tryz.prog w 0 (fun _ => true) true Tryz.f4.params.toList vs ds ps) {us' : List TypeId} {gs : List (DataW HH)} (hz : (DataW.weightsEach Tryz.prog (Tryz.f4.params.toList ++ us') (ds ++ gs)).all (· <= reachBytes) = true) (hval : ∀ (j : Nat) t v, Tryz.f4.params.toList[j]? = some t -> vs[j]? = some v -> Value.okWide Tryz.prog w .any base t v) :
 Calls Tryz.prog 4 vs.toArray w fun e w' => e = .returned (.bool true) /\ RowKit.Below w.heap.size w w' :=
 GI Seat.mix Seat.names FF Lr (pars := qX) (by kernel_rfl) (fun us h => by
  change WfU [.bool, .int .i64, .int .i64, .int .i64, .int .i64, .int .i64, .int .i64, .int .i64, .int .i64, .int .i64, .int .i64, .ai [.int .i64, .int .i64, .int .i64, .int .i64], .int .i64, .int .i64, .int .i64, .int .i64, .int .i64, .ai [.int .i64, .int .i64, .int .i64], .int .i64, .bool, .int .i64, .int .i64, .int .i64, .int .i64, .int .i64, .int .i64, .int .i64, .int .i64, .int .i64, .int .i64, .ai [.int .i64, .int .i64, .int .i64, .int .i64], .int .i64, .int .i64, .int .i64, .int .i64, .int .i64, .ai [.int .i64, .int .i64, .int .i64], .int .i64] us at h; obtain ⟨b0, u, rfl, hh⟩ := yT h
  replace h := hh
  clear hh; obtain ⟨b1, u, rfl, wb1, h⟩ := bU h; obtain ⟨b2, u, rfl, wb2, h⟩ := bU h; obtain ⟨b3, u, rfl, wb3, h⟩ := bU h; obtain ⟨b4, u, rfl, wb4, h⟩ := bU h; obtain ⟨b5, u, rfl, wb5, h⟩ := bU h; obtain ⟨b6, u, rfl, wb6, h⟩ := bU h; obtain ⟨b7, u, rfl, wb7, h⟩ := bU h; obtain ⟨b8, u, rfl, wb8, h⟩ := bU h; obtain ⟨b9, u, rfl, wb9, h⟩ := bU h; obtain ⟨b10, u, rfl, wb10, h⟩ := bU h; obtain ⟨b11, u, rfl, wb11, h⟩ := oZ h; obtain ⟨b12, u, rfl, wb12, h⟩ := bU h; obtain ⟨b13, u, rfl, wb13, h⟩ := bU h; obtain ⟨b14, u, rfl, wb14, h⟩ := bU h; obtain ⟨b15, u, rfl, wb15, h⟩ := bU h; obtain ⟨b16, u, rfl, wb16, h⟩ := bU h; obtain ⟨b17, u, rfl, wb17, h⟩ := oZ h; obtain ⟨b18, u, rfl, wb18, h⟩ := bU h; obtain ⟨b19, u, rfl, hh⟩ := yT h
  replace h := hh
  clear hh; obtain ⟨b20, u, rfl, wb20, h⟩ := bU h; obtain ⟨b21, u, rfl, wb21, h⟩ := bU h; obtain ⟨b22, u, rfl, wb22, h⟩ := bU h; obtain ⟨b23, u, rfl, wb23, h⟩ := bU h; obtain ⟨b24, u, rfl, wb24, h⟩ := bU h; obtain ⟨b25, u, rfl, wb25, h⟩ := bU h; obtain ⟨b26, u, rfl, wb26, h⟩ := bU h; obtain ⟨b27, u, rfl, wb27, h⟩ := bU h; obtain ⟨b28, u, rfl, wb28, h⟩ := bU h; obtain ⟨b29, u, rfl, wb29, h⟩ := bU h; obtain ⟨b30, u, rfl, wb30, h⟩ := oZ h; obtain ⟨b31, u, rfl, wb31, h⟩ := bU h; obtain ⟨b32, u, rfl, wb32, h⟩ := bU h; obtain ⟨b33, u, rfl, wb33, h⟩ := bU h; obtain ⟨b34, u, rfl, wb34, h⟩ := bU h; obtain ⟨b35, u, rfl, wb35, h⟩ := bU h; obtain ⟨b36, u, rfl, wb36, h⟩ := oZ h; obtain ⟨b37, u, rfl, wb37, h⟩ := bU h; obtain rfl := F8 h; obtain ⟨m, hm⟩ := PL b0 b1 wb1 b2 wb2 b3 wb3 b4 wb4 b5 wb5 b6 wb6 b7 wb7 b8 wb8 b9 wb9 b10 wb10 b11 wb11 b12 wb12 b13 wb13 b14 wb14 b15 wb15 b16 wb16 b17 wb17 b18 wb18 b19 b20 wb20 b21 wb21 b22 wb22 b23 wb23 b24 wb24 b25 wb25 b26 wb26 b27 wb27 b28 wb28 b29 wb29 b30 wb30 b31 wb31 b32 wb32 b33 wb33 b34 wb34 b35 wb35 b36 wb36 b37 wb37; have G : N4.Cf Tryz.prog LQ KN (Uns.enc ((⟨b0, b1, b2, b3, b4, b5, b6, b7, b8, b9, b10⟩ : bj), b11, (⟨b12, b13, b14, b15, b16⟩ : aZ), b17, b18, (⟨b19, b20, b21, b22, b23, b24, b25, b26, b27, b28, b29⟩ : bj), b30, (⟨b31, b32, b33, b34, b35⟩ : aZ), b36, b37)) ([]) = t4 m ((⟨b0, b1, b2, b3, b4, b5, b6, b7, b8, b9, b10⟩ : bj), b11, (⟨b12, b13, b14, b15, b16⟩ : aZ), b17, b18, (⟨b19, b20, b21, b22, b23, b24, b25, b26, b27, b28, b29⟩ : bj), b30, (⟨b31, b32, b33, b34, b35⟩ : aZ), b36, b37) := by kernel_rfl
  exact N4.Lp ah T16.right (W := []) (by kernel_rfl) (by kernel_rfl) (by kernel_rfl) aA (G.trans hm)) hsh hd hz hval
end
end Go.Proofs.YtcbnpnaagbhknaaGreat
