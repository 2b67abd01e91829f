/- Part of a proof: Closing, ClosePlain, Close, Runs, Lines, TheWord, Record, ReportRuns, Back, Roomy, Only, Own, WReportEdges. Conditions: none. -/
import Derived.Test.YtcbnpnaagbhknaaGreatQ5
set_option linter.unusedVariables false
set_option linter.unusedSimpArgs false
set_option linter.unnecessarySimpa false
set_option linter.unusedSectionVars false
namespace Go.Proofs.YtcbnpnaagbhknaaGreat
noncomputable section
open Go Go.Proofs.YtcbnpnaagbhknaaGreat.Ev
set_option maxRecDepth 20000
@[ext] structure aO where
 call : Bool
 period : Int
 mode : Int
 aj : Int
 bT : Int
 aC : Int
 aK : Int
 draw : Int
 advance : Int
 fee : Int
 due : Int
instance : Uns aO := Uns.via (B := Bool × Int × Int × Int × Int × Int × Int × Int × Int × Int × Int) (fun x => (x.call, x.period, x.mode, x.aj, x.bT, x.aC, x.aK, x.draw, x.advance, x.fee, x.due)) (fun x => match x with | (call, period, mode, aj, bT, aC, aK, draw, advance, fee, due) => ⟨call, period, mode, aj, bT, aC, aK, draw, advance, fee, due⟩) (fun _ => rfl)
@[ext] structure aM where
 bx : Int
 aZ : Int
 aX : Int
 out : Int
 js : Int
instance : Uns aM := Uns.via (B := Int × Int × Int × Int × Int) (fun x => (x.bx, x.aZ, x.aX, x.out, x.js)) (fun x => match x with | (bx, aZ, aX, out, js) => ⟨bx, aZ, aX, out, js⟩) (fun _ => rfl)
def cT (a : aw) (p bal r : Int) : Int := Aa bal r a.basis (eX a.year a.month 1 p) (eU a.year a.month 1 p) (gd a.year a.month 1 p) (eX a.year a.month 1 (p + 1)) (eU a.year a.month 1 (p + 1)) (gd a.year a.month 1 (p + 1))
theorem qy {y m p : Int} (h1 : 1 <= y) (h2 : y <= 9000) (h3 : 1 <= m) (h4 : m <= 12) (h5 : 0 <= p) (h6 : p <= 700) : 1 <= eX y m 1 p /\ eX y m 1 p <= 9999 /\ 1 <= eU y m 1 p /\ eU y m 1 p <= 12 /\ gd y m 1 p = 1 /\ bV (eX y m 1 p) (eU y m 1 p) (gd y m 1 p) = true /\ 12 * eX y m 1 p + eU y m 1 p = 12 * y + m + p := by
 have l1 := mg (y := y) (m := m) h1 (by omega) h3 h4; have hs : fN y m 1 p = true := by
  unfold fN; rw [show bV y m 1 = true from cV.2 ⟨by omega, by omega⟩]; simp only [zbi, zag]; omega
 unfold eX eU gd; rw [hs, if_pos rfl, if_pos rfl, if_pos rfl]; have l2 := mg (y := (12 * y + m - 1 + p) / 12) (m := (12 * y + m - 1 + p) % 12 + 1) (by omega) (by omega) (by omega) (by omega); have hd : min 1 (cD ((12 * y + m - 1 + p) / 12) ((12 * y + m - 1 + p) % 12 + 1)) = 1 := by omega
 rw [hd]; exact ⟨by omega, by omega, by omega, by omega, rfl, cV.2 ⟨by omega, by omega⟩, by omega⟩
theorem zD {b y m y' m' : Int} (h1 : 1 <= y) (h2 : y <= 9999) (h3 : 1 <= m) (h4 : m <= 12) (h5 : 12 * y' + m' = 12 * y + m + 1) (h6 : 1 <= m') (h7 : m' <= 12) (r1 : bV y m 1 = true) (r2 : bV y' m' 1 = true) : 0 <= jo b y m 1 y' m' 1 /\ jo b y m 1 y' m' 1 <= 731 := by
 have n1 := pX r1; have n2 := pX r2; have a1 := nr h1; have a2 := nr (y := y + 1) (by omega); have q1 := ov y; have q2 := ov (y + 1); unfold jo
 split
 . split
   . unfold com; rw [if_neg (by omega)]; omega
   . split
     . rename_i h _ _; have hy : y' = y \/ y' = y + 1 := by omega
       rcases hy with rfl | rfl <;> omega
     . omega
 . omega
theorem EP {n b : Int} (p : Int) (hp : p = 3600000 \/ p = 3650000) (h1 : 0 <= n) (h2 : n <= 1099511627776) (h3 : 0 <= b) (h4 : b <= 3655000) : 0 <= mdV n b p 2 /\ mdV n b p 2 <= 1200000000000 := by
 unfold mdV
 split
 . have hm := zbR h4 h1; have hz := za0 h1 h3; have e := zbc (n * b) p; have r0 := zbp (n * b) (show p ≠ 0 by omega); have d0 : 0 <= n * b / p := zbu hz (by omega); have d1 : n * b / p <= 1117000000000 := by
    have : n * b < 4018800800000000001 := by omega
    rcases hp with rfl | rfl <;> omega
   unfold mdQ
   split <;> omega
 . omega
theorem ox {a : aw} {p bal : Int} (r : Int) (h1 : 1 <= a.year) (h2 : a.year <= 9000) (h3 : 1 <= a.month) (h4 : a.month <= 12) (h5 : 0 <= p) (h6 : p <= 650) (b0 : 0 <= bal) (b1 : bal <= 1099511627776) : 0 <= cT a p bal r /\ cT a p bal r <= 1200000000000 := by
 obtain ⟨s1, s2, s3, s4, s5, s6, s7⟩ := qy h1 h2 h3 h4 h5 (by omega); obtain ⟨t1, t2, t3, t4, t5, t6, t7⟩ := qy h1 h2 h3 h4 (show 0 <= p + 1 by omega) (by omega); unfold cT Aa; rw [s5] at s6 ⊢; rw [t5] at t6 ⊢
 split
 . rename_i hr; have hd := zD (b := a.basis) s1 s2 s3 s4 (by omega) t3 t4 s6 t6; have k0 := za0 hr.1 hd.1; have k1 := Int.mul_le_mul hr.2 hd.2 hd.1 (show (0 : Int) <= 5000 by omega); exact EP _ (by unfold uv; split <;> omega) b0 b1 k0 (by omega)
 . omega
def dV (a : aw) (p : Int) (d : Dat) : Dat := yQ (cT a p (bj d) (d.i 2)) d
theorem EE {d : Dat} (h : aI d = true) : 0 <= bj d /\ bj d <= 1099511627776 := by
 have := cj h; unfold bj; omega
def N34 : aD := ⟨T84.tab, 34, ⟨[.ptr 0 0 0, .int .i64], cg 0, 0⟩, ⟨[.int .i64, .int .i64], cg 0, 0⟩, []⟩
abbrev CT : Type := Int × Int × Int × Int × aw × az × ak × List Dat × List Dat × List Dat × List Dat × List Dat × List Dat × List Dat × Int × Int × Int × Int × Int × Int
def xg (m : Nat) (k : CT -> Option (List Un)) : CT -> Option (List Un) := fun (a0, a1, a2, a3, a4, a5, a6, a7, a8, a9, a10, a11, a12, a13, a14, a15, a16, a17, a18, a19) =>
 bif decide (a3 < a2) then
 chk (inb a3 a13.length) <|
 chk (decide (a3.toNat < a13.length)) <|
 lt (ag a13 a3.toNat : Dat) fun d9 =>
 chk (decide (a3.toNat < a13.length)) <|
 lt ((Aa (w64 (w64 ((d9.i 1) - w64 ((d9.i 3) - (d9.i 4))) - (d9.i 6))) ((ag a13 a3.toNat).i 2) a4.basis a14 a15 a16 a17 a18 a19) : Int) fun x12 =>
 chk (decide (0 <= x12 /\ x12 <= 1125899906842624) && (decide (0 <= (a3.toNat : Int) /\ (a3.toNat : Int).toNat < a13.length) && aI (ag a13 (a3.toNat : Int).toNat))) <|
 k (a0, (w64 (a1 + x12)), a2, (w64 (a3 + 1)), a4, a5, a6, a7, a8, a9, a10, a11, a12, (a13.set (a3.toNat : Int).toNat (yQ x12 (ag a13 (a3.toNat : Int).toNat))), a14, a15, a16, a17, a18, a19)
 else
 some ([.i a0, .i a1] ++ Uns.enc (a4 : aw) ++ Uns.enc (a5 : az) ++ Uns.enc (a6 : ak) ++ [.d a7, .d a8, .d a9, .d a10, .d a11, .d a12, .d a13])
def tU (m : Nat) : Nat -> CT -> Option (List Un) := br (xg m)
theorem tL (m : Nat) (n : Nat) : tU m (n + 1) = xg m (tU m n) := rfl
def Hz (F : CT -> Option (List Un)) : ba := ⟨[.lp [0, 1, 0, 1, 1, 1, 1, 1], .blk 0, .code [1, 1, 1, 1, 1, 1]], ⟨frm 88 [(0, .ptr 0 0 0), (6, .ptr 9 0 0), (7, .ptr 10 0 0), (8, .int .i64), (10, .int .i64), (49, .int .i64), (50, .int .i64)], cg 0 ++ [.cells [.int .i64, .int .i64, .int .i64], .cells [.int .i64, .int .i64, .int .i64]], 0⟩, onU F⟩
theorem Pq (m : Nat) : ∀ n, HO N34 (Hz (tU m n)) := au ah T84.right (fun k => [Hz k]) (fun k h => (aL h aA)) fun k a => by kernel_rfl
def t34 (m : Nat) : Int × aw × az × ak × List Dat × List Dat × List Dat × List Dat × List Dat × List Dat × List Dat -> Option (List Un) := fun (a0, a1, a2, a3, a4, a5, a6, a7, a8, a9, a10) =>
 lt ((eX a1.year a1.month 1 a3.period) : Int) fun x1 =>
 lt ((eU a1.year a1.month 1 a3.period) : Int) fun x2 =>
 lt ((gd a1.year a1.month 1 a3.period) : Int) fun x3 =>
 lt ((eX a1.year a1.month 1 (w64 (a3.period + 1))) : Int) fun x4 =>
 lt ((eU a1.year a1.month 1 (w64 (a3.period + 1))) : Int) fun x5 =>
 lt ((gd a1.year a1.month 1 (w64 (a3.period + 1))) : Int) fun x6 =>
 lt ((Aa a0 a2.fee a1.basis x1 x2 x3 x4 x5 x6) : Int) fun x7 =>
 tU m m (x7, 0, (a10.length : Int), 0, a1, a2, ({ a3 with fee := (w64 (a3.fee + x7)) } : ak), a4, a5, a6, a7, a8, a9, a10, x1, x2, x3, x4, x5, x6)
theorem Lc (m : Nat) (fe : Int) (xa : aw) (xb : az) (xn : ak) (x1 x2 x3 x4 x5 x6 : List Dat) (p : Int) (hf : ∀ d, aI d = true -> 0 <= cT xa p (bj d) (d.i 2) /\ cT xa p (bj d) (d.i 2) <= 1200000000000) : ∀ (rest pre : List Dat) (n : Nat) (s : Int), rest.length < n -> (pre ++ rest).length <= 1000 -> (∀ d ∈ rest, aI d = true) -> 0 <= s -> s <= 1200000000000 * pre.length ->
 tU m n (fe, s, ((pre ++ rest).length : Int), (pre.length : Int), xa, xb, xn, x1, x2, x3, x4, x5, x6, pre ++ rest, eX xa.year xa.month 1 p, eU xa.year xa.month 1 p, gd xa.year xa.month 1 p, eX xa.year xa.month 1 (p + 1), eU xa.year xa.month 1 (p + 1), gd xa.year xa.month 1 (p + 1)) =
  some ([.i fe, .i (s + bw (fun d => cT xa p (bj d) (d.i 2)) rest)] ++ Uns.enc xa ++ Uns.enc xb ++ Uns.enc xn ++ [.d x1, .d x2, .d x3, .d x4, .d x5, .d x6, .d (pre ++ rest.map (dV xa p))]) := by
 intro rest
 induction rest with
 | nil =>
  intro pre n s hn hl hg s0 s1; obtain ⟨n, rfl⟩ := al n (by simp at hn; omega); rw [tL]; unfold xg; dsimp only; simp [aE, bw]
 | cons x rest ih =>
  intro pre n s hn hl hg s0 s1; obtain ⟨n, rfl⟩ := al n (by simp at hn; omega); simp only [zac, zad] at hn hl; have hx := cj (hg x (by simp)); have hb := hf x (hg x (by simp)); have hgx := hg x (by simp); have := ih (pre ++ [dV xa p x]) n (s + cT xa p (bj x) (x.i 2)) (by omega) (by simp; omega) (fun d hd => hg d (by simp [hd])) (by omega) (by simp; omega); have e : w64 (w64 (x.i 1 - w64 (x.i 3 - x.i 4)) - x.i 6) = bj x := by rw [aa (n := x.i 3 - x.i 4) (by omega) (by omega), aa (n := x.i 1 - _) (by omega) (by omega), aa (by omega) (by omega)]; rfl
  have e2 : ∀ z, Aa z (x.i 2) xa.basis (eX xa.year xa.month 1 p) (eU xa.year xa.month 1 p) (gd xa.year xa.month 1 p) (eX xa.year xa.month 1 (p + 1)) (eU xa.year xa.month 1 (p + 1)) (gd xa.year xa.month 1 (p + 1)) = cT xa p z (x.i 2) := fun z => rfl
  rw [tL]; unfold xg; dsimp only; simp only [bw, zaT, LNi, ax, lt_eq, e, e2, hgx, zbb, C7]; rw [show yQ (cT xa p (bj x) (x.i 2)) x = dV xa p x from rfl]; simp (disch := omega) only [TRa, TRi, aa, LNl, LNi, zaa, ax]; simp only [LNl, LNi, zaa] at this ⊢; exact this
def f34 : Int × aw × az × ak × List Dat × List Dat × List Dat × List Dat × List Dat × List Dat × List Dat -> Bool × List Un := fun (a0, a1, a2, a3, a4, a5, a6, a7, a8, a9, a10) => (decide ((1 <= a1.year /\ a1.year <= 9000 /\ 1 <= a1.month /\ a1.month <= 12) /\ (0 <= a3.period /\ a3.period <= 600) /\ (0 <= a3.fee /\ a3.fee <= 1125899906842624) /\ (0 <= a0 /\ a0 <= 1099511627776)) && (decide (a10.length <= 1000) && a10.all aI), [.i (cT a1 a3.period a0 a2.fee), .i (bw (fun d => cT a1 a3.period (bj d) (d.i 2)) a10)] ++ Uns.enc ((a1) : aw) ++ Uns.enc ((a2) : az) ++ Uns.enc (({ a3 with fee := a3.fee + cT a1 a3.period a0 a2.fee }) : ak) ++ [.d (a4), .d (a5), .d (a6), .d (a7), .d (a8), .d (a9), .d (a10.map (dV a1 a3.period))])
theorem Mx (a0 : Int) (a1 : aw) (a2 : az) (a3 : ak) (a4 : List Dat) (a5 : List Dat) (a6 : List Dat) (a7 : List Dat) (a8 : List Dat) (a9 : List Dat) (a10 : List Dat) (hc : (decide ((1 <= a1.year /\ a1.year <= 9000 /\ 1 <= a1.month /\ a1.month <= 12) /\ (0 <= a3.period /\ a3.period <= 600) /\ (0 <= a3.fee /\ a3.fee <= 1125899906842624) /\ (0 <= a0 /\ a0 <= 1099511627776)) && (decide (a10.length <= 1000) && a10.all aI)) = true) : ∃ m, t34 m (a0, a1, a2, a3, a4, a5, a6, a7, a8, a9, a10) = some ([.i (cT a1 a3.period a0 a2.fee), .i (bw (fun d => cT a1 a3.period (bj d) (d.i 2)) a10)] ++ Uns.enc ((a1) : aw) ++ Uns.enc ((a2) : az) ++ Uns.enc (({ a3 with fee := a3.fee + cT a1 a3.period a0 a2.fee }) : ak) ++ [.d (a4), .d (a5), .d (a6), .d (a7), .d (a8), .d (a9), .d (a10.map (dV a1 a3.period))]) := by
 simp only [zab, zag, zan] at hc; obtain ⟨⟨⟨h1, h2, h3, h4⟩, ⟨h5, h6⟩, ⟨h7, h8⟩, h9, h10⟩, h11, h12⟩ := hc; have hs := ox a2.fee h1 h2 h3 h4 h5 (show a3.period <= 650 by omega) h9 h10; have hf : ∀ d, aI d = true -> 0 <= cT a1 a3.period (bj d) (d.i 2) /\ cT a1 a3.period (bj d) (d.i 2) <= 1200000000000 := fun d hd => ox _ h1 h2 h3 h4 h5 (by omega) (EE hd).1 (EE hd).2
 refine ⟨a10.length + 1, ?_⟩; unfold t34; dsimp only [lt]; rw [aa (n := a3.period + 1) (by omega) (by omega)]; refine (show tU _ _ (cT a1 a3.period a0 a2.fee, 0, (a10.length : Int), 0, a1, a2, { a3 with fee := w64 (a3.fee + cT a1 a3.period a0 a2.fee) }, a4, a5, a6, a7, a8, a9, a10, _, _, _, _, _, _) = _ from ?_); rw [aa (n := a3.fee + _) (by omega) (by omega)]; exact (Lc _ _ a1 a2 _ a4 a5 a6 a7 a8 a9 a3.period hf a10 [] (a10.length + 1) 0 (by omega) (by simpa using h11) h12 (by omega) (by simp)).trans (by simp only [za2, zaV])
theorem IX : ER 34 (mkE N34.en N34.ex f34) := an ah T84.right (fun m => [Hz (tU m m)]) (t := t34) (by kernel_rfl) (fun m => (aL (Pq m m) aA)) (fun m a => by kernel_rfl) fun (a0, a1, a2, a3, a4, a5, a6, a7, a8, a9, a10) hc => Mx a0 a1 a2 a3 a4 a5 a6 a7 a8 a9 a10 hc
def T34 : Tb Tryz.prog LQ TE XX := T84.add 34 _ IX
def zg (x : Int) (d : Dat) : Int := max (min x (d.i 5)) 0
def mM (x : Int) (d : Dat) : Dat := .r [.n (d.i 0), .n (d.i 1), .n (d.i 2), .n (d.i 3), .n (d.i 4), .n (d.i 5 - zg x d), .n (d.i 6)]
def iN (n : ak) (p : Dat) : ak := if p.i 1 = 1 then { n with fee := n.fee - p.i 3 } else if p.i 1 = 2 then { n with out := n.out - p.i 3 } else if p.i 1 = 6 then { n with rin := n.rin + p.i 3 } else n
def jY (c : List Dat) (p : Dat) : List Dat := if p.i 1 = 1 then c else if p.i 1 = 2 then c else if p.i 1 = 6 then c else if p.i 1 = 3 then c.set (p.i 2).toNat (mM (p.i 3) (ag c (p.i 2).toNat)) else c.set (p.i 2).toNat (rj (p.i 3) (ag c (p.i 2).toNat))
def cO : List Dat -> ak -> List Dat -> ak × List Dat
 | [], n, c => (n, c)
 | p :: l, n, c => cO l (iN n p) (jY c p)
def E2 (k : Nat) (p : Dat) : Bool := decide (0 <= p.i 3) && (decide (p.i 1 = 1 \/ p.i 1 = 2 \/ p.i 1 = 6) || decide (0 <= p.i 2 /\ p.i 2 < (k : Int)))
theorem rC {k : Nat} {p : Dat} (h : E2 k p = true) : 0 <= p.i 3 /\ ((p.i 1 = 1 \/ p.i 1 = 2 \/ p.i 1 = 6) \/ (0 <= p.i 2 /\ p.i 2 < (k : Int))) := by
 simp only [E2, zab, zbh, zag] at h; exact h
def w5 (l : List Dat) (n : ak) (c : List Dat) : Bool := decide (l.length <= 1000000) && (l.all (E2 c.length) && (decide (ao 3 l <= 144115188075855872 /\ (0 <= n.fee /\ n.fee <= 144115188075855872) /\ (0 <= n.out /\ n.out <= 144115188075855872) /\ (0 <= n.rin /\ n.rin <= 144115188075855872)) && (decide (c.length <= 1000) && c.all aI)))
theorem vV (c : List Dat) (p : Dat) : (jY c p).length = c.length := by
 unfold jY; repeat' split
 all_goals simp
theorem yC {d : Dat} (x : Int) (h : aI d = true) : aI (mM x d) = true := by
 have := cj h; refine zai ?_
 simp only [mM, zg, et, eT, uk, nu, nT]; omega
theorem AQ {c : List Dat} {p : Dat} (hp : E2 c.length p = true) (h : dA c) : dA (jY c p) := by
 have hp := rC hp; unfold jY
 by_cases h1 : p.i 1 = 1
 . rw [if_pos h1]; exact h
 rw [if_neg h1]
 by_cases h2 : p.i 1 = 2
 . rw [if_pos h2]; exact h
 rw [if_neg h2]
 by_cases h3 : p.i 1 = 6
 . rw [if_pos h3]; exact h
 rw [if_neg h3]; have hj : (p.i 2).toNat < c.length := by omega
 split
 . exact mY h (yC _ (cn hj h.2))
 . exact mY h (Ea _ (cn hj h.2))
def N41 : aD := ⟨T34.tab, 41, ⟨[.np 0 0 0, .ai (sI 4)], cg 0, 0⟩, ⟨[], cg 0, 0⟩, []⟩
abbrev CL : Type := Int × List Dat × Int × Int × aw × az × ak × List Dat × List Dat × List Dat × List Dat × List Dat × List Dat × List Dat
def xM (m : Nat) (k : CL -> Option (List Un)) : CL -> Option (List Un) := fun (a0, a1, a2, a3, a4, a5, a6, a7, a8, a9, a10, a11, a12, a13) =>
 bif decide (a3 < a2) then
 chk (inb a3 a1.length) <|
 chk (decide (a3.toNat < a1.length)) <|
 lt (ag a1 a3.toNat : Dat) fun d1 =>
 bif (d1.i 1) == 1 then
 chk (decide (0 <= a0)) <|
 chk (decide (0 <= a0)) <|
 k (a0, a1, a2, (w64 (a3 + 1)), a4, a5, ({ a6 with fee := (w64 (a6.fee - (d1.i 3))) } : ak), a7, a8, a9, a10, a11, a12, a13)
 else
 bif (d1.i 1) == 2 then
 chk (decide (0 <= a0)) <|
 chk (decide (0 <= a0)) <|
 k (a0, a1, a2, (w64 (a3 + 1)), a4, a5, ({ a6 with out := (w64 (a6.out - (d1.i 3))) } : ak), a7, a8, a9, a10, a11, a12, a13)
 else
 bif (d1.i 1) == 6 then
 chk (decide (0 <= a0)) <|
 chk (decide (0 <= 0) && decide ((0 : Int) <= a6.rin /\ (0 : Int) <= (d1.i 3) /\ a6.rin + (d1.i 3) <= (1152921504606846976 : Int))) <|
 k (a0, a1, a2, (w64 (a3 + 1)), a4, a5, ({ a6 with rin := a6.rin + (d1.i 3) }), a7, a8, a9, a10, a11, a12, a13)
 else
 bif (d1.i 1) == 3 then
 chk (decide (0 <= a0)) <|
 chk (inb (d1.i 2) a13.length) <|
 chk (decide ((d1.i 2).toNat < a13.length)) <|
 lt (ag a13 ((d1.i 2).toNat) : Dat) fun d5 =>
 lt ((if (d5.i 5) < (d1.i 3) then (d5.i 5) else (d1.i 3)) : Int) fun x6 =>
 chk (decide ((d1.i 2).toNat < a13.length)) <|
 chk (decide ((d1.i 2).toNat < a13.length)) <|
 lt (ag a13 ((d1.i 2).toNat) : Dat) fun d9 =>
 k (a0, a1, a2, (w64 (a3 + 1)), a4, a5, a6, a7, a8, a9, a10, a11, a12, (List.set a13 ((d1.i 2).toNat) (.r [.n (d9.i 0), .n (d9.i 1), .n (d9.i 2), .n (d9.i 3), .n (d9.i 4), .n (w64 (((ag a13 ((d1.i 2).toNat)).i 5) - (if x6 < 0 then 0 else x6))), .n (d9.i 6)])))
 else
 chk (decide (0 <= a0)) <|
 chk (inb (d1.i 2) a13.length) <|
 chk (decide (0 <= ((d1.i 2).toNat : Int) /\ ((d1.i 2).toNat : Int).toNat < a13.length) && aI (ag a13 ((d1.i 2).toNat : Int).toNat)) <|
 k (a0, a1, a2, (w64 (a3 + 1)), a4, a5, a6, a7, a8, a9, a10, a11, a12, (a13.set ((d1.i 2).toNat : Int).toNat (rj (d1.i 3) (ag a13 ((d1.i 2).toNat : Int).toNat))))
 else
 some (Uns.enc (a4 : aw) ++ Uns.enc (a5 : az) ++ Uns.enc (a6 : ak) ++ [.d a7, .d a8, .d a9, .d a10, .d a11, .d a12, .d a13])
def wN (m : Nat) : Nat -> CL -> Option (List Un) := br (xM m)
theorem tT (m : Nat) (n : Nat) : wN m (n + 1) = xM m (wN m n) := rfl
def FW (F : CL -> Option (List Un)) : ba := ⟨[.lp [0, 1], .blk 0], ⟨frm 67 [(0, .np 0 0 0), (6, .ai (sI 4)), (7, .int .i64), (8, .int .i64)], cg 0, 0⟩, onU F⟩
theorem Px (m : Nat) : ∀ n, HO N41 (FW (wN m n)) := au ah T34.right (fun k => [FW k]) (fun k h => (aL h aA)) fun k a => by kernel_rfl
def t41 (m : Nat) : Int × List Dat × aw × az × ak × List Dat × List Dat × List Dat × List Dat × List Dat × List Dat × List Dat -> Option (List Un) := fun (a0, a1, a2, a3, a4, a5, a6, a7, a8, a9, a10, a11) =>
 wN m m (a0, a1, (a1.length : Int), 0, a2, a3, a4, a5, a6, a7, a8, a9, a10, a11)
theorem L7 (m : Nat) (p0 : Int) (hp0 : 0 <= p0) (xa : aw) (xb : az) (x1 x2 x3 x4 x5 x6 : List Dat) : ∀ (rest pre : List Dat) (n : Nat) (y : ak) (c : List Dat), rest.length < n -> (pre ++ rest).length <= 1000000 -> (∀ d ∈ rest, E2 c.length d = true) -> dA c ->
 (-288230376151711744 <= y.fee - ao 3 rest /\ y.fee <= 288230376151711744) -> (-288230376151711744 <= y.out - ao 3 rest /\ y.out <= 288230376151711744) -> (0 <= y.rin /\ y.rin + ao 3 rest <= 576460752303423488) ->
 wN m n (p0, pre ++ rest, ((pre ++ rest).length : Int), (pre.length : Int), xa, xb, y, x1, x2, x3, x4, x5, x6, c) = some (Uns.enc xa ++ Uns.enc xb ++ Uns.enc (cO rest y c).1 ++ [.d x1, .d x2, .d x3, .d x4, .d x5, .d x6, .d (cO rest y c).2]) := by
 intro rest
 induction rest with
 | nil =>
  intro pre n y c hn hl hp hg f1 f2 f3; obtain ⟨n, rfl⟩ := al n (by simp at hn; omega); rw [tT]; unfold xM; dsimp only; simp [aE, cO]
 | cons x rest ih =>
  intro pre n y c hn hl hp hg f1 f2 f3; obtain ⟨n, rfl⟩ := al n (by simp at hn; omega); simp only [zac, zad] at hn hl; have hx := rC (hp x (by simp)); have hr := fun d hd => hp d (zaK _ hd)
  have hs := fw 3 rest fun d hd => (rC (hr d hd)).1
  have hT := AQ (hp x (by simp)) hg; have hN : (-288230376151711744 <= (iN y x).fee - ao 3 rest /\ (iN y x).fee <= 288230376151711744) /\ (-288230376151711744 <= (iN y x).out - ao 3 rest /\ (iN y x).out <= 288230376151711744) /\ (0 <= (iN y x).rin /\ (iN y x).rin + ao 3 rest <= 576460752303423488) := by
   simp only [ao] at f1 f2 f3; unfold iN
   by_cases h1 : x.i 1 = 1
   . rw [if_pos h1]; simp only; omega
   rw [if_neg h1]
   by_cases h2 : x.i 1 = 2
   . rw [if_pos h2]; simp only; omega
   rw [if_neg h2]
   by_cases h3 : x.i 1 = 6
   . rw [if_pos h3]; simp only; omega
   rw [if_neg h3]; omega
  have := ih (pre ++ [x]) n (iN y x) (jY c x) (by omega) (by simp; omega) (by rw [vV]; exact hr) hT hN.1 hN.2.1 hN.2.2; simp only [ao] at f1 f2 f3; simp only [cO]; rw [tT]; unfold xM; dsimp only; unfold iN jY at this ⊢
  by_cases h1 : x.i 1 = 1
  . simp only [if_pos h1] at this ⊢; simp (disch := omega) only [TRa, TRi, aa, LNl, LNi, zaa, ax]; simp only [LNl, LNi, zaa] at this ⊢; exact this
  simp only [if_neg h1] at this ⊢
  by_cases h2 : x.i 1 = 2
  . simp only [if_pos h2] at this ⊢; simp (disch := omega) only [TRa, TRi, aa, LNl, LNi, zaa, ax]; simp only [LNl, LNi, zaa] at this ⊢; exact this
  simp only [if_neg h2] at this ⊢
  by_cases h6 : x.i 1 = 6
  . simp only [if_pos h6] at this ⊢; simp only [show decide ((0 : Nat) <= 0) = true from rfl, zbi]; simp (disch := omega) only [TRa, TRi, aa, LNl, LNi, zaa, ax]; simp only [LNl, LNi, zaa] at this ⊢; exact this
  simp only [if_neg h6] at this ⊢; have hj : (x.i 2).toNat < c.length := by omega
  have hd := cj (cn hj hg.2); have hd2 := cn hj hg.2; have hjn : (((x.i 2).toNat : Int)).toNat = (x.i 2).toNat := zaC _
  by_cases h3 : x.i 1 = 3
  . simp only [if_pos h3] at this ⊢; have e : (if (if (ag c (x.i 2).toNat).i 5 < x.i 3 then (ag c (x.i 2).toNat).i 5 else x.i 3) < 0 then 0 else (if (ag c (x.i 2).toNat).i 5 < x.i 3 then (ag c (x.i 2).toNat).i 5 else x.i 3)) = zg (x.i 3) (ag c (x.i 2).toNat) := by unfold zg; omega
    have hv : 0 <= zg (x.i 3) (ag c (x.i 2).toNat) /\ zg (x.i 3) (ag c (x.i 2).toNat) <= (ag c (x.i 2).toNat).i 5 := by unfold zg; omega
    simp (disch := omega) only [lt_eq, dT, aP, bF, gT, fX, LNl, LNi, zaa, ax, e]; rw [aa (n := (ag c (x.i 2).toNat).i 5 - _) (by omega) (by omega), aa (by omega) (by omega)]; unfold mM at this; simp only [LNl, LNi, zaa] at this ⊢; exact this
  . simp only [if_neg h3] at this ⊢; simp (disch := omega) only [lt_eq, dT, aP, bF, gT, fX, LNl, LNi, zaa, ax, hd2, zbb]; rw [aa (by omega) (by omega)]; simp only [LNl, LNi, zaa] at this ⊢; exact this
def f41 : Int × List Dat × aw × az × ak × List Dat × List Dat × List Dat × List Dat × List Dat × List Dat × List Dat -> Bool × List Un := fun (a0, a1, a2, a3, a4, a5, a6, a7, a8, a9, a10, a11) => (decide (0 <= a0) && w5 a1 a4 a11, Uns.enc ((a2) : aw) ++ Uns.enc ((a3) : az) ++ Uns.enc (((cO a1 a4 a11).1) : ak) ++ [.d (a5), .d (a6), .d (a7), .d (a8), .d (a9), .d (a10), .d ((cO a1 a4 a11).2)])
theorem Mm (a0 : Int) (a1 : List Dat) (a2 : aw) (a3 : az) (a4 : ak) (a5 : List Dat) (a6 : List Dat) (a7 : List Dat) (a8 : List Dat) (a9 : List Dat) (a10 : List Dat) (a11 : List Dat) (hc : (decide (0 <= a0) && w5 a1 a4 a11) = true) : ∃ m, t41 m (a0, a1, a2, a3, a4, a5, a6, a7, a8, a9, a10, a11) = some (Uns.enc ((a2) : aw) ++ Uns.enc ((a3) : az) ++ Uns.enc (((cO a1 a4 a11).1) : ak) ++ [.d (a5), .d (a6), .d (a7), .d (a8), .d (a9), .d (a10), .d ((cO a1 a4 a11).2)]) := by
 simp only [w5, zab, zag, zan] at hc; obtain ⟨h0, h1, h2, ⟨h3, h4, h5, h6⟩, h7, h8⟩ := hc; have hs := fw 3 a1 fun d hd => (rC (h2 d hd)).1
 refine ⟨a1.length + 1, ?_⟩; exact L7 _ a0 h0 a2 a3 a5 a6 a7 a8 a9 a10 a1 [] (a1.length + 1) a4 a11 (by omega) (by simpa using h1) h2 ⟨h7, h8⟩ (by omega) (by omega) (by omega)
theorem Io : ER 41 (mkE N41.en N41.ex f41) := an ah T34.right (fun m => [FW (wN m m)]) (t := t41) (by kernel_rfl) (fun m => (aL (Px m m) aA)) (fun m a => by kernel_rfl) fun (a0, a1, a2, a3, a4, a5, a6, a7, a8, a9, a10, a11) hc => Mm a0 a1 a2 a3 a4 a5 a6 a7 a8 a9 a10 a11 hc
def T41 : Tb Tryz.prog LQ TE XX := T34.add 41 _ Io
def tJ (parts aZ has : Int) : Int := max (mdV aZ parts 10000 0 - has) 0
def eI (d : Dat) : Dat := .r [.n (d.i 0), .n (bj d), .n (d.i 5)]
theorem Mj (n b p h : Int) : 0 <= mdV n b p h /\ mdV n b p h <= 1152921504606846976 := by
 unfold mdV
 split
 . rename_i hk; simp only [nQ, zag] at hk; have : 0 <= n * b / p := zbu (za0 hk.1 (by omega)) (by omega); refine ⟨?_, by omega⟩; unfold mdQ
   split <;> omega
 . omega
theorem ym {l : List Dat} (h1 : l.length <= 1000) (h2 : ∀ d ∈ l, cR d = true) : 0 <= ao 1 l /\ ao 1 l <= 1099511627776000 := by
 have := yt 1 1099511627776 l fun d hd => oK (h2 d hd)
 omega
def N39 : aD := ⟨T41.tab, 39, ⟨[.ptr 0 0 0, .agg [.int .i64, .int .i64, .int .i64, .int .i64]], cg 0, 9⟩, ⟨[.agg [.int .i64, .int .i64, .int .i64, .int .i64, .buf 9 3]], cg 0 ++ [.ai (sI 3)], 9⟩, []⟩
abbrev CV : Type := Int × Int × aw × az × ak × List Dat × List Dat × List Dat × List Dat × List Dat × List Dat × List Dat × Int × Int × Int × Int × Int × Int × Int × Int × List Dat × List Dat
def yO (m : Nat) (k : CV -> Option (List Un)) : CV -> Option (List Un) := fun (a0, a1, a2, a3, a4, a5, a6, a7, a8, a9, a10, a11, a12, a13, a14, a15, a16, a17, a18, a19, a20, a21) =>
 bif decide (a1 < a0) then
 chk (inb a1 a11.length) <|
 chk (decide (a1.toNat < a11.length)) <|
 lt (ag a11 a1.toNat : Dat) fun d8 =>
 chk (fits (a21.length + 1) 24) <|
 k (a0, (w64 (a1 + 1)), a2, a3, a4, a5, a6, a7, a8, a9, a10, a11, a12, a13, a14, a15, a16, a17, a18, a19, a20, (a21 ++ ([.r [.n (d8.i 0), .n (w64 (w64 ((d8.i 1) - w64 ((d8.i 3) - (d8.i 4))) - (d8.i 6))), .n (d8.i 5)]])))
 else
 some ([.i a16, .i a17, .i a18, .i a19] ++ Uns.enc (a2 : aw) ++ Uns.enc (a3 : az) ++ Uns.enc (a4 : ak) ++ [.d a5, .d a6, .d a7, .d a8, .d a9, .d a10, .d a11, .d a21])
def ua (m : Nat) : Nat -> CV -> Option (List Un) := br (yO m)
theorem tw (m : Nat) (n : Nat) : ua m (n + 1) = yO m (ua m n) := rfl
def GM (F : CV -> Option (List Un)) : ba := ⟨[.lp [0, 1, 0, 1, 1, 1], .blk 0, .code [1, 1, 1, 1]], ⟨frm 78 [(4, .ptr 9 0 0), (9, .ptr 10 0 0), (57, .buf 8 7), (58, .int .i64), (59, .int .i64)], cg 0 ++ [.cells [.int .i64, .int .i64, .int .i64, .int .i64, .buf 11 3], .cells [.int .i64, .int .i64, .int .i64, .int .i64, .buf 12 3], .ai (sI 3), .ai (sI 3)], 9⟩, onU F⟩
theorem P9 (m : Nat) : ∀ n, HO N39 (GM (ua m n)) := au ah T41.right (fun k => [GM k]) (fun k h => (aL h aA)) fun k a => by kernel_rfl
def t39 (m : Nat) : Int × Int × Int × Int × aw × az × ak × List Dat × List Dat × List Dat × List Dat × List Dat × List Dat × List Dat -> Option (List Un) := fun (a0, a1, a2, a3, a4, a5, a6, a7, a8, a9, a10, a11, a12, a13) =>
 chk (decide (0 <= 0) && (decide (a13.length <= 1000) && a13.all aI)) <|
 lt ((w64 ((w64 (a0 + a3)) + a2)) : Int) fun x1 =>
 chk (decide (0 < ([.r [.r a12]] : List Dat).length) && (decide (((ag ([.r [.r a12]] : List Dat) 0).d 0).length <= 1000) && ((ag ([.r [.r a12]] : List Dat) 0).d 0).all cR)) <|
 lt ((w64 (a6.rin - a6.bk)) : Int) fun x4 =>
 lt ((mdV (ao 1 ((ag ([.r [.r a12]] : List Dat) 0).d 0)) a5.target 10000 0) : Int) fun x5 =>
 ua m m ((a13.length : Int), 0, a4, a5, a6, a7, a8, a9, a10, a11, a12, a13, 0, 0, 0, 0, a6.fee, a6.out, (if (bw bj a13) < x1 then (bw bj a13) else x1), (if (w64 (x5 - x4)) < 0 then 0 else (w64 (x5 - x4))), [], [])
theorem Pd (m : Nat) (xa : aw) (xb : az) (xn : ak) (x1 x2 x3 x4 x5 x6 z0 : List Dat) (z1 z2 z3 z4 w1 w2 w3 w4 : Int) : ∀ (rest pre : List Dat) (n : Nat), rest.length < n -> (pre ++ rest).length <= 1000 -> (∀ d ∈ rest, aI d = true) ->
 ua m n (((pre ++ rest).length : Int), (pre.length : Int), xa, xb, xn, x1, x2, x3, x4, x5, x6, pre ++ rest, z1, z2, z3, z4, w1, w2, w3, w4, z0, pre.map eI) =
  some ([.i w1, .i w2, .i w3, .i w4] ++ Uns.enc xa ++ Uns.enc xb ++ Uns.enc xn ++ [.d x1, .d x2, .d x3, .d x4, .d x5, .d x6, .d (pre ++ rest), .d ((pre ++ rest).map eI)]) := by
 intro rest
 induction rest with
 | nil =>
  intro pre n hn hl hg; obtain ⟨n, rfl⟩ := al n (by simp at hn; omega); rw [tw]; unfold yO; dsimp only; simp [aE]
 | cons x rest ih =>
  intro pre n hn hl hg; obtain ⟨n, rfl⟩ := al n (by simp at hn; omega); simp only [zac, zad] at hn hl; have e := Jz (hg x (by simp)); have := ih (pre ++ [x]) n (by omega) (by simp; omega) (fun d hd => hg d (by simp [hd])); rw [List.map_append, show [x].map eI = [.r [.n (x.i 0), .n (bj x), .n (x.i 5)]] from rfl] at this; rw [tw]; unfold yO; dsimp only; simp only [LNi, ax, lt_eq, e]; simp (disch := omega) only [TRa, TRi, aa, LNl, LNi, zaa, ax]; simp only [LNl, LNi, zaa] at this ⊢; exact this
def f39 : Int × Int × Int × Int × aw × az × ak × List Dat × List Dat × List Dat × List Dat × List Dat × List Dat × List Dat -> Bool × List Un := fun (a0, a1, a2, a3, a4, a5, a6, a7, a8, a9, a10, a11, a12, a13) => (decide (((0 <= a0 /\ a0 <= 1125899906842624) /\ (0 <= a2 /\ a2 <= 1125899906842624) /\ (0 <= a3 /\ a3 <= 1125899906842624)) /\ (0 <= a6.bk /\ a6.bk <= a6.rin /\ a6.rin <= 1152921504606846976)) && ((decide (a12.length <= 1000) && a12.all cR) && (decide (a13.length <= 1000) && a13.all aI)), [.i (a6.fee), .i (a6.out), .i (min (a0 + a3 + a2) (bw bj a13)), .i (tJ a5.target (ao 1 a12) (a6.rin - a6.bk))] ++ Uns.enc ((a4) : aw) ++ Uns.enc ((a5) : az) ++ Uns.enc ((a6) : ak) ++ [.d (a7), .d (a8), .d (a9), .d (a10), .d (a11), .d (a12), .d (a13), .d (a13.map eI)])
theorem MP (a0 : Int) (a1 : Int) (a2 : Int) (a3 : Int) (a4 : aw) (a5 : az) (a6 : ak) (a7 : List Dat) (a8 : List Dat) (a9 : List Dat) (a10 : List Dat) (a11 : List Dat) (a12 : List Dat) (a13 : List Dat) (hc : (decide (((0 <= a0 /\ a0 <= 1125899906842624) /\ (0 <= a2 /\ a2 <= 1125899906842624) /\ (0 <= a3 /\ a3 <= 1125899906842624)) /\ (0 <= a6.bk /\ a6.bk <= a6.rin /\ a6.rin <= 1152921504606846976)) && ((decide (a12.length <= 1000) && a12.all cR) && (decide (a13.length <= 1000) && a13.all aI))) = true) : ∃ m, t39 m (a0, a1, a2, a3, a4, a5, a6, a7, a8, a9, a10, a11, a12, a13) = some ([.i (a6.fee), .i (a6.out), .i (min (a0 + a3 + a2) (bw bj a13)), .i (tJ a5.target (ao 1 a12) (a6.rin - a6.bk))] ++ Uns.enc ((a4) : aw) ++ Uns.enc ((a5) : az) ++ Uns.enc ((a6) : ak) ++ [.d (a7), .d (a8), .d (a9), .d (a10), .d (a11), .d (a12), .d (a13), .d (a13.map eI)]) := by
 simp only [zab, zag, zan] at hc; obtain ⟨⟨⟨h1, h2, h3⟩, h4, h5, h6⟩, ⟨h7, h8⟩, h9, h10⟩ := hc; have hg : dA a13 := ⟨h9, h10⟩
 have hb := ym h7 h8; have hs := (gQ a13 h10).1; have hm := Mj (ao 1 a12) a5.target 10000 0; have hlb : (decide (a12.length <= 1000) && a12.all cR) = true := by rw [zab, zan]; exact ⟨zai h7, h8⟩
 refine ⟨a13.length + 1, ?_⟩; unfold t39 tJ; dsimp only [lt]; refine bo (by rw [eE hg]; rfl) ?_
 refine bo (zaq.2 ⟨rfl, hlb⟩) ?_
 change ua _ _ (_, _, _, _, _, _, _, _, _, _, _, _, _, _, _, _, _, _, (if bw bj a13 < w64 (w64 (a0 + a3) + a2) then bw bj a13 else w64 (w64 (a0 + a3) + a2)), (if w64 (mdV (ao 1 a12) a5.target 10000 0 - w64 (a6.rin - a6.bk)) < 0 then 0 else w64 (mdV (ao 1 a12) a5.target 10000 0 - w64 (a6.rin - a6.bk))), _, _) = _; rw [aa (n := a0 + a3) (by omega) (by omega), aa (n := a0 + a3 + a2) (by omega) (by omega), aa (n := a6.rin - a6.bk) (by omega) (by omega), aa (n := mdV _ _ _ _ - _) (by omega) (by omega)]; rw [show (if bw bj a13 < a0 + a3 + a2 then bw bj a13 else a0 + a3 + a2) = min (a0 + a3 + a2) (bw bj a13) by omega, show ∀ z : Int, (if z < 0 then 0 else z) = max z 0 from fun z => by omega]; exact Pd _ a4 a5 a6 a7 a8 a9 a10 a11 a12 _ _ _ _ _ _ _ _ _ a13 [] (a13.length + 1) (by omega) (by simpa using h9) h10
theorem IY : ER 39 (mkE N39.en N39.ex f39) := an ah T41.right (fun m => [GM (ua m m)]) (t := t39) (by kernel_rfl) (fun m => (aL (P9 m m) aA)) (fun m a => by kernel_rfl) fun (a0, a1, a2, a3, a4, a5, a6, a7, a8, a9, a10, a11, a12, a13) hc => MP a0 a1 a2 a3 a4 a5 a6 a7 a8 a9 a10 a11 a12 a13 hc
def T39 : Tb Tryz.prog LQ TE XX := T41.add 39 _ IY
theorem tE : ∀ (k : Nat) (n : Int), b9 n k ++ [n + k] = b9 n (k + 1)
 | 0, n => by simp [b9]
 | k + 1, n => by
  have := tE k (n + 1); simp only [b9, zaY, zay, zaa] at this ⊢; rw [<- this, show n + 1 + (k : Int) = n + ((k : Int) + 1) by omega]
theorem tI (u p l r : Int) : 0 <= cH u p l r /\ cH u p l r <= max u 0 /\ cH u p l r <= max (u - p) 0 /\ cH u p l r <= max (l - r) 0 := by unfold cH; omega
def N42 : aD := ⟨T39.tab, 42, ⟨[.ptr 0 0 0, .agg [.int .i64, .int .i64, .int .i64, .int .i64]], cg 0, 0⟩, ⟨[], cg 0, 0⟩, []⟩
abbrev Ds : Type := Int × Int × Int × aw × az × ak × List Dat × List Dat × List Dat × List Dat × List Dat × List Dat × List Dat × List Int
def xq (m : Nat) (k : Ds -> Option (List Un)) : Ds -> Option (List Un) := fun (a0, a1, a2, a3, a4, a5, a6, a7, a8, a9, a10, a11, a12, a13) =>
 bif decide (a2 < a1) then
 chk (inb a2 a12.length) <|
 chk (fits (a13.length + ([(a2.toNat : Int)]).length) 8) <|
 k (a0, a1, (w64 (a2 + 1)), a3, a4, a5, a6, a7, a8, a9, a10, a11, a12, (a13 ++ ([(a2.toNat : Int)])))
 else
 chk (decide (0 < ([.r [.r a11]] : List Dat).length) && (decide (((ag ([.r [.r a11]] : List Dat) 0).d 0).length <= 1000) && ((ag ([.r [.r a11]] : List Dat) 0).d 0).all cR)) <|
 lt ((ao 1 ((ag ([.r [.r a11]] : List Dat) 0).d 0)) : Int) fun x1 =>
 chk (decide ((-1152921504606846976 <= a0 /\ a0 <= 1152921504606846976) /\ (-1152921504606846976 <= x1 /\ x1 <= 1152921504606846976) /\ (-1152921504606846976 <= a5.aC /\ a5.aC <= 1152921504606846976) /\ (-1152921504606846976 <= a5.aK /\ a5.aK <= 1152921504606846976))) <|
 chk (decide ((cH a0 x1 a5.aC a5.aK) <= 1152921504606846976) && ((decide (a13 = b9 0 a12.length)) && (decide (a12.length <= 1000) && a12.all aI))) <|
 some (Uns.enc (a3 : aw) ++ Uns.enc (a4 : az) ++ Uns.enc (a5 : ak) ++ [.d a6, .d a7, .d a8, .d a9, .d a10, .d a11, .d (fp (cH a0 x1 a5.aC a5.aK) a12)])
def vP (m : Nat) : Nat -> Ds -> Option (List Un) := br (xq m)
theorem sF (m : Nat) (n : Nat) : vP m (n + 1) = xq m (vP m n) := rfl
def HU (F : Ds -> Option (List Un)) : ba := ⟨[.lp [0, 1, 0, 1, 1, 1, 1, 1], .blk 0, .code [1, 1, 1, 1, 1, 1]], ⟨frm 70 [(0, .ptr 0 0 0), (7, .int .i64), (8, .buf 9 1), (39, .int .i64), (40, .int .i64)], cg 0 ++ [.dy 8 7 0], 0⟩, onU F⟩
theorem PJ (m : Nat) : ∀ n, HO N42 (HU (vP m n)) := au ah T39.right (fun k => [HU k]) (fun k h => (aL h aA)) fun k a => by kernel_rfl
def t42 (m : Nat) : Int × Int × Int × Int × aw × az × ak × List Dat × List Dat × List Dat × List Dat × List Dat × List Dat × List Dat -> Option (List Un) := fun (a0, a1, a2, a3, a4, a5, a6, a7, a8, a9, a10, a11, a12, a13) =>
 chk (decide (0 <= 0) && (decide (a13.length <= 1000) && a13.all aI)) <|
 vP m m ((bw unD a13), (a13.length : Int), 0, a4, a5, ({ a6 with aC := (w64 (a6.aC + a2)), aK := (w64 (a6.aK + a3)) } : ak), a7, a8, a9, a10, a11, a12, a13, [])
theorem O5 (m : Nat) (u : Int) (xa : aw) (xb : az) (y : ak) (x1 x2 x3 x4 x5 x6 x7 : List Dat) (hu : 0 <= u /\ u <= 1099511627776000) (h1 : 0 <= y.aC /\ y.aC <= 1152921504606846976) (h2 : 0 <= y.aK /\ y.aK <= 1152921504606846976) (h3 : (decide (x6.length <= 1000) && x6.all cR) = true) (hb : 0 <= ao 1 x6 /\ ao 1 x6 <= 1099511627776000) (hg : dA x7) : ∀ (k i n : Nat), i + k = x7.length -> k < n ->
 vP m n (u, (x7.length : Int), (i : Int), xa, xb, y, x1, x2, x3, x4, x5, x6, x7, b9 0 i) = some (Uns.enc xa ++ Uns.enc xb ++ Uns.enc y ++ [.d x1, .d x2, .d x3, .d x4, .d x5, .d x6, .d (fp (cH u (ao 1 x6) y.aC y.aK) x7)]) := by
 intro k
 induction k with
 | zero =>
  intro i n hi hn; obtain ⟨n, rfl⟩ := al n (by omega); have ht := tI u (ao 1 x6) y.aC y.aK; have hgb := eE hg; obtain rfl : i = x7.length := by omega
  rw [sF]; unfold xq; dsimp only; rw [aE (by omega)]; dsimp only [lt]; refine bo (zaq.2 ⟨rfl, h3⟩) ?_
  change chk (decide ((-1152921504606846976 <= u /\ u <= 1152921504606846976) /\ (-1152921504606846976 <= ao 1 x6 /\ ao 1 x6 <= 1152921504606846976) /\ (-1152921504606846976 <= y.aC /\ y.aC <= 1152921504606846976) /\ (-1152921504606846976 <= y.aK /\ y.aK <= 1152921504606846976))) (chk (decide (cH u (ao 1 x6) y.aC y.aK <= 1152921504606846976) && (decide (b9 0 x7.length = b9 0 x7.length) && (decide (x7.length <= 1000) && x7.all aI))) _) = _; rw [aP (by omega)]; exact bo (by rw [zab, zab]; exact ⟨@zai _ _ (by omega), @zai _ _ rfl, hgb⟩) rfl
 | succ k ih =>
  intro i n hi hn; obtain ⟨n, rfl⟩ := al n (by omega); have hg1 := hg.1; have hL := fF i 0; have := ih (i + 1) n (by omega) (by omega); rw [<- tE i 0] at this; rw [sF]; unfold xq; dsimp only; simp (disch := omega) only [TRa, TRi, aa, LNl, LNi, zaa, hL]; simp only [LNl, LNi, zaa] at this ⊢; exact this
def f42 : Int × Int × Int × Int × aw × az × ak × List Dat × List Dat × List Dat × List Dat × List Dat × List Dat × List Dat -> Bool × List Un := fun (a0, a1, a2, a3, a4, a5, a6, a7, a8, a9, a10, a11, a12, a13) => (decide (((0 <= a0 /\ a0 <= 1125899906842624) /\ (0 <= a2 /\ a2 <= 1125899906842624) /\ (0 <= a3 /\ a3 <= 1125899906842624)) /\ (0 <= a6.aC /\ a6.aC <= 1125899906842624) /\ (0 <= a6.aK /\ a6.aK <= 1125899906842624)) && ((decide (a12.length <= 1000) && a12.all cR) && (decide (a13.length <= 1000) && a13.all aI)), Uns.enc ((a4) : aw) ++ Uns.enc ((a5) : az) ++ Uns.enc (({ a6 with aC := a6.aC + a2, aK := a6.aK + a3 }) : ak) ++ [.d (a7), .d (a8), .d (a9), .d (a10), .d (a11), .d (a12), .d (fp (cH (bw unD a13) (ao 1 a12) (a6.aC + a2) (a6.aK + a3)) a13)])
theorem LC (a0 : Int) (a1 : Int) (a2 : Int) (a3 : Int) (a4 : aw) (a5 : az) (a6 : ak) (a7 : List Dat) (a8 : List Dat) (a9 : List Dat) (a10 : List Dat) (a11 : List Dat) (a12 : List Dat) (a13 : List Dat) (hc : (decide (((0 <= a0 /\ a0 <= 1125899906842624) /\ (0 <= a2 /\ a2 <= 1125899906842624) /\ (0 <= a3 /\ a3 <= 1125899906842624)) /\ (0 <= a6.aC /\ a6.aC <= 1125899906842624) /\ (0 <= a6.aK /\ a6.aK <= 1125899906842624)) && ((decide (a12.length <= 1000) && a12.all cR) && (decide (a13.length <= 1000) && a13.all aI))) = true) : ∃ m, t42 m (a0, a1, a2, a3, a4, a5, a6, a7, a8, a9, a10, a11, a12, a13) = some (Uns.enc ((a4) : aw) ++ Uns.enc ((a5) : az) ++ Uns.enc (({ a6 with aC := a6.aC + a2, aK := a6.aK + a3 }) : ak) ++ [.d (a7), .d (a8), .d (a9), .d (a10), .d (a11), .d (a12), .d (fp (cH (bw unD a13) (ao 1 a12) (a6.aC + a2) (a6.aK + a3)) a13)]) := by
 simp only [zab, zag, zan] at hc; obtain ⟨⟨⟨h1, h2, h3⟩, h4, h5⟩, ⟨h7, h8⟩, h9, h10⟩ := hc; have hg : dA a13 := ⟨h9, h10⟩
 have hb := ym h7 h8; have hs := (gQ a13 h10).2.2.2.1; refine ⟨a13.length + 1, ?_⟩; unfold t42; dsimp only; refine bo (by rw [eE hg]; rfl) ?_
 rw [aa (n := a6.aC + a2) (by omega) (by omega), aa (n := a6.aK + a3) (by omega) (by omega)]; exact O5 _ _ a4 a5 { a6 with aC := a6.aC + a2, aK := a6.aK + a3 } a7 a8 a9 a10 a11 a12 a13 (by omega) (by simp only; omega) (by simp only; omega) (by rw [zab, zan]; exact ⟨zai h7, h8⟩) hb hg a13.length 0 (a13.length + 1) (by omega) (by omega)
theorem I3 : ER 42 (mkE N42.en N42.ex f42) := an ah T39.right (fun m => [HU (vP m m)]) (t := t42) (by kernel_rfl) (fun m => (aL (PJ m m) aA)) (fun m a => by kernel_rfl) fun (a0, a1, a2, a3, a4, a5, a6, a7, a8, a9, a10, a11, a12, a13) hc => LC a0 a1 a2 a3 a4 a5 a6 a7 a8 a9 a10 a11 a12 a13 hc
def T42 : Tb Tryz.prog LQ TE XX := T39.add 42 _ I3
def BC (d : Dat) : Dat := .r [.n (bj d), .n (d.i 5), .n (d.i 6)]
def N46 : aD := ⟨T42.tab, 46, ⟨[.agg [.bool, .int .i64, .int .i64, .int .i64, .int .i64, .int .i64, .int .i64, .int .i64, .int .i64, .int .i64, .int .i64, .buf 9 4, .int .i64, .int .i64, .int .i64, .int .i64, .int .i64, .dr, .int .i64], .np 0 0 0], cg 0 ++ [.ai (sI 4)], 10⟩, ⟨[.agg [.bool, .int .i64, .int .i64, .int .i64, .int .i64, .int .i64, .int .i64, .int .i64, .int .i64, .int .i64, .int .i64, .buf 9 4, .int .i64, .int .i64, .int .i64, .int .i64, .int .i64, .buf 10 3, .int .i64]], cg 0 ++ [.ai (sI 4), .ai (sI 3)], 10⟩, []⟩
abbrev CZ : Type := Int × Int × aw × az × ak × List Dat × List Dat × List Dat × List Dat × List Dat × List Dat × List Dat × List Dat × aO × aM × Int × aO × aM × Int × List Dat × List Dat × List Dat
def yY (m : Nat) (k : CZ -> Option (List Un)) : CZ -> Option (List Un) := fun (a0, a1, a2, a3, a4, a5, a6, a7, a8, a9, a10, a11, a12, a13, a14, a15, a16, a17, a18, a19, a20, a21) =>
 bif decide (a1 < a0) then
 chk (inb a1 a11.length) <|
 chk (decide (a1.toNat < a11.length)) <|
 lt (ag a11 a1.toNat : Dat) fun d3 =>
 chk (fits (a19.length + 1) 24) <|
 k (a0, (w64 (a1 + 1)), a2, a3, a4, a5, a6, a7, a8, a9, a10, a11, a12, a13, a14, a15, a16, a17, a18, (a19 ++ ([.r [.n (w64 (w64 ((d3.i 1) - w64 ((d3.i 3) - (d3.i 4))) - (d3.i 6))), .n (d3.i 5), .n (d3.i 6)]])), a20, a21)
 else
 some (Uns.enc (a13 : aO) ++ Uns.enc (a14 : aM) ++ [.i a15] ++ Uns.enc (a2 : aw) ++ Uns.enc (a3 : az) ++ Uns.enc (a4 : ak) ++ [.d a5, .d a6, .d a7, .d a8, .d a9, .d a10, .d a11, .d a12, .d a19])
def wy (m : Nat) : Nat -> CZ -> Option (List Un) := br (yY m)
theorem tY (m : Nat) (n : Nat) : wy m (n + 1) = yY m (wy m n) := rfl
def Gv (F : CZ -> Option (List Un)) : ba := ⟨[.lp [0, 1, 0, 1, 1], .blk 0, .code [1, 1, 1]], ⟨frm 58 [(2, .ptr 10 0 0), (4, .ptr 11 0 0), (38, .buf 8 7), (39, .int .i64), (40, .int .i64)], cg 0 ++ [.ai (sI 4), .cells [.bool, .int .i64, .int .i64, .int .i64, .int .i64, .int .i64, .int .i64, .int .i64, .int .i64, .int .i64, .int .i64, .buf 9 4, .int .i64, .int .i64, .int .i64, .int .i64, .int .i64, .buf 12 3, .int .i64], .cells [.bool, .int .i64, .int .i64, .int .i64, .int .i64, .int .i64, .int .i64, .int .i64, .int .i64, .int .i64, .int .i64, .buf 13 4, .int .i64, .int .i64, .int .i64, .int .i64, .int .i64, .buf 14 3, .int .i64], .ai (sI 3), .ai (sI 4), .ai (sI 3)], 10⟩, onU F⟩
theorem OS (m : Nat) : ∀ n, HO N46 (Gv (wy m n)) := au ah T42.right (fun k => [Gv k]) (fun k h => (aL h aA)) fun k a => by kernel_rfl
def t46 (m : Nat) : aO × aM × Int × Int × aw × az × ak × List Dat × List Dat × List Dat × List Dat × List Dat × List Dat × List Dat × List Dat -> Option (List Un) := fun (a0, a1, a2, a3, a4, a5, a6, a7, a8, a9, a10, a11, a12, a13, a14) =>
 chk (decide (0 <= a3)) <|
 chk (decide (0 < ([.r [.r a12]] : List Dat).length) && (decide (((ag ([.r [.r a12]] : List Dat) 0).d 0).length <= 1000) && ((ag ([.r [.r a12]] : List Dat) 0).d 0).all cR)) <|
 chk (decide (0 <= a3)) <|
 chk (decide (0 <= a3)) <|
 chk (decide (0 <= a3)) <|
 chk (decide (0 <= a3)) <|
 chk (decide (0 <= a3)) <|
 wy m m ((a13.length : Int), 0, a4, a5, a6, a7, a8, a9, a10, a11, a12, a13, a14, a0, (⟨a1.bx, (ao 1 ((ag ([.r [.r a12]] : List Dat) 0).d 0)), (w64 (a6.rin - a6.bk)), a6.out, a6.fee⟩ : aM), a6.mode, (⟨false, 0, 0, 0, 0, 0, 0, 0, 0, 0, 0⟩ : aO), (⟨0, 0, 0, 0, 0⟩ : aM), 0, [], [], [])
theorem Ie (m : Nat) (xa : aw) (xb : az) (xn : ak) (x1 x2 x3 x4 x5 x6 py : List Dat) (ra za : aO) (rb zb : aM) (nx zx : Int) (z1 z2 : List Dat) : ∀ (rest pre : List Dat) (n : Nat), rest.length < n -> (pre ++ rest).length <= 1000 -> (∀ d ∈ rest, aI d = true) ->
 wy m n (((pre ++ rest).length : Int), (pre.length : Int), xa, xb, xn, x1, x2, x3, x4, x5, x6, pre ++ rest, py, ra, rb, nx, za, zb, zx, pre.map BC, z1, z2) =
  some (Uns.enc ra ++ Uns.enc rb ++ [.i nx] ++ Uns.enc xa ++ Uns.enc xb ++ Uns.enc xn ++ [.d x1, .d x2, .d x3, .d x4, .d x5, .d x6, .d (pre ++ rest), .d py, .d ((pre ++ rest).map BC)]) := by
 intro rest
 induction rest with
 | nil =>
  intro pre n hn hl hg; obtain ⟨n, rfl⟩ := al n (by simp at hn; omega); rw [tY]; unfold yY; dsimp only; simp [aE]
 | cons x rest ih =>
  intro pre n hn hl hg; obtain ⟨n, rfl⟩ := al n (by simp at hn; omega); simp only [zac, zad] at hn hl; have e := Jz (hg x (by simp)); have := ih (pre ++ [x]) n (by omega) (by simp; omega) (fun d hd => hg d (by simp [hd])); rw [List.map_append, show [x].map BC = [.r [.n (bj x), .n (x.i 5), .n (x.i 6)]] from rfl] at this; rw [tY]; unfold yY; dsimp only; simp only [LNi, ax, lt_eq, e]; simp (disch := omega) only [TRa, TRi, aa, LNl, LNi, zaa, ax]; simp only [LNl, LNi, zaa] at this ⊢; exact this
def f46 : aO × aM × Int × Int × aw × az × ak × List Dat × List Dat × List Dat × List Dat × List Dat × List Dat × List Dat × List Dat -> Bool × List Un := fun (a0, a1, a2, a3, a4, a5, a6, a7, a8, a9, a10, a11, a12, a13, a14) => (decide (0 <= a3) && (decide (0 <= a6.bk /\ a6.bk <= a6.rin /\ a6.rin <= 1152921504606846976) && ((decide (a12.length <= 1000) && a12.all cR) && (decide (a13.length <= 1000) && a13.all aI))), Uns.enc ((a0) : aO) ++ Uns.enc (((⟨a1.bx, ao 1 a12, a6.rin - a6.bk, a6.out, a6.fee⟩ : aM)) : aM) ++ [.i (a6.mode)] ++ Uns.enc ((a4) : aw) ++ Uns.enc ((a5) : az) ++ Uns.enc ((a6) : ak) ++ [.d (a7), .d (a8), .d (a9), .d (a10), .d (a11), .d (a12), .d (a13), .d (a14), .d (a13.map BC)])
theorem M5 (a0 : aO) (a1 : aM) (a2 : Int) (a3 : Int) (a4 : aw) (a5 : az) (a6 : ak) (a7 : List Dat) (a8 : List Dat) (a9 : List Dat) (a10 : List Dat) (a11 : List Dat) (a12 : List Dat) (a13 : List Dat) (a14 : List Dat) (hc : (decide (0 <= a3) && (decide (0 <= a6.bk /\ a6.bk <= a6.rin /\ a6.rin <= 1152921504606846976) && ((decide (a12.length <= 1000) && a12.all cR) && (decide (a13.length <= 1000) && a13.all aI)))) = true) : ∃ m, t46 m (a0, a1, a2, a3, a4, a5, a6, a7, a8, a9, a10, a11, a12, a13, a14) = some (Uns.enc ((a0) : aO) ++ Uns.enc (((⟨a1.bx, ao 1 a12, a6.rin - a6.bk, a6.out, a6.fee⟩ : aM)) : aM) ++ [.i (a6.mode)] ++ Uns.enc ((a4) : aw) ++ Uns.enc ((a5) : az) ++ Uns.enc ((a6) : ak) ++ [.d (a7), .d (a8), .d (a9), .d (a10), .d (a11), .d (a12), .d (a13), .d (a14), .d (a13.map BC)]) := by
 simp only [zab, zag, zan] at hc; obtain ⟨h0, ⟨h4, h5, h6⟩, ⟨h7, h8⟩, h9, h10⟩ := hc; have hb := ym h7 h8; have hlb : (decide (a12.length <= 1000) && a12.all cR) = true := by rw [zab, zan]; exact ⟨zai h7, h8⟩
 refine ⟨a13.length + 1, ?_⟩; unfold t46; dsimp only [lt]; simp only [aP h0]; refine bo (zaq.2 ⟨rfl, hlb⟩) ?_
 rw [aa (n := a6.rin - a6.bk) (by omega) (by omega)]; exact Ie _ a4 a5 a6 a7 a8 a9 a10 a11 a12 a14 a0 _ _ _ _ _ _ _ a13 [] (a13.length + 1) (by omega) (by simpa using h9) h10
theorem KO : ER 46 (mkE N46.en N46.ex f46) := an ah T42.right (fun m => [Gv (wy m m)]) (t := t46) (by kernel_rfl) (fun m => (aL (OS m m) aA)) (fun m a => by kernel_rfl) fun (a0, a1, a2, a3, a4, a5, a6, a7, a8, a9, a10, a11, a12, a13, a14) hc => M5 a0 a1 a2 a3 a4 a5 a6 a7 a8 a9 a10 a11 a12 a13 a14 hc
def T46 : Tb Tryz.prog LQ TE XX := T42.add 46 _ KO
def Ij (a b p : Int) : Bool := decide (0 <= a /\ a <= 1099511627776 /\ 0 <= b /\ b <= 1099511627776 /\ 0 <= p /\ p <= 100000)
def bQ (a b p : Int) : Bool := Ij a b p && decide (b * p <= a * 10000)
def cC (a b p : Int) : Bool := Ij a b p && decide (a * 10000 <= b * p)
def N87 : aD := ⟨T46.tab, 87, ⟨[.int .i64, .int .i64, .int .i64], [], 0⟩, ⟨[.bool], [], 0⟩, []⟩
def t87 (m : Nat) : Int × Int × Int -> Option (List Un) := fun (a0, a1, a2) =>
 bif decide (a0 >= 0) then
 bif (decide (a0 <= 1099511627776)) then
 bif decide (a1 >= 0) then
 bif (decide (a1 <= 1099511627776)) then
 bif decide (a2 >= 0) then
 bif decide (a2 <= 100000) then
 some ([.b (decide ((w64 (a0 * 10000)) >= (w64 (a1 * a2))))])
 else
 some ([.b false])
 else
 some ([.b false])
 else
 some ([.b false])
 else
 some ([.b false])
 else
 some ([.b false])
 else
 some ([.b false])
def f87 : Int × Int × Int -> Bool × List Un := fun (a0, a1, a2) => (true, [.b (bQ a0 a1 a2)])
theorem MT (a0 : Int) (a1 : Int) (a2 : Int) : ∃ m, t87 m (a0, a1, a2) = some ([.b (bQ a0 a1 a2)]) := by
 unfold t87 bQ Ij; dsimp only [ge_iff_le]
 by_cases h : 0 <= a0 /\ a0 <= 1099511627776 /\ 0 <= a1 /\ a1 <= 1099511627776 /\ 0 <= a2 /\ a2 <= 100000
 . obtain ⟨h1, h2, h3, h4, h5, h6⟩ := h; have hm := Int.mul_le_mul h4 h6 h5 (show (0 : Int) <= 1099511627776 by omega); have hm0 := za0 h3 h5; refine ⟨0, ?_⟩; rw [zai (show 0 <= a0 /\ a0 <= 1099511627776 /\ 0 <= a1 /\ a1 <= 1099511627776 /\ 0 <= a2 /\ a2 <= 100000 from ⟨h1, h2, h3, h4, h5, h6⟩)]; simp (disch := omega) only [TRa, aa, zbi]
 . refine ⟨0, ?_⟩; rw [zaQ h]
   by_cases h1 : 0 <= a0
   . by_cases h2 : a0 <= 1099511627776
     . by_cases h3 : 0 <= a1
       . by_cases h4 : a1 <= 1099511627776
         . by_cases h5 : 0 <= a2
           . simp [h1, h2, h3, h4, h5, show ¬ a2 <= 100000 by omega]
           . simp [h1, h2, h3, h4, h5]
         . simp [h1, h2, h3, h4]
       . simp [h1, h2, h3]
     . simp [h1, h2]
   . simp [h1]
theorem Ih : ER 87 (mkE N87.en N87.ex f87) := an ah T46.right (fun m => []) (t := t87) (by kernel_rfl) (fun m => aA) (fun m a => by kernel_rfl) fun (a0, a1, a2) hc => MT a0 a1 a2
def T87 : Tb Tryz.prog LQ TE XX := T46.add 87 _ Ih
def N88 : aD := ⟨T87.tab, 88, ⟨[.int .i64, .int .i64, .int .i64], [], 0⟩, ⟨[.bool], [], 0⟩, []⟩
def t88 (m : Nat) : Int × Int × Int -> Option (List Un) := fun (a0, a1, a2) =>
 bif decide (a0 >= 0) then
 bif (decide (a0 <= 1099511627776)) then
 bif decide (a1 >= 0) then
 bif (decide (a1 <= 1099511627776)) then
 bif decide (a2 >= 0) then
 bif decide (a2 <= 100000) then
 some ([.b (decide ((w64 (a0 * 10000)) <= (w64 (a1 * a2))))])
 else
 some ([.b false])
 else
 some ([.b false])
 else
 some ([.b false])
 else
 some ([.b false])
 else
 some ([.b false])
 else
 some ([.b false])
def f88 : Int × Int × Int -> Bool × List Un := fun (a0, a1, a2) => (true, [.b (cC a0 a1 a2)])
theorem ME (a0 : Int) (a1 : Int) (a2 : Int) : ∃ m, t88 m (a0, a1, a2) = some ([.b (cC a0 a1 a2)]) := by
 unfold t88 cC Ij; dsimp only [ge_iff_le]
 by_cases h : 0 <= a0 /\ a0 <= 1099511627776 /\ 0 <= a1 /\ a1 <= 1099511627776 /\ 0 <= a2 /\ a2 <= 100000
 . obtain ⟨h1, h2, h3, h4, h5, h6⟩ := h; have hm := Int.mul_le_mul h4 h6 h5 (show (0 : Int) <= 1099511627776 by omega); have hm0 := za0 h3 h5; refine ⟨0, ?_⟩; rw [zai (show 0 <= a0 /\ a0 <= 1099511627776 /\ 0 <= a1 /\ a1 <= 1099511627776 /\ 0 <= a2 /\ a2 <= 100000 from ⟨h1, h2, h3, h4, h5, h6⟩)]; simp (disch := omega) only [TRa, aa, zbi]
 . refine ⟨0, ?_⟩; rw [zaQ h]
   by_cases h1 : 0 <= a0
   . by_cases h2 : a0 <= 1099511627776
     . by_cases h3 : 0 <= a1
       . by_cases h4 : a1 <= 1099511627776
         . by_cases h5 : 0 <= a2
           . simp [h1, h2, h3, h4, h5, show ¬ a2 <= 100000 by omega]
           . simp [h1, h2, h3, h4, h5]
         . simp [h1, h2, h3, h4]
       . simp [h1, h2, h3]
     . simp [h1, h2]
   . simp [h1]
theorem J4 : ER 88 (mkE N88.en N88.ex f88) := an ah T87.right (fun m => []) (t := t88) (by kernel_rfl) (fun m => aA) (fun m a => by kernel_rfl) fun (a0, a1, a2) hc => ME a0 a1 a2
def T88 : Tb Tryz.prog LQ TE XX := T87.add 88 _ J4
def N44 : aD := ⟨T88.tab, 44, ⟨[.agg [.int .i64, .int .i64, .int .i64, .int .i64, .int .i64], .agg [.int .i64, .int .i64, .int .i64, .int .i64, .int .i64, .int .i64, .int .i64]], [], 0⟩, ⟨[.agg [.bool, .bool, .bool, .bool]], [], 0⟩, []⟩
def t44 (m : Nat) : Int × Int × Int × Int × Int × Int × Int × Int × Int × Int × Int × Int -> Option (List Un) := fun (a0, a1, a2, a3, a4, a5, a6, a7, a8, a9, a10, a11) =>
 bif a0 == 0 then
 bif a1 == 0 then
 bif a2 == 0 then
 bif a3 == 0 then
 some ([.b true, .b true, .b true, .b true])
 else
 some ([.b true, .b true, .b true, .b (cC a11 a6 a3)])
 else
 bif a3 == 0 then
 some ([.b true, .b true, .b (cC a10 a5 a2), .b true])
 else
 some ([.b true, .b true, .b (cC a10 a5 a2), .b (cC a11 a6 a3)])
 else
 bif a2 == 0 then
 bif a3 == 0 then
 some ([.b true, .b (bQ a8 a9 a1), .b true, .b true])
 else
 some ([.b true, .b (bQ a8 a9 a1), .b true, .b (cC a11 a6 a3)])
 else
 bif a3 == 0 then
 some ([.b true, .b (bQ a8 a9 a1), .b (cC a10 a5 a2), .b true])
 else
 some ([.b true, .b (bQ a8 a9 a1), .b (cC a10 a5 a2), .b (cC a11 a6 a3)])
 else
 bif a1 == 0 then
 bif a2 == 0 then
 bif a3 == 0 then
 some ([.b (bQ a5 a7 a0), .b true, .b true, .b true])
 else
 some ([.b (bQ a5 a7 a0), .b true, .b true, .b (cC a11 a6 a3)])
 else
 bif a3 == 0 then
 some ([.b (bQ a5 a7 a0), .b true, .b (cC a10 a5 a2), .b true])
 else
 some ([.b (bQ a5 a7 a0), .b true, .b (cC a10 a5 a2), .b (cC a11 a6 a3)])
 else
 bif a2 == 0 then
 bif a3 == 0 then
 some ([.b (bQ a5 a7 a0), .b (bQ a8 a9 a1), .b true, .b true])
 else
 some ([.b (bQ a5 a7 a0), .b (bQ a8 a9 a1), .b true, .b (cC a11 a6 a3)])
 else
 bif a3 == 0 then
 some ([.b (bQ a5 a7 a0), .b (bQ a8 a9 a1), .b (cC a10 a5 a2), .b true])
 else
 some ([.b (bQ a5 a7 a0), .b (bQ a8 a9 a1), .b (cC a10 a5 a2), .b (cC a11 a6 a3)])
def f44 : Int × Int × Int × Int × Int × Int × Int × Int × Int × Int × Int × Int -> Bool × List Un := fun (a0, a1, a2, a3, a4, a5, a6, a7, a8, a9, a10, a11) => (true, [.b ((a0 == 0 || bQ a5 a7 a0)), .b ((a1 == 0 || bQ a8 a9 a1)), .b ((a2 == 0 || cC a10 a5 a2)), .b ((a3 == 0 || cC a11 a6 a3))])
theorem L1 (a0 : Int) (a1 : Int) (a2 : Int) (a3 : Int) (a4 : Int) (a5 : Int) (a6 : Int) (a7 : Int) (a8 : Int) (a9 : Int) (a10 : Int) (a11 : Int) : ∃ m, t44 m (a0, a1, a2, a3, a4, a5, a6, a7, a8, a9, a10, a11) = some ([.b ((a0 == 0 || bQ a5 a7 a0)), .b ((a1 == 0 || bQ a8 a9 a1)), .b ((a2 == 0 || cC a10 a5 a2)), .b ((a3 == 0 || cC a11 a6 a3))]) := by
 refine ⟨0, ?_⟩; unfold t44; dsimp only; cases a0 == 0 <;> cases a1 == 0 <;> cases a2 == 0 <;> cases a3 == 0 <;> rfl
theorem Jc : ER 44 (mkE N44.en N44.ex f44) := an ah T88.right (fun m => []) (t := t44) (by kernel_rfl) (fun m => aA) (fun m a => by kernel_rfl) fun (a0, a1, a2, a3, a4, a5, a6, a7, a8, a9, a10, a11) hc => L1 a0 a1 a2 a3 a4 a5 a6 a7 a8 a9 a10 a11
def T44 : Tb Tryz.prog LQ TE XX := T88.add 44 _ Jc
def fB (need has : Int) : Int := max (min (max need 0) has) 0
def Bf (need has may : Int) : Int := max (min (max need 0 - fB need has) may) 0
def N36 : aD := ⟨T44.tab, 36, ⟨[.int .i64, .np 0 0 20, .int .i64, .int .i64], cg 0, 0⟩, ⟨[.int .i64, .int .i64], cg 0, 0⟩, []⟩
def t36 (m : Nat) : Int × Int × Int × Int × aw × az × ak × List Dat × List Dat × List Dat × List Dat × List Dat × List Dat × List Dat -> Option (List Un) := fun (a0, a1, a2, a3, a4, a5, a6, a7, a8, a9, a10, a11, a12, a13) =>
 lt ((if a0 < 0 then 0 else a0) : Int) fun x1 =>
 bif (!((decide (a1 < 0)) && true)) then
 chk (decide (0 <= a1)) <|
 lt ((w64 (a6.rin - a6.bk)) : Int) fun x3 =>
 lt ((if x3 < x1 then x3 else x1) : Int) fun x4 =>
 lt ((if x4 < 0 then 0 else x4) : Int) fun x5 =>
 chk (decide (0 <= a1)) <|
 chk (decide (0 <= a1)) <|
 lt ((if (w64 (a3 - a2)) < (w64 (x1 - x5)) then (w64 (a3 - a2)) else (w64 (x1 - x5))) : Int) fun x6 =>
 some ([.i x5, .i (if x6 < 0 then 0 else x6)] ++ Uns.enc (a4 : aw) ++ Uns.enc (a5 : az) ++ Uns.enc (({ a6 with bk := (w64 (a6.bk + x5)) } : ak) : ak) ++ [.d a7, .d a8, .d a9, .d a10, .d a11, .d a12, .d a13])
 else
 lt ((if (w64 (a3 - a2)) < (w64 (x1 - 0)) then (w64 (a3 - a2)) else (w64 (x1 - 0))) : Int) fun x8 =>
 some ([.i 0, .i (if x8 < 0 then 0 else x8)] ++ Uns.enc (a4 : aw) ++ Uns.enc (a5 : az) ++ Uns.enc (a6 : ak) ++ [.d a7, .d a8, .d a9, .d a10, .d a11, .d a12, .d a13])
def f36 : Int × Int × Int × Int × aw × az × ak × List Dat × List Dat × List Dat × List Dat × List Dat × List Dat × List Dat -> Bool × List Un := fun (a0, a1, a2, a3, a4, a5, a6, a7, a8, a9, a10, a11, a12, a13) => (decide (0 <= a1) && decide ((-1152921504606846976 <= a0 /\ a0 <= 1152921504606846976) /\ ((0 : Int) <= a6.bk /\ a6.bk <= a6.rin /\ a6.rin <= (1152921504606846976 : Int)) /\ (0 <= a2 /\ a2 <= 1152921504606846976) /\ (0 <= a3 /\ a3 <= 1152921504606846976)), [.i (fB a0 (a6.rin - a6.bk)), .i (Bf a0 (a6.rin - a6.bk) (a3 - a2))] ++ Uns.enc ((a4) : aw) ++ Uns.enc ((a5) : az) ++ Uns.enc (({ a6 with bk := a6.bk + fB a0 (a6.rin - a6.bk) }) : ak) ++ [.d (a7), .d (a8), .d (a9), .d (a10), .d (a11), .d (a12), .d (a13)])
theorem Ns (a0 : Int) (a1 : Int) (a2 : Int) (a3 : Int) (a4 : aw) (a5 : az) (a6 : ak) (a7 : List Dat) (a8 : List Dat) (a9 : List Dat) (a10 : List Dat) (a11 : List Dat) (a12 : List Dat) (a13 : List Dat) (hc : (decide (0 <= a1) && decide ((-1152921504606846976 <= a0 /\ a0 <= 1152921504606846976) /\ ((0 : Int) <= a6.bk /\ a6.bk <= a6.rin /\ a6.rin <= (1152921504606846976 : Int)) /\ (0 <= a2 /\ a2 <= 1152921504606846976) /\ (0 <= a3 /\ a3 <= 1152921504606846976))) = true) : ∃ m, t36 m (a0, a1, a2, a3, a4, a5, a6, a7, a8, a9, a10, a11, a12, a13) = some ([.i (fB a0 (a6.rin - a6.bk)), .i (Bf a0 (a6.rin - a6.bk) (a3 - a2))] ++ Uns.enc ((a4) : aw) ++ Uns.enc ((a5) : az) ++ Uns.enc (({ a6 with bk := a6.bk + fB a0 (a6.rin - a6.bk) }) : ak) ++ [.d (a7), .d (a8), .d (a9), .d (a10), .d (a11), .d (a12), .d (a13)]) := by
 simp only [zab, zag] at hc; obtain ⟨h0, ⟨h1, h2⟩, ⟨h3, h4, h5⟩, ⟨h6, h7⟩, h8, h9⟩ := hc; refine ⟨0, ?_⟩; unfold t36; dsimp only; simp only [zbb, lt_eq, zaQ (show ¬ a1 < 0 by omega), Bool.not_false, zaE, zai h0, iw]; rw [aa (n := a6.rin - a6.bk) (by omega) (by omega), aa (n := a3 - a2) (by omega) (by omega)]; have e : (if (if a6.rin - a6.bk < (if a0 < 0 then 0 else a0) then a6.rin - a6.bk else (if a0 < 0 then 0 else a0)) < 0 then 0 else (if a6.rin - a6.bk < (if a0 < 0 then 0 else a0) then a6.rin - a6.bk else (if a0 < 0 then 0 else a0))) = fB a0 (a6.rin - a6.bk) := by unfold fB; omega
 have hd : 0 <= fB a0 (a6.rin - a6.bk) /\ fB a0 (a6.rin - a6.bk) <= 1152921504606846976 /\ fB a0 (a6.rin - a6.bk) <= max a0 0 /\ fB a0 (a6.rin - a6.bk) <= a6.rin - a6.bk := by unfold fB; omega
 rw [e, show (if a0 < 0 then 0 else a0) = max a0 0 by omega, aa (n := max a0 0 - _) (by omega) (by omega), aa (n := a6.bk + _) (by omega) (by omega)]; rw [show (if (if a3 - a2 < max a0 0 - fB a0 (a6.rin - a6.bk) then a3 - a2 else max a0 0 - fB a0 (a6.rin - a6.bk)) < 0 then 0 else (if a3 - a2 < max a0 0 - fB a0 (a6.rin - a6.bk) then a3 - a2 else max a0 0 - fB a0 (a6.rin - a6.bk))) = Bf a0 (a6.rin - a6.bk) (a3 - a2) by unfold Bf; omega]
theorem Jo : ER 36 (mkE N36.en N36.ex f36) := an ah T44.right (fun m => []) (t := t36) (by kernel_rfl) (fun m => aA) (fun m a => by kernel_rfl) fun (a0, a1, a2, a3, a4, a5, a6, a7, a8, a9, a10, a11, a12, a13) hc => Ns a0 a1 a2 a3 a4 a5 a6 a7 a8 a9 a10 a11 a12 a13 hc
def T36 : Tb Tryz.prog LQ TE XX := T44.add 36 _ Jo
def ff (d : bq) (m : Int) : List Dat := if m = 0 then d.s0 else if m = 1 then d.s1 else if m = 2 then d.s2 else []
def N40 : aD := ⟨T36.tab, 40, ⟨[.agg [.int .i64, .int .i64, .int .i64, .ai (sI 2), .ai (sI 3), .int .i64, .int .i64, .int .i64, .int .i64, .int .i64, .int .i64, .int .i64, .int .i64, .int .i64, .int .i64, .ai (sI 2), .ai (sI 2), .ai (sI 2)], .agg [.int .i64, .int .i64]], [], 0⟩, ⟨[.buf 0 2], [.ai (sI 2)], 0⟩, []⟩
def t40 (m : Nat) : bq × Int × Int -> Option (List Un) := fun (a0, a1, a2) =>
 bif decide (a1 < 0) then
 some ([.d ([])])
 else
 bif decide (a1 >= 3) then
 some ([.d ([])])
 else
 chk (inb a1 3) <|
 chk (decide (a1.toNat < 3)) <|
 chk (decide ((List.getD [a0.s0, a0.s1, a0.s2] a1.toNat []).length < 1000000)) <|
 some ([.d (List.getD [a0.s0, a0.s1, a0.s2] a1.toNat [])])
def f40 : bq × Int × Int -> Bool × List Un := fun (a0, a1, a2) => (decide (a0.s0.length < 1000000 /\ a0.s1.length < 1000000 /\ a0.s2.length < 1000000), [.d (ff a0 a1)])
theorem LB (a0 : bq) (a1 : Int) (a2 : Int) (hc : (decide (a0.s0.length < 1000000 /\ a0.s1.length < 1000000 /\ a0.s2.length < 1000000)) = true) : ∃ m, t40 m (a0, a1, a2) = some ([.d (ff a0 a1)]) := by
 obtain ⟨h1, h2, h3⟩ := zak hc; refine ⟨0, ?_⟩; unfold t40 ff; dsimp only
 by_cases c0 : a1 < 0
 . rw [bF c0, if_neg (by omega), if_neg (by omega), if_neg (by omega)]
 by_cases c3 : a1 >= 3
 . rw [aE c0, bF c3, if_neg (by omega), if_neg (by omega), if_neg (by omega)]
 rw [aE c0, aE c3, dT (by omega) (by omega), aP (by omega)]; obtain rfl | rfl | rfl : a1 = 0 \/ a1 = 1 \/ a1 = 2 := by omega
 . exact (aP h1).trans rfl
 . exact (aP h2).trans rfl
 . exact (aP h3).trans rfl
theorem Kk : ER 40 (mkE N40.en N40.ex f40) := an ah T36.right (fun m => []) (t := t40) (by kernel_rfl) (fun m => aA) (fun m a => by kernel_rfl) fun (a0, a1, a2) hc => LB a0 a1 a2 hc
def T40 : Tb Tryz.prog LQ TE XX := T36.add 40 _ Kk
def jF (d : Dat) : Prop := 0 <= d.i 1 /\ 0 <= d.i 2 /\ d.i 1 + d.i 2 <= 1099511627776 /\ (0 <= d.i 3 /\ d.i 3 <= 12) /\ (d.b 4 = true -> d.i 1 = 0) /\ (d.b 4 = false -> d.i 2 = 0)
theorem zp {p q r s l : Int} (h : m8 p q r s l = true) : (0 <= p /\ p <= 1099511627776) /\ (0 <= q /\ q <= 1099511627776) /\ (0 <= r /\ r <= 1099511627776) /\ (0 <= s /\ s <= 1099511627776) /\ 0 <= l /\ l <= 12 := by
 simp only [m8, zab, zag] at h; omega
theorem Fo {x d : Dat} (hx : jF x) (hl : m8 (d.i 1) (d.i 2) (d.i 3) (d.i 4) (d.i 5) = true) (hm : EU x d = true) : jF (l8 x d) /\ (l8 x d).i 1 = x.i 1 - (d.i 1 + d.i 2) - gN (x.i 1) (d.i 1) (d.i 2) (d.b 6) /\ (l8 x d).i 2 = x.i 2 + gN (x.i 1) (d.i 1) (d.i 2) (d.b 6) - d.i 4 /\
 0 <= gN (x.i 1) (d.i 1) (d.i 2) (d.b 6) /\ d.i 1 + d.i 2 + gN (x.i 1) (d.i 1) (d.i 2) (d.b 6) <= x.i 1 /\ d.i 4 <= x.i 2 + gN (x.i 1) (d.i 1) (d.i 2) (d.b 6) := by
 obtain ⟨x1, x2, x3, x4, x5, x6⟩ := hx; have l := zp hl; have e1 : (l8 x d).i 1 = tz (x.i 1) (d.i 1) (d.i 2) (d.b 6) := rfl; have e2 : (l8 x d).i 2 = nU (x.i 1) (x.i 2) (d.i 1) (d.i 2) (d.i 4) (d.b 6) := rfl; have e3 : (l8 x d).i 3 = nF (x.i 1) (x.b 4) (d.i 1) (d.i 2) (d.i 5) (d.b 6) := rfl; have e4 : (l8 x d).b 4 = (d.b 6 || x.b 4) := Qj _; unfold jF; rw [e1, e2, e3, e4]; unfold EU B8 at hm; unfold tz nU nF gN; generalize d.i 1 = p at *
 generalize d.i 2 = q at *
 generalize d.i 3 = r at *
 generalize d.i 4 = s at *
 generalize d.i 5 = t at *
 generalize x.i 1 = b at *
 generalize x.i 2 = o at *
 clear e1 e2 e3 e4 hl; cases hb : x.b 4
 . have := x6 hb; simp only [hb, zao, show w64 (b - p) = b - p from aa (by omega) (by omega), show w64 (b - p - q) = b - p - q from aa (by omega) (by omega)] at hm; simp only [show w64 (p + q) = p + q from aa (by omega) (by omega), show w64 (b - (p + q)) = b - (p + q) from aa (by omega) (by omega)]
   by_cases hn : b - p - q < 0
   . rw [zai hn] at hm; cases hm
   rw [zaQ hn, zao] at hm; cases hd : d.b 6
   . simp only [hd, zao, zaw] at hm; subst hm; simp only [zao, Bool.or_self, zbm, zbT, show w64 o = o from aa (by omega) (by omega)]; have hz : 0 <= (bif b - (p + q) == 0 then 0 else t) /\ (bif b - (p + q) == 0 then 0 else t) <= 12 := by cases (b - (p + q) == 0) <;> simp only [zaE, zao] <;> omega
     and_intros <;> first | trivial | omega | (intro h; cases h; done) | (intro _; omega)
   . simp only [hd, zaE, show w64 (o + (b - p - q)) = o + (b - p - q) from aa (by omega) (by omega)] at hm; have hr : s <= o + (b - p - q) := by
      by_cases hs : s <= o + (b - p - q)
      . exact hs
      . rw [zaQ hs, zao, zaw] at hm; omega
     simp only [zaE, Bool.or_false, show w64 (o + (b - (p + q))) = o + (b - (p + q)) from aa (by omega) (by omega), show w64 (o + (b - (p + q)) - s) = o + (b - (p + q)) - s from aa (by omega) (by omega)]
     and_intros <;> first | trivial | omega | (intro h; cases h; done) | (intro _; omega)
 . have := x5 hb; subst this; rw [hb] at hm; simp only [zaE, zab, zaw, Bool.not_eq_true', zag] at hm; obtain ⟨rfl, rfl, h3, h4, h5, h6⟩ := hm; rw [h5]; simp only [zaE, zao, zcc, show w64 0 = 0 by decide, zbm, zbT, show w64 (o - s) = o - s from aa (by omega) (by omega)]
   and_intros <;> first | trivial | omega | (intro h; cases h; done) | (intro _; omega)
theorem oF {β : Type} (f : Dat -> β) (y : Dat) : ∀ (l : List Dat) (j : Nat), j < l.length -> f y = f (ag l j) -> (l.set j y).map f = l.map f
 | [], j, h, _ => by simp at h
 | d :: l, 0, _, h => by simp only [List.set_cons_zero, zaT, h]; rfl
 | d :: l, j + 1, h, hy => by simp only [zbQ, zaT, oF f y l j (by simpa using h) hy]
theorem fA {l : List Dat} (h : ∀ d ∈ l, jF d) : 0 <= ao 1 l /\ 0 <= ao 2 l := ⟨fw 1 l fun d hd => (h d hd).1, fw 2 l fun d hd => (h d hd).2.1⟩
theorem v7 : ∀ (t l : List Dat) (last p q s r : Int) (x : HE), (∀ d ∈ l, jF d) -> ug last t = true -> jN l p q s r t = some x -> ao 1 l + ao 2 l <= 1099511627776 -> (0 <= p /\ p + ao 1 l <= 4398046511104) -> (0 <= s /\ s + ao 1 l <= 4398046511104) -> (0 <= r /\ r + ao 1 l + ao 2 l <= 4398046511104) -> (0 <= q /\ q + 1099511627776 * t.length <= 1125899906842624) ->
 (∀ d ∈ x.aZ, jF d) /\ x.aZ.map (fun d => d.i 0) = l.map (fun d => d.i 0) /\ ao 1 x.aZ = ao 1 l - (x.p - p) - (x.l - s) /\ ao 2 x.aZ = ao 2 l + (x.l - s) - (x.r - r) /\ p <= x.p /\ s <= x.l /\ r <= x.r /\ (q <= x.q /\ x.q <= q + 1099511627776 * t.length) /\ x.e = 0
 | [], l, last, p, q, s, r, x, hl, ht, h, b1, b2, b3, b4, b5 => by
  simp only [jN, zaj] at h; subst h; exact ⟨hl, rfl, by simp, by simp, by simp, by simp, by simp, by simp, rfl⟩
 | d :: t, l, last, p, q, s, r, x, hl, ht, h, b1, b2, b3, b4, b5 => by
  simp only [ug] at ht
  split at ht
  . cases ht
  . split at ht
    . rename_i hT; unfold jN at h
      split at h
      . cases h
      . rename_i hi
        split at h
        . rename_i hm; rcases yu (d.i 0) l 0 with hj | ⟨hj1, hj2⟩
          . omega
          . have hj : (fj (d.i 0) 0 l).toNat < l.length := by omega
            generalize (fj (d.i 0) 0 l).toNat = j at *
            obtain ⟨r1, r2, r3, r4, r5, r6⟩ := Fo (hl _ (vi hj)) hT hm; have lt := zp hT; have s1 := mu 1 (l8 (ag l j) d) l j hj; have s2 := mu 2 (l8 (ag l j) d) l j hj; have hl' := DE (p := jF) (j := j) hl r1; obtain ⟨n1, n2⟩ := fA hl; obtain ⟨n3, n4⟩ := fA hl'; rw [r2] at s1; rw [r3] at s2; simp only [zac, zay, zaa] at b5; generalize gN ((ag l j).i 1) (d.i 1) (d.i 2) (d.b 6) = z at *
            rw [show w64 (d.i 1 + d.i 2) = d.i 1 + d.i 2 from aa (by omega) (by omega), show w64 (p + (d.i 1 + d.i 2)) = p + (d.i 1 + d.i 2) from aa (by omega) (by omega), show w64 (q + d.i 3) = q + d.i 3 from aa (by omega) (by omega), show w64 (s + z) = s + z from aa (by omega) (by omega), show w64 (r + d.i 4) = r + d.i 4 from aa (by omega) (by omega)] at h; obtain ⟨c1, c2, c3, c4, c5, c6, c7, c8, c9⟩ := v7 t _ _ _ _ _ _ x hl' ht h (by omega) (by omega) (by omega) (by omega) (by omega); refine ⟨c1, c2.trans (oF _ _ _ _ hj rfl), by omega, by omega, by omega, by omega, by omega, ?_, c9⟩; simp only [zac, zay, zaa]; omega
        . cases h
    . cases ht
theorem Es {t l : List Dat} (hl : ∀ d ∈ l, jF d) (b : ao 1 l + ao 2 l <= 1099511627776) (he : (aB t l).e = 0) :
 (∀ d ∈ (aB t l).aZ, jF d) /\ (aB t l).aZ.map (fun d => d.i 0) = l.map (fun d => d.i 0) /\ ao 1 (aB t l).aZ = ao 1 l - (aB t l).p - (aB t l).l /\ ao 2 (aB t l).aZ = ao 2 l + (aB t l).l - (aB t l).r /\
 0 <= (aB t l).p /\ 0 <= (aB t l).l /\ 0 <= (aB t l).r /\ 0 <= (aB t l).q /\ (aB t l).q <= 70368744177664 := by
 unfold aB at he ⊢
 split at he
 . rename_i ht; rw [if_pos ht]; simp only [qk, zab, zag] at ht; cases hx : jN l 0 0 0 0 t with
   | none => rw [hx] at he; cases he
   | some x =>
    obtain ⟨n1, n2⟩ := fA hl; obtain ⟨c1, c2, c3, c4, c5, c6, c7, c8, c9⟩ := v7 t l 0 0 0 0 0 x hl ht.2 hx b (by omega) (by omega) (by omega) (by omega); simp only [zbo]; exact ⟨c1, c2, by omega, by omega, c5, c6, c7, c8.1, by omega⟩
 . cases he
theorem mc (f : Dat -> Bool) : ∀ l : List Dat, (∀ d ∈ l, 0 <= d.i 3) -> 0 <= bn f l
 | [], _ => zcb 0
 | d :: l, h => by
  have := h d (by simp); have := mc f l fun x hx => h x (by simp [hx])
  simp only [bn]; cases f d <;> simp only [zaE, zao] <;> omega
def rN (d e : Dat) (b s : Int) : Prop := e.i 0 = d.i 0 /\ e.i 1 = d.i 1 /\ e.i 2 = d.i 2 /\ e.i 3 = d.i 3 + b /\ e.i 4 = d.i 4 /\ e.i 5 = d.i 5 - s /\ e.i 6 = d.i 6
def amt (f : Dat -> Bool) (d : Dat) : Int := bif f d then d.i 3 else 0
theorem gD (f : Dat -> Bool) (d : Dat) (l : List Dat) : bn f (d :: l) = amt f d + bn f l := rfl
theorem Gc {n : ak} {x : Dat} {c : List Dat} (h3 : 0 <= x.i 3) (hk : (x.i 1 = 1 \/ x.i 1 = 2 \/ x.i 1 = 6) \/ (0 <= x.i 2 /\ x.i 2 < (c.length : Int))) (hb : ∀ i, i < c.length -> amt (toB i) x <= bj (ag c i) /\ amt (toI i) x <= (ag c i).i 5) :
 iN n x = { n with fee := n.fee - amt kF x, out := n.out - amt kR x, rin := n.rin + amt kT x } /\ ∀ i, i < c.length -> rN (ag c i) (ag (jY c x) i) (amt (toB i) x) (amt (toI i) x) := by
 have zero : ∀ i, kI x = false -> kB x = false -> rN (ag c i) (ag c i) (amt (toB i) x) (amt (toI i) x) := fun i h1 h2 => by
  simp only [amt, toB, toI, h1, h2, zbE, zao]; exact ⟨rfl, rfl, rfl, by omega, rfl, by omega, rfl⟩
 unfold iN jY
 by_cases h1 : x.i 1 = 1
 . have a1 : kF x = true := by simp [kF, h1]
   have a2 : kR x = false := by simp [kR, h1]
   have a3 : kT x = false := by simp [kT, h1]
   have a4 : kI x = false := by simp [kI, h1]
   have a5 : kB x = false := by simp [kB, a1]
   rw [if_pos h1, if_pos h1]; refine ⟨?_, fun i hi => zero i a4 a5⟩; simp only [amt, a1, a2, a3, zaE, zao, zbm, zbT]
 rw [if_neg h1, if_neg h1]; have a1 : kF x = false := od h1
 by_cases h2 : x.i 1 = 2
 . have a2 : kR x = true := by simp [kR, h2]
   have a3 : kT x = false := by simp [kT, h2]
   have a4 : kI x = false := by simp [kI, h2]
   have a5 : kB x = false := by simp [kB, a2]
   rw [if_pos h2, if_pos h2]; refine ⟨?_, fun i hi => zero i a4 a5⟩; simp only [amt, a1, a2, a3, zaE, zao, zbm, zbT]
 rw [if_neg h2, if_neg h2]; have a2 : kR x = false := od h2
 by_cases h6 : x.i 1 = 6
 . have a3 : kT x = true := by simp [kT, h6]
   have a4 : kI x = false := by simp [kI, h6]
   have a5 : kB x = false := by simp [kB, a3]
   rw [if_pos h6, if_pos h6]; refine ⟨?_, fun i hi => zero i a4 a5⟩; simp only [amt, a1, a2, a3, zaE, zao, zbm, zbT]
 rw [if_neg h6, if_neg h6]; have a3 : kT x = false := od h6; refine ⟨by simp only [amt, a1, a2, a3, zao, zbm, zbT], fun i hi => ?_⟩; have hj : (x.i 2).toNat < c.length := by omega
 have hx2 : x.i 2 = ((x.i 2).toNat : Int) := by omega
 generalize (x.i 2).toNat = j at *
 have hbj := hb j hj
 by_cases h3' : x.i 1 = 3
 . have a4 : kI x = true := by simp [kI, h3']
   have a5 : kB x = false := by simp [kB, a4]
   rw [if_pos h3']; simp only [amt, toB, toI, a4, a5, zbE, zbi, zao, hx2] at hbj ⊢
   by_cases hij : i = j
   . subst hij; rw [beq_self_eq_true, zaE] at hbj ⊢; rw [vb hj]; refine ⟨rfl, rfl, rfl, by simp only [mM, eT]; omega, rfl, ?_, rfl⟩; simp only [mM, nu, zg]; omega
   . rw [show ((j : Int) == (i : Int)) = false from od (by omega), zao, mv hij]; exact ⟨rfl, rfl, rfl, by omega, rfl, by omega, rfl⟩
 . have a4 : kI x = false := od h3'; have a5 : kB x = true := by simp [kB, a1, a2, a3, a4]
   rw [if_neg h3']; simp only [amt, toB, toI, a4, a5, zbE, zbi, zao, hx2] at hbj ⊢
   by_cases hij : i = j
   . subst hij; rw [beq_self_eq_true, zaE] at hbj ⊢; rw [vb hj]; refine ⟨rfl, rfl, rfl, ?_, rfl, by simp only [rj, nu]; omega, rfl⟩; simp only [rj, eT, lN]; omega
   . rw [show ((j : Int) == (i : Int)) = false from od (by omega), zao, mv hij]; exact ⟨rfl, rfl, rfl, by omega, rfl, by omega, rfl⟩
theorem vF : ∀ (p : List Dat) (n : ak) (c : List Dat), (∀ d ∈ p, 0 <= d.i 3) -> (∀ d ∈ p, (d.i 1 = 1 \/ d.i 1 = 2 \/ d.i 1 = 6) \/ (0 <= d.i 2 /\ d.i 2 < (c.length : Int))) -> (∀ i, i < c.length -> bn (toB i) p <= bj (ag c i) /\ bn (toI i) p <= (ag c i).i 5) ->
 (cO p n c).1 = { n with fee := n.fee - bn kF p, out := n.out - bn kR p, rin := n.rin + bn kT p } /\ (cO p n c).2.length = c.length /\ ∀ i, i < c.length -> rN (ag c i) (ag (cO p n c).2 i) (bn (toB i) p) (bn (toI i) p)
 | [], n, c, _, _, _ => by
  refine ⟨by simp [cO, bn], rfl, fun i hi => ⟨rfl, rfl, rfl, ?_, rfl, ?_, rfl⟩⟩ <;> simp [cO, bn]
 | x :: p, n, c, h0, hk, hb => by
  have n0 := fun f => mc f p fun d hd => h0 d (zaK _ hd)
  have hx0 := h0 x (by simp); have m0 : ∀ f, 0 <= amt f x := fun f => by unfold amt; cases f x <;> simp only [zaE, zao] <;> omega
  obtain ⟨o1, o2⟩ := Gc (n := n) hx0 (hk x (by simp)) fun i hi => by
   have := hb i hi; rw [gD, gD] at this; have := n0 (toB i); have := n0 (toI i); omega
  have hl := vV c x; obtain ⟨i1, i2, i3⟩ := vF p (iN n x) (jY c x) (fun d hd => h0 d (zaK _ hd)) (fun d hd => by rw [hl]; exact hk d (zaK _ hd)) fun i hi => by
   rw [hl] at hi; have := hb i hi; rw [gD, gD] at this; obtain ⟨_, e1, _, e3, e4, e5, e6⟩ := o2 i hi; unfold bj at this ⊢; omega
  refine ⟨?_, i2.trans hl, fun i hi => ?_⟩
  . show (cO p (iN n x) (jY c x)).1 = _; rw [i1, o1]; simp only [gD, Int.sub_sub, Int.add_assoc]
  . obtain ⟨e0, e1, e2, e3, e4, e5, e6⟩ := o2 i hi; obtain ⟨f0, f1, f2, f3, f4, f5, f6⟩ := i3 i (by rw [hl]; exact hi); rw [gD, gD]; exact ⟨f0.trans e0, f1.trans e1, f2.trans e2, by show (ag (cO p (iN n x) (jY c x)).2 i).i 3 = _; omega, f4.trans e4, by show (ag (cO p (iN n x) (jY c x)).2 i).i 5 = _; omega, f6.trans e6⟩
def fV (d e : Dat) : Prop := e.i 0 = d.i 0 /\ e.i 1 = d.i 1 /\ e.i 2 = d.i 2 /\ e.i 3 = d.i 3 /\ e.i 4 = d.i 4 /\ e.i 5 = d.i 5
theorem fV.refl (d : Dat) : fV d d := ⟨rfl, rfl, rfl, rfl, rfl, rfl⟩
theorem fV.trans {a b c : Dat} (h : fV a b) (k : fV b c) : fV a c := ⟨k.1.trans h.1, k.2.1.trans h.2.1, k.2.2.1.trans h.2.2.1, k.2.2.2.1.trans h.2.2.2.1, k.2.2.2.2.1.trans h.2.2.2.2.1, k.2.2.2.2.2.trans h.2.2.2.2.2⟩
structure ez (c c' : List Dat) : Prop where
 len : c'.length = c.length
 row : ∀ i, i < c.length -> fV (ag c i) (ag c' i)
theorem ez.refl (c : List Dat) : ez c c := ⟨rfl, fun _ _ => .refl _⟩
theorem ez.trans {a b c : List Dat} (h : ez a b) (k : ez b c) : ez a c := ⟨k.len.trans h.len, fun i hi => (h.row i hi).trans (k.row i (by rw [h.len]; exact hi))⟩
theorem ez.set {c : List Dat} {j : Nat} {y : Dat} (hj : j < c.length) (h : fV (ag c j) y) : ez c (c.set j y) := ⟨zbe, fun i hi => by
 by_cases e : i = j
 . subst e; rw [vb hj]; exact h
 . rw [mv e]; exact .refl _⟩
theorem AF (w : Int) (d : Dat) : fV d (dH w d) := ⟨rfl, rfl, rfl, rfl, rfl, rfl⟩
theorem Ch (w : Int) (d : Dat) : fV d (fu w d) := ⟨rfl, rfl, rfl, rfl, rfl, rfl⟩
theorem wv (f : Dat -> Int) : ∀ c : List Dat, (∀ d ∈ c, f d = 0) -> bw f c = 0
 | [], _ => rfl
 | d :: c, h => by simp only [bw, h d (by simp), wv f c fun x hx => h x (by simp [hx])]; rfl
theorem wz (j : Nat) : ∀ c : List Dat, (∀ d ∈ c, d.i j = 0) -> ao j c = 0
 | [], _ => rfl
 | d :: c, h => by simp only [ao, h d (by simp), wz j c fun x hx => h x (by simp [hx])]; rfl
theorem JB {c : List Dat} {j : Nat} {y : Dat} (hj : j < c.length) (h : fV (ag c j) y) : bw unD (c.set j y) = bw unD c := by
 obtain ⟨_, h1, _, h3, h4, _⟩ := h; rw [Al _ _ _ _ hj]; unfold unD; omega
theorem DM (t : Int) : ∀ (k : Nat) (c : List Dat), dA c -> uf t c < k -> dA (rm k t c) /\ ez c (rm k t c) /\ (ao 6 c <= t -> ao 6 (rm k t c) = min t (bw unD c)) /\ (t <= ao 6 c -> rm k t c = c)
 | 0, c, _, h => by omega
 | k + 1, c, hg, h => by
  have hu := gQ c hg.2; unfold rm
  by_cases hs : ao 6 c < t
  . rw [if_pos hs]
    by_cases hj : fk c c.length 0 (-1) < 0
    . rw [if_pos hj]; refine ⟨hg, .refl c, fun _ => ?_, fun _ => rfl⟩; have h0 := ((sg c c.length 0 (-1) (by omega) (.inl (by omega))).1 hj).2; have : bw bj c = 0 := wv _ _ fun d hd => by
       obtain ⟨i, hi, rfl⟩ := o9 hd; have := h0 i (by omega) hi; have := (EE (cn hi hg.2)).1; omega
      omega
    . rw [if_neg hj]; obtain ⟨a1, a2, a3, a4⟩ := Li hg hs (by omega); have hw := AF (t - ao 6 c) (ag c (fk c c.length 0 (-1)).toNat); have hun := JB a1 hw; have has := ez.set a1 hw; generalize c.set (fk c c.length 0 (-1)).toNat (dH (t - ao 6 c) (ag c (fk c c.length 0 (-1)).toNat)) = c' at *
      obtain ⟨b1, b2, b3, b4⟩ := DM t k c' a2 (by omega); exact ⟨b1, has.trans b2, fun _ => by rw [b3 a4, hun], fun _ => by omega⟩
  . rw [if_neg hs]; exact ⟨hg, .refl c, fun _ => by omega, fun _ => rfl⟩
theorem Dw (t : Int) (h0 : 0 <= t) : ∀ (k : Nat) (c : List Dat), dA c -> tj t c < k -> dA (pt k t c) /\ ez c (pt k t c) /\ (t <= ao 6 c -> ao 6 (pt k t c) = t) /\ (ao 6 c <= t -> pt k t c = c)
 | 0, c, _, h => by omega
 | k + 1, c, hg, h => by
  have hu := gQ c hg.2; unfold pt
  by_cases hs : t < ao 6 c
  . rw [if_pos hs]
    by_cases hj : fo c c.length 0 (-1) < 0
    . have h0 := ((rL c c.length 0 (-1) (by omega) (.inl (by omega))).1 hj).2; have : ao 6 c = 0 := wz _ _ fun d hd => by
       obtain ⟨i, hi, rfl⟩ := o9 hd; have := h0 i (by omega) hi; have := (cj (cn hi hg.2)).2.2.2.2.1; omega
      omega
    . rw [if_neg hj]; obtain ⟨a1, a2, a3, a4⟩ := Lr hg hs (by omega); have has := ez.set a1 (Ch (ao 6 c - t) (ag c (fo c c.length 0 (-1)).toNat)); generalize c.set (fo c c.length 0 (-1)).toNat (fu (ao 6 c - t) (ag c (fo c c.length 0 (-1)).toNat)) = c' at *
      obtain ⟨b1, b2, b3, b4⟩ := Dw t h0 k c' a2 (by omega); exact ⟨b1, has.trans b2, fun _ => b3 a4, fun _ => by omega⟩
  . rw [if_neg hs]; exact ⟨hg, .refl c, fun _ => by omega, fun _ => rfl⟩
theorem EZ {t : Int} {c : List Dat} (hg : dA c) (h0 : 0 <= t) (h1 : t <= bw unD c) : dA (fp t c) /\ ez c (fp t c) /\ ao 6 (fp t c) = t := by
 obtain ⟨a1, a2, a3, a4⟩ := DM t (c.length + 2) c hg (Aj t c); unfold fp; rw [show max t 0 = t by omega]; obtain ⟨b1, b2, b3, b4⟩ := Dw t h0 (c.length + 2) (rm (c.length + 2) t c) a1 (by have := Ar t (rm (c.length + 2) t c); rwa [a2.len] at this); refine ⟨b1, a2.trans b2, ?_⟩
 by_cases hs : ao 6 c <= t
 . have := a3 hs; rw [b4 (by omega)]; omega
 . rw [a4 (by omega)] at b3 ⊢; exact b3 (by omega)
structure PE (d : bq) : Prop where
 year : 1 <= d.a.year /\ d.a.year <= 9000
 month : 1 <= d.a.month /\ d.a.month <= 12
 basis : 0 <= d.a.basis /\ d.a.basis <= 2
 fee : 0 <= d.b.fee /\ d.b.fee <= 5000
 aX : 0 <= d.b.aX /\ d.b.aX <= 1099511627776
 target : 0 <= d.b.target /\ d.b.target <= 10000
 advance : 0 <= d.b.advance /\ d.b.advance <= 1099511627776
 eK : 0 <= d.b.eK /\ d.b.eK <= 600
 oc : 0 <= d.b.oc /\ d.b.oc <= 100000
 ic : 0 <= d.b.ic /\ d.b.ic <= 100000
 late : 0 <= d.b.late /\ d.b.late <= 100000
 nm : 0 <= d.b.nm /\ d.b.nm <= 100000
 clean : 0 <= d.b.clean /\ d.b.clean <= 100000
 Qv : ((cr d).getD (0, 0)).1 = ao 1 d.bh
 aZ : 0 <= ao 1 d.bh /\ ao 1 d.bh <= 1099511627776
 O2 : 1 <= d.bh.length /\ d.bh.length <= 64
 HN : ∀ x ∈ d.bh, 0 <= x.i 1 /\ x.i 1 <= 1099511627776
 ids : (d.bh.map fun x => x.i 0).Pairwise (· < ·)
 pos : ∀ x ∈ d.bh, 0 < x.i 0
 QB : 1 <= d.notes.length /\ d.notes.length <= 8
 note : ∀ x ∈ d.notes, (0 <= x.i 0 /\ x.i 0 <= 7) /\ (1 <= x.i 1 /\ x.i 1 <= 1099511627776) /\ (0 <= x.i 2 /\ x.i 2 <= 5000)
 sumn : ao 1 d.notes <= ao 1 d.bh
 s0 : eu d.s0 = true
 s1 : eu d.s1 = true
 s2 : eu d.s2 = true
theorem vI : ∀ (l : List Dat) (last all r : Int), 0 <= all -> jb last all l = some r -> r = all + ao 1 l /\ (all <= 1099511627776 -> r <= 1099511627776) /\ (∀ x ∈ l, 0 <= x.i 1 /\ x.i 1 <= 1099511627776 /\ last < x.i 0) /\ (l.map fun x => x.i 0).Pairwise (· < ·)
 | [], last, all, r, h0, h => by
  simp only [jb, zaj] at h; subst h; exact ⟨by simp [ao], fun h => h, fun x hx => by simp at hx, List.Pairwise.nil⟩
 | d :: l, last, all, r, h0, h => by
  unfold jb at h
  split at h
  . cases h
  . rename_i hl
    split at h
    . rename_i hb; obtain ⟨h1, h2, h3, h4⟩ := vI l _ _ _ (by omega) h; refine ⟨by simp only [ao]; omega, fun _ => h2 (by omega), fun x hx => ?_, ?_⟩
      . rcases za3.1 hx with rfl | hx
        . omega
        . have := h3 x hx; omega
      . simp only [zaT, List.pairwise_cons]; refine ⟨fun y hy => ?_, h4⟩; obtain ⟨x, hx, rfl⟩ := zbr.1 hy; exact (h3 x hx).2.2
    . cases h
theorem wi (most : Int) (hm : most <= 1099511627776) : ∀ (l : List Dat) (all r : Int), 0 <= all -> mE most all l = some r -> r = all + ao 1 l /\ (all <= most -> r <= most) /\ ∀ x ∈ l, (0 <= x.i 0 /\ x.i 0 <= 7) /\ (1 <= x.i 1 /\ x.i 1 <= 1099511627776) /\ (0 <= x.i 2 /\ x.i 2 <= 5000)
 | [], all, r, h0, h => by
  simp only [mE, zaj] at h; subst h; exact ⟨by simp [ao], fun h => h, fun x hx => by simp at hx⟩
 | d :: l, all, r, h0, h => by
  unfold mE at h
  split at h
  . rename_i hb; obtain ⟨h1, h2, h3⟩ := wi most hm l _ _ (by omega) h; refine ⟨by simp only [ao]; omega, fun _ => h2 (by omega), fun x hx => ?_⟩; rcases za3.1 hx with rfl | hx
    . omega
    . exact h3 x hx
  . cases h
theorem eZ {d : bq} (h : (cr d).isSome = true) : PE d := by
 unfold cr at h
 split at h
 . cases h
 . rename_i p hp
   split at h
   . cases h
   . rename_i n hn
     split at h
     . rename_i hc; have hs : cr d = some (p, n) := by unfold cr; simp only [hp, hn, if_pos hc]
       simp only [zab, ni, zag] at hc; obtain ⟨⟨t1, t2, t3, t4, t5, t6, t7, t8, t9, t10, t11, t12, t13⟩, s0, s1, s2⟩ := hc; unfold eW at hp
       split at hp
       . rename_i hl; obtain ⟨l1, l2, l3, l4⟩ := vI _ _ _ _ (by omega) hp; have l2 := l2 (by omega); unfold jH at hn
         split at hn
         . rename_i hnl; obtain ⟨n1, n2, n3⟩ := wi p (by omega) _ _ _ (by omega) hn; have h0 := fw 1 d.bh fun x hx => (l3 x hx).1
           have n2 := n2 (by omega); exact ⟨t6, t7, t8, t9, t10, t11, t12, t13, t1, t2, t3, t4, t5, by rw [hs]; show p = _; omega, by omega, hl, fun x hx => ⟨(l3 x hx).1, (l3 x hx).2.1⟩, l4, fun x hx => (l3 x hx).2.2, hnl, n3, by omega, s0, s1, s2⟩
         . cases hn
       . cases hp
     . cases h
def iF (T : ae) : bq := ⟨T.a, T.bh, T.notes, T.b, T.s0, T.s1, T.s2⟩
structure lM (T : ae) : Prop where
 xf : (cr (iF T)).isSome = true
 OA : T.tr.map (fun d => (d.i 0, d.i 1, d.i 2)) = T.notes.map (fun d => (d.i 0, d.i 1, d.i 2))
 K1 : ∀ d ∈ T.tr, aI d = true /\ d.i 5 <= 1200000000000 * T.n.period
 ids : T.aZ.map (fun d => d.i 0) = T.bh.map (fun d => d.i 0)
 HN : ∀ d ∈ T.aZ, jF d
 bal : ao 1 T.aZ + ao 2 T.aZ + T.n.aK <= ao 1 T.bh
 lost : T.n.aC - T.n.aK = ao 2 T.aZ
 HP : 0 <= T.n.aK
 period : 0 <= T.n.period /\ T.n.period <= 600
 mode : 0 <= T.n.mode /\ T.n.mode <= 2
 bf : 0 <= T.n.bf /\ T.n.bf <= T.n.period
 fee : 0 <= T.n.fee /\ T.n.fee <= 1200000000000 * T.n.period
 out : 0 <= T.n.out /\ T.n.out <= T.b.advance
 res : 0 <= T.n.bk /\ T.n.bk <= T.n.rin /\ T.n.rin <= 1200000000000 * (T.n.period + 1)
 down : ao 6 T.tr <= ao 2 T.aZ
section
variable (T : ae) (l : List Dat)
def cP : HE := aB l T.aZ
def oB : Int := cT T.a T.n.period (ao 1 T.aZ) T.b.fee
def ED : Int := bw (fun d => cT T.a T.n.period (bj d) (d.i 2)) T.tr
def cTr : List Dat := T.tr.map (dV T.a T.n.period)
def cIn : Int := (cP T l).p + (cP T l).q + (cP T l).r
def my : Int := T.n.fee + oB T + ao 5 (cTr T) - cIn T l
def fC : Int := fB (my T l) (T.n.rin - T.n.bk)
def nH : Int := Bf (my T l) (T.n.rin - T.n.bk) (T.b.advance - T.n.out)
def cN1 : ak := { T.n with fee := T.n.fee + oB T, bk := T.n.bk + fC T l }
def cX : bc := ⟨cIn T l + fC T l + nH T l, T.n.fee + oB T, T.n.out, min ((cP T l).p + (cP T l).r + (cP T l).l) (bw bj (cTr T)), tJ T.b.target (ao 1 (cP T l).aZ) (T.n.rin - (T.n.bk + fC T l))⟩
def dm : bc × List Dat × List Dat := dB 0 (ff (iF T) T.n.mode) (cX T l) ((cTr T).map eI)
def di : ak × List Dat := cO (dm T l).2.2 (cN1 T l) (cTr T)
def cN2 : ak := { (di T l).1 with out := (di T l).1.out + nH T l, aC := (di T l).1.aC + (cP T l).l, aK := (di T l).1.aK + (cP T l).r }
def A7 : List Dat := fp (cH (bw unD (di T l).2) (ao 1 (cP T l).aZ) (cN2 T l).aC (cN2 T l).aK) (di T l).2
def DW : Int × Int := dE T.n.mode T.n.bf T.b.eK (T.b.oc == 0 || bQ (ao 1 (cP T l).aZ) (bw bj (A7 T l)) T.b.oc) (T.b.ic == 0 || bQ (min (cP T l).q 1099511627776) (min (ED T) 1099511627776) T.b.ic)
 (T.b.late == 0 || cC (cq 2 (cP T l).aZ + cq 3 (cP T l).aZ) (ao 1 (cP T l).aZ) T.b.late) (T.b.nm == 0 || cC ((cN2 T l).aC - (cN2 T l).aK) (ao 1 T.bh) T.b.nm)
def cN3 : ak := { cN2 T l with mode := (DW T l).1, bf := (DW T l).2, period := T.n.period + 1 }
end
structure A6 where
 ra : aO
 rb : aM
 next : Int
 e : Int
 t : ae
 aS : List Dat
 notes : List Dat
def noR (e : Int) (T : ae) : A6 := ⟨⟨false, 0, 0, 0, 0, 0, 0, 0, 0, 0, 0⟩, ⟨0, 0, 0, 0, 0⟩, 0, e, T, [], []⟩
def GV (T : ae) (l : List Dat) : A6 :=
 ⟨⟨false, T.n.period + 1, T.n.mode, (cP T l).p, (cP T l).q, (cP T l).l, (cP T l).r, fC T l, nH T l, oB T, ED T⟩, ⟨(dm T l).1.ar, ao 1 (cP T l).aZ, (cN2 T l).rin - (cN2 T l).bk, (cN2 T l).out, (cN2 T l).fee⟩, (DW T l).1, 0,
  { T with n := cN3 T l, aZ := (cP T l).aZ, tr := A7 T l }, (dm T l).2.2, (A7 T l).map BC⟩
def aU (T : ae) (l : List Dat) : A6 := bif T.n.oZ then noR 5 T else bif decide (T.n.period >= 600) then noR 4 T else bif (cP T l).e != 0 then noR (cP T l).e T else GV T l
theorem Hg (f : Dat -> Dat) {l : List Dat} {i : Nat} (h : i < l.length) : ag (l.map f) i = f (ag l i) := by
 rw [mj (by simpa using h), mj h, List.getElem_map]
theorem zV (a : aw) (p : Int) : ∀ l : List Dat, ao 5 (l.map (dV a p)) = ao 5 l + bw (fun d => cT a p (bj d) (d.i 2)) l /\ ao 6 (l.map (dV a p)) = ao 6 l /\ bw bj (l.map (dV a p)) = bw bj l
 | [] => ⟨rfl, rfl, rfl⟩
 | d :: l => by
  obtain ⟨h1, h2, h3⟩ := zV a p l; have e5 : (dV a p d).i 5 = d.i 5 + cT a p (bj d) (d.i 2) := rfl; have e6 : (dV a p d).i 6 = d.i 6 := rfl; have eb : bj (dV a p d) = bj d := rfl; simp only [zaT, ao, bw, h1, h2, h3, e5, e6, eb]
  and_intros <;> first | trivial | omega
theorem CE (f : Dat -> Int) (b : Int) : ∀ l : List Dat, (∀ d ∈ l, 0 <= f d /\ f d <= b) -> 0 <= bw f l /\ bw f l <= b * l.length
 | [], _ => by simp [bw]
 | d :: l, h => by
  have h1 := h d (by simp); have h2 := CE f b l fun x hx => h x (by simp [hx])
  simp only [bw, zac, zay, zb4]; omega
theorem E9 {n b : Int} (h1 : 0 <= n) (h2 : n <= 1099511627776) (h3 : 0 <= b) (h4 : b <= 10000) : mdV n b 10000 0 = n * b / 10000 /\ 0 <= mdV n b 10000 0 /\ mdV n b 10000 0 <= n := by
 have hm := zbR h4 h1; have hz := za0 h1 h3; have i := Pr (n := n) (b := b) (p := 10000) (h := 0) h1 (by omega) h3 (by omega) (by omega) (by omega) (by omega) (by omega) (by omega); rw [i.2.1, Nv]; omega
theorem ja {l : List Dat} (h : eu l = true) : 1 <= l.length /\ l.length <= 16 := by
 simp only [eu, zab, zag] at h; omega
theorem En {T : ae} {i : Nat} (hi : i < (cTr T).length) : ag ((cTr T).map eI) i = eI (ag (cTr T) i) := Hg _ hi
section
variable {T : ae} {l : List Dat} (h : lM T) (hp : T.n.period < 600) (he : (cP T l).e = 0)
include h
theorem wW : T.tr.length = T.notes.length := by
 have := congrArg List.length h.OA; simpa using this
theorem ij : T.tr.length <= 8 /\ 1 <= T.tr.length := by
 have := (eZ h.xf).QB; rw [wW h]; exact ⟨this.2, this.1⟩
theorem AM : dA T.tr := ⟨by have := ij h; omega, fun d hd => (h.K1 d hd).1⟩
theorem s9 : T.aZ.length = T.bh.length /\ T.aZ.length <= 64 := by
 have := congrArg List.length h.ids; have := (eZ h.xf).O2; simp only [zba, iF] at *
 omega
theorem j5 : 0 <= ao 1 T.aZ /\ 0 <= ao 2 T.aZ /\ ao 1 T.aZ + ao 2 T.aZ + T.n.aK <= 1099511627776 := by
 have h1 := fA h.HN; have h2 := (eZ h.xf).aZ.2; have h3 := h.bal; have : ao 1 (iF T).bh = ao 1 T.bh := rfl; omega
theorem mP : (0 <= oB T /\ oB T <= 1200000000000) /\ dA (cTr T) /\ (∀ d ∈ cTr T, d.i 5 <= 1200000000000 * (T.n.period + 1)) /\ (ED T = ao 5 (cTr T) - ao 5 T.tr /\ 0 <= ED T /\ ED T <= 1200000000000 * T.tr.length) /\ bw bj (cTr T) = bw bj T.tr /\ ao 6 (cTr T) = ao 6 T.tr := by
 have D := eZ h.xf; obtain ⟨b1, b2, b3⟩ := j5 h; have r0 := h.HP; have hs : ∀ d ∈ T.tr, 0 <= cT T.a T.n.period (bj d) (d.i 2) /\ cT T.a T.n.period (bj d) (d.i 2) <= 1200000000000 := fun d hd =>
  ox _ D.year.1 D.year.2 D.month.1 D.month.2 h.period.1 (by have := h.period.2; omega) (EE (h.K1 d hd).1).1 (EE (h.K1 d hd).1).2
 obtain ⟨a1, a2, a3⟩ := zV T.a T.n.period T.tr; have sd := CE (fun d => cT T.a T.n.period (bj d) (d.i 2)) 1200000000000 T.tr hs; have hsh : ∀ d ∈ cTr T, aI d = true /\ d.i 5 <= 1200000000000 * (T.n.period + 1) := fun d hd => by
  obtain ⟨x, hx, rfl⟩ := zbr.1 hd; obtain ⟨g, g5⟩ := h.K1 x hx; have g' := cj g; have := hs x hx; have := h.period; have e5 : (dV T.a T.n.period x).i 5 = x.i 5 + cT T.a T.n.period (bj x) (x.i 2) := rfl; refine ⟨zai ?_, by omega⟩; rw [e5]; show (0 <= x.i 1 /\ x.i 1 <= 1099511627776 /\ 0 <= x.i 3 /\ x.i 4 = 0 /\ 0 <= x.i 6 /\ x.i 3 + x.i 6 <= x.i 1 /\ _); omega
 refine ⟨ox _ D.year.1 D.year.2 D.month.1 D.month.2 h.period.1 (by have := h.period.2; omega) b1 (by omega), ⟨by simp only [cTr, zba]; have := ij h; omega, fun d hd => (hsh d hd).1⟩, fun d hd => (hsh d hd).2, ⟨?_, sd.1, sd.2⟩, a3, a2⟩; show bw _ T.tr = ao 5 (T.tr.map (dV T.a T.n.period)) - ao 5 T.tr; omega
theorem sk : (cTr T).length = T.tr.length := by simp [cTr]
include he
theorem rM : (∀ d ∈ (cP T l).aZ, jF d) /\ (cP T l).aZ.map (fun d => d.i 0) = T.aZ.map (fun d => d.i 0) /\ ao 1 (cP T l).aZ = ao 1 T.aZ - (cP T l).p - (cP T l).l /\ ao 2 (cP T l).aZ = ao 2 T.aZ + (cP T l).l - (cP T l).r /\
 0 <= (cP T l).p /\ 0 <= (cP T l).l /\ 0 <= (cP T l).r /\ 0 <= (cP T l).q /\ (cP T l).q <= 70368744177664 := by
 have b := j5 h; have r0 := h.HP; exact Es h.HN (by omega) he
theorem nS : (0 <= cIn T l /\ cIn T l <= 75000000000000) /\ (-1000000000000000 <= my T l /\ my T l <= 10000000000000000) /\ (0 <= fC T l /\ fC T l <= T.n.rin - T.n.bk /\ fC T l <= max (my T l) 0) /\ (0 <= nH T l /\ nH T l <= T.b.advance - T.n.out) := by
 obtain ⟨p1, p2, p3, p4, p5, p6, p7, p8, p9⟩ := rM h he; obtain ⟨a1, a2, a3, a4, a5⟩ := mP h; have n1 := fA p1; have b := j5 h; have r0 := h.HP; have hi : 0 <= cIn T l /\ cIn T l <= 75000000000000 := by unfold cIn; omega
 have s5 := (gQ (cTr T) a2.2).2.1; have hl := ij h; have f := h.fee; have p := h.period; have s5' : ao 5 (cTr T) <= 1200000000000 * 601 * 8 := by
  have := yt 5 (1200000000000 * 601) (cTr T) fun d hd => ⟨(cj (a2.2 d hd)).2.2.2.2.2.2.1, by have := a3 d hd; omega⟩
  have := sk h; omega
 have hn : -1000000000000000 <= my T l /\ my T l <= 10000000000000000 := by unfold my; omega
 have r := h.res; have o := h.out; refine ⟨hi, hn, ?_, ?_⟩
 . unfold fC fB; omega
 . unfold nH Bf; omega
theorem xF : m7 (cX T l) = true /\ aQ ((cTr T).map eI) = true /\ ((cX T l).room <= 1099511627776 /\ (cX T l).ar <= 800000000000000) := by
 obtain ⟨p1, p2, p3, p4, p5, p6, p7, p8, p9⟩ := rM h he; obtain ⟨a1, a2, a3, a4, a5⟩ := mP h; obtain ⟨c1, c2, c3, c4⟩ := nS h he; have n1 := fA p1; have b := j5 h; have D := eZ h.xf; have r := h.res; have o := h.out; have hpe := h.period; have f := h.fee; have r0 := h.HP; have sb := (gQ (cTr T) a2.2).1; have tg : 0 <= T.b.target /\ T.b.target <= 10000 := D.target; have ad : T.b.advance <= 1099511627776 := D.advance.2; have g := E9 (n := ao 1 (cP T l).aZ) (b := T.b.target) n1.1 (by omega) tg.1 tg.2; refine ⟨zai ?_, tv (by rw [zba]; exact a2.1) fun d hd => ?_, ?_, ?_⟩
 . simp only [cX, tJ]; omega
 . obtain ⟨x, hx, rfl⟩ := zbr.1 hd; have g := cj (a2.2 x hx); have gb := EE (a2.2 x hx); simp only [jI, eI, zab, et, iB]; clear p1 p2 p3 p4 p5 p6 p7 p8 p9 a1 a3 a4 a5 c1 c2 c3 c4 D r o f r0 sb tg ad b n1 hpe; exact ⟨rfl, zai (by omega)⟩
 . simp only [cX, tJ]; omega
 . simp only [cX]; omega
end
section
variable {T : ae} {l : List Dat} (h : lM T) (hp : T.n.period < 600) (he : (cP T l).e = 0)
include h
theorem qh : eu (ff (iF T) T.n.mode) = true := by
 have D := eZ h.xf; have m := h.mode; unfold ff
 by_cases m0 : T.n.mode = 0
 . rw [if_pos m0]; exact D.s0
 rw [if_neg m0]
 by_cases m1 : T.n.mode = 1
 . rw [if_pos m1]; exact D.s1
 rw [if_neg m1, if_pos (by omega)]; exact D.s2
include he
theorem w7 : Kept (cX T l) ((cTr T).map eI) (dm T l).2.2 (dm T l).1 (dm T l).2.1 /\ (∀ d ∈ (dm T l).2.2, GL T.tr.length 0 (ff (iF T) T.n.mode) d) /\ m7 (dm T l).1 = true /\ aQ (dm T l).2.1 = true /\ (dm T l).2.2.length <= 128000 := by
 obtain ⟨x1, x2, x3, x4⟩ := xF h he; have k := wa (ff (iF T) T.n.mode) 0 (cX T l) _ x1 x2; have o := CO (ff (iF T) T.n.mode) 0 (cX T l) _ x1 x2; have sl := ja (qh h); have e : ((cTr T).map eI).length = T.tr.length := by rw [zba, sk h]
 rw [e] at k; exact ⟨k.1, k.2.1, o.1, o.2.1, by have := o.2.2.2; unfold dm; omega⟩
theorem tH : (∀ d ∈ (dm T l).2.2, 1 <= d.i 3 /\ ((d.i 1 = 1 \/ d.i 1 = 2 \/ d.i 1 = 6) \/ (0 <= d.i 2 /\ d.i 2 < (T.tr.length : Int)))) /\ ao 3 (dm T l).2.2 <= 800000000000000 /\
 (0 <= bn kF (dm T l).2.2 /\ bn kF (dm T l).2.2 <= T.n.fee + oB T) /\ (0 <= bn kR (dm T l).2.2 /\ bn kR (dm T l).2.2 <= T.n.out) /\ (0 <= bn kT (dm T l).2.2 /\ bn kT (dm T l).2.2 <= (cX T l).room) /\
 ∀ i, i < T.tr.length -> (0 <= bn (toB i) (dm T l).2.2 /\ bn (toB i) (dm T l).2.2 <= bj (ag (cTr T) i)) /\ (0 <= bn (toI i) (dm T l).2.2 /\ bn (toI i) (dm T l).2.2 <= (ag (cTr T) i).i 5) := by
 obtain ⟨k, p, g, c, _⟩ := w7 h he; obtain ⟨x1, x2, x3, x4⟩ := xF h he; have g := rR g; have hpp : ∀ d ∈ (dm T l).2.2, 1 <= d.i 3 /\ ((d.i 1 = 1 \/ d.i 1 = 2 \/ d.i 1 = 6) \/ (0 <= d.i 2 /\ d.i 2 < (T.tr.length : Int))) := fun d hd => by
  obtain ⟨_, _, h1, h2, h3, h4⟩ := p d hd; refine ⟨h2, ?_⟩; rw [<- h1] at h4
  by_cases hn : d.i 2 < 0
  . exact .inl (h4.1 hn)
  . exact .inr (by omega)
 have n0 := fun f => mc f (dm T l).2.2 fun d hd => by have := (hpp d hd).1; omega
 have kf := k.fee; have kr := k.bJ; have kt := k.room; have kc := k.ar; have e1 : (cX T l).fee = T.n.fee + oB T := rfl; have e2 : (cX T l).bJ = T.n.out := rfl; refine ⟨hpp, by omega, ⟨n0 _, by omega⟩, ⟨n0 _, by omega⟩, ⟨n0 _, by omega⟩, fun i hi => ?_⟩; have hl := sk h; have hr := k.row i (by rw [zba]; omega); rw [En (by omega)] at hr; have hc := cm ((bL c).2 _ (vi (l := (dm T l).2.1) (j := i) (by rw [k.len, zba]; omega))); rw [hr] at hc; have b1 : (eI (ag (cTr T) i)).i 1 = bj (ag (cTr T) i) := rfl; have b2 : (eI (ag (cTr T) i)).i 2 = (ag (cTr T) i).i 5 := rfl; simp only [et, iB, b1, b2] at hc; exact ⟨⟨n0 _, by omega⟩, ⟨n0 _, by omega⟩⟩
theorem k9 : (di T l).1 = { T.n with fee := T.n.fee + oB T - bn kF (dm T l).2.2, out := T.n.out - bn kR (dm T l).2.2, rin := T.n.rin + bn kT (dm T l).2.2, bk := T.n.bk + fC T l } /\ (di T l).2.length = T.tr.length /\ dA (di T l).2 /\
 (∀ i, i < T.tr.length -> rN (ag (cTr T) i) (ag (di T l).2 i) (bn (toB i) (dm T l).2.2) (bn (toI i) (dm T l).2.2)) /\ w5 (dm T l).2.2 (cN1 T l) (cTr T) = true := by
 obtain ⟨s1, s2, s3, s4, s5, s6⟩ := tH h he; obtain ⟨k, p, g, c, pl⟩ := w7 h he; obtain ⟨a1, a2, a3, a4, a5⟩ := mP h; obtain ⟨c1, c2, c3, c4⟩ := nS h he; have hl := sk h; obtain ⟨d1, d2, d3⟩ := vF (dm T l).2.2 (cN1 T l) (cTr T) (fun d hd => by have := (s1 d hd).1; omega) (fun d hd => by rw [hl]; exact (s1 d hd).2) (fun i hi => by have := s6 i (by omega); omega); have f := h.fee; have o := h.out; have r := h.res; have hpe := h.period; have ad : T.b.advance <= 1099511627776 := (eZ h.xf).advance.2; have hg : dA (di T l).2 := by
  have hdl : (di T l).2.length = (cTr T).length := d2; refine ⟨by have := a2.1; omega, fun d hd => ?_⟩; obtain ⟨i, hi, rfl⟩ := o9 hd; obtain ⟨_, e1, _, e3, e4, e5, e6⟩ := d3 i (by omega); have := s6 i (by omega); have gi := cj (cn (c := cTr T) (i := i) (by omega) a2.2); have e1' : (ag (di T l).2 i).i 1 = (ag (cTr T) i).i 1 := e1; have e3' : (ag (di T l).2 i).i 3 = (ag (cTr T) i).i 3 + bn (toB i) (dm T l).2.2 := e3; have e4' : (ag (di T l).2 i).i 4 = (ag (cTr T) i).i 4 := e4; have e5' : (ag (di T l).2 i).i 5 = (ag (cTr T) i).i 5 - bn (toI i) (dm T l).2.2 := e5; have e6' : (ag (di T l).2 i).i 6 = (ag (cTr T) i).i 6 := e6; refine zai ?_
  rw [e1', e3', e4', e5', e6']; unfold bj at this; omega
 refine ⟨d1, d2.trans hl, hg, fun i hi => d3 i (by omega), ?_⟩; simp only [w5, zab, zag, zan]; refine ⟨by omega, fun d hd => ?_, ⟨by omega, ?_⟩, a2⟩
 . have := s1 d hd; simp only [E2, zab, zbh, zag, hl]; exact ⟨by omega, this.2⟩
 . simp only [cN1]; omega
theorem Au : cN2 T l = { T.n with fee := T.n.fee + oB T - bn kF (dm T l).2.2, out := T.n.out - bn kR (dm T l).2.2 + nH T l, rin := T.n.rin + bn kT (dm T l).2.2, bk := T.n.bk + fC T l, aC := T.n.aC + (cP T l).l, aK := T.n.aK + (cP T l).r } := by
 unfold cN2; rw [(k9 h he).1]
theorem wB : 0 <= cH (bw unD (di T l).2) (ao 1 (cP T l).aZ) (cN2 T l).aC (cN2 T l).aK /\ cH (bw unD (di T l).2) (ao 1 (cP T l).aZ) (cN2 T l).aC (cN2 T l).aK <= bw unD (di T l).2 /\
 cH (bw unD (di T l).2) (ao 1 (cP T l).aZ) (cN2 T l).aC (cN2 T l).aK <= ao 2 (cP T l).aZ /\ (cN2 T l).aC - (cN2 T l).aK = ao 2 (cP T l).aZ := by
 obtain ⟨p1, p2, p3, p4, p5, p6, p7, p8, p9⟩ := rM h he; have g := (k9 h he).2.2.1; have u := (gQ _ g.2).2.2.2.1; have t := tI (bw unD (di T l).2) (ao 1 (cP T l).aZ) (cN2 T l).aC (cN2 T l).aK; have n1 := fA p1; have hl := h.lost; have e : (cN2 T l).aC - (cN2 T l).aK = ao 2 (cP T l).aZ := by rw [Au h he]; simp only; omega
 omega
theorem E0 : dA (A7 T l) /\ ez (di T l).2 (A7 T l) /\ ao 6 (A7 T l) = cH (bw unD (di T l).2) (ao 1 (cP T l).aZ) (cN2 T l).aC (cN2 T l).aK := by
 have t := wB h he; exact EZ (k9 h he).2.2.1 t.1 t.2.1
end
def uG (T : ae) : Bool := @decide (lM T) (Classical.propDecidable _)
theorem tA {T : ae} : uG T = true ↔ lM T := by unfold uG; simp
theorem C6 {l : List Dat} (h : ∀ d ∈ l, jF d) (hl : l.length <= 1000) : (decide (l.length <= 1000) && l.all cR) = true := by
 rw [zab, zan]; exact ⟨zai hl, fun d hd => zai (by have := h d hd; unfold jF at this; omega)⟩
theorem Br {T : ae} (h : lM T) : T.bh.length < 1000000 /\ T.notes.length < 1000000 /\ T.s0.length < 1000000 /\ T.s1.length < 1000000 /\ T.s2.length < 1000000 /\ T.aZ.length < 1000000 /\ T.tr.length < 1000000 := by
 have D := eZ h.xf; have h0 := ja D.s0; have h1 := ja D.s1; have h2 := ja D.s2; have h3 := s9 h; have h4 := ij h; have h5 := wW h; have : (iF T).bh = T.bh := rfl; have := D.O2; simp only [iF] at *
 omega
theorem Ak {T : ae} (h : lM T) : (ff (iF T) T.n.mode).length <= 16 := (ja (qh h)).2
def N11 : aD := ⟨T40.tab, 11, ⟨[.np 0 0 0, .ai (sB 6)], cg 0, 0⟩, ⟨[.agg [.bool, .int .i64, .int .i64, .int .i64, .int .i64, .int .i64, .int .i64, .int .i64, .int .i64, .int .i64, .int .i64, .buf 17 4, .int .i64, .int .i64, .int .i64, .int .i64, .int .i64, .buf 18 3, .int .i64], .int .i64], [.cells [.int .i64, .int .i64, .int .i64, .buf 9 2, .buf 10 3, .int .i64, .int .i64, .int .i64, .int .i64, .int .i64, .int .i64, .int .i64, .int .i64, .int .i64, .int .i64, .buf 11 2, .buf 12 2, .buf 13 2, .ptr 14 0 0, .buf 16 7, .int .i64, .int .i64, .int .i64, .int .i64, .int .i64, .int .i64, .int .i64, .int .i64, .int .i64, .bool], .gone, .gone, .gone, .gone, .gone, .gone, .gone, .gone, .ai (sI 2), .ai (sI 3), .ai (sI 2), .ai (sI 2), .ai (sI 2), .cells [.buf 15 5], .ai (sB 4), .ai (sI 7), .ai (sI 4), .ai (sI 3)], 0⟩, []⟩
def t11 (m : Nat) : Int × List Dat × aw × az × ak × List Dat × List Dat × List Dat × List Dat × List Dat × List Dat × List Dat -> Option (List Un) := fun (a0, a1, a2, a3, a4, a5, a6, a7, a8, a9, a10, a11) =>
 chk (decide (0 <= a0)) <|
 bif a4.oZ then
 some (Uns.enc ((⟨false, 0, 0, 0, 0, 0, 0, 0, 0, 0, 0⟩ : aO) : aO) ++ Uns.enc ((⟨0, 0, 0, 0, 0⟩ : aM) : aM) ++ [.i 0, .i 5] ++ Uns.enc (a2 : aw) ++ Uns.enc (a3 : az) ++ Uns.enc (a4 : ak) ++ [.d a5, .d a6, .d a7, .d a8, .d a9, .d a10, .d a11, .d ([]), .d ([])])
 else
 chk (decide (0 <= a0)) <|
 bif (decide (a4.period >= 600)) then
 some (Uns.enc ((⟨false, 0, 0, 0, 0, 0, 0, 0, 0, 0, 0⟩ : aO) : aO) ++ Uns.enc ((⟨0, 0, 0, 0, 0⟩ : aM) : aM) ++ [.i 0, .i 4] ++ Uns.enc (a2 : aw) ++ Uns.enc (a3 : az) ++ Uns.enc (a4 : ak) ++ [.d a5, .d a6, .d a7, .d a8, .d a9, .d a10, .d a11, .d ([]), .d ([])])
 else
 chk (decide (0 <= a0) && decide (a5.length < 1000000 /\ a6.length < 1000000 /\ a7.length < 1000000 /\ a8.length < 1000000 /\ a9.length < 1000000 /\ a10.length < 1000000 /\ a11.length < 1000000)) <|
 chk (decide (0 < ([.r [.r a10]] : List Dat).length) && (decide (((ag ([.r [.r a10]] : List Dat) 0).d 0).length <= 1000) && ((ag ([.r [.r a10]] : List Dat) 0).d 0).all cR)) <|
 lt ((ao 1 ((ag ([.r [.r a10]] : List Dat) 0).d 0)) : Int) fun x2 =>
 chk (decide (a10.length < 1000000)) <|
 bif (((aB a1 a10).e) != 0) then
 some (Uns.enc ((⟨false, 0, 0, 0, 0, 0, 0, 0, 0, 0, 0⟩ : aO) : aO) ++ Uns.enc ((⟨0, 0, 0, 0, 0⟩ : aM) : aM) ++ [.i 0, .i ((aB a1 a10).e)] ++ Uns.enc (a2 : aw) ++ Uns.enc (a3 : az) ++ Uns.enc (a4 : ak) ++ [.d a5, .d a6, .d a7, .d a8, .d a9, .d a10, .d a11, .d ([]), .d ([])])
 else
 chk (decide ((1 <= a2.year /\ a2.year <= 9000 /\ 1 <= a2.month /\ a2.month <= 12) /\ (0 <= a4.period /\ a4.period <= 600) /\ (0 <= a4.fee /\ a4.fee <= 1125899906842624) /\ (0 <= x2 /\ x2 <= 1099511627776)) && (decide (a11.length <= 1000) && a11.all aI)) <|
 lt ((bw (fun d => cT a2 a4.period (bj d) (d.i 2)) a11) : Int) fun x4 =>
 lt (({ a4 with fee := a4.fee + cT a2 a4.period x2 a3.fee }) : ak) fun g5 =>
 chk (decide (0 <= 0) && (decide ((a11.map (dV a2 a4.period)).length <= 1000) && (a11.map (dV a2 a4.period)).all aI)) <|
 lt ((w64 (g5.fee + (ao 5 (a11.map (dV a2 a4.period))))) : Int) fun x6 =>
 lt ((w64 ((w64 ((w64 ((w64 (((aB a1 a10).p) + ((aB a1 a10).q))) + ((aB a1 a10).r))) + 0)) + 0)) : Int) fun x9 =>
 chk (decide (0 <= 0) && decide ((-1152921504606846976 <= (w64 (x6 - x9)) /\ (w64 (x6 - x9)) <= 1152921504606846976) /\ ((0 : Int) <= g5.bk /\ g5.bk <= g5.rin /\ g5.rin <= (1152921504606846976 : Int)) /\ (0 <= g5.out /\ g5.out <= 1152921504606846976) /\ (0 <= a3.advance /\ a3.advance <= 1152921504606846976))) <|
 lt ((fB (w64 (x6 - x9)) (g5.rin - g5.bk)) : Int) fun x10 =>
 lt ((Bf (w64 (x6 - x9)) (g5.rin - g5.bk) (a3.advance - g5.out)) : Int) fun x11 =>
 lt (({ g5 with bk := g5.bk + fB (w64 (x6 - x9)) (g5.rin - g5.bk) }) : ak) fun g12 =>
 lt ((w64 ((w64 ((w64 ((w64 (((aB a1 a10).p) + ((aB a1 a10).q))) + ((aB a1 a10).r))) + x10)) + x11)) : Int) fun x15 =>
 chk (decide (((0 <= ((aB a1 a10).p) /\ ((aB a1 a10).p) <= 1125899906842624) /\ (0 <= ((aB a1 a10).l) /\ ((aB a1 a10).l) <= 1125899906842624) /\ (0 <= ((aB a1 a10).r) /\ ((aB a1 a10).r) <= 1125899906842624)) /\ (0 <= g12.bk /\ g12.bk <= g12.rin /\ g12.rin <= 1152921504606846976)) && ((decide (((aB a1 a10).aZ).length <= 1000) && ((aB a1 a10).aZ).all cR) && (decide ((a11.map (dV a2 a4.period)).length <= 1000) && (a11.map (dV a2 a4.period)).all aI))) <|
 lt ((min (((aB a1 a10).p) + ((aB a1 a10).r) + ((aB a1 a10).l)) (bw bj (a11.map (dV a2 a4.period)))) : Int) fun x16 =>
 lt ((tJ a3.target (ao 1 ((aB a1 a10).aZ)) (g12.rin - g12.bk)) : Int) fun x17 =>
 chk (decide ((⟨a2, a5, a6, a3, a7, a8, a9⟩ : bq).s0.length < 1000000 /\ (⟨a2, a5, a6, a3, a7, a8, a9⟩ : bq).s1.length < 1000000 /\ (⟨a2, a5, a6, a3, a7, a8, a9⟩ : bq).s2.length < 1000000)) <|
 lt ((ff (⟨a2, a5, a6, a3, a7, a8, a9⟩ : bq) g12.mode) : List Dat) fun l18 =>
 chk (decide (l18.length <= 1000000) && (m7 ⟨x15, g12.fee, g12.out, x16, x17⟩ && aQ ((a11.map (dV a2 a4.period)).map eI))) <|
 lt (((dB 0 l18 ⟨x15, g12.fee, g12.out, x16, x17⟩ ((a11.map (dV a2 a4.period)).map eI)).2.2) : List Dat) fun l24 =>
 chk (decide (0 <= 0) && w5 l24 g12 (a11.map (dV a2 a4.period))) <|
 lt (((cO l24 g12 (a11.map (dV a2 a4.period))).1).out : Int) fun x26 =>
 chk (decide (((0 <= ((aB a1 a10).p) /\ ((aB a1 a10).p) <= 1125899906842624) /\ (0 <= ((aB a1 a10).l) /\ ((aB a1 a10).l) <= 1125899906842624) /\ (0 <= ((aB a1 a10).r) /\ ((aB a1 a10).r) <= 1125899906842624)) /\ (0 <= ({ ((cO l24 g12 (a11.map (dV a2 a4.period))).1) with out := (w64 (x26 + x11)) } : ak).aC /\ ({ ((cO l24 g12 (a11.map (dV a2 a4.period))).1) with out := (w64 (x26 + x11)) } : ak).aC <= 1125899906842624) /\ (0 <= ({ ((cO l24 g12 (a11.map (dV a2 a4.period))).1) with out := (w64 (x26 + x11)) } : ak).aK /\ ({ ((cO l24 g12 (a11.map (dV a2 a4.period))).1) with out := (w64 (x26 + x11)) } : ak).aK <= 1125899906842624)) && ((decide (((aB a1 a10).aZ).length <= 1000) && ((aB a1 a10).aZ).all cR) && (decide (((cO l24 g12 (a11.map (dV a2 a4.period))).2).length <= 1000) && ((cO l24 g12 (a11.map (dV a2 a4.period))).2).all aI))) <|
 lt (({ ({ ((cO l24 g12 (a11.map (dV a2 a4.period))).1) with out := (w64 (x26 + x11)) } : ak) with aC := ({ ((cO l24 g12 (a11.map (dV a2 a4.period))).1) with out := (w64 (x26 + x11)) } : ak).aC + ((aB a1 a10).l), aK := ({ ((cO l24 g12 (a11.map (dV a2 a4.period))).1) with out := (w64 (x26 + x11)) } : ak).aK + ((aB a1 a10).r) }) : ak) fun g27 =>
 lt ((fp (cH (bw unD ((cO l24 g12 (a11.map (dV a2 a4.period))).2)) (ao 1 ((aB a1 a10).aZ)) (({ ((cO l24 g12 (a11.map (dV a2 a4.period))).1) with out := (w64 (x26 + x11)) } : ak).aC + ((aB a1 a10).l)) (({ ((cO l24 g12 (a11.map (dV a2 a4.period))).1) with out := (w64 (x26 + x11)) } : ak).aK + ((aB a1 a10).r))) ((cO l24 g12 (a11.map (dV a2 a4.period))).2)) : List Dat) fun l28 =>
 chk (decide (0 <= 0) && ((decide (((aB a1 a10).aZ).length <= 1000) && ((aB a1 a10).aZ).all cR) && (decide (l28.length <= 1000) && l28.all aI))) <|
 lt ((a3.oc == 0 || bQ (ao 1 ((aB a1 a10).aZ)) (bw bj l28) a3.oc) : Bool) fun x32 =>
 lt ((a3.ic == 0 || bQ (min ((aB a1 a10).q) 1099511627776) (min x4 1099511627776) a3.ic) : Bool) fun x33 =>
 lt ((a3.late == 0 || cC (cq 2 ((aB a1 a10).aZ) + cq 3 ((aB a1 a10).aZ)) (ao 1 ((aB a1 a10).aZ)) a3.late) : Bool) fun x34 =>
 lt ((a3.nm == 0 || cC (w64 (g27.aC - g27.aK)) (((cr (⟨a2, a5, a6, a3, a7, a8, a9⟩ : bq)).getD (0, 0)).1) a3.nm) : Bool) fun x35 =>
 chk (decide (0 <= g27.bf /\ g27.bf <= 1000000)) <|
 chk (decide (0 <= a0)) <|
 chk (decide (0 <= a0) && (decide (0 <= ({ g27 with mode := (dE g27.mode g27.bf a3.eK x32 x33 x34 x35).1, bf := (dE g27.mode g27.bf a3.eK x32 x33 x34 x35).2, period := (w64 (g27.period + 1)) } : ak).bk /\ ({ g27 with mode := (dE g27.mode g27.bf a3.eK x32 x33 x34 x35).1, bf := (dE g27.mode g27.bf a3.eK x32 x33 x34 x35).2, period := (w64 (g27.period + 1)) } : ak).bk <= ({ g27 with mode := (dE g27.mode g27.bf a3.eK x32 x33 x34 x35).1, bf := (dE g27.mode g27.bf a3.eK x32 x33 x34 x35).2, period := (w64 (g27.period + 1)) } : ak).rin /\ ({ g27 with mode := (dE g27.mode g27.bf a3.eK x32 x33 x34 x35).1, bf := (dE g27.mode g27.bf a3.eK x32 x33 x34 x35).2, period := (w64 (g27.period + 1)) } : ak).rin <= 1152921504606846976) && ((decide (((aB a1 a10).aZ).length <= 1000) && ((aB a1 a10).aZ).all cR) && (decide (l28.length <= 1000) && l28.all aI)))) <|
 some (Uns.enc ((⟨false, (w64 (a4.period + 1)), a4.mode, (aB a1 a10).p, (aB a1 a10).q, (aB a1 a10).l, (aB a1 a10).r, x10, x11, (cT a2 a4.period x2 a3.fee), x4⟩ : aO) : aO) ++ Uns.enc ((⟨(⟨((dB 0 l18 ⟨x15, g12.fee, g12.out, x16, x17⟩ ((a11.map (dV a2 a4.period)).map eI)).1.ar), 0, 0, 0, 0⟩ : aM).bx, ao 1 ((aB a1 a10).aZ), ({ g27 with mode := (dE g27.mode g27.bf a3.eK x32 x33 x34 x35).1, bf := (dE g27.mode g27.bf a3.eK x32 x33 x34 x35).2, period := (w64 (g27.period + 1)) } : ak).rin - ({ g27 with mode := (dE g27.mode g27.bf a3.eK x32 x33 x34 x35).1, bf := (dE g27.mode g27.bf a3.eK x32 x33 x34 x35).2, period := (w64 (g27.period + 1)) } : ak).bk, ({ g27 with mode := (dE g27.mode g27.bf a3.eK x32 x33 x34 x35).1, bf := (dE g27.mode g27.bf a3.eK x32 x33 x34 x35).2, period := (w64 (g27.period + 1)) } : ak).out, ({ g27 with mode := (dE g27.mode g27.bf a3.eK x32 x33 x34 x35).1, bf := (dE g27.mode g27.bf a3.eK x32 x33 x34 x35).2, period := (w64 (g27.period + 1)) } : ak).fee⟩ : aM) : aM) ++ [.i (({ g27 with mode := (dE g27.mode g27.bf a3.eK x32 x33 x34 x35).1, bf := (dE g27.mode g27.bf a3.eK x32 x33 x34 x35).2, period := (w64 (g27.period + 1)) } : ak).mode), .i 0] ++ Uns.enc (a2 : aw) ++ Uns.enc (a3 : az) ++ Uns.enc (({ g27 with mode := (dE g27.mode g27.bf a3.eK x32 x33 x34 x35).1, bf := (dE g27.mode g27.bf a3.eK x32 x33 x34 x35).2, period := (w64 (g27.period + 1)) } : ak) : ak) ++ [.d a5, .d a6, .d a7, .d a8, .d a9, .d ((aB a1 a10).aZ), .d l28, .d l24, .d (l28.map BC)])
def f11 : Int × List Dat × aw × az × ak × List Dat × List Dat × List Dat × List Dat × List Dat × List Dat × List Dat -> Bool × List Un := fun (a0, a1, a2, a3, a4, a5, a6, a7, a8, a9, a10, a11) => (decide (0 <= a0) && uG (⟨a2, a3, a4, a5, a6, a7, a8, a9, a10, a11⟩ : ae), Uns.enc (((aU (⟨a2, a3, a4, a5, a6, a7, a8, a9, a10, a11⟩ : ae) a1).ra) : aO) ++ Uns.enc (((aU (⟨a2, a3, a4, a5, a6, a7, a8, a9, a10, a11⟩ : ae) a1).rb) : aM) ++ [.i ((aU (⟨a2, a3, a4, a5, a6, a7, a8, a9, a10, a11⟩ : ae) a1).next), .i ((aU (⟨a2, a3, a4, a5, a6, a7, a8, a9, a10, a11⟩ : ae) a1).e)] ++ Uns.enc (((aU (⟨a2, a3, a4, a5, a6, a7, a8, a9, a10, a11⟩ : ae) a1).t.a) : aw) ++ Uns.enc (((aU (⟨a2, a3, a4, a5, a6, a7, a8, a9, a10, a11⟩ : ae) a1).t.b) : az) ++ Uns.enc (((aU (⟨a2, a3, a4, a5, a6, a7, a8, a9, a10, a11⟩ : ae) a1).t.n) : ak) ++ [.d ((aU (⟨a2, a3, a4, a5, a6, a7, a8, a9, a10, a11⟩ : ae) a1).t.bh), .d ((aU (⟨a2, a3, a4, a5, a6, a7, a8, a9, a10, a11⟩ : ae) a1).t.notes), .d ((aU (⟨a2, a3, a4, a5, a6, a7, a8, a9, a10, a11⟩ : ae) a1).t.s0), .d ((aU (⟨a2, a3, a4, a5, a6, a7, a8, a9, a10, a11⟩ : ae) a1).t.s1), .d ((aU (⟨a2, a3, a4, a5, a6, a7, a8, a9, a10, a11⟩ : ae) a1).t.s2), .d ((aU (⟨a2, a3, a4, a5, a6, a7, a8, a9, a10, a11⟩ : ae) a1).t.aZ), .d ((aU (⟨a2, a3, a4, a5, a6, a7, a8, a9, a10, a11⟩ : ae) a1).t.tr), .d ((aU (⟨a2, a3, a4, a5, a6, a7, a8, a9, a10, a11⟩ : ae) a1).aS), .d ((aU (⟨a2, a3, a4, a5, a6, a7, a8, a9, a10, a11⟩ : ae) a1).notes)])
set_option maxHeartbeats 4000000 in
theorem M1 (a0 : Int) (a1 : List Dat) (a2 : aw) (a3 : az) (a4 : ak) (a5 : List Dat) (a6 : List Dat) (a7 : List Dat) (a8 : List Dat) (a9 : List Dat) (a10 : List Dat) (a11 : List Dat) (hc : (decide (0 <= a0) && uG (⟨a2, a3, a4, a5, a6, a7, a8, a9, a10, a11⟩ : ae)) = true) : ∃ m, t11 m (a0, a1, a2, a3, a4, a5, a6, a7, a8, a9, a10, a11) = some (Uns.enc (((aU (⟨a2, a3, a4, a5, a6, a7, a8, a9, a10, a11⟩ : ae) a1).ra) : aO) ++ Uns.enc (((aU (⟨a2, a3, a4, a5, a6, a7, a8, a9, a10, a11⟩ : ae) a1).rb) : aM) ++ [.i ((aU (⟨a2, a3, a4, a5, a6, a7, a8, a9, a10, a11⟩ : ae) a1).next), .i ((aU (⟨a2, a3, a4, a5, a6, a7, a8, a9, a10, a11⟩ : ae) a1).e)] ++ Uns.enc (((aU (⟨a2, a3, a4, a5, a6, a7, a8, a9, a10, a11⟩ : ae) a1).t.a) : aw) ++ Uns.enc (((aU (⟨a2, a3, a4, a5, a6, a7, a8, a9, a10, a11⟩ : ae) a1).t.b) : az) ++ Uns.enc (((aU (⟨a2, a3, a4, a5, a6, a7, a8, a9, a10, a11⟩ : ae) a1).t.n) : ak) ++ [.d ((aU (⟨a2, a3, a4, a5, a6, a7, a8, a9, a10, a11⟩ : ae) a1).t.bh), .d ((aU (⟨a2, a3, a4, a5, a6, a7, a8, a9, a10, a11⟩ : ae) a1).t.notes), .d ((aU (⟨a2, a3, a4, a5, a6, a7, a8, a9, a10, a11⟩ : ae) a1).t.s0), .d ((aU (⟨a2, a3, a4, a5, a6, a7, a8, a9, a10, a11⟩ : ae) a1).t.s1), .d ((aU (⟨a2, a3, a4, a5, a6, a7, a8, a9, a10, a11⟩ : ae) a1).t.s2), .d ((aU (⟨a2, a3, a4, a5, a6, a7, a8, a9, a10, a11⟩ : ae) a1).t.aZ), .d ((aU (⟨a2, a3, a4, a5, a6, a7, a8, a9, a10, a11⟩ : ae) a1).t.tr), .d ((aU (⟨a2, a3, a4, a5, a6, a7, a8, a9, a10, a11⟩ : ae) a1).aS), .d ((aU (⟨a2, a3, a4, a5, a6, a7, a8, a9, a10, a11⟩ : ae) a1).notes)]) := by
 have h0 := zak (zaq.1 hc).1; have h := tA.1 (zaq.1 hc).2; clear hc; have hl := Br h; have hpl := s9 h; have hts := ij h; have hpe : 0 <= a4.period /\ a4.period <= 600 := h.period; have hpa : 0 <= a4.bf /\ a4.bf <= a4.period := h.bf; refine ⟨0, ?_⟩; unfold t11; cases ho : a4.oZ with
 | true =>
  have hC : aU (⟨a2, a3, a4, a5, a6, a7, a8, a9, a10, a11⟩ : ae) a1 = noR 5 (⟨a2, a3, a4, a5, a6, a7, a8, a9, a10, a11⟩ : ae) := by unfold aU; rw [show ((⟨a2, a3, a4, a5, a6, a7, a8, a9, a10, a11⟩ : ae)).n.oZ = true from ho]; rfl
  rw [hC]; dsimp only; exact bo (zai h0) (Gm ho rfl)
 | false =>
 dsimp only; refine bo (zai h0) (oP ho (bo (zai h0) ?_))
 by_cases hp : a4.period >= 600
 . have hC : aU (⟨a2, a3, a4, a5, a6, a7, a8, a9, a10, a11⟩ : ae) a1 = noR 4 (⟨a2, a3, a4, a5, a6, a7, a8, a9, a10, a11⟩ : ae) := by unfold aU; rw [show ((⟨a2, a3, a4, a5, a6, a7, a8, a9, a10, a11⟩ : ae)).n.oZ = false from ho, sf, bF hp]
   rw [hC, bF hp]; rfl
 rw [aE hp]; refine bo (zaq.2 ⟨zai h0, zai hl⟩) ?_
 refine bo (zaq.2 ⟨rfl, C6 (l := a10) h.HN (zaF hpl.2 (by decide))⟩) ?_
 refine kh fun x2 e2 => ?_
 obtain rfl : x2 = ao 1 a10 := e2; refine bo (zai hl.2.2.2.2.2.1) ?_
 by_cases he : (cP (⟨a2, a3, a4, a5, a6, a7, a8, a9, a10, a11⟩ : ae) a1).e = 0
 case neg =>
  have hC : aU (⟨a2, a3, a4, a5, a6, a7, a8, a9, a10, a11⟩ : ae) a1 = noR (cP (⟨a2, a3, a4, a5, a6, a7, a8, a9, a10, a11⟩ : ae) a1).e (⟨a2, a3, a4, a5, a6, a7, a8, a9, a10, a11⟩ : ae) := by unfold aU; rw [show ((⟨a2, a3, a4, a5, a6, a7, a8, a9, a10, a11⟩ : ae)).n.oZ = false from ho, sf, aE hp, og he]
  rw [hC]; exact og he
 have hC : aU (⟨a2, a3, a4, a5, a6, a7, a8, a9, a10, a11⟩ : ae) a1 = GV (⟨a2, a3, a4, a5, a6, a7, a8, a9, a10, a11⟩ : ae) a1 := by unfold aU; rw [show ((⟨a2, a3, a4, a5, a6, a7, a8, a9, a10, a11⟩ : ae)).n.oZ = false from ho, sf, aE hp, oR he]
 rw [hC]; refine Eq.trans (oR he) ?_
 have hp' : ((⟨a2, a3, a4, a5, a6, a7, a8, a9, a10, a11⟩ : ae)).n.period < 600 := by simp only; omega
 have D := eZ h.xf; have b : 0 <= ao 1 a10 /\ 0 <= ao 2 a10 /\ ao 1 a10 + ao 2 a10 + a4.aK <= 1099511627776 := j5 h; have r0 : 0 <= a4.aK := h.HP; have f : 0 <= a4.fee /\ a4.fee <= 1200000000000 * a4.period := h.fee; have o : 0 <= a4.out /\ a4.out <= a3.advance := h.out; have r : 0 <= a4.bk /\ a4.bk <= a4.rin /\ a4.rin <= 1200000000000 * (a4.period + 1) := h.res; have lo : a4.aC - a4.aK = ao 2 a10 := h.lost; obtain ⟨q1, q2, q3, q4, q5, q6, q7, q8, q9⟩ := rM h he; obtain ⟨c1, c2, c3, c4, c5⟩ := mP h; obtain ⟨m1, m2, m3, m4⟩ := nS h he; have m3 : 0 <= fC (⟨a2, a3, a4, a5, a6, a7, a8, a9, a10, a11⟩ : ae) a1 /\ fC (⟨a2, a3, a4, a5, a6, a7, a8, a9, a10, a11⟩ : ae) a1 <= a4.rin - a4.bk := ⟨m3.1, m3.2.1⟩
 have m4 : 0 <= nH (⟨a2, a3, a4, a5, a6, a7, a8, a9, a10, a11⟩ : ae) a1 /\ nH (⟨a2, a3, a4, a5, a6, a7, a8, a9, a10, a11⟩ : ae) a1 <= a3.advance - a4.out := m4; obtain ⟨x1, x2, x3, x4⟩ := xF h he; obtain ⟨d1, d2, d3, d4, d5⟩ := k9 h he; obtain ⟨t1, t2, t3⟩ := E0 h he; have u2 := Au h he; have k := Ak h; have ad : 0 <= a3.advance /\ a3.advance <= 1099511627776 := D.advance; have nq := fA q1; have hpa9 : a10.length <= 64 := hpl.2; have hqlen : (cP (⟨a2, a3, a4, a5, a6, a7, a8, a9, a10, a11⟩ : ae) a1).aZ.length <= 1000 := by
  have hq : (cP (⟨a2, a3, a4, a5, a6, a7, a8, a9, a10, a11⟩ : ae) a1).aZ.length = a10.length := by have := congrArg List.length q2; simpa using this
  omega
 have hpo := C6 q1 hqlen; have s5 := (gQ _ c2.2).2.1; have st := tH h he; have q3 : ao 1 (cP (⟨a2, a3, a4, a5, a6, a7, a8, a9, a10, a11⟩ : ae) a1).aZ = ao 1 a10 - (cP (⟨a2, a3, a4, a5, a6, a7, a8, a9, a10, a11⟩ : ae) a1).p - (cP (⟨a2, a3, a4, a5, a6, a7, a8, a9, a10, a11⟩ : ae) a1).l := q3; have q4 : ao 2 (cP (⟨a2, a3, a4, a5, a6, a7, a8, a9, a10, a11⟩ : ae) a1).aZ = ao 2 a10 + (cP (⟨a2, a3, a4, a5, a6, a7, a8, a9, a10, a11⟩ : ae) a1).l - (cP (⟨a2, a3, a4, a5, a6, a7, a8, a9, a10, a11⟩ : ae) a1).r := q4; have stT := st.2.2.2.2.1; have stR : 0 <= bn kR (dm (⟨a2, a3, a4, a5, a6, a7, a8, a9, a10, a11⟩ : ae) a1).2.2 /\ bn kR (dm (⟨a2, a3, a4, a5, a6, a7, a8, a9, a10, a11⟩ : ae) a1).2.2 <= a4.out := st.2.2.2.1; have s5l : ao 5 (cTr (⟨a2, a3, a4, a5, a6, a7, a8, a9, a10, a11⟩ : ae)) <= 1125899906842624000 := by have := c2.1; omega
 refine bo (zaq.2 ⟨zai ⟨⟨D.year.1, D.year.2, D.month.1, D.month.2⟩, hpe, ⟨f.1, by omega⟩, b.1, by omega⟩, eE (AM h)⟩) ?_
 refine kh fun x3' e3 => ?_
 obtain rfl : x3' = ED (⟨a2, a3, a4, a5, a6, a7, a8, a9, a10, a11⟩ : ae) := e3; refine kh fun g4 e4 => ?_
 obtain rfl : g4 = { a4 with fee := a4.fee + oB (⟨a2, a3, a4, a5, a6, a7, a8, a9, a10, a11⟩ : ae) } := e4; refine bo (zaq.2 ⟨rfl, eE c2⟩) ?_
 refine kh fun x5 e5 => ?_
 obtain rfl : x5 = a4.fee + oB (⟨a2, a3, a4, a5, a6, a7, a8, a9, a10, a11⟩ : ae) + ao 5 (cTr (⟨a2, a3, a4, a5, a6, a7, a8, a9, a10, a11⟩ : ae)) := e5.trans (aa (n := a4.fee + oB (⟨a2, a3, a4, a5, a6, a7, a8, a9, a10, a11⟩ : ae) + ao 5 (cTr (⟨a2, a3, a4, a5, a6, a7, a8, a9, a10, a11⟩ : ae))) (by omega) (by omega)); refine kh fun x8 e8 => ?_
 obtain rfl : x8 = cIn (⟨a2, a3, a4, a5, a6, a7, a8, a9, a10, a11⟩ : ae) a1 := e8.trans (by
  have i := m1; unfold cIn at i ⊢; rw [show w64 ((aB a1 a10).p + (aB a1 a10).q) = (cP (⟨a2, a3, a4, a5, a6, a7, a8, a9, a10, a11⟩ : ae) a1).p + (cP (⟨a2, a3, a4, a5, a6, a7, a8, a9, a10, a11⟩ : ae) a1).q from aa (by show _ <= (cP (⟨a2, a3, a4, a5, a6, a7, a8, a9, a10, a11⟩ : ae) a1).p + (cP (⟨a2, a3, a4, a5, a6, a7, a8, a9, a10, a11⟩ : ae) a1).q; omega) (by show (cP (⟨a2, a3, a4, a5, a6, a7, a8, a9, a10, a11⟩ : ae) a1).p + (cP (⟨a2, a3, a4, a5, a6, a7, a8, a9, a10, a11⟩ : ae) a1).q <= _; omega)]; rw [show w64 ((cP (⟨a2, a3, a4, a5, a6, a7, a8, a9, a10, a11⟩ : ae) a1).p + (cP (⟨a2, a3, a4, a5, a6, a7, a8, a9, a10, a11⟩ : ae) a1).q + (aB a1 a10).r) = (cP (⟨a2, a3, a4, a5, a6, a7, a8, a9, a10, a11⟩ : ae) a1).p + (cP (⟨a2, a3, a4, a5, a6, a7, a8, a9, a10, a11⟩ : ae) a1).q + (cP (⟨a2, a3, a4, a5, a6, a7, a8, a9, a10, a11⟩ : ae) a1).r from aa (by show _ <= (cP (⟨a2, a3, a4, a5, a6, a7, a8, a9, a10, a11⟩ : ae) a1).p + (cP (⟨a2, a3, a4, a5, a6, a7, a8, a9, a10, a11⟩ : ae) a1).q + (cP (⟨a2, a3, a4, a5, a6, a7, a8, a9, a10, a11⟩ : ae) a1).r; omega) (by show (cP (⟨a2, a3, a4, a5, a6, a7, a8, a9, a10, a11⟩ : ae) a1).p + (cP (⟨a2, a3, a4, a5, a6, a7, a8, a9, a10, a11⟩ : ae) a1).q + (cP (⟨a2, a3, a4, a5, a6, a7, a8, a9, a10, a11⟩ : ae) a1).r <= _; omega)]; have w : w64 ((cP (⟨a2, a3, a4, a5, a6, a7, a8, a9, a10, a11⟩ : ae) a1).p + (cP (⟨a2, a3, a4, a5, a6, a7, a8, a9, a10, a11⟩ : ae) a1).q + (cP (⟨a2, a3, a4, a5, a6, a7, a8, a9, a10, a11⟩ : ae) a1).r) = (cP (⟨a2, a3, a4, a5, a6, a7, a8, a9, a10, a11⟩ : ae) a1).p + (cP (⟨a2, a3, a4, a5, a6, a7, a8, a9, a10, a11⟩ : ae) a1).q + (cP (⟨a2, a3, a4, a5, a6, a7, a8, a9, a10, a11⟩ : ae) a1).r := aa (by omega) (by omega); simp only [zbT, w])
 have en : w64 (a4.fee + oB (⟨a2, a3, a4, a5, a6, a7, a8, a9, a10, a11⟩ : ae) + ao 5 (cTr (⟨a2, a3, a4, a5, a6, a7, a8, a9, a10, a11⟩ : ae)) - cIn (⟨a2, a3, a4, a5, a6, a7, a8, a9, a10, a11⟩ : ae) a1) = my (⟨a2, a3, a4, a5, a6, a7, a8, a9, a10, a11⟩ : ae) a1 := aa (by show _ <= my (⟨a2, a3, a4, a5, a6, a7, a8, a9, a10, a11⟩ : ae) a1; omega) (by show my (⟨a2, a3, a4, a5, a6, a7, a8, a9, a10, a11⟩ : ae) a1 <= _; omega); rw [en]; refine bo (zaq.2 ⟨rfl, zai ⟨by omega, ⟨r.1, r.2.1, by show a4.rin <= _; omega⟩, ⟨o.1, by show a4.out <= _; omega⟩, D.advance.1, by omega⟩⟩) ?_
 refine kh fun x9 e9 => ?_
 obtain rfl : x9 = fC (⟨a2, a3, a4, a5, a6, a7, a8, a9, a10, a11⟩ : ae) a1 := e9; refine kh fun x10 e10 => ?_
 obtain rfl : x10 = nH (⟨a2, a3, a4, a5, a6, a7, a8, a9, a10, a11⟩ : ae) a1 := e10; refine kh fun g11 e11 => ?_
 obtain rfl : g11 = cN1 (⟨a2, a3, a4, a5, a6, a7, a8, a9, a10, a11⟩ : ae) a1 := e11; refine kh fun x14 e14 => ?_
 obtain rfl : x14 = (cX (⟨a2, a3, a4, a5, a6, a7, a8, a9, a10, a11⟩ : ae) a1).ar := e14.trans (by
  have i := m1; have z : (cX (⟨a2, a3, a4, a5, a6, a7, a8, a9, a10, a11⟩ : ae) a1).ar = cIn (⟨a2, a3, a4, a5, a6, a7, a8, a9, a10, a11⟩ : ae) a1 + fC (⟨a2, a3, a4, a5, a6, a7, a8, a9, a10, a11⟩ : ae) a1 + nH (⟨a2, a3, a4, a5, a6, a7, a8, a9, a10, a11⟩ : ae) a1 := rfl; rw [z]; unfold cIn at i ⊢; rw [show w64 ((aB a1 a10).p + (aB a1 a10).q) = (cP (⟨a2, a3, a4, a5, a6, a7, a8, a9, a10, a11⟩ : ae) a1).p + (cP (⟨a2, a3, a4, a5, a6, a7, a8, a9, a10, a11⟩ : ae) a1).q from aa (by show _ <= (cP (⟨a2, a3, a4, a5, a6, a7, a8, a9, a10, a11⟩ : ae) a1).p + (cP (⟨a2, a3, a4, a5, a6, a7, a8, a9, a10, a11⟩ : ae) a1).q; omega) (by show (cP (⟨a2, a3, a4, a5, a6, a7, a8, a9, a10, a11⟩ : ae) a1).p + (cP (⟨a2, a3, a4, a5, a6, a7, a8, a9, a10, a11⟩ : ae) a1).q <= _; omega)]; rw [show w64 ((cP (⟨a2, a3, a4, a5, a6, a7, a8, a9, a10, a11⟩ : ae) a1).p + (cP (⟨a2, a3, a4, a5, a6, a7, a8, a9, a10, a11⟩ : ae) a1).q + (aB a1 a10).r) = (cP (⟨a2, a3, a4, a5, a6, a7, a8, a9, a10, a11⟩ : ae) a1).p + (cP (⟨a2, a3, a4, a5, a6, a7, a8, a9, a10, a11⟩ : ae) a1).q + (cP (⟨a2, a3, a4, a5, a6, a7, a8, a9, a10, a11⟩ : ae) a1).r from aa (by show _ <= (cP (⟨a2, a3, a4, a5, a6, a7, a8, a9, a10, a11⟩ : ae) a1).p + (cP (⟨a2, a3, a4, a5, a6, a7, a8, a9, a10, a11⟩ : ae) a1).q + (cP (⟨a2, a3, a4, a5, a6, a7, a8, a9, a10, a11⟩ : ae) a1).r; omega) (by show (cP (⟨a2, a3, a4, a5, a6, a7, a8, a9, a10, a11⟩ : ae) a1).p + (cP (⟨a2, a3, a4, a5, a6, a7, a8, a9, a10, a11⟩ : ae) a1).q + (cP (⟨a2, a3, a4, a5, a6, a7, a8, a9, a10, a11⟩ : ae) a1).r <= _; omega)]; rw [aa (n := (cP (⟨a2, a3, a4, a5, a6, a7, a8, a9, a10, a11⟩ : ae) a1).p + (cP (⟨a2, a3, a4, a5, a6, a7, a8, a9, a10, a11⟩ : ae) a1).q + (cP (⟨a2, a3, a4, a5, a6, a7, a8, a9, a10, a11⟩ : ae) a1).r + fC (⟨a2, a3, a4, a5, a6, a7, a8, a9, a10, a11⟩ : ae) a1) (by omega) (by omega), aa (n := (cP (⟨a2, a3, a4, a5, a6, a7, a8, a9, a10, a11⟩ : ae) a1).p + (cP (⟨a2, a3, a4, a5, a6, a7, a8, a9, a10, a11⟩ : ae) a1).q + (cP (⟨a2, a3, a4, a5, a6, a7, a8, a9, a10, a11⟩ : ae) a1).r + fC (⟨a2, a3, a4, a5, a6, a7, a8, a9, a10, a11⟩ : ae) a1 + nH (⟨a2, a3, a4, a5, a6, a7, a8, a9, a10, a11⟩ : ae) a1) (by omega) (by omega)])
 have c1r : (0 <= (cN1 (⟨a2, a3, a4, a5, a6, a7, a8, a9, a10, a11⟩ : ae) a1).bk /\ (cN1 (⟨a2, a3, a4, a5, a6, a7, a8, a9, a10, a11⟩ : ae) a1).bk <= (cN1 (⟨a2, a3, a4, a5, a6, a7, a8, a9, a10, a11⟩ : ae) a1).rin /\ (cN1 (⟨a2, a3, a4, a5, a6, a7, a8, a9, a10, a11⟩ : ae) a1).rin <= 1152921504606846976) := by
  show 0 <= a4.bk + fC (⟨a2, a3, a4, a5, a6, a7, a8, a9, a10, a11⟩ : ae) a1 /\ a4.bk + fC (⟨a2, a3, a4, a5, a6, a7, a8, a9, a10, a11⟩ : ae) a1 <= a4.rin /\ a4.rin <= _; omega
 refine bo (zaq.2 ⟨zai ⟨⟨⟨q5, by show (cP (⟨a2, a3, a4, a5, a6, a7, a8, a9, a10, a11⟩ : ae) a1).p <= _; omega⟩, ⟨q6, by show (cP (⟨a2, a3, a4, a5, a6, a7, a8, a9, a10, a11⟩ : ae) a1).l <= _; omega⟩, q7, by show (cP (⟨a2, a3, a4, a5, a6, a7, a8, a9, a10, a11⟩ : ae) a1).r <= _; omega⟩, c1r⟩, zaq.2 ⟨hpo, eE c2⟩⟩) ?_
 refine kh fun x15 e15 => ?_
 obtain rfl : x15 = (cX (⟨a2, a3, a4, a5, a6, a7, a8, a9, a10, a11⟩ : ae) a1).aj := e15; refine kh fun x16 e16 => ?_
 obtain rfl : x16 = (cX (⟨a2, a3, a4, a5, a6, a7, a8, a9, a10, a11⟩ : ae) a1).room := e16; refine bo (zai ⟨hl.2.2.1, hl.2.2.2.1, hl.2.2.2.2.1⟩) ?_
 refine kh fun l17 e17 => ?_
 obtain rfl : l17 = ff (iF (⟨a2, a3, a4, a5, a6, a7, a8, a9, a10, a11⟩ : ae)) ((⟨a2, a3, a4, a5, a6, a7, a8, a9, a10, a11⟩ : ae)).n.mode := e17; refine bo (zaq.2 ⟨zai (by omega), zaq.2 ⟨x1, x2⟩⟩) ?_
 refine kh fun l23 e23 => ?_
 obtain rfl : l23 = (dm (⟨a2, a3, a4, a5, a6, a7, a8, a9, a10, a11⟩ : ae) a1).2.2 := e23; refine bo d5 ?_
 refine kh fun x25 e25 => ?_
 obtain rfl : x25 = (di (⟨a2, a3, a4, a5, a6, a7, a8, a9, a10, a11⟩ : ae) a1).1.out := e25; have eo : w64 ((di (⟨a2, a3, a4, a5, a6, a7, a8, a9, a10, a11⟩ : ae) a1).1.out + nH (⟨a2, a3, a4, a5, a6, a7, a8, a9, a10, a11⟩ : ae) a1) = (cN2 (⟨a2, a3, a4, a5, a6, a7, a8, a9, a10, a11⟩ : ae) a1).out := by
  refine Eq.trans (aa ?_ ?_) rfl
  . rw [d1]; show _ <= a4.out - bn kR (dm (⟨a2, a3, a4, a5, a6, a7, a8, a9, a10, a11⟩ : ae) a1).2.2 + nH (⟨a2, a3, a4, a5, a6, a7, a8, a9, a10, a11⟩ : ae) a1; omega
  . rw [d1]; show a4.out - bn kR (dm (⟨a2, a3, a4, a5, a6, a7, a8, a9, a10, a11⟩ : ae) a1).2.2 + nH (⟨a2, a3, a4, a5, a6, a7, a8, a9, a10, a11⟩ : ae) a1 <= _; omega
 rw [eo]; refine bo (zaq.2 ⟨zai ⟨⟨⟨q5, by show (cP (⟨a2, a3, a4, a5, a6, a7, a8, a9, a10, a11⟩ : ae) a1).p <= _; omega⟩, ⟨q6, by show (cP (⟨a2, a3, a4, a5, a6, a7, a8, a9, a10, a11⟩ : ae) a1).l <= _; omega⟩, q7, by show (cP (⟨a2, a3, a4, a5, a6, a7, a8, a9, a10, a11⟩ : ae) a1).r <= _; omega⟩, ⟨by show 0 <= (di (⟨a2, a3, a4, a5, a6, a7, a8, a9, a10, a11⟩ : ae) a1).1.aC; rw [d1]; show 0 <= a4.aC; omega, by show (di (⟨a2, a3, a4, a5, a6, a7, a8, a9, a10, a11⟩ : ae) a1).1.aC <= _; rw [d1]; show a4.aC <= _; omega⟩, by show 0 <= (di (⟨a2, a3, a4, a5, a6, a7, a8, a9, a10, a11⟩ : ae) a1).1.aK; rw [d1]; exact r0, by show (di (⟨a2, a3, a4, a5, a6, a7, a8, a9, a10, a11⟩ : ae) a1).1.aK <= _; rw [d1]; show a4.aK <= _; omega⟩, zaq.2 ⟨hpo, eE d3⟩⟩) ?_
 refine kh fun g26 e26 => ?_
 obtain rfl : g26 = cN2 (⟨a2, a3, a4, a5, a6, a7, a8, a9, a10, a11⟩ : ae) a1 := e26; refine kh fun l27 e27 => ?_
 obtain rfl : l27 = A7 (⟨a2, a3, a4, a5, a6, a7, a8, a9, a10, a11⟩ : ae) a1 := e27; refine bo (zaq.2 ⟨rfl, zaq.2 ⟨hpo, eE t1⟩⟩) ?_
 refine kh fun x31 e31 => ?_
 refine kh fun x32 e32 => ?_
 refine kh fun x33 e33 => ?_
 refine kh fun x34 e34 => ?_
 have g4 := (wB h he).2.2.2; have el : w64 ((cN2 (⟨a2, a3, a4, a5, a6, a7, a8, a9, a10, a11⟩ : ae) a1).aC - (cN2 (⟨a2, a3, a4, a5, a6, a7, a8, a9, a10, a11⟩ : ae) a1).aK) = (cN2 (⟨a2, a3, a4, a5, a6, a7, a8, a9, a10, a11⟩ : ae) a1).aC - (cN2 (⟨a2, a3, a4, a5, a6, a7, a8, a9, a10, a11⟩ : ae) a1).aK := aa (by omega) (by omega); rw [el, show ((cr (⟨a2, a5, a6, a3, a7, a8, a9⟩ : bq)).getD (0, 0)).1 = ao 1 a5 from D.Qv] at e34; have n2m : (cN2 (⟨a2, a3, a4, a5, a6, a7, a8, a9, a10, a11⟩ : ae) a1).mode = a4.mode /\ (cN2 (⟨a2, a3, a4, a5, a6, a7, a8, a9, a10, a11⟩ : ae) a1).bf = a4.bf /\ (cN2 (⟨a2, a3, a4, a5, a6, a7, a8, a9, a10, a11⟩ : ae) a1).period = a4.period := by rw [u2]; exact ⟨rfl, rfl, rfl⟩
 have ep : w64 ((cN2 (⟨a2, a3, a4, a5, a6, a7, a8, a9, a10, a11⟩ : ae) a1).period + 1) = a4.period + 1 := by rw [n2m.2.2]; exact aa (by omega) (by omega)
 have ex : dE (cN2 (⟨a2, a3, a4, a5, a6, a7, a8, a9, a10, a11⟩ : ae) a1).mode (cN2 (⟨a2, a3, a4, a5, a6, a7, a8, a9, a10, a11⟩ : ae) a1).bf a3.eK x31 x32 x33 x34 = DW (⟨a2, a3, a4, a5, a6, a7, a8, a9, a10, a11⟩ : ae) a1 := by rw [n2m.1, n2m.2.1, e31, e32, e33, e34]; rfl
 rw [ep, ex]; refine bo (zai ?_) ?_
 . rw [n2m.2.1]; omega
 have c2r : (0 <= (cN2 (⟨a2, a3, a4, a5, a6, a7, a8, a9, a10, a11⟩ : ae) a1).bk /\ (cN2 (⟨a2, a3, a4, a5, a6, a7, a8, a9, a10, a11⟩ : ae) a1).bk <= (cN2 (⟨a2, a3, a4, a5, a6, a7, a8, a9, a10, a11⟩ : ae) a1).rin /\ (cN2 (⟨a2, a3, a4, a5, a6, a7, a8, a9, a10, a11⟩ : ae) a1).rin <= 1152921504606846976) := by
  rw [u2]; show 0 <= a4.bk + fC (⟨a2, a3, a4, a5, a6, a7, a8, a9, a10, a11⟩ : ae) a1 /\ a4.bk + fC (⟨a2, a3, a4, a5, a6, a7, a8, a9, a10, a11⟩ : ae) a1 <= a4.rin + bn kT (dm (⟨a2, a3, a4, a5, a6, a7, a8, a9, a10, a11⟩ : ae) a1).2.2 /\ a4.rin + bn kT (dm (⟨a2, a3, a4, a5, a6, a7, a8, a9, a10, a11⟩ : ae) a1).2.2 <= _; omega
 refine bo (zai h0) ?_
 refine bo (zaq.2 ⟨zai h0, zaq.2 ⟨zai c2r, zaq.2 ⟨hpo, eE t1⟩⟩⟩) ?_
 rw [show w64 (a4.period + 1) = a4.period + 1 from aa (by omega) (by omega)]; rfl
theorem Df : ER 11 (mkE N11.en N11.ex f11) := an ah T40.right (fun m => []) (t := t11) (by kernel_rfl) (fun m => aA) (fun m a => by kernel_rfl) fun (a0, a1, a2, a3, a4, a5, a6, a7, a8, a9, a10, a11) hc => M1 a0 a1 a2 a3 a4 a5 a6 a7 a8 a9 a10 a11 hc
def T11 : Tb Tryz.prog LQ TE XX := T40.add 11 _ Df
theorem tB (d : Dat) : (gx d).i 0 = d.i 0 /\ (gx d).i 1 = d.i 1 /\ (gx d).i 2 = 0 /\ (gx d).i 3 = 0 /\ (gx d).b 4 = false := ⟨rfl, rfl, rfl, rfl, rfl⟩
theorem wk : ∀ l : List Dat, ao 1 (l.map gx) = ao 1 l /\ ao 2 (l.map gx) = 0
 | [] => ⟨rfl, rfl⟩
 | d :: l => by
  obtain ⟨h1, h2⟩ := wk l; simp only [zaT, ao, h1, h2, (tB d).2.1, (tB d).2.2.1]; exact ⟨trivial, rfl⟩
theorem vJ : ∀ l : List Dat, ao 5 (l.map ql) = 0 /\ ao 6 (l.map ql) = 0
 | [] => ⟨rfl, rfl⟩
 | d :: l => by
  obtain ⟨h1, h2⟩ := vJ l; simp only [zaT, ao, h1, h2, ql, nu, nT]
  decide
theorem Hq {d : bq} (h : (cr d).isSome = true) : lM (cJ d) := by
 have D := eZ h; obtain ⟨s1, s2⟩ := wk d.bh; obtain ⟨n5, n6⟩ := vJ d.notes; refine ⟨h, ?_, fun x hx => ?_, ?_, fun x hx => ?_, ?_, ?_, zcb _, ?_, ?_, ?_, ?_, ?_, ?_, ?_⟩
 . simp only [cJ, zb7]; rfl
 . obtain ⟨y, hy, rfl⟩ := zbr.1 (show x ∈ d.notes.map ql from hx); have := D.note y hy; refine ⟨zai ?_, ?_⟩
   . show (0 <= y.i 1 /\ y.i 1 <= 1099511627776 /\ (0 : Int) <= 0 /\ (0 : Int) = 0 /\ (0 : Int) <= 0 /\ (0 : Int) + 0 <= y.i 1 /\ (0 : Int) <= 0 /\ (0 : Int) <= 1125899906842624); omega
   . show (0 : Int) <= 1200000000000 * 0; omega
 . simp only [cJ, zb7]; rfl
 . obtain ⟨y, hy, rfl⟩ := zbr.1 (show x ∈ d.bh.map gx from hx); have := D.HN y hy; obtain ⟨_, e1, e2, e3, e4⟩ := tB y; unfold jF; rw [e1, e2, e3, e4]
   and_intros <;> first | omega | (intro h; cases h; done) | (intro _; rfl)
 . show ao 1 (d.bh.map gx) + ao 2 (d.bh.map gx) + 0 <= ao 1 d.bh; omega
 . show (0 : Int) - 0 = ao 2 (d.bh.map gx); omega
 . show (0 : Int) <= 0 /\ (0 : Int) <= 600; omega
 . show (0 : Int) <= 0 /\ (0 : Int) <= 2; omega
 . show (0 : Int) <= 0 /\ (0 : Int) <= 0; omega
 . show (0 : Int) <= 0 /\ (0 : Int) <= 1200000000000 * 0; omega
 . exact ⟨zcb _, D.advance.1⟩
 . show (0 : Int) <= 0 /\ 0 <= d.b.aX /\ d.b.aX <= 1200000000000 * (0 + 1)
   have := D.aX; omega
 . show ao 6 (d.notes.map ql) <= ao 2 (d.bh.map gx); omega
theorem MN {d : bq} (h : (cr d).isSome = true) : iC d = cJ d := by unfold iC; rw [if_pos h]
def dw : bq := ⟨⟨2024, 1, 0⟩, [.r [.n 1, .n 100]], [.r [.n 0, .n 100, .n 0]], ⟨0, 0, 0, 0, 0, 0, 0, 0, 0, 0⟩, [.r [.n 3, .n 0], .r [.n 7, .n 0]], [.r [.n 3, .n 0], .r [.n 7, .n 0]], [.r [.n 3, .n 0], .r [.n 7, .n 0]]⟩
theorem sC : (cr dw).isSome = true := by kernel_rfl
theorem GN : iC dw = cJ dw := MN sC
theorem Pm : lM (cJ dw) := Hq sC
def lB : List Dat := [.r [.n 1, .n 40, .n 0, .n 0, .n 0, .n 0, .n (bI false)]]
theorem D0 : (aU (cJ dw) lB).ra = ⟨false, 1, 0, 40, 0, 0, 0, 0, 0, 0, 0⟩ /\ (aU (cJ dw) lB).rb = ⟨0, 60, 0, 0, 0⟩ /\ (aU (cJ dw) lB).next = 0 /\ (aU (cJ dw) lB).e = 0 /\ (aU (cJ dw) lB).aS = [.r [.n 1, .n 7, .n 0, .n 40]] /\ (aU (cJ dw) lB).notes = [.r [.n 60, .n 0, .n 0]] := by
 refine ⟨?_, ?_, ?_, ?_, ?_, ?_⟩ <;> kernel_rfl
def N10 : aD := ⟨T11.tab, 10, ⟨[], [], 0⟩, ⟨[.agg [.int .i64, .int .i64, .int .i64, .buf 0 2, .buf 1 3, .int .i64, .int .i64, .int .i64, .int .i64, .int .i64, .int .i64, .int .i64, .int .i64, .int .i64, .int .i64, .buf 2 2, .buf 3 2, .buf 4 2]], [.ai (sI 2), .ai (sI 3), .ai (sI 2), .ai (sI 2), .ai (sI 2)], 0⟩, []⟩
def t10 (m : Nat) : Unit -> Option (List Un) := fun _ =>
 some (Uns.enc ((⟨2024, 1, 0⟩ : aw) : aw) ++ Uns.enc ((⟨0, 0, 0, 0, 0, 0, 0, 0, 0, 0⟩ : az) : az) ++ [.d ([.r [.n 1, .n 100]] : List Dat), .d ([.r [.n 0, .n 100, .n 0]] : List Dat), .d ([.r [.n 3, .n 0], .r [.n 7, .n 0]] : List Dat), .d ([.r [.n 3, .n 0], .r [.n 7, .n 0]] : List Dat), .d ([.r [.n 3, .n 0], .r [.n 7, .n 0]] : List Dat)])
def f10 : Unit -> Bool × List Un := fun _ => (true, Uns.enc ((dw.a) : aw) ++ Uns.enc ((dw.b) : az) ++ [.d (dw.bh), .d (dw.notes), .d (dw.s0), .d (dw.s1), .d (dw.s2)])
theorem MW : ∃ m, t10 m () = some (Uns.enc ((dw.a) : aw) ++ Uns.enc ((dw.b) : az) ++ [.d (dw.bh), .d (dw.notes), .d (dw.s0), .d (dw.s1), .d (dw.s2)]) := by
 exact ⟨0, rfl⟩
theorem JH : ER 10 (mkE N10.en N10.ex f10) := an ah T11.right (fun m => []) (t := t10) (by kernel_rfl) (fun m => aA) (fun m a => by kernel_rfl) fun _ hc => MW
def T10 : Tb Tryz.prog LQ TE XX := T11.add 10 _ JH
def oi (n : Int) : List Int := [wu8 (Int.fdiv n 72057594037927936), wu8 (Int.fdiv n 281474976710656), wu8 (Int.fdiv n 1099511627776), wu8 (Int.fdiv n 4294967296), wu8 (Int.fdiv n 16777216), wu8 (Int.fdiv n 65536), wu8 (Int.fdiv n 256), wu8 (Int.fdiv n 1)]
def cN (l : List Int) : List Int := l.flatMap oi
theorem F3 : (2 : Int) ^ (min (56 : Int).toNat 64) = 72057594037927936 /\ (2 : Int) ^ (min (48 : Int).toNat 64) = 281474976710656 /\ (2 : Int) ^ (min (40 : Int).toNat 64) = 1099511627776 /\ (2 : Int) ^ (min (32 : Int).toNat 64) = 4294967296 /\ (2 : Int) ^ (min (24 : Int).toNat 64) = 16777216 /\ (2 : Int) ^ (min (16 : Int).toNat 64) = 65536 /\ (2 : Int) ^ (min (8 : Int).toNat 64) = 256 /\ (2 : Int) ^ (min (0 : Int).toNat 64) = 1 := by decide
def N48 : aD := ⟨T10.tab, 48, ⟨[.ints .i64], [], 0⟩, ⟨[.buf 0 1], [.ints .u8], 0⟩, [[0, 1, 1, 0, 0, 1, 1, 0, 0, 1, 0, 1, 1]]⟩
abbrev DF : Type := List Int × Int × Int × List Int
def xJ (m : Nat) (k : DF -> Option (List Un)) : DF -> Option (List Un) := fun (a0, a1, a2, a3) =>
 bif decide (a2 < a1) then
 chk (inb a2 a0.length) <|
 chk (decide (a2.toNat < a0.length)) <|
 lt ((Int.fdiv (a0.getD a2.toNat 0) (2 ^ (min (56 : Int).toNat 64))) : Int) fun x1 =>
 chk (fits (a3.length + 1) 1) <|
 chk (fits ((a3 ++ ([(wu8 x1)])).length + 1) 1) <|
 lt (((a3 ++ ([(wu8 x1)])) ++ ([(wu8 (Int.fdiv (a0.getD a2.toNat 0) (2 ^ (min (48 : Int).toNat 64))))])) : List Int) fun l3 =>
 lt ((Int.fdiv (a0.getD a2.toNat 0) (2 ^ (min (40 : Int).toNat 64))) : Int) fun x4 =>
 chk (fits (l3.length + 1) 1) <|
 chk (fits ((l3 ++ ([(wu8 x4)])).length + 1) 1) <|
 lt (((l3 ++ ([(wu8 x4)])) ++ ([(wu8 (Int.fdiv (a0.getD a2.toNat 0) (2 ^ (min (32 : Int).toNat 64))))])) : List Int) fun l6 =>
 lt ((Int.fdiv (a0.getD a2.toNat 0) (2 ^ (min (24 : Int).toNat 64))) : Int) fun x7 =>
 chk (fits (l6.length + 1) 1) <|
 chk (fits ((l6 ++ ([(wu8 x7)])).length + 1) 1) <|
 lt (((l6 ++ ([(wu8 x7)])) ++ ([(wu8 (Int.fdiv (a0.getD a2.toNat 0) (2 ^ (min (16 : Int).toNat 64))))])) : List Int) fun l9 =>
 lt ((Int.fdiv (a0.getD a2.toNat 0) (2 ^ (min (8 : Int).toNat 64))) : Int) fun x10 =>
 chk (fits (l9.length + 1) 1) <|
 chk (fits ((l9 ++ ([(wu8 x10)])).length + 1) 1) <|
 k (a0, a1, (w64 (a2 + 1)), ((l9 ++ ([(wu8 x10)])) ++ ([(wu8 (Int.fdiv (a0.getD a2.toNat 0) (2 ^ (min (0 : Int).toNat 64))))])))
 else
 some ([.l a3])
def wK (m : Nat) : Nat -> DF -> Option (List Un) := br (xJ m)
theorem um (m : Nat) (n : Nat) : wK m (n + 1) = xJ m (wK m n) := rfl
def HB (F : DF -> Option (List Un)) : ba := ⟨[.lp [0, 1, 0, 1, 1], .blk 0, .code [1, 1, 1]], ⟨frm 27 [(3, .buf 0 1), (7, .ints .i64), (8, .int .i64), (9, .int .i64)], [.ints .u8], 0⟩, onU F⟩
theorem O6 (m : Nat) : ∀ n, HO N48 (HB (wK m n)) := au ah T10.right (fun k => [HB k]) (fun k h => (aL h aA)) fun k a => by kernel_rfl
def t48 (m : Nat) : List Int -> Option (List Un) := fun a0 =>
 wK m m (a0, (a0.length : Int), 0, [])
theorem IZ (m : Nat) : ∀ (rest pre acc : List Int) (n : Nat), rest.length < n -> (pre ++ rest).length <= 1000000 -> acc.length = 8 * pre.length -> wK m n (pre ++ rest, ((pre ++ rest).length : Int), (pre.length : Int), acc) = some [.l (acc ++ cN rest)] := by
 intro rest
 induction rest with
 | nil =>
  intro pre acc n hn hl ha; obtain ⟨n, rfl⟩ := al n (by simp at hn; omega); rw [um]; unfold xJ; dsimp only; rw [aE (by simp)]; simp [cN]
 | cons x rest ih =>
  intro pre acc n hn hl ha; obtain ⟨n, rfl⟩ := al n (by simp at hn; omega); simp only [zac, zad] at hn hl; rw [um]; unfold xJ; dsimp only; rw [bF (by simp only [zad, zac]; omega), dT (by omega) (by simp only [zad, zac]; omega), aP (by simp)]; have hx : (pre ++ x :: rest).getD (pre.length : Int).toNat 0 = x := by simp
  obtain ⟨p1, p2, p3, p4, p5, p6, p7, p8⟩ := F3; have f : ∀ k, k <= 8 -> fits (acc.length + k) 1 = true := fun k hk => zai (by omega)
  dsimp only [lt]; simp only [hx, p1, p2, p3, p4, p5, p6, p7, p8, zad, zac, zax, zaD, za1, Nat.reduceAdd, f 1 (by decide), f 2 (by decide), f 3 (by decide), f 4 (by decide), f 5 (by decide), f 6 (by decide), f 7 (by decide), f 8 (by decide), chk, zaE]; have := ih (pre ++ [x]) (acc ++ oi x) n (by omega) (by simp; omega) (by simp [oi, ha]; omega); have e : w64 ((pre.length : Int) + 1) = ((pre ++ [x]).length : Int) := by
   rw [aa (by omega) (by omega)]; simp
  rw [e]; have e2 : acc ++ cN (x :: rest) = (acc ++ oi x) ++ cN rest := by simp [cN]
  rw [e2, <- this]; simp only [zaI, zaY, zaV, oi, zad, zac, zax, zaD, za1, Nat.add_comm 1]
def f48 : List Int -> Bool × List Un := fun a0 => (decide (a0.length <= 1000000), [.l (cN a0)])
theorem LK (a0 : List Int) (hc : (decide (a0.length <= 1000000)) = true) : ∃ m, t48 m a0 = some ([.l (cN a0)]) := by
 have hl := zak hc; refine ⟨a0.length + 1, ?_⟩; have := IZ (a0.length + 1) a0 [] [] (a0.length + 1) (by omega) (by simpa using hl) rfl; simp only [zaV] at this; exact this
theorem Iq : ER 48 (mkE N48.en N48.ex f48) := an ah T10.right (fun m => [HB (wK m m)]) (t := t48) (by kernel_rfl) (fun m => (aL (O6 m m) aA)) (fun m a => by kernel_rfl) fun a0 hc => LK a0 hc
def T48 : Tb Tryz.prog LQ TE XX := T10.add 48 _ Iq
structure RdR where
 v : Int
 o : Int
 n : Int
 bad : Bool
 l : List Int
def rdN (o n : Int) (bad : Bool) (l : List Int) : RdR := bif bad || (n.toNat : Int) == 0 then ⟨0, o.toNat, n.toNat, true, l⟩ else ⟨l.getD o.toNat 0, ((o.toNat + 1 : Nat) : Int), ((n.toNat - 1 : Nat) : Int), bad, l⟩
def rdM (o n : Int) (bad : Bool) (l : List Int) (most : Int) : RdR := let r := rdN o n bad l; bif decide (r.v < 0) || decide (r.v > most) then { r with v := 0, bad := true } else r
def N95 : aD := ⟨T48.tab, 95, ⟨[.ptr 0 0 0], [.cells [.sl 1 1, .bool], .ints .i64], 0⟩, ⟨[.int .i64], [.cells [.sl 1 1, .bool], .ints .i64], 0⟩, []⟩
def t95 (m : Nat) : Int × Int × Bool × List Int -> Option (List Un) := fun (a0, a1, a2, a3) =>
 bif a2 then
 some ([.i 0, .i (a0.toNat : Int), .i (a1.toNat : Int), .b true, .l a3])
 else
 bif (a1.toNat : Int) == 0 then
 some ([.i 0, .i (a0.toNat : Int), .i (a1.toNat : Int), .b true, .l a3])
 else
 chk (inb 0 a1.toNat) <|
 chk (decide (a0.toNat < a3.length)) <|
 chk (true && (true && decide (1 <= a1.toNat /\ a1.toNat <= a1.toNat))) <|
 some ([.i (a3.getD a0.toNat 0), .i (((a0.toNat + 1) : Nat) : Int), .i (((a1.toNat - 1) : Nat) : Int), .b a2, .l a3])
def f95 : Int × Int × Bool × List Int -> Bool × List Un := fun (a0, a1, a2, a3) => (decide (a0.toNat + a1.toNat <= a3.length), [.i ((rdN a0 a1 a2 a3).v), .i ((rdN a0 a1 a2 a3).o), .i ((rdN a0 a1 a2 a3).n), .b ((rdN a0 a1 a2 a3).bad), .l ((rdN a0 a1 a2 a3).l)])
theorem LV (a0 : Int) (a1 : Int) (a2 : Bool) (a3 : List Int) (hc : (decide (a0.toNat + a1.toNat <= a3.length)) = true) : ∃ m, t95 m (a0, a1, a2, a3) = some ([.i ((rdN a0 a1 a2 a3).v), .i ((rdN a0 a1 a2 a3).o), .i ((rdN a0 a1 a2 a3).n), .b ((rdN a0 a1 a2 a3).bad), .l ((rdN a0 a1 a2 a3).l)]) := by
 have hl := zak hc; refine ⟨0, ?_⟩; unfold t95 rdN; dsimp only; cases a2 with
 | true => rfl
 | false =>
  rw [zcc]; cases h : ((a1.toNat : Int) == 0) with
  | true => rfl
  | false =>
   have h : ¬ (a1.toNat : Int) = 0 := by simpa using h
   rw [zao, zao, zao, dT (by decide) (by omega), aP (by omega)]; exact bo (by simp; omega) rfl
theorem Dv : ER 95 (mkE N95.en N95.ex f95) := an ah T48.right (fun m => []) (t := t95) (by kernel_rfl) (fun m => aA) (fun m a => by kernel_rfl) fun (a0, a1, a2, a3) hc => LV a0 a1 a2 a3 hc
def T95 : Tb Tryz.prog LQ TE XX := T48.add 95 _ Dv
def Qr : RdR -> List Un := fun r => [.i r.v, .i r.o, .i r.n, .b r.bad, .l r.l]
def Qt : Int × Int × Bool × List Int -> Bool × RdR := fun (a0, a1, a2, a3) => (decide (a0.toNat + a1.toNat <= a3.length), (rdN a0 a1 a2 a3))
theorem FE : ER 95 (mkB N95.en N95.ex Qt Qr) := rebind Dv fun (a0, a1, a2, a3) => rfl
def MI : Tb Tryz.prog LQ TE XX := T95.add 95 _ FE
def N52 : aD := ⟨MI.tab, 52, ⟨[.ptr 0 0 0], [.cells [.sl 1 1, .bool], .ints .i64], 2⟩, ⟨[.bool], [.cells [.sl 1 1, .bool], .ints .i64], 2⟩, []⟩
def t52 (m : Nat) : Int × Int × Bool × List Int -> Option (List Un) := fun (a0, a1, a2, a3) =>
 bif !a2 then
 some ([.b ((a1.toNat : Int) == 0), .i (a0.toNat : Int), .i (a1.toNat : Int), .b a2, .l a3])
 else
 some ([.b false, .i (a0.toNat : Int), .i (a1.toNat : Int), .b a2, .l a3])
def f52 : Int × Int × Bool × List Int -> Bool × List Un := fun (a0, a1, a2, a3) => (true, [.b ((!a2 && (a1.toNat : Int) == 0)), .i ((a0.toNat : Int)), .i ((a1.toNat : Int)), .b (a2), .l (a3)])
theorem LO (a0 : Int) (a1 : Int) (a2 : Bool) (a3 : List Int) : ∃ m, t52 m (a0, a1, a2, a3) = some ([.b ((!a2 && (a1.toNat : Int) == 0)), .i ((a0.toNat : Int)), .i ((a1.toNat : Int)), .b (a2), .l (a3)]) := by
 refine ⟨0, ?_⟩; unfold t52; cases a2 <;> rfl
theorem K9 : ER 52 (mkE N52.en N52.ex f52) := an ah MI.right (fun m => []) (t := t52) (by kernel_rfl) (fun m => aA) (fun m a => by kernel_rfl) fun (a0, a1, a2, a3) hc => LO a0 a1 a2 a3
def T52 : Tb Tryz.prog LQ TE XX := MI.add 52 _ K9
def N50 : aD := ⟨T52.tab, 50, ⟨[.ints .i64], [], 0⟩, ⟨[.ptr 0 0 0], [.cells [.sl 1 1, .bool], .ints .i64], 0⟩, []⟩
def t50 (m : Nat) : List Int -> Option (List Un) := fun a0 =>
 chk (decide (a0.length < 1000000)) <|
 some ([.i 0, .i (a0.length : Int), .b false, .l a0])
def f50 : List Int -> Bool × List Un := fun a0 => (decide (a0.length < 1000000), [.i (0), .i ((a0.length : Int)), .b (false), .l (a0)])
theorem NX (a0 : List Int) (hc : (decide (a0.length < 1000000)) = true) : ∃ m, t50 m a0 = some ([.i (0), .i ((a0.length : Int)), .b (false), .l (a0)]) := by
 refine ⟨0, ?_⟩; unfold t50; exact bo hc rfl
theorem J0 : ER 50 (mkE N50.en N50.ex f50) := an ah T52.right (fun m => []) (t := t50) (by kernel_rfl) (fun m => aA) (fun m a => by kernel_rfl) fun a0 hc => NX a0 hc
def T50 : Tb Tryz.prog LQ TE XX := T52.add 50 _ J0
def N94 : aD := ⟨T50.tab, 94, ⟨[.ptr 0 0 0, .int .i64], [.cells [.sl 1 1, .bool], .ints .i64], 0⟩, ⟨[.int .i64], [.cells [.sl 1 1, .bool], .ints .i64], 0⟩, []⟩
def t94 (m : Nat) : Int × Int × Int × Bool × List Int -> Option (List Un) := fun (a0, a1, a2, a3, a4) =>
 chk (decide ((a1.toNat : Int).toNat + (a2.toNat : Int).toNat <= a4.length)) <|
 bd ((rdN (a1.toNat : Int) (a2.toNat : Int) a3 a4) : RdR) fun r1 =>
 bif decide (r1.v < 0) then
 some ([.i 0, .i (r1.o.toNat : Int), .i (r1.n.toNat : Int), .b true, .l r1.l])
 else
 bif decide (r1.v > a0) then
 some ([.i 0, .i (r1.o.toNat : Int), .i (r1.n.toNat : Int), .b true, .l r1.l])
 else
 some ([.i r1.v, .i (r1.o.toNat : Int), .i (r1.n.toNat : Int), .b r1.bad, .l r1.l])
theorem IV (o n : Int) (b : Bool) (l : List Int) : ((rdN o n b l).o.toNat : Int) = (rdN o n b l).o /\ ((rdN o n b l).n.toNat : Int) = (rdN o n b l).n := by
 unfold rdN; cases (b || (n.toNat : Int) == 0) with
 | true => exact ⟨rfl, rfl⟩
 | false => exact ⟨rfl, rfl⟩
theorem D9 (o n : Int) (b : Bool) (l : List Int) : rdN (o.toNat : Int) (n.toNat : Int) b l = rdN o n b l := rfl
def f94 : Int × Int × Int × Bool × List Int -> Bool × List Un := fun (a0, a1, a2, a3, a4) => (decide (a1.toNat + a2.toNat <= a4.length), [.i ((rdM a1 a2 a3 a4 a0).v), .i ((rdM a1 a2 a3 a4 a0).o), .i ((rdM a1 a2 a3 a4 a0).n), .b ((rdM a1 a2 a3 a4 a0).bad), .l ((rdM a1 a2 a3 a4 a0).l)])
theorem Nj (a0 : Int) (a1 : Int) (a2 : Int) (a3 : Bool) (a4 : List Int) (hc : (decide (a1.toNat + a2.toNat <= a4.length)) = true) : ∃ m, t94 m (a0, a1, a2, a3, a4) = some ([.i ((rdM a1 a2 a3 a4 a0).v), .i ((rdM a1 a2 a3 a4 a0).o), .i ((rdM a1 a2 a3 a4 a0).n), .b ((rdM a1 a2 a3 a4 a0).bad), .l ((rdM a1 a2 a3 a4 a0).l)]) := by
 have hl := zak hc; refine ⟨0, ?_⟩; unfold t94; dsimp only [bd]; refine bo (zai (by omega)) ?_
 rw [D9]; obtain ⟨n1, n2⟩ := IV a1 a2 a3 a4; rw [n1, n2]; unfold rdM; dsimp only; cases decide ((rdN a1 a2 a3 a4).v < 0) with
 | true => rfl
 | false => cases decide ((rdN a1 a2 a3 a4).v > a0) <;> rfl
theorem C5 : ER 94 (mkE N94.en N94.ex f94) := an ah T50.right (fun m => []) (t := t94) (by kernel_rfl) (fun m => aA) (fun m a => by kernel_rfl) fun (a0, a1, a2, a3, a4) hc => Nj a0 a1 a2 a3 a4 hc
def T94 : Tb Tryz.prog LQ TE XX := T50.add 94 _ C5
def QG : RdR -> List Un := fun r => [.i r.v, .i r.o, .i r.n, .b r.bad, .l r.l]
def QI : Int × Int × Int × Bool × List Int -> Bool × RdR := fun (a0, a1, a2, a3, a4) => (decide (a1.toNat + a2.toNat <= a4.length), (rdM a1 a2 a3 a4 a0))
theorem Ho : ER 94 (mkB N94.en N94.ex QI QG) := rebind C5 fun (a0, a1, a2, a3, a4) => rfl
def Jv : Tb Tryz.prog LQ TE XX := T94.add 94 _ Ho
def ru (n : Int) : Bool := decide (0 <= n) && decide (n <= 1152921504606846976)
def N54 : aD := ⟨Jv.tab, 54, ⟨[.ints .i64], [], 0⟩, ⟨[.bool], [], 0⟩, []⟩
abbrev Dl : Type := List Int × Int × Int
def xL (m : Nat) (k : Dl -> Option (List Un)) : Dl -> Option (List Un) := fun (a0, a1, a2) =>
 bif decide (a2 < a1) then
 chk (inb a2 a0.length) <|
 chk (decide (a2.toNat < a0.length)) <|
 bif (decide ((a0.getD a2.toNat 0) < 0)) then
 some ([.b false])
 else
 bif (decide ((a0.getD a2.toNat 0) > 1152921504606846976)) then
 some ([.b false])
 else
 k (a0, a1, (w64 (a2 + 1)))
 else
 some ([.b true])
def wU (m : Nat) : Nat -> Dl -> Option (List Un) := br (xL m)
theorem uw (m : Nat) (n : Nat) : wU m (n + 1) = xL m (wU m n) := rfl
def Fi (F : Dl -> Option (List Un)) : ba := ⟨[.lp [0, 1, 0, 1], .blk 0, .code [1, 1]], ⟨frm 18 [(5, .ints .i64), (6, .int .i64), (7, .int .i64)], [], 0⟩, onU F⟩
theorem Ph (m : Nat) : ∀ n, HO N54 (Fi (wU m n)) := au ah Jv.right (fun k => [Fi k]) (fun k h => (aL h aA)) fun k a => by kernel_rfl
def t54 (m : Nat) : List Int -> Option (List Un) := fun a0 =>
 wU m m (a0, (a0.length : Int), 0)
theorem Ot (m : Nat) : ∀ (rest pre : List Int) (n : Nat), rest.length < n -> (pre ++ rest).length <= 1000000 -> wU m n (pre ++ rest, ((pre ++ rest).length : Int), (pre.length : Int)) = some [.b (rest.all ru)] := by
 intro rest
 induction rest with
 | nil =>
  intro pre n hn hl; obtain ⟨n, rfl⟩ := al n (by simp at hn; omega); rw [uw]; unfold xL; dsimp only; rw [aE (by simp)]; rfl
 | cons x rest ih =>
  intro pre n hn hl; obtain ⟨n, rfl⟩ := al n (by simp at hn; omega); simp only [zac, zad] at hn hl; rw [uw]; unfold xL; dsimp only; rw [bF (by simp only [zad, zac]; omega), dT (by omega) (by simp only [zad, zac]; omega), aP (by simp)]; have hx : (pre ++ x :: rest).getD (pre.length : Int).toNat 0 = x := by simp
  have := ih (pre ++ [x]) n (by omega) (by simp; omega); have e : w64 ((pre.length : Int) + 1) = ((pre ++ [x]).length : Int) := by
   rw [aa (by omega) (by omega)]; simp
  have e3 : pre ++ x :: rest = (pre ++ [x]) ++ rest := by simp
  rw [hx, AB, yT, e, e3, this, kH, kH]; simp only [List.all_cons, ru, Bool.and_assoc]
def f54 : List Int -> Bool × List Un := fun a0 => (decide (a0.length <= 1000000), [.b (a0.all ru)])
theorem Ma (a0 : List Int) (hc : (decide (a0.length <= 1000000)) = true) : ∃ m, t54 m a0 = some ([.b (a0.all ru)]) := by
 have hl := zak hc; refine ⟨a0.length + 1, ?_⟩; exact Ot (a0.length + 1) a0 [] (a0.length + 1) (by omega) (by simpa using hl)
theorem Iy : ER 54 (mkE N54.en N54.ex f54) := an ah Jv.right (fun m => [Fi (wU m m)]) (t := t54) (by kernel_rfl) (fun m => (aL (Ph m m) aA)) (fun m a => by kernel_rfl) fun a0 hc => Ma a0 hc
def T54 : Tb Tryz.prog LQ TE XX := Jv.add 54 _ Iy
structure CD where
 ra : aO
 rb : aM
 next : Int
 aS : List Dat
 notes : List Dat
 r : RdR
def nx (r : RdR) : RdR := rdN r.o r.n r.bad r.l
def mx (r : RdR) (most : Int) : RdR := rdM r.o r.n r.bad r.l most
def jv : Nat -> RdR -> List Dat × RdR
 | 0, r => ([], r)
 | k + 1, r => let s := nx (nx (nx (nx r))); (.r [.n (nx r).v, .n (nx (nx r)).v, .n (nx (nx (nx r))).v, .n s.v] :: (jv k s).1, (jv k s).2)
def iq : Nat -> RdR -> List Dat × RdR
 | 0, r => ([], r)
 | k + 1, r => let s := nx (nx (nx r)); (.r [.n (nx r).v, .n (nx (nx r)).v, .n s.v] :: (iq k s).1, (iq k s).2)
def At (r1 r17 : RdR) : aO × aM × Int :=
 let r2 := nx r1; let r3 := nx r2; let r4 := nx r3; let r5 := nx r4; let r6 := nx r5; let r7 := nx r6; let r8 := nx r7; let r9 := nx r8; let r10 := nx r9; let r11 := nx r10; let r12 := nx r11; let r13 := nx r12; let r14 := nx r13; let r15 := nx r14; let r16 := nx r15
 (⟨r1.v == 1, r2.v, r3.v, r4.v, r5.v, r6.v, r7.v, r8.v, r9.v, r10.v, r11.v⟩, ⟨r12.v, r13.v, r14.v, r15.v, r16.v⟩, r17.v)
def dq (o n : Int) (bad : Bool) (l : List Int) : CD :=
 let r1 := rdM o n bad l 1
 let r17 := nx (nx (nx (nx (nx (nx (nx (nx (nx (nx (nx (nx (nx (nx (nx (nx r1)))))))))))))))
 let h := At r1 r17
 let r18 := mx r17 160
 let p := jv r18.v.toNat r18
 let r24 := mx p.2 8
 let q := iq r24.v.toNat r24
 ⟨h.1, h.2.1, h.2.2, p.1, q.1, q.2⟩
def RdI (r : RdR) : Prop := (r.o.toNat : Int) = r.o /\ (r.n.toNat : Int) = r.n /\ r.o.toNat + r.n.toNat <= r.l.length
theorem Lp {o n : Int} {b : Bool} {l : List Int} (h : o.toNat + n.toNat <= l.length) : RdI (rdN o n b l) /\ (rdN o n b l).l = l := by
 unfold rdN RdI; cases hb : (b || (n.toNat : Int) == 0) with
 | true => exact ⟨⟨rfl, rfl, h⟩, rfl⟩
 | false =>
  simp only [zbF, zb3] at hb; refine ⟨⟨rfl, rfl, ?_⟩, rfl⟩; simp only [zao, zaC]; omega
theorem dh {r : RdR} (h : RdI r) : RdI (nx r) := (Lp h.2.2).1
theorem Hd {o n : Int} {b : Bool} {l : List Int} {most : Int} (h : o.toNat + n.toNat <= l.length) : RdI (rdM o n b l most) := by
 have := (Lp (b := b) h).1; unfold rdM; dsimp only; cases (decide ((rdN o n b l).v < 0) || decide ((rdN o n b l).v > most)) <;> exact this
theorem KS {r : RdR} {most : Int} (h : RdI r) : RdI (mx r most) := Hd h.2.2
theorem DP {o n : Int} {b : Bool} {l : List Int} {most : Int} (hm : 0 <= most) : 0 <= (rdM o n b l most).v /\ (rdM o n b l most).v <= most := by
 unfold rdM; dsimp only; cases h : (decide ((rdN o n b l).v < 0) || decide ((rdN o n b l).v > most)) with
 | true => exact ⟨zcb _, hm⟩
 | false =>
  simp only [zbF, decide_eq_false_iff_not] at h; simp only [zao]; omega
theorem CR : ∀ (k : Nat) {r : RdR}, RdI r -> RdI (jv k r).2
 | 0, r, h => h
 | k + 1, r, h => CR k (dh (dh (dh (dh h))))
theorem C9 : ∀ (k : Nat) {r : RdR}, RdI r -> RdI (iq k r).2
 | 0, r, h => h
 | k + 1, r, h => C9 k (dh (dh (dh h)))
def N51 : aD := ⟨T54.tab, 51, ⟨[.ptr 0 0 0], [.cells [.sl 1 1, .bool], .ints .i64], 0⟩, ⟨[.agg [.bool, .int .i64, .int .i64, .int .i64, .int .i64, .int .i64, .int .i64, .int .i64, .int .i64, .int .i64, .int .i64, .buf 2 4, .int .i64, .int .i64, .int .i64, .int .i64, .int .i64, .buf 3 3, .int .i64]], [.cells [.sl 1 1, .bool], .ints .i64, .ai (sI 4), .ai (sI 3)], 0⟩, [[0, 1, 0, 1, 1, 1], [0, 1, 0, 1, 0, 0, 1, 1, 0, 0, 1, 0, 1, 1, 1, 1], [0, 1, 0, 1, 0, 0, 1, 1, 0, 0, 1, 0, 1, 1, 1, 1, 1]]⟩
abbrev DO : Type := Int × Int × Int × Int × Bool × List Int × aO × aM × Int × aO × aM × Int × List Dat × List Dat × List Dat × List Dat
abbrev CH : Type := Int × Int × Int × Int × Bool × List Int × aO × aM × Int × aO × aM × Int × List Dat × List Dat × List Dat × List Dat
def yh (m : Nat) (k : DO -> Option (List Un)) : DO -> Option (List Un) := fun (a0, a1, a2, a3, a4, a5, a6, a7, a8, a9, a10, a11, a12, a13, a14, a15) =>
 bif decide (a1 < a0) then
 chk (decide ((a2.toNat : Int).toNat + (a3.toNat : Int).toNat <= a5.length)) <|
 bd ((rdN (a2.toNat : Int) (a3.toNat : Int) a4 a5) : RdR) fun r25 =>
 chk (decide ((r25.o.toNat : Int).toNat + (r25.n.toNat : Int).toNat <= r25.l.length)) <|
 bd ((rdN (r25.o.toNat : Int) (r25.n.toNat : Int) r25.bad r25.l) : RdR) fun r26 =>
 chk (decide ((r26.o.toNat : Int).toNat + (r26.n.toNat : Int).toNat <= r26.l.length)) <|
 bd ((rdN (r26.o.toNat : Int) (r26.n.toNat : Int) r26.bad r26.l) : RdR) fun r27 =>
 chk (fits (a15.length + 1) 24) <|
 k (a0, (w64 (a1 + 1)), (r27.o.toNat : Int), (r27.n.toNat : Int), r27.bad, r27.l, a6, a7, a8, a9, a10, a11, a12, a13, a14, (a15 ++ ([.r [.n r25.v, .n r26.v, .n r27.v]])))
 else
 some (Uns.enc (a9 : aO) ++ Uns.enc (a10 : aM) ++ [.i a11, .i (a2.toNat : Int), .i (a3.toNat : Int), .b a4, .l a5, .d a14, .d a15])
def wQ (m : Nat) : Nat -> DO -> Option (List Un) := br (yh m)
theorem vj (m : Nat) (n : Nat) : wQ m (n + 1) = yh m (wQ m n) := rfl
def Hy (F : DO -> Option (List Un)) : ba := ⟨[.lp [0, 1, 0, 1, 1, 1, 1, 1], .blk 6, .code [1, 1, 1, 1, 1, 1]], ⟨frm 92 [(0, .ptr 0 0 0), (2, .ptr 2 0 0), (3, .ptr 3 0 0), (73, .int .i64), (74, .int .i64)], [.cells [.sl 1 1, .bool], .ints .i64, .cells [.bool, .int .i64, .int .i64, .int .i64, .int .i64, .int .i64, .int .i64, .int .i64, .int .i64, .int .i64, .int .i64, .buf 4 4, .int .i64, .int .i64, .int .i64, .int .i64, .int .i64, .buf 5 3, .int .i64], .cells [.bool, .int .i64, .int .i64, .int .i64, .int .i64, .int .i64, .int .i64, .int .i64, .int .i64, .int .i64, .int .i64, .buf 6 4, .int .i64, .int .i64, .int .i64, .int .i64, .int .i64, .buf 7 3, .int .i64], .ai (sI 4), .ai (sI 3), .ai (sI 4), .ai (sI 3)], 0⟩, onU F⟩
def yB (m : Nat) (k : CH -> Option (List Un)) : CH -> Option (List Un) := fun (a0, a1, a2, a3, a4, a5, a6, a7, a8, a9, a10, a11, a12, a13, a14, a15) =>
 bif decide (a1 < a0) then
 chk (decide ((a2.toNat : Int).toNat + (a3.toNat : Int).toNat <= a5.length)) <|
 bd ((rdN (a2.toNat : Int) (a3.toNat : Int) a4 a5) : RdR) fun r19 =>
 chk (decide ((r19.o.toNat : Int).toNat + (r19.n.toNat : Int).toNat <= r19.l.length)) <|
 bd ((rdN (r19.o.toNat : Int) (r19.n.toNat : Int) r19.bad r19.l) : RdR) fun r20 =>
 chk (decide ((r20.o.toNat : Int).toNat + (r20.n.toNat : Int).toNat <= r20.l.length)) <|
 bd ((rdN (r20.o.toNat : Int) (r20.n.toNat : Int) r20.bad r20.l) : RdR) fun r21 =>
 chk (decide ((r21.o.toNat : Int).toNat + (r21.n.toNat : Int).toNat <= r21.l.length)) <|
 bd ((rdN (r21.o.toNat : Int) (r21.n.toNat : Int) r21.bad r21.l) : RdR) fun r22 =>
 chk (fits (a14.length + 1) 32) <|
 k (a0, (w64 (a1 + 1)), (r22.o.toNat : Int), (r22.n.toNat : Int), r22.bad, r22.l, a6, a7, a8, a9, a10, a11, a12, a13, (a14 ++ ([.r [.n r19.v, .n r20.v, .n r21.v, .n r22.v]])), a15)
 else
 chk (decide ((a2.toNat : Int).toNat + (a3.toNat : Int).toNat <= a5.length)) <|
 bd ((rdM (a2.toNat : Int) (a3.toNat : Int) a4 a5 8) : RdR) fun r24 =>
 wQ m m (r24.v, 0, (r24.o.toNat : Int), (r24.n.toNat : Int), r24.bad, r24.l, a6, a7, a8, a9, a10, a11, a12, a13, a14, a15)
def v8 (m : Nat) : Nat -> CH -> Option (List Un) := br (yB m)
theorem sT (m : Nat) (n : Nat) : v8 m (n + 1) = yB m (v8 m n) := rfl
def HJ (F : CH -> Option (List Un)) : ba := ⟨[.lp [0, 1, 0, 1, 1, 1, 1], .blk 2, .code [1, 1, 1, 1, 1]], ⟨frm 92 [(0, .ptr 0 0 0), (2, .ptr 2 0 0), (3, .ptr 3 0 0), (47, .int .i64), (48, .int .i64)], [.cells [.sl 1 1, .bool], .ints .i64, .cells [.bool, .int .i64, .int .i64, .int .i64, .int .i64, .int .i64, .int .i64, .int .i64, .int .i64, .int .i64, .int .i64, .buf 4 4, .int .i64, .int .i64, .int .i64, .int .i64, .int .i64, .buf 5 3, .int .i64], .cells [.bool, .int .i64, .int .i64, .int .i64, .int .i64, .int .i64, .int .i64, .int .i64, .int .i64, .int .i64, .int .i64, .buf 6 4, .int .i64, .int .i64, .int .i64, .int .i64, .int .i64, .buf 7 3, .int .i64], .ai (sI 4), .ai (sI 3), .ai (sI 4), .ai (sI 3)], 0⟩, onU F⟩
theorem OQ (m : Nat) : ∀ n, HO N51 (Hy (wQ m n)) := au ah T54.right (fun k => [Hy k]) (fun k h => (aL h aA)) fun k a => by kernel_rfl
theorem Ol (m : Nat) : ∀ n, HO N51 (HJ (v8 m n)) := au ah T54.right (fun k => [HJ k, Hy (wQ m m)]) (fun k h => (aL h (aL (OQ m m) aA))) fun k a => by kernel_rfl
def t51 (m : Nat) : Int × Int × Bool × List Int -> Option (List Un) := fun (a0, a1, a2, a3) =>
 chk (decide ((a0.toNat : Int).toNat + (a1.toNat : Int).toNat <= a3.length)) <|
 bd ((rdM (a0.toNat : Int) (a1.toNat : Int) a2 a3 1) : RdR) fun r1 =>
 chk (decide ((r1.o.toNat : Int).toNat + (r1.n.toNat : Int).toNat <= r1.l.length)) <|
 bd ((rdN (r1.o.toNat : Int) (r1.n.toNat : Int) r1.bad r1.l) : RdR) fun r2 =>
 chk (decide ((r2.o.toNat : Int).toNat + (r2.n.toNat : Int).toNat <= r2.l.length)) <|
 bd ((rdN (r2.o.toNat : Int) (r2.n.toNat : Int) r2.bad r2.l) : RdR) fun r3 =>
 chk (decide ((r3.o.toNat : Int).toNat + (r3.n.toNat : Int).toNat <= r3.l.length)) <|
 bd ((rdN (r3.o.toNat : Int) (r3.n.toNat : Int) r3.bad r3.l) : RdR) fun r4 =>
 chk (decide ((r4.o.toNat : Int).toNat + (r4.n.toNat : Int).toNat <= r4.l.length)) <|
 bd ((rdN (r4.o.toNat : Int) (r4.n.toNat : Int) r4.bad r4.l) : RdR) fun r5 =>
 chk (decide ((r5.o.toNat : Int).toNat + (r5.n.toNat : Int).toNat <= r5.l.length)) <|
 bd ((rdN (r5.o.toNat : Int) (r5.n.toNat : Int) r5.bad r5.l) : RdR) fun r6 =>
 chk (decide ((r6.o.toNat : Int).toNat + (r6.n.toNat : Int).toNat <= r6.l.length)) <|
 bd ((rdN (r6.o.toNat : Int) (r6.n.toNat : Int) r6.bad r6.l) : RdR) fun r7 =>
 chk (decide ((r7.o.toNat : Int).toNat + (r7.n.toNat : Int).toNat <= r7.l.length)) <|
 bd ((rdN (r7.o.toNat : Int) (r7.n.toNat : Int) r7.bad r7.l) : RdR) fun r8 =>
 chk (decide ((r8.o.toNat : Int).toNat + (r8.n.toNat : Int).toNat <= r8.l.length)) <|
 bd ((rdN (r8.o.toNat : Int) (r8.n.toNat : Int) r8.bad r8.l) : RdR) fun r9 =>
 chk (decide ((r9.o.toNat : Int).toNat + (r9.n.toNat : Int).toNat <= r9.l.length)) <|
 bd ((rdN (r9.o.toNat : Int) (r9.n.toNat : Int) r9.bad r9.l) : RdR) fun r10 =>
 chk (decide ((r10.o.toNat : Int).toNat + (r10.n.toNat : Int).toNat <= r10.l.length)) <|
 bd ((rdN (r10.o.toNat : Int) (r10.n.toNat : Int) r10.bad r10.l) : RdR) fun r11 =>
 chk (decide ((r11.o.toNat : Int).toNat + (r11.n.toNat : Int).toNat <= r11.l.length)) <|
 bd ((rdN (r11.o.toNat : Int) (r11.n.toNat : Int) r11.bad r11.l) : RdR) fun r12 =>
 chk (decide ((r12.o.toNat : Int).toNat + (r12.n.toNat : Int).toNat <= r12.l.length)) <|
 bd ((rdN (r12.o.toNat : Int) (r12.n.toNat : Int) r12.bad r12.l) : RdR) fun r13 =>
 chk (decide ((r13.o.toNat : Int).toNat + (r13.n.toNat : Int).toNat <= r13.l.length)) <|
 bd ((rdN (r13.o.toNat : Int) (r13.n.toNat : Int) r13.bad r13.l) : RdR) fun r14 =>
 chk (decide ((r14.o.toNat : Int).toNat + (r14.n.toNat : Int).toNat <= r14.l.length)) <|
 bd ((rdN (r14.o.toNat : Int) (r14.n.toNat : Int) r14.bad r14.l) : RdR) fun r15 =>
 chk (decide ((r15.o.toNat : Int).toNat + (r15.n.toNat : Int).toNat <= r15.l.length)) <|
 bd ((rdN (r15.o.toNat : Int) (r15.n.toNat : Int) r15.bad r15.l) : RdR) fun r16 =>
 chk (decide ((r16.o.toNat : Int).toNat + (r16.n.toNat : Int).toNat <= r16.l.length)) <|
 bd ((rdN (r16.o.toNat : Int) (r16.n.toNat : Int) r16.bad r16.l) : RdR) fun r17 =>
 chk (decide ((r17.o.toNat : Int).toNat + (r17.n.toNat : Int).toNat <= r17.l.length)) <|
 bd ((rdM (r17.o.toNat : Int) (r17.n.toNat : Int) r17.bad r17.l 160) : RdR) fun r18 =>
 v8 m m (r18.v, 0, (r18.o.toNat : Int), (r18.n.toNat : Int), r18.bad, r18.l, (⟨false, 0, 0, 0, 0, 0, 0, 0, 0, 0, 0⟩ : aO), (⟨0, 0, 0, 0, 0⟩ : aM), 0, (⟨r1.v == 1, r2.v, r3.v, r4.v, r5.v, r6.v, r7.v, r8.v, r9.v, r10.v, r11.v⟩ : aO), (⟨r12.v, r13.v, r14.v, r15.v, r16.v⟩ : aM), r17.v, [], [], [], [])
theorem Lx (m : Nat) (xa : aO) (xb : aM) (xn : Int) (ya : aO) (yb : aM) (yn : Int) (z1 z2 p : List Dat) : ∀ (c : Nat) (n : Nat) (k : Nat) (r : RdR) (acc : List Dat), c < n -> k + c <= 8 -> acc.length <= k -> RdI r ->
 wQ m n (((k + c : Nat) : Int), (k : Int), r.o, r.n, r.bad, r.l, xa, xb, xn, ya, yb, yn, z1, z2, p, acc) = some (Uns.enc ya ++ Uns.enc yb ++ [.i yn, .i (iq c r).2.o, .i (iq c r).2.n, .b (iq c r).2.bad, .l (iq c r).2.l, .d p, .d (acc ++ (iq c r).1)]) := by
 intro c
 induction c with
 | zero =>
  intro n k r acc hn hk ha hr; obtain ⟨n, rfl⟩ := al n (by omega); rw [vj]; unfold yh; dsimp only; rw [aE (by omega), hr.1, hr.2.1]; simp [iq]
 | succ c ih =>
  intro n k r acc hn hk ha hr; obtain ⟨n, rfl⟩ := al n (by omega); rw [vj]; unfold yh; dsimp only; have h1 := dh hr; have h2 := dh h1; have h3 := dh h2; rw [bF (by omega)]; dsimp only [bd]; rw [hr.1, hr.2.1]; refine bo (zai hr.2.2) ?_
  rw [show rdN r.o r.n r.bad r.l = nx r from rfl, h1.1, h1.2.1]; refine bo (zai h1.2.2) ?_
  rw [show rdN (nx r).o (nx r).n (nx r).bad (nx r).l = nx (nx r) from rfl, h2.1, h2.2.1]; refine bo (zai h2.2.2) ?_
  rw [show rdN (nx (nx r)).o (nx (nx r)).n (nx (nx r)).bad (nx (nx r)).l = nx (nx (nx r)) from rfl, h3.1, h3.2.1]; rw [jd (by omega) (by omega)]; have := ih n (k + 1) (nx (nx (nx r))) (acc ++ [.r [.n (nx r).v, .n (nx (nx r)).v, .n (nx (nx (nx r))).v]]) (by omega) (by omega) (by simp; omega) h3; have e : w64 ((k : Int) + 1) = ((k + 1 : Nat) : Int) := by rw [aa (by omega) (by omega)]; simp
  rw [e, show k + (c + 1) = k + 1 + c by omega, this]; simp only [iq, zaI, zaY, zaV]
theorem NM (m : Nat) (hm : 9 <= m) (xa : aO) (xb : aM) (xn : Int) (ya : aO) (yb : aM) (yn : Int) (z1 z2 : List Dat) : ∀ (c : Nat) (n : Nat) (k : Nat) (r : RdR) (acc : List Dat), c < n -> k + c <= 160 -> acc.length <= k -> RdI r ->
 v8 m n (((k + c : Nat) : Int), (k : Int), r.o, r.n, r.bad, r.l, xa, xb, xn, ya, yb, yn, z1, z2, acc, []) =
  (let p := jv c r; let t := mx p.2 8; let q := iq t.v.toNat t; some (Uns.enc ya ++ Uns.enc yb ++ [.i yn, .i q.2.o, .i q.2.n, .b q.2.bad, .l q.2.l, .d (acc ++ p.1), .d q.1])) := by
 intro c
 induction c with
 | zero =>
  intro n k r acc hn hk ha hr; obtain ⟨n, rfl⟩ := al n (by omega); rw [sT]; unfold yB; dsimp only; rw [aE (by omega), hr.1, hr.2.1]; dsimp only [bd]; refine bo (zai hr.2.2) ?_
  have ht := KS (most := 8) hr; rw [show rdM r.o r.n r.bad r.l 8 = mx r 8 from rfl, ht.1, ht.2.1]; have hv : 0 <= (mx r 8).v /\ (mx r 8).v <= 8 := DP (by decide); have := Lx m xa xb xn ya yb yn z1 z2 acc (mx r 8).v.toNat m 0 (mx r 8) [] (by omega) (by omega) (by simp) ht; rw [show (((0 + (mx r 8).v.toNat : Nat)) : Int) = (mx r 8).v by omega] at this; simp only [jv, zaW]; exact this
 | succ c ih =>
  intro n k r acc hn hk ha hr; obtain ⟨n, rfl⟩ := al n (by omega); rw [sT]; unfold yB; dsimp only; have h1 := dh hr; have h2 := dh h1; have h3 := dh h2; have h4 := dh h3; rw [bF (by omega)]; dsimp only [bd]; rw [hr.1, hr.2.1]; refine bo (zai hr.2.2) ?_
  rw [show rdN r.o r.n r.bad r.l = nx r from rfl, h1.1, h1.2.1]; refine bo (zai h1.2.2) ?_
  rw [show rdN (nx r).o (nx r).n (nx r).bad (nx r).l = nx (nx r) from rfl, h2.1, h2.2.1]; refine bo (zai h2.2.2) ?_
  rw [show rdN (nx (nx r)).o (nx (nx r)).n (nx (nx r)).bad (nx (nx r)).l = nx (nx (nx r)) from rfl, h3.1, h3.2.1]; refine bo (zai h3.2.2) ?_
  rw [show rdN (nx (nx (nx r))).o (nx (nx (nx r))).n (nx (nx (nx r))).bad (nx (nx (nx r))).l = nx (nx (nx (nx r))) from rfl, h4.1, h4.2.1]; rw [jd (by omega) (by omega)]; have := ih n (k + 1) (nx (nx (nx (nx r)))) (acc ++ [.r [.n (nx r).v, .n (nx (nx r)).v, .n (nx (nx (nx r))).v, .n (nx (nx (nx (nx r)))).v]]) (by omega) (by omega) (by simp; omega) h4; have e : w64 ((k : Int) + 1) = ((k + 1 : Nat) : Int) := by rw [aa (by omega) (by omega)]; simp
  rw [e, show k + (c + 1) = k + 1 + c by omega, this]; simp only [jv, zaI, zaY, zaV]
theorem iM {r : RdR} (h : RdI r) {β : Type} (f : RdR -> Option β) : (chk (decide ((r.o.toNat : Int).toNat + (r.n.toNat : Int).toNat <= r.l.length)) <| bd (rdN (r.o.toNat : Int) (r.n.toNat : Int) r.bad r.l) f) = f (nx r) := by
 rw [h.1, h.2.1]; exact bo (zai h.2.2) rfl
def f51 : Int × Int × Bool × List Int -> Bool × List Un := fun (a0, a1, a2, a3) => (decide (a0.toNat + a1.toNat <= a3.length), Uns.enc (((dq a0 a1 a2 a3).ra) : aO) ++ Uns.enc (((dq a0 a1 a2 a3).rb) : aM) ++ [.i ((dq a0 a1 a2 a3).next), .i ((dq a0 a1 a2 a3).r.o), .i ((dq a0 a1 a2 a3).r.n), .b ((dq a0 a1 a2 a3).r.bad), .l ((dq a0 a1 a2 a3).r.l), .d ((dq a0 a1 a2 a3).aS), .d ((dq a0 a1 a2 a3).notes)])
set_option maxHeartbeats 2000000 in
theorem M3 (a0 : Int) (a1 : Int) (a2 : Bool) (a3 : List Int) (hc : (decide (a0.toNat + a1.toNat <= a3.length)) = true) : ∃ m, t51 m (a0, a1, a2, a3) = some (Uns.enc (((dq a0 a1 a2 a3).ra) : aO) ++ Uns.enc (((dq a0 a1 a2 a3).rb) : aM) ++ [.i ((dq a0 a1 a2 a3).next), .i ((dq a0 a1 a2 a3).r.o), .i ((dq a0 a1 a2 a3).r.n), .b ((dq a0 a1 a2 a3).r.bad), .l ((dq a0 a1 a2 a3).r.l), .d ((dq a0 a1 a2 a3).aS), .d ((dq a0 a1 a2 a3).notes)]) := by
 have hl := zak hc; refine ⟨200, ?_⟩; unfold t51; have i1 : RdI (rdM a0 a1 a2 a3 1) := Hd hl; refine bo (zai hl) ?_
 rw [show bd (rdM (a0.toNat : Int) (a1.toNat : Int) a2 a3 1) = bd (rdM a0 a1 a2 a3 1) from rfl]; have e1 : ∀ {β : Type} (f : RdR -> Option β), bd (rdM a0 a1 a2 a3 1) f = f (rdM a0 a1 a2 a3 1) := fun f => rfl
 rw [e1]; have i2 := dh i1; have i3 := dh i2; have i4 := dh i3; have i5 := dh i4; have i6 := dh i5; have i7 := dh i6; have i8 := dh i7; have i9 := dh i8; have i10 := dh i9; have i11 := dh i10; have i12 := dh i11; have i13 := dh i12; have i14 := dh i13; have i15 := dh i14; have i16 := dh i15; have i17 := dh i16; rw [iM i1, iM i2, iM i3, iM i4, iM i5, iM i6, iM i7, iM i8, iM i9, iM i10, iM i11, iM i12, iM i13, iM i14, iM i15, iM i16]; rw [i17.1, i17.2.1]; refine bo (zai i17.2.2) ?_
 dsimp only [bd]; have i18 := KS (most := 160) i17; unfold dq; dsimp only; generalize nx (nx (nx (nx (nx (nx (nx (nx (nx (nx (nx (nx (nx (nx (nx (nx (rdM a0 a1 a2 a3 1)))))))))))))))) = r17 at *
 rw [show rdM r17.o r17.n r17.bad r17.l 160 = mx r17 160 from rfl, i18.1, i18.2.1]; have hv : 0 <= (mx r17 160).v /\ (mx r17 160).v <= 160 := DP (by decide); have := NM 200 (by decide) (⟨false, 0, 0, 0, 0, 0, 0, 0, 0, 0, 0⟩ : aO) (⟨0, 0, 0, 0, 0⟩ : aM) 0 (At (rdM a0 a1 a2 a3 1) r17).1 (At (rdM a0 a1 a2 a3 1) r17).2.1 (At (rdM a0 a1 a2 a3 1) r17).2.2 [] [] (mx r17 160).v.toNat 200 0 (mx r17 160) [] (by omega) (by omega) (by simp) i18; rw [show (((0 + (mx r17 160).v.toNat : Nat)) : Int) = (mx r17 160).v by omega] at this; exact this
theorem DB : ER 51 (mkE N51.en N51.ex f51) := an ah T54.right (fun m => [HJ (v8 m m)]) (t := t51) (by kernel_rfl) (fun m => (aL (Ol m m) aA)) (fun m a => by kernel_rfl) fun (a0, a1, a2, a3) hc => M3 a0 a1 a2 a3 hc
def T51 : Tb Tryz.prog LQ TE XX := T54.add 51 _ DB
def Qf : CD -> List Un := fun r => Uns.enc (r.ra : aO) ++ Uns.enc (r.rb : aM) ++ [.i r.next, .i r.r.o, .i r.r.n, .b r.r.bad, .l r.r.l, .d r.aS, .d r.notes]
def Qy : Int × Int × Bool × List Int -> Bool × CD := fun (a0, a1, a2, a3) => (decide (a0.toNat + a1.toNat <= a3.length), (dq a0 a1 a2 a3))
theorem GD : ER 51 (mkB N51.en N51.ex Qy Qf) := rebind DB fun (a0, a1, a2, a3) => rfl
def Fg : Tb Tryz.prog LQ TE XX := T51.add 51 _ GD
theorem Az {α : Type} {c d : Bool} {F Y : α} : (bif c then (bif !d then F else Y) else F) = bif c && d then Y else F := by cases c <;> cases d <;> rfl
theorem cond_not {α : Type} {d : Bool} {F Y : α} : (bif !d then F else Y) = bif d then Y else F := by cases d <;> rfl
def qB (d : Dat) : Bool := decide (d.i 0 >= 0) && (decide (d.i 0 <= 15) && (decide (d.i 1 >= 1) && (decide (d.i 1 <= 7) && (decide (d.i 2 >= -1) && (decide (d.i 2 <= 7) && (decide (d.i 3 >= 1) && decide (d.i 3 <= 1152921504606846976)))))))
def o7 (d : Dat) : Bool := ([d.i 0, d.i 1, d.i 2] : List Int).all ru
def jf (ra : aO) (rb : aM) : List Int := [ra.aj, ra.bT, ra.aC, ra.aK, ra.draw, ra.advance, ra.fee, ra.due, rb.bx, rb.aZ, rb.aX, rb.out, rb.js]
def bl (ra : aO) (aS : List Dat) (rb : aM) (notes : List Dat) (next : Int) : Bool :=
 decide (ra.period >= 0) && (decide (ra.period <= 600) && (decide (ra.mode >= 0) && (decide (ra.mode <= 2) && (decide (next >= 0) && (decide (next <= 2) && ((jf ra rb).all ru && (decide ((aS.length : Int) <= 160) && (decide ((notes.length : Int) <= 8) && (aS.all qB && notes.all o7)))))))))
def N15 : aD := ⟨Fg.tab, 15, ⟨[.agg [.bool, .int .i64, .int .i64, .int .i64, .int .i64, .int .i64, .int .i64, .int .i64, .int .i64, .int .i64, .int .i64, .ai (sI 4), .int .i64, .int .i64, .int .i64, .int .i64, .int .i64, .ai (sI 3), .int .i64]], [], 0⟩, ⟨[.bool], [], 0⟩, []⟩
abbrev DI : Type := List Dat × Int × Int
abbrev Dm : Type := List Dat × Int × Int × aO × List Dat × aM × List Dat × Int
def yz (m : Nat) (k : DI -> Option (List Un)) : DI -> Option (List Un) := fun (a0, a1, a2) =>
 bif decide (a2 < a1) then
 chk (inb a2 a0.length) <|
 chk (decide (a2.toNat < a0.length)) <|
 lt (ag a0 a2.toNat : Dat) fun d8 =>
 chk (decide (([(d8.i 0), (d8.i 1), (d8.i 2)] : List Int).length <= 1000000)) <|
 bif !(([(d8.i 0), (d8.i 1), (d8.i 2)] : List Int).all ru) then
 some ([.b false])
 else
 k (a0, a1, (w64 (a2 + 1)))
 else
 some ([.b true])
def v3 (m : Nat) : Nat -> DI -> Option (List Un) := br (yz m)
theorem tF (m : Nat) (n : Nat) : v3 m (n + 1) = yz m (v3 m n) := rfl
def Gg (F : DI -> Option (List Un)) : ba := ⟨[.lp [0, 1, 0, 1, 1, 1], .blk 2, .code [1, 1, 1, 1]], ⟨frm 82 [(72, .ai (sI 3)), (73, .int .i64), (74, .int .i64)], [], 0⟩, onU F⟩
def yA (m : Nat) (k : Dm -> Option (List Un)) : Dm -> Option (List Un) := fun (a0, a1, a2, a3, a4, a5, a6, a7) =>
 bif decide (a2 < a1) then
 chk (inb a2 a0.length) <|
 chk (decide (a2.toNat < a0.length)) <|
 lt (ag a0 a2.toNat : Dat) fun d5 =>
 bif decide ((d5.i 0) >= 0) then
 bif !(decide ((d5.i 0) <= 15)) then
 some ([.b false])
 else
 bif decide ((d5.i 1) >= 1) then
 bif !(decide ((d5.i 1) <= 7)) then
 some ([.b false])
 else
 bif (decide ((d5.i 2) >= (-1))) then
 bif !(decide ((d5.i 2) <= 7)) then
 some ([.b false])
 else
 bif decide ((d5.i 3) >= 1) then
 bif !(decide ((d5.i 3) <= 1152921504606846976)) then
 some ([.b false])
 else
 k (a0, a1, (w64 (a2 + 1)), a3, a4, a5, a6, a7)
 else
 some ([.b false])
 else
 some ([.b false])
 else
 some ([.b false])
 else
 some ([.b false])
 else
 v3 m m (a6, (a6.length : Int), 0)
def te (m : Nat) : Nat -> Dm -> Option (List Un) := br (yA m)
theorem tZ (m : Nat) (n : Nat) : te m (n + 1) = yA m (te m n) := rfl
def Ga (F : Dm -> Option (List Un)) : ba := ⟨[.lp [0, 1, 0, 1, 1], .blk 0, .code [1, 1, 1]], ⟨frm 82 [(1, .ptr 0 0 0), (42, .ai (sI 4)), (43, .int .i64), (44, .int .i64)], [.cells [.bool, .int .i64, .int .i64, .int .i64, .int .i64, .int .i64, .int .i64, .int .i64, .int .i64, .int .i64, .int .i64, .ai (sI 4), .int .i64, .int .i64, .int .i64, .int .i64, .int .i64, .ai (sI 3), .int .i64]], 0⟩, onU F⟩
theorem Pb (m : Nat) : ∀ n, HO N15 (Gg (v3 m n)) := au ah Fg.right (fun k => [Gg k]) (fun k h => (aL h aA)) fun k a => by kernel_rfl
theorem OP (m : Nat) : ∀ n, HO N15 (Ga (te m n)) := au ah Fg.right (fun k => [Ga k, Gg (v3 m m)]) (fun k h => (aL h (aL (Pb m m) aA))) fun k a => by kernel_rfl
def t15 (m : Nat) : aO × List Dat × aM × List Dat × Int -> Option (List Un) := fun (a0, a1, a2, a3, a4) =>
 bif decide (a0.period >= 0) then
 bif !(decide (a0.period <= 600)) then
 some ([.b false])
 else
 bif decide (a0.mode >= 0) then
 bif !(decide (a0.mode <= 2)) then
 some ([.b false])
 else
 bif decide (a4 >= 0) then
 bif !(decide (a4 <= 2)) then
 some ([.b false])
 else
 chk (decide (([a0.aj, a0.bT, a0.aC, a0.aK, a0.draw, a0.advance, a0.fee, a0.due, a2.bx, a2.aZ, a2.aX, a2.out, a2.js] : List Int).length <= 1000000)) <|
 bif !(([a0.aj, a0.bT, a0.aC, a0.aK, a0.draw, a0.advance, a0.fee, a0.due, a2.bx, a2.aZ, a2.aX, a2.out, a2.js] : List Int).all ru) then
 some ([.b false])
 else
 bif (decide ((a1.length : Int) > 160)) then
 some ([.b false])
 else
 bif (decide ((a3.length : Int) > 8)) then
 some ([.b false])
 else
 te m m (a1, (a1.length : Int), 0, a0, a1, a2, a3, a4)
 else
 some ([.b false])
 else
 some ([.b false])
 else
 some ([.b false])
theorem KU (m : Nat) : ∀ (rest pre : List Dat) (n : Nat), rest.length < n -> (pre ++ rest).length <= 1000000 -> v3 m n (pre ++ rest, ((pre ++ rest).length : Int), (pre.length : Int)) = some [.b (rest.all o7)] := by
 intro rest
 induction rest with
 | nil =>
  intro pre n hn hl; obtain ⟨n, rfl⟩ := al n (by simp at hn; omega); rw [tF]; unfold yz; dsimp only; rw [aE (by simp)]; rfl
 | cons x rest ih =>
  intro pre n hn hl; obtain ⟨n, rfl⟩ := al n (by simp at hn; omega); simp only [zac, zad] at hn hl; rw [tF]; unfold yz; dsimp only; rw [bF (by simp only [zad, zac]; omega), dT (by omega) (by simp only [zad, zac]; omega), aP (by simp)]; have hx : ag (pre ++ x :: rest) (pre.length : Int).toNat = x := by simp [ag]
  have := ih (pre ++ [x]) n (by omega) (by simp; omega); have e : w64 ((pre.length : Int) + 1) = ((pre ++ [x]).length : Int) := by
   rw [aa (by omega) (by omega)]; simp
  have e3 : pre ++ x :: rest = (pre ++ [x]) ++ rest := by simp
  rw [hx]; dsimp only [lt]; refine bo rfl ?_
  rw [cond_not, e, e3, this, kH]; simp only [List.all_cons, o7]
theorem H8 (m : Nat) (ra : aO) (xp : List Dat) (rb : aM) (notes : List Dat) (xn : Int) (hm : notes.length < m) (hn9 : notes.length <= 1000000) : ∀ (rest pre : List Dat) (n : Nat), rest.length < n -> (pre ++ rest).length <= 1000000 -> te m n (pre ++ rest, ((pre ++ rest).length : Int), (pre.length : Int), ra, xp, rb, notes, xn) = some [.b (rest.all qB && notes.all o7)] := by
 intro rest
 induction rest with
 | nil =>
  intro pre n hn hl; obtain ⟨n, rfl⟩ := al n (by simp at hn; omega); rw [tZ]; unfold yA; dsimp only; rw [aE (by simp)]; exact KU m notes [] m hm hn9
 | cons x rest ih =>
  intro pre n hn hl; obtain ⟨n, rfl⟩ := al n (by simp at hn; omega); simp only [zac, zad] at hn hl; rw [tZ]; unfold yA; dsimp only; rw [bF (by simp only [zad, zac]; omega), dT (by omega) (by simp only [zad, zac]; omega), aP (by simp)]; have hx : ag (pre ++ x :: rest) (pre.length : Int).toNat = x := by simp [ag]
  have := ih (pre ++ [x]) n (by omega) (by simp; omega); have e : w64 ((pre.length : Int) + 1) = ((pre ++ [x]).length : Int) := by
   rw [aa (by omega) (by omega)]; simp
  have e3 : pre ++ x :: rest = (pre ++ [x]) ++ rest := by simp
  rw [hx]; dsimp only [lt]; rw [e, e3, this]; simp only [Az, kH, List.all_cons, qB, Bool.and_assoc]
def f15 : aO × List Dat × aM × List Dat × Int -> Bool × List Un := fun (a0, a1, a2, a3, a4) => (decide (a1.length <= 1000000) && decide (a3.length <= 1000000), [.b ((bl a0 a1 a2 a3 a4))])
theorem Nq (a0 : aO) (a1 : List Dat) (a2 : aM) (a3 : List Dat) (a4 : Int) (hc : (decide (a1.length <= 1000000) && decide (a3.length <= 1000000)) = true) : ∃ m, t15 m (a0, a1, a2, a3, a4) = some ([.b ((bl a0 a1 a2 a3 a4))]) := by
 have hc' := hc; simp only [zab, zag] at hc'; obtain ⟨h1, h2⟩ := hc'; refine ⟨a1.length + a3.length + 1, ?_⟩; have this : te (a1.length + a3.length + 1) (a1.length + a3.length + 1) (a1, (a1.length : Int), 0, a0, a1, a2, a3, a4) = some [.b (a1.all qB && a3.all o7)] := H8 (a1.length + a3.length + 1) a0 a1 a2 a3 a4 (by omega) h2 a1 [] (a1.length + a3.length + 1) (by omega) (by simpa using h1); unfold t15; dsimp only; rw [this]; simp only [Az, cond_not, yT]; rw [show (decide (([a0.aj, a0.bT, a0.aC, a0.aK, a0.draw, a0.advance, a0.fee, a0.due, a2.bx, a2.aZ, a2.aX, a2.out, a2.js] : List Int).length <= 1000000)) = true from rfl]; simp only [chk, zaE, kH, bl, jf, Bool.and_assoc]
theorem IC : ER 15 (mkE N15.en N15.ex f15) := an ah Fg.right (fun m => [Ga (te m m)]) (t := t15) (by kernel_rfl) (fun m => (aL (OP m m) aA)) (fun m a => by kernel_rfl) fun (a0, a1, a2, a3, a4) hc => Nq a0 a1 a2 a3 a4 hc
def T15 : Tb Tryz.prog LQ TE XX := Fg.add 15 _ IC
def fU (d : Dat) : List Int := [d.i 0, d.i 1, d.i 2, d.i 3]
def iu (d : Dat) : List Int := [d.i 0, d.i 1, d.i 2]
def jE (ra : aO) (aS : List Dat) (rb : aM) (next : Int) : List Int := [bI ra.call, ra.period, ra.mode, ra.aj, ra.bT, ra.aC, ra.aK, ra.draw, ra.advance, ra.fee, ra.due, rb.bx, rb.aZ, rb.aX, rb.out, rb.js, next, (aS.length : Int)]
def ke (ra : aO) (aS : List Dat) (rb : aM) (notes : List Dat) (next : Int) : List Int := jE ra aS rb next ++ (aS.flatMap fU ++ ((notes.length : Int) :: notes.flatMap iu))
def bW (ra : aO) (aS : List Dat) (rb : aM) (notes : List Dat) (next : Int) : List Int := bif bl ra aS rb notes next then cN (ke ra aS rb notes next) else []
def N12 : aD := ⟨T15.tab, 12, ⟨[.agg [.bool, .int .i64, .int .i64, .int .i64, .int .i64, .int .i64, .int .i64, .int .i64, .int .i64, .int .i64, .int .i64, .ai (sI 4), .int .i64, .int .i64, .int .i64, .int .i64, .int .i64, .ai (sI 3), .int .i64]], [], 0⟩, ⟨[.buf 0 1], [.ints .u8], 0⟩, []⟩
abbrev DQ : Type := List Dat × Int × Int × List Int
abbrev DC : Type := List Dat × Int × Int × aO × List Dat × aM × List Dat × Int × List Int
def yd (m : Nat) (k : DQ -> Option (List Un)) : DQ -> Option (List Un) := fun (a0, a1, a2, a3) =>
 bif decide (a2 < a1) then
 chk (inb a2 a0.length) <|
 chk (decide (a2.toNat < a0.length)) <|
 lt (ag a0 a2.toNat : Dat) fun d4 =>
 chk (fits (a3.length + 3) 8) <|
 k (a0, a1, (w64 (a2 + 1)), (a3 ++ ([(d4.i 0), (d4.i 1), (d4.i 2)])))
 else
 chk (decide (a3.length <= 1000000)) <|
 some ([.l (cN a3)])
def wj (m : Nat) : Nat -> DQ -> Option (List Un) := br (yd m)
theorem tK (m : Nat) (n : Nat) : wj m (n + 1) = yd m (wj m n) := rfl
def E3 (F : DQ -> Option (List Un)) : ba := ⟨[.lp [0, 1, 0, 1, 1, 1, 1, 1, 1, 1, 1], .blk 2, .code [1, 1, 1, 1, 1, 1, 1, 1, 1]], ⟨frm 69 [(4, .buf 0 1), (57, .ai (sI 3)), (58, .int .i64), (59, .int .i64)], [.ints .i64], 0⟩, onU F⟩
def yc (m : Nat) (k : DC -> Option (List Un)) : DC -> Option (List Un) := fun (a0, a1, a2, a3, a4, a5, a6, a7, a8) =>
 bif decide (a2 < a1) then
 chk (inb a2 a0.length) <|
 chk (decide (a2.toNat < a0.length)) <|
 lt (ag a0 a2.toNat : Dat) fun d1 =>
 chk (fits (a8.length + 4) 8) <|
 k (a0, a1, (w64 (a2 + 1)), a3, a4, a5, a6, a7, (a8 ++ ([(d1.i 0), (d1.i 1), (d1.i 2), (d1.i 3)])))
 else
 chk (fits (a8.length + 1) 8) <|
 wj m m (a6, (a6.length : Int), 0, (a8 ++ ([(a6.length : Int)])))
def qi (m : Nat) : Nat -> DC -> Option (List Un) := br (yc m)
theorem ti (m : Nat) (n : Nat) : qi m (n + 1) = yc m (qi m n) := rfl
def FU (F : DC -> Option (List Un)) : ba := ⟨[.lp [0, 1, 0, 1, 1, 1, 1, 1, 1], .blk 0, .code [1, 1, 1, 1, 1, 1, 1]], ⟨frm 69 [(1, .ptr 0 0 0), (4, .buf 1 1), (32, .ai (sI 4)), (33, .int .i64), (34, .int .i64)], [.cells [.bool, .int .i64, .int .i64, .int .i64, .int .i64, .int .i64, .int .i64, .int .i64, .int .i64, .int .i64, .int .i64, .ai (sI 4), .int .i64, .int .i64, .int .i64, .int .i64, .int .i64, .ai (sI 3), .int .i64], .ints .i64], 0⟩, onU F⟩
theorem Ok (m : Nat) : ∀ n, HO N12 (E3 (wj m n)) := au ah T15.right (fun k => [E3 k]) (fun k h => (aL h aA)) fun k a => by kernel_rfl
theorem P0 (m : Nat) : ∀ n, HO N12 (FU (qi m n)) := au ah T15.right (fun k => [FU k, E3 (wj m m)]) (fun k h => (aL h (aL (Ok m m) aA))) fun k a => by kernel_rfl
def t12 (m : Nat) : aO × List Dat × aM × List Dat × Int -> Option (List Un) := fun (a0, a1, a2, a3, a4) =>
 chk (decide (a1.length <= 1000000) && decide (a3.length <= 1000000)) <|
 bif !(bl a0 a1 a2 a3 a4) then
 some ([.l ([])])
 else
 bif a0.call then
 qi m m (a1, (a1.length : Int), 0, a0, a1, a2, a3, a4, ([1, a0.period, a0.mode, a0.aj, a0.bT, a0.aC, a0.aK, a0.draw, a0.advance, a0.fee, a0.due, a2.bx, a2.aZ, a2.aX, a2.out, a2.js, a4, (a1.length : Int)] : List Int))
 else
 qi m m (a1, (a1.length : Int), 0, a0, a1, a2, a3, a4, ([0, a0.period, a0.mode, a0.aj, a0.bT, a0.aC, a0.aK, a0.draw, a0.advance, a0.fee, a0.due, a2.bx, a2.aZ, a2.aX, a2.out, a2.js, a4, (a1.length : Int)] : List Int))
theorem P3 (m : Nat) : ∀ (rest pre : List Dat) (acc : List Int) (n : Nat), rest.length < n -> (pre ++ rest).length <= 8 -> acc.length + 3 * rest.length <= 1000 -> wj m n (pre ++ rest, ((pre ++ rest).length : Int), (pre.length : Int), acc) = some [.l (cN (acc ++ rest.flatMap iu))] := by
 intro rest
 induction rest with
 | nil =>
  intro pre acc n hn hl ha; obtain ⟨n, rfl⟩ := al n (by simp at hn; omega); rw [tK]; unfold yd; dsimp only; rw [aE (by simp)]; refine (bo (zai (by simp at ha; omega)) rfl).trans ?_
  simp
 | cons x rest ih =>
  intro pre acc n hn hl ha; obtain ⟨n, rfl⟩ := al n (by simp at hn; omega); simp only [zac, zad] at hn hl ha; rw [tK]; unfold yd; dsimp only; rw [bF (by simp only [zad, zac]; omega), dT (by omega) (by simp only [zad, zac]; omega), aP (by simp)]; have hx : ag (pre ++ x :: rest) (pre.length : Int).toNat = x := by simp [ag]
  have := ih (pre ++ [x]) (acc ++ iu x) n (by omega) (by simp; omega) (by simp [iu]; omega); have e : w64 ((pre.length : Int) + 1) = ((pre ++ [x]).length : Int) := by
   rw [aa (by omega) (by omega)]; simp
  have e3 : pre ++ x :: rest = (pre ++ [x]) ++ rest := by simp
  rw [hx]; dsimp only [lt]; rw [jd (by omega) (by omega), e, e3]; refine Eq.trans this ?_
  simp
theorem Ox (m : Nat) (ra : aO) (xp : List Dat) (rb : aM) (notes : List Dat) (xn : Int) (hm : notes.length < m) (h8 : notes.length <= 8) : ∀ (rest pre : List Dat) (acc : List Int) (n : Nat), rest.length < n -> (pre ++ rest).length <= 160 -> acc.length + 4 * rest.length <= 700 -> qi m n (pre ++ rest, ((pre ++ rest).length : Int), (pre.length : Int), ra, xp, rb, notes, xn, acc) = some [.l (cN (acc ++ (rest.flatMap fU ++ ((notes.length : Int) :: notes.flatMap iu))))] := by
 intro rest
 induction rest with
 | nil =>
  intro pre acc n hn hl ha; obtain ⟨n, rfl⟩ := al n (by simp at hn; omega); rw [ti]; unfold yc; dsimp only; rw [aE (by simp)]; simp only [zax] at ha; rw [jd (by omega) (by omega)]; have := P3 m notes [] (acc ++ [(notes.length : Int)]) m hm (by simpa using h8) (by simp; omega); refine Eq.trans this ?_
  simp
 | cons x rest ih =>
  intro pre acc n hn hl ha; obtain ⟨n, rfl⟩ := al n (by simp at hn; omega); simp only [zac, zad] at hn hl ha; rw [ti]; unfold yc; dsimp only; rw [bF (by simp only [zad, zac]; omega), dT (by omega) (by simp only [zad, zac]; omega), aP (by simp)]; have hx : ag (pre ++ x :: rest) (pre.length : Int).toNat = x := by simp [ag]
  have := ih (pre ++ [x]) (acc ++ fU x) n (by omega) (by simp; omega) (by simp [fU]; omega); have e : w64 ((pre.length : Int) + 1) = ((pre ++ [x]).length : Int) := by
   rw [aa (by omega) (by omega)]; simp
  have e3 : pre ++ x :: rest = (pre ++ [x]) ++ rest := by simp
  rw [hx]; dsimp only [lt]; rw [jd (by omega) (by omega), e, e3]; refine Eq.trans this ?_
  simp
def f12 : aO × List Dat × aM × List Dat × Int -> Bool × List Un := fun (a0, a1, a2, a3, a4) => (decide (a1.length <= 1000000) && decide (a3.length <= 1000000), [.l (bW a0 a1 a2 a3 a4)])
theorem NC (a0 : aO) (a1 : List Dat) (a2 : aM) (a3 : List Dat) (a4 : Int) (hc : (decide (a1.length <= 1000000) && decide (a3.length <= 1000000)) = true) : ∃ m, t12 m (a0, a1, a2, a3, a4) = some ([.l (bW a0 a1 a2 a3 a4)]) := by
 refine ⟨200, ?_⟩; unfold t12 bW; refine bo hc ?_
 cases hr : bl a0 a1 a2 a3 a4 with
 | false => rfl
 | true =>
  have hb : a1.length <= 160 /\ a3.length <= 8 := by
   unfold bl at hr; simp only [zab, zag] at hr; omega
  have key : ∀ c : Int, qi 200 200 (a1, (a1.length : Int), 0, a0, a1, a2, a3, a4, ([c, a0.period, a0.mode, a0.aj, a0.bT, a0.aC, a0.aK, a0.draw, a0.advance, a0.fee, a0.due, a2.bx, a2.aZ, a2.aX, a2.out, a2.js, a4, (a1.length : Int)] : List Int)) = some [.l (cN (([c, a0.period, a0.mode, a0.aj, a0.bT, a0.aC, a0.aK, a0.draw, a0.advance, a0.fee, a0.due, a2.bx, a2.aZ, a2.aX, a2.out, a2.js, a4, (a1.length : Int)] : List Int) ++ (a1.flatMap fU ++ ((a3.length : Int) :: a3.flatMap iu))))] := fun c =>
   Ox 200 a0 a1 a2 a3 a4 (by omega) hb.2 a1 [] _ 200 (by omega) (by simpa using hb.1) (by simp; omega)
  refine oP rfl ?_
  unfold ke jE; cases hcall : a0.call with
  | true => exact key 1
  | false => exact key 0
theorem J9 : ER 12 (mkE N12.en N12.ex f12) := an ah T15.right (fun m => [FU (qi m m)]) (t := t12) (by kernel_rfl) (fun m => (aL (P0 m m) aA)) (fun m a => by kernel_rfl) fun (a0, a1, a2, a3, a4) hc => NC a0 a1 a2 a3 a4 hc
def T12 : Tb Tryz.prog LQ TE XX := T15.add 12 _ J9
structure Cv where
 ra : aO
 rb : aM
 next : Int
 ok : Bool
 aS : List Dat
 notes : List Dat
def FG : Cv := ⟨⟨false, 0, 0, 0, 0, 0, 0, 0, 0, 0, 0⟩, ⟨0, 0, 0, 0, 0⟩, 0, false, [], []⟩
def ry (l : List Int) : Cv :=
 let r := dq 0 (l.length : Int) false l
 bif !r.r.bad && r.r.n == 0 then (bif bl r.ra r.aS r.rb r.notes r.next then ⟨r.ra, r.rb, r.next, true, r.aS, r.notes⟩ else FG) else FG
def de (xs : List Int) : Cv := bif xs.length % 8 == 0 then ry (du xs) else FG
def N13 : aD := ⟨T12.tab, 13, ⟨[.ints .u8], [], 0⟩, ⟨[.agg [.bool, .int .i64, .int .i64, .int .i64, .int .i64, .int .i64, .int .i64, .int .i64, .int .i64, .int .i64, .int .i64, .buf 0 4, .int .i64, .int .i64, .int .i64, .int .i64, .int .i64, .buf 1 3, .int .i64], .bool], [.ai (sI 4), .ai (sI 3)], 0⟩, []⟩
def t13 (m : Nat) : List Int -> Option (List Un) := fun a0 =>
 chk (decide (a0.length <= 140737488351232)) <|
 bif !(a0.length % 8 == 0) then
 some (Uns.enc ((⟨false, 0, 0, 0, 0, 0, 0, 0, 0, 0, 0⟩ : aO) : aO) ++ Uns.enc ((⟨0, 0, 0, 0, 0⟩ : aM) : aM) ++ [.i 0, .b false, .d ([]), .d ([])])
 else
 chk (decide ((iI a0).length < 1000000)) <|
 lt (((iI a0).length : Int) : Int) fun x1 =>
 chk (decide ((0 : Int).toNat + (x1.toNat : Int).toNat <= (iI a0).length)) <|
 bd ((dq 0 (x1.toNat : Int) false (iI a0)) : CD) fun r2 =>
 bif !(!r2.r.bad && ((r2.r.n.toNat : Int).toNat : Int) == 0) then
 some (Uns.enc ((⟨false, 0, 0, 0, 0, 0, 0, 0, 0, 0, 0⟩ : aO) : aO) ++ Uns.enc ((⟨0, 0, 0, 0, 0⟩ : aM) : aM) ++ [.i 0, .b false, .d ([]), .d ([])])
 else
 chk (decide (r2.aS.length <= 1000000) && decide (r2.notes.length <= 1000000)) <|
 bif !(bl r2.ra r2.aS r2.rb r2.notes r2.next) then
 some (Uns.enc ((⟨false, 0, 0, 0, 0, 0, 0, 0, 0, 0, 0⟩ : aO) : aO) ++ Uns.enc ((⟨0, 0, 0, 0, 0⟩ : aM) : aM) ++ [.i 0, .b false, .d ([]), .d ([])])
 else
 some (Uns.enc (r2.ra : aO) ++ Uns.enc (r2.rb : aM) ++ [.i r2.next, .b true, .d r2.aS, .d r2.notes])
theorem wJ (xs : List Int) : (du xs).length = xs.length / 8 := by simp [du]
theorem w6 : ∀ (k : Nat) (r : RdR), (jv k r).1.length = k
 | 0, r => rfl
 | k + 1, r => by simp only [jv, zac, w6 k]
theorem wR : ∀ (k : Nat) (r : RdR), (iq k r).1.length = k
 | 0, r => rfl
 | k + 1, r => by simp only [iq, zac, wR k]
theorem JG {o n : Int} {b : Bool} {l : List Int} (h : o.toNat + n.toNat <= l.length) : RdI (dq o n b l).r /\ (dq o n b l).aS.length <= 160 /\ (dq o n b l).notes.length <= 8 := by
 have i1 : RdI (rdM o n b l 1) := Hd h; have i17 := dh (dh (dh (dh (dh (dh (dh (dh (dh (dh (dh (dh (dh (dh (dh (dh i1))))))))))))))); have i18 := KS (most := 160) i17; unfold dq; dsimp only; generalize nx (nx (nx (nx (nx (nx (nx (nx (nx (nx (nx (nx (nx (nx (nx (nx (rdM o n b l 1)))))))))))))))) = r17 at *
 have hv : 0 <= (mx r17 160).v /\ (mx r17 160).v <= 160 := DP (by decide); have iP := CR (mx r17 160).v.toNat i18; have i24 := KS (most := 8) iP; have hw : 0 <= (mx (jv (mx r17 160).v.toNat (mx r17 160)).2 8).v /\ (mx (jv (mx r17 160).v.toNat (mx r17 160)).2 8).v <= 8 := DP (by decide); refine ⟨C9 _ i24, ?_, ?_⟩
 . rw [w6]; omega
 . rw [wR]; omega
def f13 : List Int -> Bool × List Un := fun a0 => (decide (a0.length <= 1000000), Uns.enc (((de a0).ra) : aO) ++ Uns.enc (((de a0).rb) : aM) ++ [.i ((de a0).next), .b ((de a0).ok), .d ((de a0).aS), .d ((de a0).notes)])
theorem ML (a0 : List Int) (hc : (decide (a0.length <= 1000000)) = true) : ∃ m, t13 m a0 = some (Uns.enc (((de a0).ra) : aO) ++ Uns.enc (((de a0).rb) : aM) ++ [.i ((de a0).next), .b ((de a0).ok), .d ((de a0).aS), .d ((de a0).notes)]) := by
 have hl := zak hc; refine ⟨0, ?_⟩; unfold t13 de; refine bo (zai (by omega)) ?_
 cases h8 : (a0.length % 8 == 0) with
 | false => rfl
 | true =>
  have e : iI a0 = du a0 := by unfold iI; rw [h8]; rfl
  rw [e]; have hw := wJ a0; refine oP rfl (bo (zai (by omega)) ?_); dsimp only [lt, bd]; refine bo (zai (by simp)) ?_
  rw [show (((du a0).length : Int).toNat : Int) = ((du a0).length : Int) from rfl]; obtain ⟨hI, hp, hn⟩ := JG (o := 0) (n := ((du a0).length : Int)) (b := false) (l := du a0) (by simp); rw [zaE]; unfold ry; dsimp only; generalize dq 0 ((du a0).length : Int) false (du a0) = r at *
  rw [show ((r.r.n.toNat : Int).toNat : Int) = r.r.n from hI.2.1]; cases hb : (!r.r.bad && r.r.n == 0) with
  | false => rfl
  | true =>
   refine oP rfl (bo (zaq.2 ⟨zai (by omega), zai (by omega)⟩) ?_); cases hr : bl r.ra r.aS r.rb r.notes r.next with
   | false => rfl
   | true => rfl
theorem CW : ER 13 (mkE N13.en N13.ex f13) := an ah T12.right (fun m => []) (t := t13) (by kernel_rfl) (fun m => aA) (fun m a => by kernel_rfl) fun a0 hc => ML a0 hc
def T13 : Tb Tryz.prog LQ TE XX := T12.add 13 _ CW
def QM : Cv -> List Un := fun r => Uns.enc (r.ra : aO) ++ Uns.enc (r.rb : aM) ++ [.i r.next, .b r.ok, .d r.aS, .d r.notes]
def Qi : List Int -> Bool × Cv := fun a0 => (decide (a0.length <= 1000000), (de a0))
theorem FM : ER 13 (mkB N13.en N13.ex Qi QM) := rebind CW fun a0 => rfl
def QL : Tb Tryz.prog LQ TE XX := T13.add 13 _ FM
def Hw (T : ae) (l : List Dat) : Bool := @decide (T = cJ dw /\ l = lB) (Classical.propDecidable _)
theorem zL {T : ae} {l : List Dat} : Hw T l = true ↔ T = cJ dw /\ l = lB := by unfold Hw; simp
def Ou : Int × List Dat × aw × az × ak × List Dat × List Dat × List Dat × List Dat × List Dat × List Dat × List Dat -> Bool × List Un := fun (a0, a1, a2, a3, a4, a5, a6, a7, a8, a9, a10, a11) => (decide (0 <= a0) && Hw (⟨a2, a3, a4, a5, a6, a7, a8, a9, a10, a11⟩ : ae) a1, Uns.enc (((⟨false, 1, 0, 40, 0, 0, 0, 0, 0, 0, 0⟩ : aO)) : aO) ++ Uns.enc (((⟨0, 60, 0, 0, 0⟩ : aM)) : aM) ++ [.i (0), .i (0)] ++ Uns.enc (((aU (cJ dw) lB).t.a) : aw) ++ Uns.enc (((aU (cJ dw) lB).t.b) : az) ++ Uns.enc (((aU (cJ dw) lB).t.n) : ak) ++ [.d ((aU (cJ dw) lB).t.bh), .d ((aU (cJ dw) lB).t.notes), .d ((aU (cJ dw) lB).t.s0), .d ((aU (cJ dw) lB).t.s1), .d ((aU (cJ dw) lB).t.s2), .d ((aU (cJ dw) lB).t.aZ), .d ((aU (cJ dw) lB).t.tr), .d (([.r [.n 1, .n 7, .n 0, .n 40]] : List Dat)), .d (([.r [.n 60, .n 0, .n 0]] : List Dat))])
theorem GY : ER 11 (mkE N11.en N11.ex Ou) := weaken Df fun (a0, a1, a2, a3, a4, a5, a6, a7, a8, a9, a10, a11) hc => by
 have hc : (decide (0 <= a0) && Hw (⟨a2, a3, a4, a5, a6, a7, a8, a9, a10, a11⟩ : ae) a1) = true := hc; have h0 := (zaq.1 hc).1; obtain ⟨e1, e2⟩ := zL.1 (zaq.1 hc).2; have hq : (decide (0 <= a0) && uG (⟨a2, a3, a4, a5, a6, a7, a8, a9, a10, a11⟩ : ae)) = true := zaq.2 ⟨h0, by rw [e1]; exact tA.2 Pm⟩; obtain ⟨o1, o2, o3, o4, o5, o6⟩ := D0; refine Prod.ext (hq.trans hc.symm) ?_
 unfold f11 Ou; dsimp only; rw [e1, e2, o1, o2, o3, o4, o5, o6]
def LS : Tb Tryz.prog LQ TE XX := QL.add 11 _ GY
def N3 : aD := ⟨LS.tab, 3, ⟨[], [], 0⟩, ⟨[.bool], [], 0⟩, []⟩
def t3 (m : Nat) : Unit -> Option (List Un) := fun _ =>
 chk (decide (dw.bh.length < 1000000 /\ dw.notes.length < 1000000 /\ dw.s0.length < 1000000 /\ dw.s1.length < 1000000 /\ dw.s2.length < 1000000)) <|
 lt (((if (cr dw).isSome then 0 else -1) : Int) : Int) fun x1 =>
 bif ((decide (x1 < 0)) && true) then
 some ([.b false])
 else
 bif ((if (cr dw).isSome then 0 else 2) : Int) != 0 then
 some ([.b false])
 else
 chk (decide (0 <= x1) && Hw (iC dw) ([.r [.n 1, .n 40, .n 0, .n 0, .n 0, .n 0, .n (bI false)]] : List Dat)) <|
 lt ((⟨false, 1, 0, 40, 0, 0, 0, 0, 0, 0, 0⟩ : aO) : aO) fun g4 =>
 lt ((⟨0, 60, 0, 0, 0⟩ : aM) : aM) fun g5 =>
 chk (decide (([.r [.n 1, .n 7, .n 0, .n 40]] : List Dat).length <= 1000000) && decide (([.r [.n 60, .n 0, .n 0]] : List Dat).length <= 1000000)) <|
 lt ((bW g4 ([.r [.n 1, .n 7, .n 0, .n 40]] : List Dat) g5 ([.r [.n 60, .n 0, .n 0]] : List Dat) 0) : List Int) fun l6 =>
 chk (decide (l6.length <= 1000000)) <|
 bd ((de l6) : Cv) fun r7 =>
 lt (ag ([.r [.n 1, .n 7, .n 0, .n 40]] : List Dat) 0 : Dat) fun d8 =>
 bif (d8.i 2) != 0 then
 chk (decide (([.r [.n 1, .n 7, .n 0, .n 40]] : List Dat).length <= 1000000) && decide (([.r [.n 60, .n 0, .n 0]] : List Dat).length <= 1000000)) <|
 bif (bl g4 ([.r [.n 1, .n 7, .n 0, .n 40]] : List Dat) g5 ([.r [.n 60, .n 0, .n 0]] : List Dat) 0) then
 bif ((l6.length : Int) == 208) then
 bif r7.ok then
 bif r7.ra.call == g4.call then
 bif (r7.ra.period == g4.period) then
 bif r7.ra.mode == g4.mode then
 bif ((r7.ra.aj == g4.aj) && ((r7.ra.bT == g4.bT) && ((r7.ra.aC == g4.aC) && ((r7.ra.aK == g4.aK) && true)))) then
 bif r7.ra.draw == g4.draw then
 bif (r7.ra.advance == g4.advance) then
 bif r7.ra.fee == g4.fee then
 bif r7.ra.due == g4.due then
 chk (decide (r7.aS.length < 1099511627776)) <|
 bif (cL 4 r7.aS ([.r [.n 1, .n 7, .n 0, .n 40]] : List Dat)) then
 bif (r7.rb.bx == g5.bx) then
 bif r7.rb.aZ == g5.aZ then
 bif (r7.rb.aX == g5.aX) then
 bif r7.rb.out == g5.out then
 bif r7.rb.js == g5.js then
 chk (decide (r7.notes.length < 1099511627776)) <|
 bif (cL 3 r7.notes ([.r [.n 60, .n 0, .n 0]] : List Dat)) then
 bif r7.next == 0 then
 some ([.b false])
 else
 some ([.b false])
 else
 some ([.b false])
 else
 some ([.b false])
 else
 some ([.b false])
 else
 some ([.b false])
 else
 some ([.b false])
 else
 some ([.b false])
 else
 some ([.b false])
 else
 some ([.b false])
 else
 some ([.b false])
 else
 some ([.b false])
 else
 some ([.b false])
 else
 some ([.b false])
 else
 some ([.b false])
 else
 some ([.b false])
 else
 some ([.b false])
 else
 some ([.b false])
 else
 some ([.b false])
 else
 some ([.b false])
 else
 bif (d8.i 1) == 3 then
 chk (decide (([.r [.n 1, .n 7, .n 0, .n 40]] : List Dat).length <= 1000000) && decide (([.r [.n 60, .n 0, .n 0]] : List Dat).length <= 1000000)) <|
 bif (bl g4 ([.r [.n 1, .n 7, .n 0, .n 40]] : List Dat) g5 ([.r [.n 60, .n 0, .n 0]] : List Dat) 0) then
 bif ((l6.length : Int) == 208) then
 bif r7.ok then
 bif r7.ra.call == g4.call then
 bif (r7.ra.period == g4.period) then
 bif r7.ra.mode == g4.mode then
 bif ((r7.ra.aj == g4.aj) && ((r7.ra.bT == g4.bT) && ((r7.ra.aC == g4.aC) && ((r7.ra.aK == g4.aK) && true)))) then
 bif r7.ra.draw == g4.draw then
 bif (r7.ra.advance == g4.advance) then
 bif r7.ra.fee == g4.fee then
 bif r7.ra.due == g4.due then
 chk (decide (r7.aS.length < 1099511627776)) <|
 bif (cL 4 r7.aS ([.r [.n 1, .n 7, .n 0, .n 40]] : List Dat)) then
 bif (r7.rb.bx == g5.bx) then
 bif r7.rb.aZ == g5.aZ then
 bif (r7.rb.aX == g5.aX) then
 bif r7.rb.out == g5.out then
 bif r7.rb.js == g5.js then
 chk (decide (r7.notes.length < 1099511627776)) <|
 bif (cL 3 r7.notes ([.r [.n 60, .n 0, .n 0]] : List Dat)) then
 bif r7.next == 0 then
 bif ((w64 (0 + (d8.i 3))) == 0) then
 some ([.b false])
 else
 some ([.b false])
 else
 some ([.b false])
 else
 some ([.b false])
 else
 some ([.b false])
 else
 some ([.b false])
 else
 some ([.b false])
 else
 some ([.b false])
 else
 some ([.b false])
 else
 some ([.b false])
 else
 some ([.b false])
 else
 some ([.b false])
 else
 some ([.b false])
 else
 some ([.b false])
 else
 some ([.b false])
 else
 some ([.b false])
 else
 some ([.b false])
 else
 some ([.b false])
 else
 some ([.b false])
 else
 some ([.b false])
 else
 some ([.b false])
 else
 chk (decide (([.r [.n 1, .n 7, .n 0, .n 40]] : List Dat).length <= 1000000) && decide (([.r [.n 60, .n 0, .n 0]] : List Dat).length <= 1000000)) <|
 bif (bl g4 ([.r [.n 1, .n 7, .n 0, .n 40]] : List Dat) g5 ([.r [.n 60, .n 0, .n 0]] : List Dat) 0) then
 bif ((l6.length : Int) == 208) then
 bif r7.ok then
 bif r7.ra.call == g4.call then
 bif (r7.ra.period == g4.period) then
 bif r7.ra.mode == g4.mode then
 bif ((r7.ra.aj == g4.aj) && ((r7.ra.bT == g4.bT) && ((r7.ra.aC == g4.aC) && ((r7.ra.aK == g4.aK) && true)))) then
 bif r7.ra.draw == g4.draw then
 bif (r7.ra.advance == g4.advance) then
 bif r7.ra.fee == g4.fee then
 bif r7.ra.due == g4.due then
 chk (decide (r7.aS.length < 1099511627776)) <|
 bif (cL 4 r7.aS ([.r [.n 1, .n 7, .n 0, .n 40]] : List Dat)) then
 bif (r7.rb.bx == g5.bx) then
 bif r7.rb.aZ == g5.aZ then
 bif (r7.rb.aX == g5.aX) then
 bif r7.rb.out == g5.out then
 bif r7.rb.js == g5.js then
 chk (decide (r7.notes.length < 1099511627776)) <|
 bif (cL 3 r7.notes ([.r [.n 60, .n 0, .n 0]] : List Dat)) then
 bif r7.next == 0 then
 some ([.b ((w64 (0 + (d8.i 3))) == 40)])
 else
 some ([.b false])
 else
 some ([.b false])
 else
 some ([.b false])
 else
 some ([.b false])
 else
 some ([.b false])
 else
 some ([.b false])
 else
 some ([.b false])
 else
 some ([.b false])
 else
 some ([.b false])
 else
 some ([.b false])
 else
 some ([.b false])
 else
 some ([.b false])
 else
 some ([.b false])
 else
 some ([.b false])
 else
 some ([.b false])
 else
 some ([.b false])
 else
 some ([.b false])
 else
 some ([.b false])
 else
 some ([.b false])
def f3 : Unit -> Bool × List Un := fun _ => (true, [.b (true)])
theorem PQ : ∃ m, t3 m () = some ([.b (true)]) := by
 refine ⟨0, ?_⟩; unfold t3; dsimp only [lt]; refine bo (by kernel_rfl) ?_
 refine oP (by kernel_rfl) (oP (by kernel_rfl) (bo (zaq.2 ⟨by kernel_rfl, zL.2 ⟨GN, rfl⟩⟩) ?_))
 kernel_rfl
theorem LG : ER 3 (mkE N3.en N3.ex f3) := an ah LS.right (fun m => []) (t := t3) (by kernel_rfl) (fun m => aA) (fun m a => by kernel_rfl) fun _ hc => PQ
def T3 : Tb Tryz.prog LQ TE XX := LS.add 3 _ LG
theorem KP (a c : Nat) (h : c < 256) : (256 * a) ||| c = 256 * a + c := by
 have := Nat.two_pow_add_eq_or_of_lt (i := 8) (b := c) (by simpa using h) a; simpa using this.symm
theorem lR (n c : Int) (h0 : 0 <= c) (h1 : c < 256) : Iw.stp n c = RowKit.wrap64 (n * 256 + c) := by
 unfold Iw.stp Go.bits; simp only [RowKit.wrap64]; rw [IntKind.wrap_i64, BitVec.toNat_or, zbZ, zbZ]; rw [show ((2 ^ IntKind.i64.bits : Nat) : Int) = 18446744073709551616 from rfl]; have e1 : (((n * 256 + 9223372036854775808) % 18446744073709551616 - 9223372036854775808) % 18446744073709551616).toNat = 256 * (n % 72057594037927936).toNat := by omega
 have e2 : (((c + 9223372036854775808) % 18446744073709551616 - 9223372036854775808) % 18446744073709551616).toNat = c.toNat := by omega
 rw [e1, e2, KP _ _ (by omega)]; omega
theorem GJ {n : Int} (h : -9223372036854775808 <= n /\ n <= 9223372036854775807) (f : Nat -> Int) (hf : ∀ i, i < 8 -> f i = (oi n).getD i 0) : Iw.val f 8 = n := by
 have b0 := hf 0 (by decide); have b1 := hf 1 (by decide); have b2 := hf 2 (by decide); have b3 := hf 3 (by decide); have b4 := hf 4 (by decide); have b5 := hf 5 (by decide); have b6 := hf 6 (by decide); have b7 := hf 7 (by decide); simp only [oi, zaH, zat] at b0 b1 b2 b3 b4 b5 b6 b7; have u8 : ∀ x : Int, wu8 x = x % 256 := fun x => by show IntKind.u8.wrap x = _; simp [IntKind.wrap, IntKind.bits, IntKind.signed]
 rw [u8] at b0 b1 b2 b3 b4 b5 b6 b7; have fd : ∀ (x k : Int), 0 < k -> Int.fdiv x k = x / k := fun x k hk => Int.fdiv_eq_ediv_of_nonneg _ (by omega)
 rw [fd _ _ (by decide)] at b0 b1 b2 b3 b4 b5 b6 b7; simp only [Iw.val, b0, b1, b2, b3, b4, b5, b6, b7]; rw [lR _ _ (by omega) (by omega), lR _ _ (by omega) (by omega), lR _ _ (by omega) (by omega), lR _ _ (by omega) (by omega), lR _ _ (by omega) (by omega), lR _ _ (by omega) (by omega), lR _ _ (by omega) (by omega), lR _ _ (by omega) (by omega)]; simp only [RowKit.wrap64]; omega
theorem mO (n : Int) : (oi n).length = 8 := rfl
theorem nj (l : List Int) : (cN l).length = 8 * l.length := by
 induction l with
 | nil => rfl
 | cons x l ih => simp only [cN, zbI, zad, mO, zac] at ih ⊢; omega
theorem w8 : ∀ (l : List Int) (k i : Nat), k < l.length -> i < 8 -> (cN l).getD (k * 8 + i) 0 = (oi (l.getD k 0)).getD i 0
 | [], k, i, h, _ => by simp at h
 | x :: l, 0, i, _, hi => by
  simp only [cN, zbI, zb0, zaD, zah, zbj, zbo]; rw [zaA (by rw [mO]; exact hi)]
 | x :: l, k + 1, i, h, hi => by
  have := w8 l k i (by simpa using h) hi; simp only [cN, zbI, zat, zah] at this ⊢; rw [zaN (by rw [mO]; omega), mO, show (k + 1) * 8 + i - 8 = k * 8 + i by omega]; exact this
theorem EK {l : List Int} (h : ∀ n ∈ l, -9223372036854775808 <= n /\ n <= 9223372036854775807) : du (cN l) = l := by
 have hl : (cN l).length / 8 = l.length := by rw [nj]; omega
 apply List.ext_getElem
 . rw [wJ, hl]
 . intro k h1 h2; have e0 : (du (cN l))[k] = Iw.val (fun i => (cN l).getD (k * 8 + i) 0) 8 := by simp [du]
   rw [e0]; have e := GJ (h l[k] (zbv h2)) (fun i => (cN l).getD (k * 8 + i) 0) (fun i hi => by
    show (cN l).getD (k * 8 + i) 0 = _; rw [w8 l k i h2 hi]; simp [h2])
   exact e
def rdS (l : List Int) (k : Nat) (v : Int) : RdR := ⟨v, (k : Int), ((l.length - k : Nat) : Int), false, l⟩
theorem yW {l : List Int} {k : Nat} (v : Int) (h : k < l.length) : nx (rdS l k v) = rdS l (k + 1) (l.getD k 0) := by
 unfold nx rdN rdS; have e : (((((l.length - k : Nat) : Int).toNat : Nat) : Int) == 0) = false := by
  rw [zb3]; simp; omega
 rw [zcc, e, zao]; simp only [zaC]; rw [show l.length - k - 1 = l.length - (k + 1) by omega]
theorem N4 {l : List Int} {k : Nat} (v most : Int) (h : k < l.length) (h0 : 0 <= l.getD k 0) (h1 : l.getD k 0 <= most) : mx (rdS l k v) most = rdS l (k + 1) (l.getD k 0) := by
 have := yW v h; unfold nx at this; unfold mx rdM; dsimp only; rw [this]; rw [show (rdS l (k + 1) (l.getD k 0)).v = l.getD k 0 from rfl, zaQ (show ¬ l.getD k 0 < 0 by omega), zaQ (show ¬ l.getD k 0 > most by omega)]; rfl
def nrP (d : Dat) : Dat := .r [.n (d.i 0), .n (d.i 1), .n (d.i 2), .n (d.i 3)]
def nrN (d : Dat) : Dat := .r [.n (d.i 0), .n (d.i 1), .n (d.i 2)]
theorem bB (A : List Int) (x : Int) (B : List Int) : (A ++ x :: B).getD A.length 0 = x := by simp
theorem DT (l : List Int) : ∀ (aS : List Dat) (A B : List Int) (v : Int), l = A ++ (aS.flatMap fU ++ B) -> ∃ v', jv aS.length (rdS l A.length v) = (aS.map nrP, rdS l (A.length + 4 * aS.length) v')
 | [], A, B, v, _ => ⟨v, rfl⟩
 | d :: aS, A, B, v, h => by
  have hl : l = A ++ (d.i 0 :: d.i 1 :: d.i 2 :: d.i 3 :: (aS.flatMap fU ++ B)) := by rw [h]; simp [fU]
  have hlen : l.length = A.length + 4 + (aS.flatMap fU ++ B).length := by rw [hl]; simp only [zad, zac]; omega
  have g0 : l.getD A.length 0 = d.i 0 := by rw [hl]; exact bB _ _ _
  have g1 : l.getD (A.length + 1) 0 = d.i 1 := by
   rw [hl, show A ++ (d.i 0 :: d.i 1 :: d.i 2 :: d.i 3 :: (aS.flatMap fU ++ B)) = (A ++ [d.i 0]) ++ (d.i 1 :: d.i 2 :: d.i 3 :: (aS.flatMap fU ++ B)) by simp]; rw [show A.length + 1 = (A ++ [d.i 0]).length by simp]; exact bB _ _ _
  have g2 : l.getD (A.length + 1 + 1) 0 = d.i 2 := by
   rw [hl, show A ++ (d.i 0 :: d.i 1 :: d.i 2 :: d.i 3 :: (aS.flatMap fU ++ B)) = (A ++ [d.i 0, d.i 1]) ++ (d.i 2 :: d.i 3 :: (aS.flatMap fU ++ B)) by simp]; rw [show A.length + 1 + 1 = (A ++ [d.i 0, d.i 1]).length by simp]; exact bB _ _ _
  have g3 : l.getD (A.length + 1 + 1 + 1) 0 = d.i 3 := by
   rw [hl, show A ++ (d.i 0 :: d.i 1 :: d.i 2 :: d.i 3 :: (aS.flatMap fU ++ B)) = (A ++ [d.i 0, d.i 1, d.i 2]) ++ (d.i 3 :: (aS.flatMap fU ++ B)) by simp]; rw [show A.length + 1 + 1 + 1 = (A ++ [d.i 0, d.i 1, d.i 2]).length by simp]; exact bB _ _ _
  obtain ⟨v', ih⟩ := DT l aS (A ++ fU d) B (d.i 3) (by rw [h]; simp); rw [show (A ++ fU d).length = A.length + 1 + 1 + 1 + 1 by simp [fU]] at ih; refine ⟨v', ?_⟩; simp only [zac, jv]; rw [yW v (by omega), g0, yW _ (by omega), g1, yW _ (by omega), g2, yW _ (by omega), g3, ih]; simp only [zaT, nrP]; rw [show A.length + 1 + 1 + 1 + 1 + 4 * aS.length = A.length + 4 * (aS.length + 1) by omega]; rfl
theorem Dp (l : List Int) : ∀ (ns : List Dat) (A B : List Int) (v : Int), l = A ++ (ns.flatMap iu ++ B) -> ∃ v', iq ns.length (rdS l A.length v) = (ns.map nrN, rdS l (A.length + 3 * ns.length) v')
 | [], A, B, v, _ => ⟨v, rfl⟩
 | d :: ns, A, B, v, h => by
  have hl : l = A ++ (d.i 0 :: d.i 1 :: d.i 2 :: (ns.flatMap iu ++ B)) := by rw [h]; simp [iu]
  have hlen : l.length = A.length + 3 + (ns.flatMap iu ++ B).length := by rw [hl]; simp only [zad, zac]; omega
  have g0 : l.getD A.length 0 = d.i 0 := by rw [hl]; exact bB _ _ _
  have g1 : l.getD (A.length + 1) 0 = d.i 1 := by
   rw [hl, show A ++ (d.i 0 :: d.i 1 :: d.i 2 :: (ns.flatMap iu ++ B)) = (A ++ [d.i 0]) ++ (d.i 1 :: d.i 2 :: (ns.flatMap iu ++ B)) by simp]; rw [show A.length + 1 = (A ++ [d.i 0]).length by simp]; exact bB _ _ _
  have g2 : l.getD (A.length + 1 + 1) 0 = d.i 2 := by
   rw [hl, show A ++ (d.i 0 :: d.i 1 :: d.i 2 :: (ns.flatMap iu ++ B)) = (A ++ [d.i 0, d.i 1]) ++ (d.i 2 :: (ns.flatMap iu ++ B)) by simp]; rw [show A.length + 1 + 1 = (A ++ [d.i 0, d.i 1]).length by simp]; exact bB _ _ _
  obtain ⟨v', ih⟩ := Dp l ns (A ++ iu d) B (d.i 2) (by rw [h]; simp); rw [show (A ++ iu d).length = A.length + 1 + 1 + 1 by simp [iu]] at ih; refine ⟨v', ?_⟩; simp only [zac, iq]; rw [yW v (by omega), g0, yW _ (by omega), g1, yW _ (by omega), g2, ih]; simp only [zaT, nrN]; rw [show A.length + 1 + 1 + 1 + 3 * ns.length = A.length + 3 * (ns.length + 1) by omega]; rfl
theorem AP {ra : aO} {aS : List Dat} {rb : aM} {notes : List Dat} {next : Int} (hr : bl ra aS rb notes next = true) : ry (ke ra aS rb notes next) = ⟨ra, rb, next, true, aS.map nrP, notes.map nrN⟩ := by
 have hb : aS.length <= 160 /\ notes.length <= 8 := by
  unfold bl at hr; simp only [zab, zag] at hr; omega
 generalize hl : ke ra aS rb notes next = l; have hlen : l.length = 18 + (4 * aS.length + (1 + 3 * notes.length)) := by
  have h1 : ∀ p : List Dat, (p.flatMap fU).length = 4 * p.length := fun p => by
   induction p with
   | nil => rfl
   | cons x p ih => simp only [zbI, zad, ih, fU, zac, zax]; omega
  have h2 : ∀ p : List Dat, (p.flatMap iu).length = 3 * p.length := fun p => by
   induction p with
   | nil => rfl
   | cons x p ih => simp only [zbI, zad, ih, iu, zac, zax]; omega
  rw [<- hl]; simp only [ke, jE, zad, zac, zax, h1, h2]; omega
 have s0 : (⟨0, 0, (l.length : Int), false, l⟩ : RdR) = rdS l 0 0 := rfl; have hd : ∀ i, i < 18 -> l.getD i 0 = (jE ra aS rb next).getD i 0 := fun i hi => by
  rw [<- hl]; unfold ke; simp only [zah]; rw [zaA (by simpa [jE] using hi)]
 have m1 : rdM 0 (l.length : Int) false l 1 = rdS l 1 (bI ra.call) := by
  have e : l.getD 0 0 = bI ra.call := hd 0 (by omega); have := N4 (l := l) (k := 0) 0 1 (by omega) (by rw [e]; cases ra.call <;> decide) (by rw [e]; cases ra.call <;> decide); rw [e] at this; exact this
 have nxk : ∀ (k : Nat) (v : Int), k < 18 -> nx (rdS l k v) = rdS l (k + 1) ((jE ra aS rb next).getD k 0) := fun k v hk => by rw [yW v (by omega), hd k hk]
 have m18 : mx (rdS l 17 next) 160 = rdS l 18 (aS.length : Int) := by
  have e : l.getD 17 0 = (aS.length : Int) := hd 17 (by omega); have := N4 (l := l) (k := 17) next 160 (by omega) (by rw [e]; omega) (by rw [e]; omega)
  rwa [e] at this
 have h1 : ∀ p : List Dat, (p.flatMap fU).length = 4 * p.length := fun p => by
  induction p with
  | nil => rfl
  | cons x p ih => simp only [zbI, zad, ih, fU, zac, zax]; omega
 obtain ⟨v1, p1⟩ := DT l aS (jE ra aS rb next) ((notes.length : Int) :: notes.flatMap iu) (aS.length : Int) hl.symm; have p1 : jv aS.length (rdS l 18 (aS.length : Int)) = (aS.map nrP, rdS l (18 + 4 * aS.length) v1) := p1; have hA : (jE ra aS rb next ++ aS.flatMap fU).length = 18 + 4 * aS.length := by rw [zad, h1]; rfl
 have m24 : mx (rdS l (18 + 4 * aS.length) v1) 8 = rdS l (18 + 4 * aS.length + 1) (notes.length : Int) := by
  have e : l.getD (18 + 4 * aS.length) 0 = (notes.length : Int) := by
   rw [<- hl]; unfold ke; rw [show jE ra aS rb next ++ (aS.flatMap fU ++ (notes.length : Int) :: notes.flatMap iu) = (jE ra aS rb next ++ aS.flatMap fU) ++ (notes.length : Int) :: notes.flatMap iu by simp, <- hA]; exact bB _ _ _
  have := N4 (l := l) (k := 18 + 4 * aS.length) v1 8 (by omega) (by rw [e]; omega) (by rw [e]; omega)
  rwa [e] at this
 obtain ⟨v2, p2⟩ := Dp l notes (jE ra aS rb next ++ aS.flatMap fU ++ [(notes.length : Int)]) [] (notes.length : Int) (by rw [<- hl]; simp [ke]); rw [zad, hA] at p2; have p2 : iq notes.length (rdS l (18 + 4 * aS.length + 1) (notes.length : Int)) = (notes.map nrN, rdS l (18 + 4 * aS.length + 1 + 3 * notes.length) v2) := p2; have key : dq 0 (l.length : Int) false l = ⟨ra, rb, next, aS.map nrP, notes.map nrN, rdS l (18 + 4 * aS.length + 1 + 3 * notes.length) v2⟩ := by
  unfold dq At; dsimp only; rw [m1]; simp (disch := omega) only [nxk, Nat.reduceAdd]; rw [show (jE ra aS rb next).getD 16 0 = next from rfl, m18]; rw [show (rdS l 18 (aS.length : Int)).v.toNat = aS.length from rfl, p1]; dsimp only; rw [m24]; rw [show (rdS l (18 + 4 * aS.length + 1) (notes.length : Int)).v.toNat = notes.length from rfl, p2]; have hc : ((rdS l 1 (bI ra.call)).v == 1) = ra.call := by cases h : ra.call <;> simp [rdS, bI, h]
  rw [hc]; rfl
 have hq : ∀ d : Dat, (nrP d).i 0 = d.i 0 /\ (nrP d).i 1 = d.i 1 /\ (nrP d).i 2 = d.i 2 /\ (nrP d).i 3 = d.i 3 := fun d => ⟨rfl, rfl, rfl, rfl⟩
 have hr2 : bl ra (aS.map nrP) rb (notes.map nrN) next = true := by
  unfold bl at hr ⊢; have a1 : (aS.map nrP).all qB = aS.all qB := by
   rw [List.all_map]; rfl
  have a2 : (notes.map nrN).all o7 = notes.all o7 := by
   rw [List.all_map]; rfl
  rw [zba, zba, a1, a2]; exact hr
 unfold ry; rw [key]; dsimp only; have hn : (rdS l (18 + 4 * aS.length + 1 + 3 * notes.length) v2).n = 0 := by
  show ((l.length - (18 + 4 * aS.length + 1 + 3 * notes.length) : Nat) : Int) = 0; omega
 rw [hn, hr2]; rfl
def wX (a0 : aO) (a1 : List Dat) (a2 : aM) (a3 : List Dat) (a4 : Int) (a5 : aO) (a6 : List Dat) (a7 : aM) (a8 : List Dat) (a9 : Int) : Bool :=
 (a0.call == a5.call) && ((a0.period == a5.period) && ((a0.mode == a5.mode) && (((a0.aj == a5.aj) && ((a0.bT == a5.bT) && ((a0.aC == a5.aC) && ((a0.aK == a5.aK) && true)))) && ((a0.draw == a5.draw) && ((a0.advance == a5.advance) && ((a0.fee == a5.fee) && ((a0.due == a5.due) && ((cL 4 a1 a6) && ((a2.bx == a7.bx) && ((a2.aZ == a7.aZ) && ((a2.aX == a7.aX) && ((a2.out == a7.out) && ((a2.js == a7.js) && ((cL 3 a3 a8) && (a4 == a9)))))))))))))))
def N16 : aD := ⟨T3.tab, 16, ⟨[.agg [.bool, .int .i64, .int .i64, .int .i64, .int .i64, .int .i64, .int .i64, .int .i64, .int .i64, .int .i64, .int .i64, .ai (sI 4), .int .i64, .int .i64, .int .i64, .int .i64, .int .i64, .ai (sI 3), .int .i64], .agg [.bool, .int .i64, .int .i64, .int .i64, .int .i64, .int .i64, .int .i64, .int .i64, .int .i64, .int .i64, .int .i64, .ai (sI 4), .int .i64, .int .i64, .int .i64, .int .i64, .int .i64, .ai (sI 3), .int .i64]], [], 0⟩, ⟨[.bool], [], 0⟩, []⟩
def t16 (m : Nat) : aO × List Dat × aM × List Dat × Int × aO × List Dat × aM × List Dat × Int -> Option (List Un) := fun (a0, a1, a2, a3, a4, a5, a6, a7, a8, a9) =>
 bif a0.call == a5.call then
 bif a0.period == a5.period then
 bif a0.mode == a5.mode then
 bif ((a0.aj == a5.aj) && ((a0.bT == a5.bT) && ((a0.aC == a5.aC) && ((a0.aK == a5.aK) && true)))) then
 bif a0.draw == a5.draw then
 bif (a0.advance == a5.advance) then
 bif a0.fee == a5.fee then
 bif a0.due == a5.due then
 chk (decide (a1.length < 1099511627776)) <|
 bif (cL 4 a1 a6) then
 bif (a2.bx == a7.bx) then
 bif a2.aZ == a7.aZ then
 bif (a2.aX == a7.aX) then
 bif a2.out == a7.out then
 bif a2.js == a7.js then
 chk (decide (a3.length < 1099511627776)) <|
 bif (cL 3 a3 a8) then
 some ([.b (a4 == a9)])
 else
 some ([.b false])
 else
 some ([.b false])
 else
 some ([.b false])
 else
 some ([.b false])
 else
 some ([.b false])
 else
 some ([.b false])
 else
 some ([.b false])
 else
 some ([.b false])
 else
 some ([.b false])
 else
 some ([.b false])
 else
 some ([.b false])
 else
 some ([.b false])
 else
 some ([.b false])
 else
 some ([.b false])
 else
 some ([.b false])
def f16 : aO × List Dat × aM × List Dat × Int × aO × List Dat × aM × List Dat × Int -> Bool × List Un := fun (a0, a1, a2, a3, a4, a5, a6, a7, a8, a9) => (decide (a1.length < 1099511627776) && decide (a3.length < 1099511627776), [.b (wX a0 a1 a2 a3 a4 a5 a6 a7 a8 a9)])
theorem M9 (a0 : aO) (a1 : List Dat) (a2 : aM) (a3 : List Dat) (a4 : Int) (a5 : aO) (a6 : List Dat) (a7 : aM) (a8 : List Dat) (a9 : Int) (hc : (decide (a1.length < 1099511627776) && decide (a3.length < 1099511627776)) = true) : ∃ m, t16 m (a0, a1, a2, a3, a4, a5, a6, a7, a8, a9) = some ([.b (wX a0 a1 a2 a3 a4 a5 a6 a7 a8 a9)]) := by
 have hc' := hc; simp only [zab, zag] at hc'; obtain ⟨h1, h2⟩ := hc'; refine ⟨0, ?_⟩; unfold t16; dsimp only; rw [zai h1, zai h2]; simp only [chk, zaE, kH, wX]
theorem KE : ER 16 (mkE N16.en N16.ex f16) := an ah T3.right (fun m => []) (t := t16) (by kernel_rfl) (fun m => aA) (fun m a => by kernel_rfl) fun (a0, a1, a2, a3, a4, a5, a6, a7, a8, a9) hc => M9 a0 a1 a2 a3 a4 a5 a6 a7 a8 a9 hc
def T16 : Tb Tryz.prog LQ TE XX := T3.add 16 _ KE
theorem uu : ∀ (a b : List Dat), cL 4 a b = true ↔ a.map nrP = b.map nrP
 | [], [] => by simp [cL]
 | [], _ :: _ => by simp [cL]
 | _ :: _, [] => by simp [cL]
 | x :: a, y :: b => by
  have ih := uu a b; simp only [cL, zab, ih, zaT, List.cons.injEq]; refine and_congr_left fun _ => ?_
  simp [vW, nrP]
theorem uO : ∀ (a b : List Dat), cL 3 a b = true ↔ a.map nrN = b.map nrN
 | [], [] => by simp [cL]
 | [], _ :: _ => by simp [cL]
 | _ :: _, [] => by simp [cL]
 | x :: a, y :: b => by
  have ih := uO a b; simp only [cL, zab, ih, zaT, List.cons.injEq]; refine and_congr_left fun _ => ?_
  simp [vW, nrN]
theorem EO {a0 : aO} {a1 : List Dat} {a2 : aM} {a3 : List Dat} {a4 : Int} {a5 : aO} {a6 : List Dat} {a7 : aM} {a8 : List Dat} {a9 : Int} : wX a0 a1 a2 a3 a4 a5 a6 a7 a8 a9 = true ↔ (a0 = a5 /\ a1.map nrP = a6.map nrP /\ a2 = a7 /\ a3.map nrN = a8.map nrN /\ a4 = a9) := by
 unfold wX; simp only [zab, zaw, uu, uO]; constructor
 . rintro ⟨h1, h2, h3, ⟨h4, h5, h6, h7, _⟩, h8, h9, h10, h11, h12, h13, h14, h15, h16, h17, h18, h19⟩
   exact ⟨aO.ext h1 h2 h3 h4 h5 h6 h7 h8 h9 h10 h11, h12, aM.ext h13 h14 h15 h16 h17, h18, h19⟩
 . rintro ⟨rfl, h12, rfl, h18, rfl⟩
   exact ⟨rfl, rfl, rfl, ⟨rfl, rfl, rfl, rfl, trivial⟩, rfl, rfl, rfl, rfl, h12, rfl, rfl, rfl, rfl, rfl, h18, rfl⟩
theorem Bi {ra : aO} {aS : List Dat} {rb : aM} {notes : List Dat} {next : Int} (hr : bl ra aS rb notes next = true) : ∀ n ∈ ke ra aS rb notes next, -9223372036854775808 <= n /\ n <= 9223372036854775807 := by
 unfold bl jf at hr; simp only [List.all_cons, List.all_nil, ru, zab, zag, zan] at hr; obtain ⟨h1, h2, h3, h4, h5, h6, ⟨q1, q2, q3, q4, q5, q6, q7, q8, q9, q10, q11, q12, q13, _⟩, h8, h9, h10, h11⟩ := hr; have hb : 0 <= bI ra.call /\ bI ra.call <= 1 := by cases ra.call <;> decide
 intro n hn; unfold ke jE at hn; simp only [zbM, za3, List.mem_flatMap, List.not_mem_nil, or_false] at hn; rcases hn with (rfl | rfl | rfl | rfl | rfl | rfl | rfl | rfl | rfl | rfl | rfl | rfl | rfl | rfl | rfl | rfl | rfl | rfl) | ⟨d, hd, hn⟩ | rfl | ⟨d, hd, hn⟩
 all_goals try omega
 . have hp := h10 d hd; unfold qB at hp; simp only [zab, zag] at hp; simp only [fU, za3, List.not_mem_nil, or_false] at hn; rcases hn with rfl | rfl | rfl | rfl <;> omega
 . have hp := h11 d hd; unfold o7 at hp; simp only [List.all_cons, List.all_nil, ru, zab, zag] at hp; simp only [iu, za3, List.not_mem_nil, or_false] at hn; rcases hn with rfl | rfl | rfl <;> omega
theorem decode_encode {ra : aO} {aS : List Dat} {rb : aM} {notes : List Dat} {next : Int} (hr : bl ra aS rb notes next = true) : de (bW ra aS rb notes next) = ⟨ra, rb, next, true, aS.map nrP, notes.map nrN⟩ := by
 unfold bW; rw [hr, zaE]; unfold de; have hl := nj (ke ra aS rb notes next); have e : ((cN (ke ra aS rb notes next)).length % 8 == 0) = true := by rw [zaw]; omega
 rw [e, zaE, EK (Bi hr)]; exact AP hr
theorem B7 {ra : aO} {aS : List Dat} {rb : aM} {notes : List Dat} {next : Int} (hr : bl ra aS rb notes next = false) : bW ra aS rb notes next = [] := by unfold bW; rw [hr]; rfl
theorem Cb {ra : aO} {aS : List Dat} {rb : aM} {notes : List Dat} {next : Int} (hr : bl ra aS rb notes next = true) : 0 < (bW ra aS rb notes next).length /\ (bW ra aS rb notes next).length <= 1000000 := by
 have hb : aS.length <= 160 /\ notes.length <= 8 := by
  unfold bl at hr; simp only [zab, zag] at hr; omega
 unfold bW; rw [hr, zaE, nj]; have h1 : ∀ p : List Dat, (p.flatMap fU).length = 4 * p.length := fun p => by
  induction p with
  | nil => rfl
  | cons x p ih => simp only [zbI, zad, ih, fU, zac, zax]; omega
 have h2 : ∀ p : List Dat, (p.flatMap iu).length = 3 * p.length := fun p => by
  induction p with
  | nil => rfl
  | cons x p ih => simp only [zbI, zad, ih, iu, zac, zax]; omega
 simp only [ke, jE, zad, zac, zax, h1, h2]; omega
theorem LU (l : List Dat) : (l.map nrP).map nrP = l.map nrP := by rw [zb7]; rfl
theorem N6 (l : List Dat) : (l.map nrN).map nrN = l.map nrN := by rw [zb7]; rfl
def oO : List Par := [(false, [.int .i64]), (false, [.int .i64])]
def N7 : aD := ⟨T16.tab, 7, ⟨List.map Par.vp oO, [], 0⟩, ⟨[.bool], [], 0⟩, []⟩
abbrev IB : Type := Int × Int × aO × aM × Int × List Dat × List Dat
def CP (m : Nat) (k : IB -> Option (List Un)) : IB -> Option (List Un) := fun (a0, a1, a2, a3, a4, a5, a6) =>
 bif decide (a1 < a0) then
 chk (inb a1 a5.length) <|
 chk (decide (a1.toNat < a5.length)) <|
 k (a0, (w64 (a1 + 1)), a2, a3, a4, (List.set a5 a1.toNat (.r [.n 0, .n 1, .n (-1), .n 1])), a6)
 else
 chk (decide (a5.length <= 1000000) && decide (a6.length <= 1000000)) <|
 bif !(bl a2 a5 a3 a6 a4) then
 chk (decide (a5.length <= 1000000) && decide (a6.length <= 1000000)) <|
 bif ((bW a2 a5 a3 a6 a4).length : Int) == 0 then
 some ([.b true])
 else
 some ([.b false])
 else
 some ([.b false])
def B2 (m : Nat) : Nat -> IB -> Option (List Un) := br (CP m)
theorem wV (m : Nat) (n : Nat) : B2 m (n + 1) = CP m (B2 m n) := rfl
def IH (F : IB -> Option (List Un)) : ba := ⟨[.lp [0, 1, 1, 1, 1, 1, 1, 1, 1, 1, 1, 1, 1, 1, 1, 1, 1, 1, 1, 1, 1, 1, 1, 1, 1, 1, 1, 0, 1, 0, 1, 1, 1, 1, 1], .blk 1, .blk 0, .code [1, 1, 1, 1, 1, 1]], ⟨frm 144 [(6, .ptr 0 0 0), (43, .int .i64), (44, .int .i64)], [.cells [.bool, .int .i64, .int .i64, .int .i64, .int .i64, .int .i64, .int .i64, .int .i64, .int .i64, .int .i64, .int .i64, .buf 1 4, .int .i64, .int .i64, .int .i64, .int .i64, .int .i64, .buf 2 3, .int .i64], .ai (sI 4), .ai (sI 3)], 0⟩, onU F⟩
theorem QO (m : Nat) : ∀ n, HO N7 (IH (B2 m n)) := au ah T16.right (fun k => [IH k]) (fun k h => (aL h aA)) fun k a => by kernel_rfl
def t7 (m : Nat) : Int × Int -> Option (List Un) := fun (a0, a1) =>
 lt ((within a1 0 1099511627776) : Int) fun x1 =>
 lt ((List.replicate 8 (.r [.n 0, .n 0, .n 0])) : List Dat) fun l2 =>
 chk (decide (([.r [.n 15, .n 7, .n 7, .n 1152921504606846976], .r [.n 0, .n 1, .n (-1), .n 1]] : List Dat).length <= 1000000) && decide (l2.length <= 1000000)) <|
 lt ((bW (⟨false, 600, 2, 0, 0, 0, 0, 1152921504606846976, 0, 0, 0⟩ : aO) ([.r [.n 15, .n 7, .n 7, .n 1152921504606846976], .r [.n 0, .n 1, .n (-1), .n 1]] : List Dat) (⟨1152921504606846976, 0, 0, 0, 0⟩ : aM) l2 2) : List Int) fun l3 =>
 chk (decide (l3.length <= 1000000)) <|
 bd ((de l3) : Cv) fun r4 =>
 chk (decide (([.r [.n 15, .n 7, .n 7, .n 1152921504606846976], .r [.n 0, .n 1, .n (-1), .n 1]] : List Dat).length <= 1000000) && decide (l2.length <= 1000000)) <|
 bif !(bl (⟨false, 600, 2, 0, 0, 0, 0, 1152921504606846976, 0, 0, 0⟩ : aO) ([.r [.n 15, .n 7, .n 7, .n 1152921504606846976], .r [.n 0, .n 1, .n (-1), .n 1]] : List Dat) (⟨1152921504606846976, 0, 0, 0, 0⟩ : aM) l2 2) then
 some ([.b false])
 else
 bif !r4.ok then
 some ([.b false])
 else
 chk (decide (r4.aS.length < 1099511627776) && decide (r4.notes.length < 1099511627776)) <|
 bif !(wX r4.ra r4.aS r4.rb r4.notes r4.next (⟨false, 600, 2, 0, 0, 0, 0, 1152921504606846976, 0, 0, 0⟩ : aO) ([.r [.n 15, .n 7, .n 7, .n 1152921504606846976], .r [.n 0, .n 1, .n (-1), .n 1]] : List Dat) (⟨1152921504606846976, 0, 0, 0, 0⟩ : aM) l2 2) then
 some ([.b false])
 else
 bif (within a0 0 12) == 0 then
 lt ((w64 (600 + (w64 (1 + x1)))) : Int) fun x7 =>
 chk (decide (([.r [.n 15, .n 7, .n 7, .n 1152921504606846976], .r [.n 0, .n 1, .n (-1), .n 1]] : List Dat).length <= 1000000) && decide (l2.length <= 1000000)) <|
 bif !(bl (⟨false, x7, 2, 0, 0, 0, 0, 1152921504606846976, 0, 0, 0⟩ : aO) ([.r [.n 15, .n 7, .n 7, .n 1152921504606846976], .r [.n 0, .n 1, .n (-1), .n 1]] : List Dat) (⟨1152921504606846976, 0, 0, 0, 0⟩ : aM) l2 2) then
 chk (decide (([.r [.n 15, .n 7, .n 7, .n 1152921504606846976], .r [.n 0, .n 1, .n (-1), .n 1]] : List Dat).length <= 1000000) && decide (l2.length <= 1000000)) <|
 bif ((bW (⟨false, x7, 2, 0, 0, 0, 0, 1152921504606846976, 0, 0, 0⟩ : aO) ([.r [.n 15, .n 7, .n 7, .n 1152921504606846976], .r [.n 0, .n 1, .n (-1), .n 1]] : List Dat) (⟨1152921504606846976, 0, 0, 0, 0⟩ : aM) l2 2).length : Int) == 0 then
 some ([.b true])
 else
 some ([.b false])
 else
 some ([.b false])
 else
 bif (within a0 0 12) == 1 then
 lt ((w64 (0 - (w64 (1 + x1)))) : Int) fun x10 =>
 chk (decide (([.r [.n 15, .n 7, .n 7, .n 1152921504606846976], .r [.n 0, .n 1, .n (-1), .n 1]] : List Dat).length <= 1000000) && decide (l2.length <= 1000000)) <|
 bif !(bl (⟨false, 600, x10, 0, 0, 0, 0, 1152921504606846976, 0, 0, 0⟩ : aO) ([.r [.n 15, .n 7, .n 7, .n 1152921504606846976], .r [.n 0, .n 1, .n (-1), .n 1]] : List Dat) (⟨1152921504606846976, 0, 0, 0, 0⟩ : aM) l2 2) then
 chk (decide (([.r [.n 15, .n 7, .n 7, .n 1152921504606846976], .r [.n 0, .n 1, .n (-1), .n 1]] : List Dat).length <= 1000000) && decide (l2.length <= 1000000)) <|
 bif ((bW (⟨false, 600, x10, 0, 0, 0, 0, 1152921504606846976, 0, 0, 0⟩ : aO) ([.r [.n 15, .n 7, .n 7, .n 1152921504606846976], .r [.n 0, .n 1, .n (-1), .n 1]] : List Dat) (⟨1152921504606846976, 0, 0, 0, 0⟩ : aM) l2 2).length : Int) == 0 then
 some ([.b true])
 else
 some ([.b false])
 else
 some ([.b false])
 else
 bif (within a0 0 12) == 2 then
 lt ((w64 (2 + (w64 (1 + x1)))) : Int) fun x13 =>
 chk (decide (([.r [.n 15, .n 7, .n 7, .n 1152921504606846976], .r [.n 0, .n 1, .n (-1), .n 1]] : List Dat).length <= 1000000) && decide (l2.length <= 1000000)) <|
 bif !(bl (⟨false, 600, 2, 0, 0, 0, 0, 1152921504606846976, 0, 0, 0⟩ : aO) ([.r [.n 15, .n 7, .n 7, .n 1152921504606846976], .r [.n 0, .n 1, .n (-1), .n 1]] : List Dat) (⟨1152921504606846976, 0, 0, 0, 0⟩ : aM) l2 x13) then
 chk (decide (([.r [.n 15, .n 7, .n 7, .n 1152921504606846976], .r [.n 0, .n 1, .n (-1), .n 1]] : List Dat).length <= 1000000) && decide (l2.length <= 1000000)) <|
 bif ((bW (⟨false, 600, 2, 0, 0, 0, 0, 1152921504606846976, 0, 0, 0⟩ : aO) ([.r [.n 15, .n 7, .n 7, .n 1152921504606846976], .r [.n 0, .n 1, .n (-1), .n 1]] : List Dat) (⟨1152921504606846976, 0, 0, 0, 0⟩ : aM) l2 x13).length : Int) == 0 then
 some ([.b true])
 else
 some ([.b false])
 else
 some ([.b false])
 else
 bif (within a0 0 12) == 3 then
 lt ((w64 (1152921504606846976 + (w64 (1 + x1)))) : Int) fun x16 =>
 chk (decide (([.r [.n 15, .n 7, .n 7, .n 1152921504606846976], .r [.n 0, .n 1, .n (-1), .n 1]] : List Dat).length <= 1000000) && decide (l2.length <= 1000000)) <|
 bif !(bl (⟨false, 600, 2, 0, 0, 0, 0, x16, 0, 0, 0⟩ : aO) ([.r [.n 15, .n 7, .n 7, .n 1152921504606846976], .r [.n 0, .n 1, .n (-1), .n 1]] : List Dat) (⟨1152921504606846976, 0, 0, 0, 0⟩ : aM) l2 2) then
 chk (decide (([.r [.n 15, .n 7, .n 7, .n 1152921504606846976], .r [.n 0, .n 1, .n (-1), .n 1]] : List Dat).length <= 1000000) && decide (l2.length <= 1000000)) <|
 bif ((bW (⟨false, 600, 2, 0, 0, 0, 0, x16, 0, 0, 0⟩ : aO) ([.r [.n 15, .n 7, .n 7, .n 1152921504606846976], .r [.n 0, .n 1, .n (-1), .n 1]] : List Dat) (⟨1152921504606846976, 0, 0, 0, 0⟩ : aM) l2 2).length : Int) == 0 then
 some ([.b true])
 else
 some ([.b false])
 else
 some ([.b false])
 else
 bif (within a0 0 12) == 4 then
 lt ((w64 (0 - (w64 (1 + x1)))) : Int) fun x19 =>
 chk (decide (([.r [.n 15, .n 7, .n 7, .n 1152921504606846976], .r [.n 0, .n 1, .n (-1), .n 1]] : List Dat).length <= 1000000) && decide (l2.length <= 1000000)) <|
 bif !(bl (⟨false, 600, 2, 0, 0, 0, 0, 1152921504606846976, 0, 0, 0⟩ : aO) ([.r [.n 15, .n 7, .n 7, .n 1152921504606846976], .r [.n 0, .n 1, .n (-1), .n 1]] : List Dat) (⟨x19, 0, 0, 0, 0⟩ : aM) l2 2) then
 chk (decide (([.r [.n 15, .n 7, .n 7, .n 1152921504606846976], .r [.n 0, .n 1, .n (-1), .n 1]] : List Dat).length <= 1000000) && decide (l2.length <= 1000000)) <|
 bif ((bW (⟨false, 600, 2, 0, 0, 0, 0, 1152921504606846976, 0, 0, 0⟩ : aO) ([.r [.n 15, .n 7, .n 7, .n 1152921504606846976], .r [.n 0, .n 1, .n (-1), .n 1]] : List Dat) (⟨x19, 0, 0, 0, 0⟩ : aM) l2 2).length : Int) == 0 then
 some ([.b true])
 else
 some ([.b false])
 else
 some ([.b false])
 else
 bif (within a0 0 12) == 5 then
 lt ((w64 (0 - (w64 (1 + x1)))) : Int) fun x22 =>
 chk (decide (([.r [.n 15, .n 7, .n 7, .n 1152921504606846976], .r [.n 0, .n 1, .n (-1), .n 1]] : List Dat).length <= 1000000) && decide (l2.length <= 1000000)) <|
 bif !(bl (⟨false, 600, 2, x22, 0, 0, 0, 1152921504606846976, 0, 0, 0⟩ : aO) ([.r [.n 15, .n 7, .n 7, .n 1152921504606846976], .r [.n 0, .n 1, .n (-1), .n 1]] : List Dat) (⟨1152921504606846976, 0, 0, 0, 0⟩ : aM) l2 2) then
 chk (decide (([.r [.n 15, .n 7, .n 7, .n 1152921504606846976], .r [.n 0, .n 1, .n (-1), .n 1]] : List Dat).length <= 1000000) && decide (l2.length <= 1000000)) <|
 bif ((bW (⟨false, 600, 2, x22, 0, 0, 0, 1152921504606846976, 0, 0, 0⟩ : aO) ([.r [.n 15, .n 7, .n 7, .n 1152921504606846976], .r [.n 0, .n 1, .n (-1), .n 1]] : List Dat) (⟨1152921504606846976, 0, 0, 0, 0⟩ : aM) l2 2).length : Int) == 0 then
 some ([.b true])
 else
 some ([.b false])
 else
 some ([.b false])
 else
 bif (within a0 0 12) == 6 then
 lt (ag ([.r [.n 15, .n 7, .n 7, .n 1152921504606846976], .r [.n 0, .n 1, .n (-1), .n 1]]) 0 : Dat) fun d26 =>
 lt ((List.set ([.r [.n 15, .n 7, .n 7, .n 1152921504606846976], .r [.n 0, .n 1, .n (-1), .n 1]]) 0 (.r [.n (w64 (15 + (w64 (1 + x1)))), .n (d26.i 1), .n (d26.i 2), .n (d26.i 3)])) : List Dat) fun l27 =>
 chk (decide (l27.length <= 1000000) && decide (l2.length <= 1000000)) <|
 bif !(bl (⟨false, 600, 2, 0, 0, 0, 0, 1152921504606846976, 0, 0, 0⟩ : aO) l27 (⟨1152921504606846976, 0, 0, 0, 0⟩ : aM) l2 2) then
 chk (decide (l27.length <= 1000000) && decide (l2.length <= 1000000)) <|
 bif ((bW (⟨false, 600, 2, 0, 0, 0, 0, 1152921504606846976, 0, 0, 0⟩ : aO) l27 (⟨1152921504606846976, 0, 0, 0, 0⟩ : aM) l2 2).length : Int) == 0 then
 some ([.b true])
 else
 some ([.b false])
 else
 some ([.b false])
 else
 bif (within a0 0 12) == 7 then
 lt (ag ([.r [.n 15, .n 7, .n 7, .n 1152921504606846976], .r [.n 0, .n 1, .n (-1), .n 1]]) 0 : Dat) fun d31 =>
 lt ((List.set ([.r [.n 15, .n 7, .n 7, .n 1152921504606846976], .r [.n 0, .n 1, .n (-1), .n 1]]) 0 (.r [.n (d31.i 0), .n (w64 (7 + (w64 (1 + x1)))), .n (d31.i 2), .n (d31.i 3)])) : List Dat) fun l32 =>
 chk (decide (l32.length <= 1000000) && decide (l2.length <= 1000000)) <|
 bif !(bl (⟨false, 600, 2, 0, 0, 0, 0, 1152921504606846976, 0, 0, 0⟩ : aO) l32 (⟨1152921504606846976, 0, 0, 0, 0⟩ : aM) l2 2) then
 chk (decide (l32.length <= 1000000) && decide (l2.length <= 1000000)) <|
 bif ((bW (⟨false, 600, 2, 0, 0, 0, 0, 1152921504606846976, 0, 0, 0⟩ : aO) l32 (⟨1152921504606846976, 0, 0, 0, 0⟩ : aM) l2 2).length : Int) == 0 then
 some ([.b true])
 else
 some ([.b false])
 else
 some ([.b false])
 else
 bif (within a0 0 12) == 8 then
 lt (ag ([.r [.n 15, .n 7, .n 7, .n 1152921504606846976], .r [.n 0, .n 1, .n (-1), .n 1]]) 1 : Dat) fun d36 =>
 lt ((List.set ([.r [.n 15, .n 7, .n 7, .n 1152921504606846976], .r [.n 0, .n 1, .n (-1), .n 1]]) 1 (.r [.n (d36.i 0), .n (d36.i 1), .n (w64 ((-1) - (w64 (1 + x1)))), .n (d36.i 3)])) : List Dat) fun l37 =>
 chk (decide (l37.length <= 1000000) && decide (l2.length <= 1000000)) <|
 bif !(bl (⟨false, 600, 2, 0, 0, 0, 0, 1152921504606846976, 0, 0, 0⟩ : aO) l37 (⟨1152921504606846976, 0, 0, 0, 0⟩ : aM) l2 2) then
 chk (decide (l37.length <= 1000000) && decide (l2.length <= 1000000)) <|
 bif ((bW (⟨false, 600, 2, 0, 0, 0, 0, 1152921504606846976, 0, 0, 0⟩ : aO) l37 (⟨1152921504606846976, 0, 0, 0, 0⟩ : aM) l2 2).length : Int) == 0 then
 some ([.b true])
 else
 some ([.b false])
 else
 some ([.b false])
 else
 bif (within a0 0 12) == 9 then
 lt (ag ([.r [.n 15, .n 7, .n 7, .n 1152921504606846976], .r [.n 0, .n 1, .n (-1), .n 1]]) 1 : Dat) fun d41 =>
 lt ((List.set ([.r [.n 15, .n 7, .n 7, .n 1152921504606846976], .r [.n 0, .n 1, .n (-1), .n 1]]) 1 (.r [.n (d41.i 0), .n (d41.i 1), .n (d41.i 2), .n (w64 (1 - (w64 (1 + x1))))])) : List Dat) fun l42 =>
 chk (decide (l42.length <= 1000000) && decide (l2.length <= 1000000)) <|
 bif !(bl (⟨false, 600, 2, 0, 0, 0, 0, 1152921504606846976, 0, 0, 0⟩ : aO) l42 (⟨1152921504606846976, 0, 0, 0, 0⟩ : aM) l2 2) then
 chk (decide (l42.length <= 1000000) && decide (l2.length <= 1000000)) <|
 bif ((bW (⟨false, 600, 2, 0, 0, 0, 0, 1152921504606846976, 0, 0, 0⟩ : aO) l42 (⟨1152921504606846976, 0, 0, 0, 0⟩ : aM) l2 2).length : Int) == 0 then
 some ([.b true])
 else
 some ([.b false])
 else
 some ([.b false])
 else
 bif (within a0 0 12) == 10 then
 lt ((List.set l2 3 (.r [.n ((ag l2 3).i 0), .n ((ag l2 3).i 1), .n (w64 (0 - (w64 (1 + x1))))])) : List Dat) fun l47 =>
 chk (decide (([.r [.n 15, .n 7, .n 7, .n 1152921504606846976], .r [.n 0, .n 1, .n (-1), .n 1]] : List Dat).length <= 1000000) && decide (l47.length <= 1000000)) <|
 bif !(bl (⟨false, 600, 2, 0, 0, 0, 0, 1152921504606846976, 0, 0, 0⟩ : aO) ([.r [.n 15, .n 7, .n 7, .n 1152921504606846976], .r [.n 0, .n 1, .n (-1), .n 1]] : List Dat) (⟨1152921504606846976, 0, 0, 0, 0⟩ : aM) l47 2) then
 chk (decide (([.r [.n 15, .n 7, .n 7, .n 1152921504606846976], .r [.n 0, .n 1, .n (-1), .n 1]] : List Dat).length <= 1000000) && decide (l47.length <= 1000000)) <|
 bif ((bW (⟨false, 600, 2, 0, 0, 0, 0, 1152921504606846976, 0, 0, 0⟩ : aO) ([.r [.n 15, .n 7, .n 7, .n 1152921504606846976], .r [.n 0, .n 1, .n (-1), .n 1]] : List Dat) (⟨1152921504606846976, 0, 0, 0, 0⟩ : aM) l47 2).length : Int) == 0 then
 some ([.b true])
 else
 some ([.b false])
 else
 some ([.b false])
 else
 bif (within a0 0 12) == 11 then
 lt ((w64 ((w64 (8 + (w64 ((BitVec.ofInt 64 (w64 (1 + x1)) &&& BitVec.ofInt 64 7).toNat)))) + 1)) : Int) fun x51 =>
 chk (jC x51 24) <|
 lt ((List.replicate x51.toNat (.r [.n 0, .n 0, .n 0])) : List Dat) fun l52 =>
 chk (decide (([.r [.n 15, .n 7, .n 7, .n 1152921504606846976], .r [.n 0, .n 1, .n (-1), .n 1]] : List Dat).length <= 1000000) && decide (l52.length <= 1000000)) <|
 bif !(bl (⟨false, 600, 2, 0, 0, 0, 0, 1152921504606846976, 0, 0, 0⟩ : aO) ([.r [.n 15, .n 7, .n 7, .n 1152921504606846976], .r [.n 0, .n 1, .n (-1), .n 1]] : List Dat) (⟨1152921504606846976, 0, 0, 0, 0⟩ : aM) l52 2) then
 chk (decide (([.r [.n 15, .n 7, .n 7, .n 1152921504606846976], .r [.n 0, .n 1, .n (-1), .n 1]] : List Dat).length <= 1000000) && decide (l52.length <= 1000000)) <|
 bif ((bW (⟨false, 600, 2, 0, 0, 0, 0, 1152921504606846976, 0, 0, 0⟩ : aO) ([.r [.n 15, .n 7, .n 7, .n 1152921504606846976], .r [.n 0, .n 1, .n (-1), .n 1]] : List Dat) (⟨1152921504606846976, 0, 0, 0, 0⟩ : aM) l52 2).length : Int) == 0 then
 some ([.b true])
 else
 some ([.b false])
 else
 some ([.b false])
 else
 B2 m m (161, 0, (⟨false, 600, 2, 0, 0, 0, 0, 1152921504606846976, 0, 0, 0⟩ : aO), (⟨1152921504606846976, 0, 0, 0, 0⟩ : aM), 2, (List.replicate 161 (.r [.n 0, .n 0, .n 0, .n 0])), l2)
theorem pR {ra : aO} {p : List Dat} {rb : aM} {q : List Dat} {nx : Int} (hl : p.length <= 1000000 /\ q.length <= 1000000) (hr : bl ra p rb q nx = false) :
 (chk (decide (p.length <= 1000000) && decide (q.length <= 1000000)) <| bif !(bl ra p rb q nx) then chk (decide (p.length <= 1000000) && decide (q.length <= 1000000)) <| bif ((bW ra p rb q nx).length : Int) == 0 then some ([.b true] : List Un) else some [.b false] else some [.b false]) = some [.b true] := by
 have k : (decide (p.length <= 1000000) && decide (q.length <= 1000000)) = true := by rw [zai hl.1, zai hl.2]; rfl
 refine bo k (Gm (by rw [hr]; rfl) (bo k (Gm ?_ rfl))); rw [B7 hr]; rfl
theorem lg {α : Type} {c : Bool} {a b r : α} (h : a = r) (k : b = r) : (bif c then a else b) = r := by cases c; exact k; exact h
theorem oA {n : Int} (h1 : -9223372036854775808 <= n) (h2 : n <= 9223372036854775807) : w64 n = n := wr h1 h2
theorem eO {ra : aO} {p : List Dat} {rb : aM} {q : List Dat} {nx : Int} (h : bl ra p rb q nx = true -> False) : bl ra p rb q nx = false := Bool.eq_false_iff.2 h
theorem iG {ra : aO} {p : List Dat} {rb : aM} {q : List Dat} {nx : Int} (h : bl ra p rb q nx = true) : 0 <= ra.period /\ ra.period <= 600 /\ 0 <= ra.mode /\ ra.mode <= 2 /\ 0 <= nx /\ nx <= 2 /\ (∀ n ∈ jf ra rb, 0 <= n /\ n <= 1152921504606846976) /\ (p.length : Int) <= 160 /\ (q.length : Int) <= 8 /\ (∀ d ∈ p, d.i 0 >= 0 /\ d.i 0 <= 15 /\ d.i 1 >= 1 /\ d.i 1 <= 7 /\ d.i 2 >= -1 /\ d.i 2 <= 7 /\ d.i 3 >= 1 /\ d.i 3 <= 1152921504606846976) /\ (∀ d ∈ q, (0 <= d.i 0 /\ d.i 0 <= 1152921504606846976) /\ (0 <= d.i 1 /\ d.i 1 <= 1152921504606846976) /\ (0 <= d.i 2 /\ d.i 2 <= 1152921504606846976) /\ True) := by
 unfold bl at h; simp only [zab, zag, zan, ru, qB] at h; obtain ⟨h1, h2, h3, h4, h5, h6, h7, h8, h9, h10, h11⟩ := h; refine ⟨h1, h2, h3, h4, h5, h6, h7, h8, h9, h10, fun d hd => ?_⟩; have := h11 d hd; unfold o7 at this; simpa only [List.all_cons, List.all_nil, ru, zab, zag] using this
theorem P1 (v : Int) : (BitVec.ofInt 64 v &&& BitVec.ofInt 64 7).toNat <= 7 := by
 rw [BitVec.toNat_and]; exact zaF Nat.and_le_right (by decide)
theorem Pu (m : Nat) (ra : aO) (rb : aM) (nx : Int) (q : List Dat) (hq : q.length <= 1000000) : ∀ (rest pre : List Dat) (n : Nat), rest.length < n -> (pre ++ rest).length = 161 -> B2 m n (161, (pre.length : Int), ra, rb, nx, pre ++ rest, q) = some [.b true] := by
 intro rest
 induction rest with
 | nil =>
  intro pre n hn hl; obtain ⟨n, rfl⟩ := al n (by simp at hn; omega); rw [wV]; unfold CP; dsimp only; rw [aE (by simp only [zaW] at hl; omega)]; refine pR ⟨by omega, hq⟩ (eO fun h => ?_); unfold bl at h; simp only [zab, zag, hl] at h; omega
 | cons x rest ih =>
  intro pre n hn hl; obtain ⟨n, rfl⟩ := al n (by simp at hn; omega); simp only [zac, zad] at hn hl; rw [wV]; unfold CP; dsimp only; rw [bF (by omega)]; refine bo (zai (by simp; omega)) (bo (zai (by simp)) ?_); rw [show w64 ((pre.length : Int) + 1) = (pre.length : Int) + 1 from wr (by omega) (by omega)]; have e : List.set (pre ++ x :: rest) (pre.length : Int).toNat (.r [.n 0, .n 1, .n (-1), .n 1]) = (pre ++ [.r [.n 0, .n 1, .n (-1), .n 1]]) ++ rest := by simp
  rw [e]; have := ih (pre ++ [.r [.n 0, .n 1, .n (-1), .n 1]]) n (by omega) (by simp; omega); rw [zad, List.length_singleton, zay] at this; exact this
set_option maxHeartbeats 2000000 in
theorem Pf (a0 : Int) (wa0 : (Lit.int .i64 a0).wf = true) (a1 : Int) (wa1 : (Lit.int .i64 a1).wf = true) : ∃ m, t7 m (a0, a1) = some [.b true] := by
 refine ⟨200, ?_⟩; unfold t7; dsimp only [lt]; have hx := Eu (a := a1) (lo := 0) (hi := 1099511627776) (by decide); generalize within a1 0 1099511627776 = x at *
 have w1 : w64 (1 + x) = 1 + x := wr (by omega) (by omega); have hR : bl ⟨false, 600, 2, 0, 0, 0, 0, 1152921504606846976, 0, 0, 0⟩ [.r [.n 15, .n 7, .n 7, .n 1152921504606846976], .r [.n 0, .n 1, .n (-1), .n 1]] ⟨1152921504606846976, 0, 0, 0, 0⟩ (List.replicate 8 (.r [.n 0, .n 0, .n 0])) 2 = true := by kernel_rfl
 have hD := decode_encode hR; have hE := Cb hR; refine bo (by simp) (bo (zai hE.2) ?_); rw [hD]; dsimp only [bd]; refine bo (by simp) (oP (by rw [hR]; rfl) (oP rfl (bo (by simp) (oP (by rw [EO.2 ⟨rfl, LU _, rfl, N6 _, rfl⟩]; rfl) ?_)))); clear hD hE hR; rw [w1]; have pz : ∀ z : Dat, ([z, z] : List Dat).length <= 1000000 := fun _ => by simp
 have qz : (List.replicate 8 (Dat.r [.n 0, .n 0, .n 0])).length <= 1000000 := by simp
 refine lg ?_ (lg ?_ (lg ?_ (lg ?_ (lg ?_ (lg ?_ (lg ?_ (lg ?_ (lg ?_ (lg ?_ (lg ?_ (lg ?_ ?_)))))))))))
 . refine pR ⟨by decide, qz⟩ (eO fun h => ?_); rw [oA (by omega) (by omega)] at h; obtain ⟨h1, h2, h3, h4, h5, h6, h7, h8, h9, h10, h11⟩ := iG h; dsimp only at h2; omega
 . refine pR ⟨by decide, qz⟩ (eO fun h => ?_); rw [oA (by omega) (by omega)] at h; obtain ⟨h1, h2, h3, h4, h5, h6, h7, h8, h9, h10, h11⟩ := iG h; dsimp only at h3; omega
 . refine pR ⟨by decide, qz⟩ (eO fun h => ?_); rw [oA (by omega) (by omega)] at h; obtain ⟨h1, h2, h3, h4, h5, h6, h7, h8, h9, h10, h11⟩ := iG h; omega
 . refine pR ⟨by decide, qz⟩ (eO fun h => ?_); rw [oA (by omega) (by omega)] at h; obtain ⟨h1, h2, h3, h4, h5, h6, h7, h8, h9, h10, h11⟩ := iG h; have := h7 (1152921504606846976 + (1 + x)) (by simp [jf]); omega
 . refine pR ⟨by decide, qz⟩ (eO fun h => ?_); rw [oA (by omega) (by omega)] at h; obtain ⟨h1, h2, h3, h4, h5, h6, h7, h8, h9, h10, h11⟩ := iG h; have := h7 (0 - (1 + x)) (by simp [jf]); omega
 . refine pR ⟨by decide, qz⟩ (eO fun h => ?_); rw [oA (by omega) (by omega)] at h; obtain ⟨h1, h2, h3, h4, h5, h6, h7, h8, h9, h10, h11⟩ := iG h; have := h7 (0 - (1 + x)) (by simp [jf]); omega
 . refine pR ⟨by simp, qz⟩ (eO fun h => ?_); obtain ⟨h1, h2, h3, h4, h5, h6, h7, h8, h9, h10, h11⟩ := iG h; have k := (h10 _ zb1).2.1; change w64 (15 + (1 + x)) <= 15 at k; rw [oA (by omega) (by omega)] at k; omega
 . refine pR ⟨by simp, qz⟩ (eO fun h => ?_); obtain ⟨h1, h2, h3, h4, h5, h6, h7, h8, h9, h10, h11⟩ := iG h; have k := (h10 _ zb1).2.2.2.1; change w64 (7 + (1 + x)) <= 7 at k; rw [oA (by omega) (by omega)] at k; omega
 . refine pR ⟨by simp, qz⟩ (eO fun h => ?_); obtain ⟨h1, h2, h3, h4, h5, h6, h7, h8, h9, h10, h11⟩ := iG h; have k := (h10 _ (zaK _ zb1)).2.2.2.2.1; change w64 (-1 - (1 + x)) >= -1 at k; rw [oA (by omega) (by omega)] at k; omega
 . refine pR ⟨by simp, qz⟩ (eO fun h => ?_); obtain ⟨h1, h2, h3, h4, h5, h6, h7, h8, h9, h10, h11⟩ := iG h; have k := (h10 _ (zaK _ zb1)).2.2.2.2.2.2.1; change w64 (1 - (1 + x)) >= 1 at k; rw [oA (by omega) (by omega)] at k; omega
 . refine pR ⟨by decide, by simp⟩ (eO fun h => ?_); obtain ⟨h1, h2, h3, h4, h5, h6, h7, h8, h9, h10, h11⟩ := iG h; have k := (h11 _ (List.mem_set (by rw [zbO]; omega) _)).2.2.1.1; change 0 <= w64 (0 - (1 + x)) at k; rw [oA (by omega) (by omega)] at k; omega
 . have hn := P1 (w64 (1 + x)); rw [w1] at hn; generalize (BitVec.ofInt 64 (1 + x) &&& BitVec.ofInt 64 7).toNat = y at *
   have e : w64 (w64 (8 + w64 (y : Int)) + 1) = ((9 + y : Nat) : Int) := by
    rw [oA (n := (y : Int)) (by omega) (by omega), oA (n := 8 + (y : Int)) (by omega) (by omega), oA (by omega) (by omega)]; omega
   rw [e, zaC]; refine bo (zai ⟨by omega, by omega, by omega⟩) (pR ⟨by decide, by rw [zbO]; omega⟩ (eO fun h => ?_)); obtain ⟨h1, h2, h3, h4, h5, h6, h7, h8, h9, h10, h11⟩ := iG h; rw [zbO] at h9; omega
 . have := Pu 200 ⟨false, 600, 2, 0, 0, 0, 0, 1152921504606846976, 0, 0, 0⟩ ⟨1152921504606846976, 0, 0, 0, 0⟩ 2 _ qz (List.replicate 161 (.r [.n 0, .n 0, .n 0, .n 0])) [] 200 (by rw [zbO]; omega) (by rw [zaV, zbO]); exact this
set_option maxRecDepth 20000 in
theorem rn {HH : Type} {enc : TypeId × Value -> HH} {w : World} {base : Nat} {vs : List Value} {ds : List (DataW HH)} {ps : List MemPlace} (hsh : w.ShapedOpen Tryz.prog)
 (hd : DataW.TrodAll enc Tryz.prog w 0 (fun _ => true) true Tryz.f7.params.toList vs ds ps) {us' : List TypeId} {gs : List (DataW HH)} (hz : (DataW.weightsEach Tryz.prog (Tryz.f7.params.toList ++ us') (ds ++ gs)).all (· <= reachBytes) = true) (hval : ∀ (j : Nat) t v, Tryz.f7.params.toList[j]? = some t -> vs[j]? = some v -> Value.okWide Tryz.prog w .any base t v) :
 Calls Tryz.prog 7 vs.toArray w fun e w' => e = .returned (.bool true) /\ RowKit.Below w.heap.size w w' :=
 G8 Seat.mix Seat.names Gh Lt (pars := oO) (by kernel_rfl) (fun us h => by
  change WfU [.int .i64, .int .i64] us at h; obtain ⟨a0, u, rfl, wa0, h⟩ := Bn h; obtain ⟨a1, u, rfl, wa1, h⟩ := Bn h; obtain rfl := G0 h; obtain ⟨m, hm⟩ := Pf a0 wa0 a1 wa1; have G : N7.Be Tryz.prog LQ KN (Uns.enc (a0, a1)) ([IH (B2 m m)]) = t7 m (a0, a1) := by kernel_rfl
  exact N7.Lq ah T16.right (W := [IH (B2 m m)]) (by kernel_rfl) (by kernel_rfl) (by kernel_rfl) (aL (QO m m) aA) (G.trans hm)) hsh hd hz hval
end
end Go.Proofs.YtcbnpnaagbhknaaGreat
