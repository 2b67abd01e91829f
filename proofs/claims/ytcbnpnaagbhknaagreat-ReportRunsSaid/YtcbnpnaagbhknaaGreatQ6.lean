/- Part of a proof: Closing, ClosePlain, Close, Runs, TheWord, Record, ReportRuns, WReportRuns. Conditions: none. -/
import Derived.Test.YtcbnpnaagbhknaaGreatQ5
set_option linter.unusedVariables false
set_option linter.unusedSimpArgs false
set_option linter.unnecessarySimpa false
set_option linter.unusedSectionVars false
namespace Go.Proofs.YtcbnpnaagbhknaaGreat
noncomputable section
open Go Go.Proofs.YtcbnpnaagbhknaaGreat.Ev
set_option maxRecDepth 20000
@[ext] structure bK where
 call : Bool
 period : Int
 mode : Int
 aj : Int
 cn : Int
 aD : Int
 aK : Int
 draw : Int
 advance : Int
 fee : Int
 due : Int
instance : Uns bK := Uns.via (B := Bool × Int × Int × Int × Int × Int × Int × Int × Int × Int × Int) (fun x => (x.call, x.period, x.mode, x.aj, x.cn, x.aD, x.aK, x.draw, x.advance, x.fee, x.due)) (fun x => match x with | (call, period, mode, aj, cn, aD, aK, draw, advance, fee, due) => ⟨call, period, mode, aj, cn, aD, aK, draw, advance, fee, due⟩) (fun _ => rfl)
@[ext] structure bA where
 bL : Int
 ba : Int
 bf : Int
 out : Int
 kY : Int
instance : Uns bA := Uns.via (B := Int × Int × Int × Int × Int) (fun x => (x.bL, x.ba, x.bf, x.out, x.kY)) (fun x => match x with | (bL, ba, bf, out, kY) => ⟨bL, ba, bf, out, kY⟩) (fun _ => rfl)
def cO (a : aw) (p bal r : Int) : Int := zO bal r a.basis (eS a.year a.month 1 p) (eL a.year a.month 1 p) (fM a.year a.month 1 p) (eS a.year a.month 1 (p + 1)) (eL a.year a.month 1 (p + 1)) (fM a.year a.month 1 (p + 1))
theorem qC {y m p : Int} (h1 : 1 <= y) (h2 : y <= 9000) (h3 : 1 <= m) (h4 : m <= 12) (h5 : 0 <= p) (h6 : p <= 700) : 1 <= eS y m 1 p /\ eS y m 1 p <= 9999 /\ 1 <= eL y m 1 p /\ eL y m 1 p <= 12 /\ fM y m 1 p = 1 /\ bQ (eS y m 1 p) (eL y m 1 p) (fM y m 1 p) = true /\ 12 * eS y m 1 p + eL y m 1 p = 12 * y + m + p := by
 have l1 := lV (y := y) (m := m) h1 (by omega) h3 h4; have hs : fY y m 1 p = true := by
  unfold fY; rw [show bQ y m 1 = true from cQ.2 ⟨by omega, by omega⟩]; simp only [zbg, zag]; omega
 unfold eS eL fM; rw [hs, if_pos rfl, if_pos rfl, if_pos rfl]; have l2 := lV (y := (12 * y + m - 1 + p) / 12) (m := (12 * y + m - 1 + p) % 12 + 1) (by omega) (by omega) (by omega) (by omega); have hd : min 1 (cw ((12 * y + m - 1 + p) / 12) ((12 * y + m - 1 + p) % 12 + 1)) = 1 := by omega
 rw [hd]; exact ⟨by omega, by omega, by omega, by omega, rfl, cQ.2 ⟨by omega, by omega⟩, by omega⟩
theorem zY {b y m y' m' : Int} (h1 : 1 <= y) (h2 : y <= 9999) (h3 : 1 <= m) (h4 : m <= 12) (h5 : 12 * y' + m' = 12 * y + m + 1) (h6 : 1 <= m') (h7 : m' <= 12) (r1 : bQ y m 1 = true) (r2 : bQ y' m' 1 = true) : 0 <= iZ b y m 1 y' m' 1 /\ iZ b y m 1 y' m' 1 <= 731 := by
 have n1 := pk r1; have n2 := pk r2; have a1 := nv h1; have a2 := nv (y := y + 1) (by omega); have q1 := oL y; have q2 := oL (y + 1); unfold iZ
 split
 . split
   . unfold com; rw [if_neg (by omega)]; omega
   . split
     . rename_i h _ _; have hy : y' = y \/ y' = y + 1 := by omega
       rcases hy with rfl | rfl <;> omega
     . omega
 . omega
theorem D9 {n b : Int} (p : Int) (hp : p = 3600000 \/ p = 3650000) (h1 : 0 <= n) (h2 : n <= 1099511627776) (h3 : 0 <= b) (h4 : b <= 3655000) : 0 <= mdV n b p 2 /\ mdV n b p 2 <= 1200000000000 := by
 unfold mdV
 split
 . have hm := zbO h4 h1; have hz := zaZ h1 h3; have e := zba (n * b) p; have r0 := zbA (n * b) (show p ≠ 0 by omega); have d0 : 0 <= n * b / p := zbs hz (by omega); have d1 : n * b / p <= 1117000000000 := by
    have : n * b < 4018800800000000001 := by omega
    rcases hp with rfl | rfl <;> omega
   unfold mdQ
   split <;> omega
 . omega
theorem oB {a : aw} {p bal : Int} (r : Int) (h1 : 1 <= a.year) (h2 : a.year <= 9000) (h3 : 1 <= a.month) (h4 : a.month <= 12) (h5 : 0 <= p) (h6 : p <= 650) (b0 : 0 <= bal) (b1 : bal <= 1099511627776) : 0 <= cO a p bal r /\ cO a p bal r <= 1200000000000 := by
 obtain ⟨s1, s2, s3, s4, s5, s6, s7⟩ := qC h1 h2 h3 h4 h5 (by omega); obtain ⟨t1, t2, t3, t4, t5, t6, t7⟩ := qC h1 h2 h3 h4 (show 0 <= p + 1 by omega) (by omega); unfold cO zO; rw [s5] at s6 ⊢; rw [t5] at t6 ⊢
 split
 . rename_i hr; have hd := zY (b := a.basis) s1 s2 s3 s4 (by omega) t3 t4 s6 t6; have k0 := zaZ hr.1 hd.1; have k1 := Int.mul_le_mul hr.2 hd.2 hd.1 (show (0 : Int) <= 5000 by omega); exact D9 _ (by unfold uv; split <;> omega) b0 b1 k0 (by omega)
 . omega
def dP (a : aw) (p : Int) (d : Dat) : Dat := xe (cO a p (bc d) (d.i 2)) d
theorem DN {d : Dat} (h : aI d = true) : 0 <= bc d /\ bc d <= 1099511627776 := by
 have := bZ h; unfold bc; omega
def N34 : aC := ⟨T84.tab, 34, ⟨[.ptr 0 0 0, .int .i64], bX 0, 0⟩, ⟨[.int .i64, .int .i64], bX 0, 0⟩, []⟩
abbrev Da : Type := Int × Int × Int × Int × aw × az × ak × List Dat × List Dat × List Dat × List Dat × List Dat × List Dat × List Dat × Int × Int × Int × Int × Int × Int
def wL (m : Nat) (k : Da -> Option (List Un)) : Da -> Option (List Un) := fun (a0, a1, a2, a3, a4, a5, a6, a7, a8, a9, a10, a11, a12, a13, a14, a15, a16, a17, a18, a19) =>
 bif decide (a3 < a2) then
 chk (inb a3 a13.length) <|
 chk (decide (a3.toNat < a13.length)) <|
 lt (ag a13 a3.toNat : Dat) fun d9 =>
 chk (decide (a3.toNat < a13.length)) <|
 lt ((zO (w64 (w64 ((d9.i 1) - w64 ((d9.i 3) - (d9.i 4))) - (d9.i 6))) ((ag a13 a3.toNat).i 2) a4.basis a14 a15 a16 a17 a18 a19) : Int) fun x12 =>
 chk (decide (0 <= x12 /\ x12 <= 1125899906842624) && (decide (0 <= (a3.toNat : Int) /\ (a3.toNat : Int).toNat < a13.length) && aI (ag a13 (a3.toNat : Int).toNat))) <|
 k (a0, (w64 (a1 + x12)), a2, (w64 (a3 + 1)), a4, a5, a6, a7, a8, a9, a10, a11, a12, (a13.set (a3.toNat : Int).toNat (xe x12 (ag a13 (a3.toNat : Int).toNat))), a14, a15, a16, a17, a18, a19)
 else
 some ([.i a0, .i a1] ++ Uns.enc (a4 : aw) ++ Uns.enc (a5 : az) ++ Uns.enc (a6 : ak) ++ [.d a7, .d a8, .d a9, .d a10, .d a11, .d a12, .d a13])
def sM (m : Nat) : Nat -> Da -> Option (List Un) := bo (wL m)
theorem tN (m : Nat) (n : Nat) : sM m (n + 1) = wL m (sM m n) := rfl
def F7 (F : Da -> Option (List Un)) : aW := ⟨[.lp [0, 1, 0, 1, 1, 1, 1, 1], .blk 0, .code [1, 1, 1, 1, 1, 1]], ⟨frm 88 [(0, .ptr 0 0 0), (6, .ptr 9 0 0), (7, .ptr 10 0 0), (8, .int .i64), (10, .int .i64), (49, .int .i64), (50, .int .i64)], bX 0 ++ [.cells [.int .i64, .int .i64, .int .i64], .cells [.int .i64, .int .i64, .int .i64]], 0⟩, onU F⟩
theorem NY (m : Nat) : ∀ n, HO N34 (F7 (sM m n)) := au ah T84.right (fun k => [F7 k]) (fun k h => (aL h aB)) fun k a => by kernel_rfl
def t34 (m : Nat) : Int × aw × az × ak × List Dat × List Dat × List Dat × List Dat × List Dat × List Dat × List Dat -> Option (List Un) := fun (a0, a1, a2, a3, a4, a5, a6, a7, a8, a9, a10) =>
 lt ((eS a1.year a1.month 1 a3.period) : Int) fun x1 =>
 lt ((eL a1.year a1.month 1 a3.period) : Int) fun x2 =>
 lt ((fM a1.year a1.month 1 a3.period) : Int) fun x3 =>
 lt ((eS a1.year a1.month 1 (w64 (a3.period + 1))) : Int) fun x4 =>
 lt ((eL a1.year a1.month 1 (w64 (a3.period + 1))) : Int) fun x5 =>
 lt ((fM a1.year a1.month 1 (w64 (a3.period + 1))) : Int) fun x6 =>
 lt ((zO a0 a2.fee a1.basis x1 x2 x3 x4 x5 x6) : Int) fun x7 =>
 sM m m (x7, 0, (a10.length : Int), 0, a1, a2, ({ a3 with fee := (w64 (a3.fee + x7)) } : ak), a4, a5, a6, a7, a8, a9, a10, x1, x2, x3, x4, x5, x6)
theorem Ik (m : Nat) (fe : Int) (xa : aw) (xb : az) (xn : ak) (x1 x2 x3 x4 x5 x6 : List Dat) (p : Int) (hf : ∀ d, aI d = true -> 0 <= cO xa p (bc d) (d.i 2) /\ cO xa p (bc d) (d.i 2) <= 1200000000000) : ∀ (rest pre : List Dat) (n : Nat) (s : Int), rest.length < n -> (pre ++ rest).length <= 1000 -> (∀ d ∈ rest, aI d = true) -> 0 <= s -> s <= 1200000000000 * pre.length ->
 sM m n (fe, s, ((pre ++ rest).length : Int), (pre.length : Int), xa, xb, xn, x1, x2, x3, x4, x5, x6, pre ++ rest, eS xa.year xa.month 1 p, eL xa.year xa.month 1 p, fM xa.year xa.month 1 p, eS xa.year xa.month 1 (p + 1), eL xa.year xa.month 1 (p + 1), fM xa.year xa.month 1 (p + 1)) =
  some ([.i fe, .i (s + bn (fun d => cO xa p (bc d) (d.i 2)) rest)] ++ Uns.enc xa ++ Uns.enc xb ++ Uns.enc xn ++ [.d x1, .d x2, .d x3, .d x4, .d x5, .d x6, .d (pre ++ rest.map (dP xa p))]) := by
 intro rest
 induction rest with
 | nil =>
  intro pre n s hn hl hg s0 s1; obtain ⟨n, rfl⟩ := al n (by simp at hn; omega); rw [tN]; unfold wL; dsimp only; simp [aF, bn]
 | cons x rest ih =>
  intro pre n s hn hl hg s0 s1; obtain ⟨n, rfl⟩ := al n (by simp at hn; omega); simp only [zae, zah] at hn hl; have hx := bZ (hg x (by simp)); have hb := hf x (hg x (by simp)); have hgx := hg x (by simp); have := ih (pre ++ [dP xa p x]) n (s + cO xa p (bc x) (x.i 2)) (by omega) (by simp; omega) (fun d hd => hg d (by simp [hd])) (by omega) (by simp; omega); have e : w64 (w64 (x.i 1 - w64 (x.i 3 - x.i 4)) - x.i 6) = bc x := by rw [aa (n := x.i 3 - x.i 4) (by omega) (by omega), aa (n := x.i 1 - _) (by omega) (by omega), aa (by omega) (by omega)]; rfl
  have e2 : ∀ z, zO z (x.i 2) xa.basis (eS xa.year xa.month 1 p) (eL xa.year xa.month 1 p) (fM xa.year xa.month 1 p) (eS xa.year xa.month 1 (p + 1)) (eL xa.year xa.month 1 (p + 1)) (fM xa.year xa.month 1 (p + 1)) = cO xa p z (x.i 2) := fun z => rfl
  rw [tN]; unfold wL; dsimp only; simp only [bn, za0, LNi, ax, lt_eq, e, e2, hgx, za9, Cw]; rw [show xe (cO xa p (bc x) (x.i 2)) x = dP xa p x from rfl]; simp (disch := omega) only [TRa, TRi, aa, LNl, LNi, zaa, ax]; simp only [LNl, LNi, zaa] at this ⊢; exact this
def f34 : Int × aw × az × ak × List Dat × List Dat × List Dat × List Dat × List Dat × List Dat × List Dat -> Bool × List Un := fun (a0, a1, a2, a3, a4, a5, a6, a7, a8, a9, a10) => (decide ((1 <= a1.year /\ a1.year <= 9000 /\ 1 <= a1.month /\ a1.month <= 12) /\ (0 <= a3.period /\ a3.period <= 600) /\ (0 <= a3.fee /\ a3.fee <= 1125899906842624) /\ (0 <= a0 /\ a0 <= 1099511627776)) && (decide (a10.length <= 1000) && a10.all aI), [.i (cO a1 a3.period a0 a2.fee), .i (bn (fun d => cO a1 a3.period (bc d) (d.i 2)) a10)] ++ Uns.enc ((a1) : aw) ++ Uns.enc ((a2) : az) ++ Uns.enc (({ a3 with fee := a3.fee + cO a1 a3.period a0 a2.fee }) : ak) ++ [.d (a4), .d (a5), .d (a6), .d (a7), .d (a8), .d (a9), .d (a10.map (dP a1 a3.period))])
theorem KX (a0 : Int) (a1 : aw) (a2 : az) (a3 : ak) (a4 : List Dat) (a5 : List Dat) (a6 : List Dat) (a7 : List Dat) (a8 : List Dat) (a9 : List Dat) (a10 : List Dat) (hc : (decide ((1 <= a1.year /\ a1.year <= 9000 /\ 1 <= a1.month /\ a1.month <= 12) /\ (0 <= a3.period /\ a3.period <= 600) /\ (0 <= a3.fee /\ a3.fee <= 1125899906842624) /\ (0 <= a0 /\ a0 <= 1099511627776)) && (decide (a10.length <= 1000) && a10.all aI)) = true) : ∃ m, t34 m (a0, a1, a2, a3, a4, a5, a6, a7, a8, a9, a10) = some ([.i (cO a1 a3.period a0 a2.fee), .i (bn (fun d => cO a1 a3.period (bc d) (d.i 2)) a10)] ++ Uns.enc ((a1) : aw) ++ Uns.enc ((a2) : az) ++ Uns.enc (({ a3 with fee := a3.fee + cO a1 a3.period a0 a2.fee }) : ak) ++ [.d (a4), .d (a5), .d (a6), .d (a7), .d (a8), .d (a9), .d (a10.map (dP a1 a3.period))]) := by
 simp only [zab, zag, zan] at hc; obtain ⟨⟨⟨h1, h2, h3, h4⟩, ⟨h5, h6⟩, ⟨h7, h8⟩, h9, h10⟩, h11, h12⟩ := hc; have hs := oB a2.fee h1 h2 h3 h4 h5 (show a3.period <= 650 by omega) h9 h10; have hf : ∀ d, aI d = true -> 0 <= cO a1 a3.period (bc d) (d.i 2) /\ cO a1 a3.period (bc d) (d.i 2) <= 1200000000000 := fun d hd => oB _ h1 h2 h3 h4 h5 (by omega) (DN hd).1 (DN hd).2
 refine ⟨a10.length + 1, ?_⟩; unfold t34; dsimp only [lt]; rw [aa (n := a3.period + 1) (by omega) (by omega)]; refine (show sM _ _ (cO a1 a3.period a0 a2.fee, 0, (a10.length : Int), 0, a1, a2, { a3 with fee := w64 (a3.fee + cO a1 a3.period a0 a2.fee) }, a4, a5, a6, a7, a8, a9, a10, _, _, _, _, _, _) = _ from ?_); rw [aa (n := a3.fee + _) (by omega) (by omega)]; exact (Ik _ _ a1 a2 _ a4 a5 a6 a7 a8 a9 a3.period hf a10 [] (a10.length + 1) 0 (by omega) (by simpa using h11) h12 (by omega) (by simp)).trans (by simp only [za1, zaU])
theorem Ib : ER 34 (mkE N34.en N34.ex f34) := an ah T84.right (fun m => [F7 (sM m m)]) (t := t34) (by kernel_rfl) (fun m => (aL (NY m m) aB)) (fun m a => by kernel_rfl) fun (a0, a1, a2, a3, a4, a5, a6, a7, a8, a9, a10) hc => KX a0 a1 a2 a3 a4 a5 a6 a7 a8 a9 a10 hc
def T34 : Tb Tryz.prog LQ TE XX := T84.add 34 _ Ib
def zC (x : Int) (d : Dat) : Int := max (min x (d.i 5)) 0
def mC (x : Int) (d : Dat) : Dat := .r [.n (d.i 0), .n (d.i 1), .n (d.i 2), .n (d.i 3), .n (d.i 4), .n (d.i 5 - zC x d), .n (d.i 6)]
def iC (n : ak) (p : Dat) : ak := if p.i 1 = 1 then { n with fee := n.fee - p.i 3 } else if p.i 1 = 2 then { n with out := n.out - p.i 3 } else if p.i 1 = 6 then { n with rin := n.rin + p.i 3 } else n
def jP (c : List Dat) (p : Dat) : List Dat := if p.i 1 = 1 then c else if p.i 1 = 2 then c else if p.i 1 = 6 then c else if p.i 1 = 3 then c.set (p.i 2).toNat (mC (p.i 3) (ag c (p.i 2).toNat)) else c.set (p.i 2).toNat (qL (p.i 3) (ag c (p.i 2).toNat))
def cJ : List Dat -> ak -> List Dat -> ak × List Dat
 | [], n, c => (n, c)
 | p :: l, n, c => cJ l (iC n p) (jP c p)
def DO (k : Nat) (p : Dat) : Bool := decide (0 <= p.i 3) && (decide (p.i 1 = 1 \/ p.i 1 = 2 \/ p.i 1 = 6) || decide (0 <= p.i 2 /\ p.i 2 < (k : Int)))
theorem rB {k : Nat} {p : Dat} (h : DO k p = true) : 0 <= p.i 3 /\ ((p.i 1 = 1 \/ p.i 1 = 2 \/ p.i 1 = 6) \/ (0 <= p.i 2 /\ p.i 2 < (k : Int))) := by
 simp only [DO, zab, zbf, zag] at h; exact h
def vG (l : List Dat) (n : ak) (c : List Dat) : Bool := decide (l.length <= 1000000) && (l.all (DO c.length) && (decide (ao 3 l <= 144115188075855872 /\ (0 <= n.fee /\ n.fee <= 144115188075855872) /\ (0 <= n.out /\ n.out <= 144115188075855872) /\ (0 <= n.rin /\ n.rin <= 144115188075855872)) && (decide (c.length <= 1000) && c.all aI)))
theorem vu (c : List Dat) (p : Dat) : (jP c p).length = c.length := by
 unfold jP; repeat' split
 all_goals simp
theorem yl {d : Dat} (x : Int) (h : aI d = true) : aI (mC x d) = true := by
 have := bZ h; refine zai ?_
 simp only [mC, zC, dX, eM, uG, na, nc]; omega
theorem Bt {c : List Dat} {p : Dat} (hp : DO c.length p = true) (h : dr c) : dr (jP c p) := by
 have hp := rB hp; unfold jP
 by_cases h1 : p.i 1 = 1
 . rw [if_pos h1]; exact h
 rw [if_neg h1]
 by_cases h2 : p.i 1 = 2
 . rw [if_pos h2]; exact h
 rw [if_neg h2]
 by_cases h3 : p.i 1 = 6
 . rw [if_pos h3]; exact h
 rw [if_neg h3]; have hj : (p.i 2).toNat < c.length := by omega
 split
 . exact mK h (yl _ (b9 hj h.2))
 . exact mK h (Dw _ (b9 hj h.2))
def N41 : aC := ⟨T34.tab, 41, ⟨[.np 0 0 0, .ai (sI 4)], bX 0, 0⟩, ⟨[], bX 0, 0⟩, []⟩
abbrev De : Type := Int × List Dat × Int × Int × aw × az × ak × List Dat × List Dat × List Dat × List Dat × List Dat × List Dat × List Dat
def xM (m : Nat) (k : De -> Option (List Un)) : De -> Option (List Un) := fun (a0, a1, a2, a3, a4, a5, a6, a7, a8, a9, a10, a11, a12, a13) =>
 bif decide (a3 < a2) then
 chk (inb a3 a1.length) <|
 chk (decide (a3.toNat < a1.length)) <|
 lt (ag a1 a3.toNat : Dat) fun d1 =>
 bif (d1.i 1) == 1 then
 chk (decide (0 <= a0)) <|
 chk (decide (0 <= a0)) <|
 k (a0, a1, a2, (w64 (a3 + 1)), a4, a5, ({ a6 with fee := (w64 (a6.fee - (d1.i 3))) } : ak), a7, a8, a9, a10, a11, a12, a13)
 else
 bif (d1.i 1) == 2 then
 chk (decide (0 <= a0)) <|
 chk (decide (0 <= a0)) <|
 k (a0, a1, a2, (w64 (a3 + 1)), a4, a5, ({ a6 with out := (w64 (a6.out - (d1.i 3))) } : ak), a7, a8, a9, a10, a11, a12, a13)
 else
 bif (d1.i 1) == 6 then
 chk (decide (0 <= a0)) <|
 chk (decide (0 <= 0) && decide ((0 : Int) <= a6.rin /\ (0 : Int) <= (d1.i 3) /\ a6.rin + (d1.i 3) <= (1152921504606846976 : Int))) <|
 k (a0, a1, a2, (w64 (a3 + 1)), a4, a5, ({ a6 with rin := a6.rin + (d1.i 3) }), a7, a8, a9, a10, a11, a12, a13)
 else
 bif (d1.i 1) == 3 then
 chk (decide (0 <= a0)) <|
 chk (inb (d1.i 2) a13.length) <|
 chk (decide ((d1.i 2).toNat < a13.length)) <|
 lt (ag a13 ((d1.i 2).toNat) : Dat) fun d5 =>
 lt ((if (d5.i 5) < (d1.i 3) then (d5.i 5) else (d1.i 3)) : Int) fun x6 =>
 chk (decide ((d1.i 2).toNat < a13.length)) <|
 chk (decide ((d1.i 2).toNat < a13.length)) <|
 lt (ag a13 ((d1.i 2).toNat) : Dat) fun d9 =>
 k (a0, a1, a2, (w64 (a3 + 1)), a4, a5, a6, a7, a8, a9, a10, a11, a12, (List.set a13 ((d1.i 2).toNat) (.r [.n (d9.i 0), .n (d9.i 1), .n (d9.i 2), .n (d9.i 3), .n (d9.i 4), .n (w64 (((ag a13 ((d1.i 2).toNat)).i 5) - (if x6 < 0 then 0 else x6))), .n (d9.i 6)])))
 else
 chk (decide (0 <= a0)) <|
 chk (inb (d1.i 2) a13.length) <|
 chk (decide (0 <= ((d1.i 2).toNat : Int) /\ ((d1.i 2).toNat : Int).toNat < a13.length) && aI (ag a13 ((d1.i 2).toNat : Int).toNat)) <|
 k (a0, a1, a2, (w64 (a3 + 1)), a4, a5, a6, a7, a8, a9, a10, a11, a12, (a13.set ((d1.i 2).toNat : Int).toNat (qL (d1.i 3) (ag a13 ((d1.i 2).toNat : Int).toNat))))
 else
 some (Uns.enc (a4 : aw) ++ Uns.enc (a5 : az) ++ Uns.enc (a6 : ak) ++ [.d a7, .d a8, .d a9, .d a10, .d a11, .d a12, .d a13])
def wb (m : Nat) : Nat -> De -> Option (List Un) := bo (xM m)
theorem sj (m : Nat) (n : Nat) : wb m (n + 1) = xM m (wb m n) := rfl
def EH (F : De -> Option (List Un)) : aW := ⟨[.lp [0, 1], .blk 0], ⟨frm 67 [(0, .np 0 0 0), (6, .ai (sI 4)), (7, .int .i64), (8, .int .i64)], bX 0, 0⟩, onU F⟩
theorem Pe (m : Nat) : ∀ n, HO N41 (EH (wb m n)) := au ah T34.right (fun k => [EH k]) (fun k h => (aL h aB)) fun k a => by kernel_rfl
def t41 (m : Nat) : Int × List Dat × aw × az × ak × List Dat × List Dat × List Dat × List Dat × List Dat × List Dat × List Dat -> Option (List Un) := fun (a0, a1, a2, a3, a4, a5, a6, a7, a8, a9, a10, a11) =>
 wb m m (a0, a1, (a1.length : Int), 0, a2, a3, a4, a5, a6, a7, a8, a9, a10, a11)
theorem KT (m : Nat) (p0 : Int) (hp0 : 0 <= p0) (xa : aw) (xb : az) (x1 x2 x3 x4 x5 x6 : List Dat) : ∀ (rest pre : List Dat) (n : Nat) (y : ak) (c : List Dat), rest.length < n -> (pre ++ rest).length <= 1000000 -> (∀ d ∈ rest, DO c.length d = true) -> dr c ->
 (-288230376151711744 <= y.fee - ao 3 rest /\ y.fee <= 288230376151711744) -> (-288230376151711744 <= y.out - ao 3 rest /\ y.out <= 288230376151711744) -> (0 <= y.rin /\ y.rin + ao 3 rest <= 576460752303423488) ->
 wb m n (p0, pre ++ rest, ((pre ++ rest).length : Int), (pre.length : Int), xa, xb, y, x1, x2, x3, x4, x5, x6, c) = some (Uns.enc xa ++ Uns.enc xb ++ Uns.enc (cJ rest y c).1 ++ [.d x1, .d x2, .d x3, .d x4, .d x5, .d x6, .d (cJ rest y c).2]) := by
 intro rest
 induction rest with
 | nil =>
  intro pre n y c hn hl hp hg f1 f2 f3; obtain ⟨n, rfl⟩ := al n (by simp at hn; omega); rw [sj]; unfold xM; dsimp only; simp [aF, cJ]
 | cons x rest ih =>
  intro pre n y c hn hl hp hg f1 f2 f3; obtain ⟨n, rfl⟩ := al n (by simp at hn; omega); simp only [zae, zah] at hn hl; have hx := rB (hp x (by simp)); have hr := fun d hd => hp d (zaN _ hd)
  have hs := fp 3 rest fun d hd => (rB (hr d hd)).1
  have hT := Bt (hp x (by simp)) hg; have hN : (-288230376151711744 <= (iC y x).fee - ao 3 rest /\ (iC y x).fee <= 288230376151711744) /\ (-288230376151711744 <= (iC y x).out - ao 3 rest /\ (iC y x).out <= 288230376151711744) /\ (0 <= (iC y x).rin /\ (iC y x).rin + ao 3 rest <= 576460752303423488) := by
   simp only [ao] at f1 f2 f3; unfold iC
   by_cases h1 : x.i 1 = 1
   . rw [if_pos h1]; simp only; omega
   rw [if_neg h1]
   by_cases h2 : x.i 1 = 2
   . rw [if_pos h2]; simp only; omega
   rw [if_neg h2]
   by_cases h3 : x.i 1 = 6
   . rw [if_pos h3]; simp only; omega
   rw [if_neg h3]; omega
  have := ih (pre ++ [x]) n (iC y x) (jP c x) (by omega) (by simp; omega) (by rw [vu]; exact hr) hT hN.1 hN.2.1 hN.2.2; simp only [ao] at f1 f2 f3; simp only [cJ]; rw [sj]; unfold xM; dsimp only; unfold iC jP at this ⊢
  by_cases h1 : x.i 1 = 1
  . simp only [if_pos h1] at this ⊢; simp (disch := omega) only [TRa, TRi, aa, LNl, LNi, zaa, ax]; simp only [LNl, LNi, zaa] at this ⊢; exact this
  simp only [if_neg h1] at this ⊢
  by_cases h2 : x.i 1 = 2
  . simp only [if_pos h2] at this ⊢; simp (disch := omega) only [TRa, TRi, aa, LNl, LNi, zaa, ax]; simp only [LNl, LNi, zaa] at this ⊢; exact this
  simp only [if_neg h2] at this ⊢
  by_cases h6 : x.i 1 = 6
  . simp only [if_pos h6] at this ⊢; simp only [show decide ((0 : Nat) <= 0) = true from rfl, zbg]; simp (disch := omega) only [TRa, TRi, aa, LNl, LNi, zaa, ax]; simp only [LNl, LNi, zaa] at this ⊢; exact this
  simp only [if_neg h6] at this ⊢; have hj : (x.i 2).toNat < c.length := by omega
  have hd := bZ (b9 hj hg.2); have hd2 := b9 hj hg.2; have hjn : (((x.i 2).toNat : Int)).toNat = (x.i 2).toNat := zaG _
  by_cases h3 : x.i 1 = 3
  . simp only [if_pos h3] at this ⊢; have e : (if (if (ag c (x.i 2).toNat).i 5 < x.i 3 then (ag c (x.i 2).toNat).i 5 else x.i 3) < 0 then 0 else (if (ag c (x.i 2).toNat).i 5 < x.i 3 then (ag c (x.i 2).toNat).i 5 else x.i 3)) = zC (x.i 3) (ag c (x.i 2).toNat) := by unfold zC; omega
    have hv : 0 <= zC (x.i 3) (ag c (x.i 2).toNat) /\ zC (x.i 3) (ag c (x.i 2).toNat) <= (ag c (x.i 2).toNat).i 5 := by unfold zC; omega
    simp (disch := omega) only [lt_eq, dM, aN, bE, gK, fL, LNl, LNi, zaa, ax, e]; rw [aa (n := (ag c (x.i 2).toNat).i 5 - _) (by omega) (by omega), aa (by omega) (by omega)]; unfold mC at this; simp only [LNl, LNi, zaa] at this ⊢; exact this
  . simp only [if_neg h3] at this ⊢; simp (disch := omega) only [lt_eq, dM, aN, bE, gK, fL, LNl, LNi, zaa, ax, hd2, za9]; rw [aa (by omega) (by omega)]; simp only [LNl, LNi, zaa] at this ⊢; exact this
def f41 : Int × List Dat × aw × az × ak × List Dat × List Dat × List Dat × List Dat × List Dat × List Dat × List Dat -> Bool × List Un := fun (a0, a1, a2, a3, a4, a5, a6, a7, a8, a9, a10, a11) => (decide (0 <= a0) && vG a1 a4 a11, Uns.enc ((a2) : aw) ++ Uns.enc ((a3) : az) ++ Uns.enc (((cJ a1 a4 a11).1) : ak) ++ [.d (a5), .d (a6), .d (a7), .d (a8), .d (a9), .d (a10), .d ((cJ a1 a4 a11).2)])
theorem LZ (a0 : Int) (a1 : List Dat) (a2 : aw) (a3 : az) (a4 : ak) (a5 : List Dat) (a6 : List Dat) (a7 : List Dat) (a8 : List Dat) (a9 : List Dat) (a10 : List Dat) (a11 : List Dat) (hc : (decide (0 <= a0) && vG a1 a4 a11) = true) : ∃ m, t41 m (a0, a1, a2, a3, a4, a5, a6, a7, a8, a9, a10, a11) = some (Uns.enc ((a2) : aw) ++ Uns.enc ((a3) : az) ++ Uns.enc (((cJ a1 a4 a11).1) : ak) ++ [.d (a5), .d (a6), .d (a7), .d (a8), .d (a9), .d (a10), .d ((cJ a1 a4 a11).2)]) := by
 simp only [vG, zab, zag, zan] at hc; obtain ⟨h0, h1, h2, ⟨h3, h4, h5, h6⟩, h7, h8⟩ := hc; have hs := fp 3 a1 fun d hd => (rB (h2 d hd)).1
 refine ⟨a1.length + 1, ?_⟩; exact KT _ a0 h0 a2 a3 a5 a6 a7 a8 a9 a10 a1 [] (a1.length + 1) a4 a11 (by omega) (by simpa using h1) h2 ⟨h7, h8⟩ (by omega) (by omega) (by omega)
theorem IK : ER 41 (mkE N41.en N41.ex f41) := an ah T34.right (fun m => [EH (wb m m)]) (t := t41) (by kernel_rfl) (fun m => (aL (Pe m m) aB)) (fun m a => by kernel_rfl) fun (a0, a1, a2, a3, a4, a5, a6, a7, a8, a9, a10, a11) hc => LZ a0 a1 a2 a3 a4 a5 a6 a7 a8 a9 a10 a11 hc
def T41 : Tb Tryz.prog LQ TE XX := T34.add 41 _ IK
def ud (parts ba has : Int) : Int := max (mdV ba parts 10000 0 - has) 0
def eA (d : Dat) : Dat := .r [.n (d.i 0), .n (bc d), .n (d.i 5)]
theorem KZ (n b p h : Int) : 0 <= mdV n b p h /\ mdV n b p h <= 1152921504606846976 := by
 unfold mdV
 split
 . rename_i hk; simp only [nf, zag] at hk; have : 0 <= n * b / p := zbs (zaZ hk.1 (by omega)) (by omega); refine ⟨?_, by omega⟩; unfold mdQ
   split <;> omega
 . omega
theorem xu {l : List Dat} (h1 : l.length <= 1000) (h2 : ∀ d ∈ l, cI d = true) : 0 <= ao 1 l /\ ao 1 l <= 1099511627776000 := by
 have := wT 1 1099511627776 l fun d hd => nQ (h2 d hd)
 omega
def N39 : aC := ⟨T41.tab, 39, ⟨[.ptr 0 0 0, .agg [.int .i64, .int .i64, .int .i64, .int .i64]], bX 0, 9⟩, ⟨[.agg [.int .i64, .int .i64, .int .i64, .int .i64, .buf 9 3]], bX 0 ++ [.ai (sI 3)], 9⟩, []⟩
abbrev Cc : Type := Int × Int × aw × az × ak × List Dat × List Dat × List Dat × List Dat × List Dat × List Dat × List Dat × Int × Int × Int × Int × Int × Int × Int × Int × List Dat × List Dat
def yc (m : Nat) (k : Cc -> Option (List Un)) : Cc -> Option (List Un) := fun (a0, a1, a2, a3, a4, a5, a6, a7, a8, a9, a10, a11, a12, a13, a14, a15, a16, a17, a18, a19, a20, a21) =>
 bif decide (a1 < a0) then
 chk (inb a1 a11.length) <|
 chk (decide (a1.toNat < a11.length)) <|
 lt (ag a11 a1.toNat : Dat) fun d8 =>
 chk (fits (a21.length + 1) 24) <|
 k (a0, (w64 (a1 + 1)), a2, a3, a4, a5, a6, a7, a8, a9, a10, a11, a12, a13, a14, a15, a16, a17, a18, a19, a20, (a21 ++ ([.r [.n (d8.i 0), .n (w64 (w64 ((d8.i 1) - w64 ((d8.i 3) - (d8.i 4))) - (d8.i 6))), .n (d8.i 5)]])))
 else
 some ([.i a16, .i a17, .i a18, .i a19] ++ Uns.enc (a2 : aw) ++ Uns.enc (a3 : az) ++ Uns.enc (a4 : ak) ++ [.d a5, .d a6, .d a7, .d a8, .d a9, .d a10, .d a11, .d a21])
def tC (m : Nat) : Nat -> Cc -> Option (List Un) := bo (yc m)
theorem sS (m : Nat) (n : Nat) : tC m (n + 1) = yc m (tC m n) := rfl
def F9 (F : Cc -> Option (List Un)) : aW := ⟨[.lp [0, 1, 0, 1, 1, 1], .blk 0, .code [1, 1, 1, 1]], ⟨frm 78 [(4, .ptr 9 0 0), (9, .ptr 10 0 0), (57, .buf 8 7), (58, .int .i64), (59, .int .i64)], bX 0 ++ [.cells [.int .i64, .int .i64, .int .i64, .int .i64, .buf 11 3], .cells [.int .i64, .int .i64, .int .i64, .int .i64, .buf 12 3], .ai (sI 3), .ai (sI 3)], 9⟩, onU F⟩
theorem NW (m : Nat) : ∀ n, HO N39 (F9 (tC m n)) := au ah T41.right (fun k => [F9 k]) (fun k h => (aL h aB)) fun k a => by kernel_rfl
def t39 (m : Nat) : Int × Int × Int × Int × aw × az × ak × List Dat × List Dat × List Dat × List Dat × List Dat × List Dat × List Dat -> Option (List Un) := fun (a0, a1, a2, a3, a4, a5, a6, a7, a8, a9, a10, a11, a12, a13) =>
 chk (decide (0 <= 0) && (decide (a13.length <= 1000) && a13.all aI)) <|
 lt ((w64 ((w64 (a0 + a3)) + a2)) : Int) fun x1 =>
 chk (decide (0 < ([.r [.r a12]] : List Dat).length) && (decide (((ag ([.r [.r a12]] : List Dat) 0).d 0).length <= 1000) && ((ag ([.r [.r a12]] : List Dat) 0).d 0).all cI)) <|
 lt ((w64 (a6.rin - a6.bg)) : Int) fun x4 =>
 lt ((mdV (ao 1 ((ag ([.r [.r a12]] : List Dat) 0).d 0)) a5.target 10000 0) : Int) fun x5 =>
 tC m m ((a13.length : Int), 0, a4, a5, a6, a7, a8, a9, a10, a11, a12, a13, 0, 0, 0, 0, a6.fee, a6.out, (if (bn bc a13) < x1 then (bn bc a13) else x1), (if (w64 (x5 - x4)) < 0 then 0 else (w64 (x5 - x4))), [], [])
theorem O4 (m : Nat) (xa : aw) (xb : az) (xn : ak) (x1 x2 x3 x4 x5 x6 z0 : List Dat) (z1 z2 z3 z4 w1 w2 w3 w4 : Int) : ∀ (rest pre : List Dat) (n : Nat), rest.length < n -> (pre ++ rest).length <= 1000 -> (∀ d ∈ rest, aI d = true) ->
 tC m n (((pre ++ rest).length : Int), (pre.length : Int), xa, xb, xn, x1, x2, x3, x4, x5, x6, pre ++ rest, z1, z2, z3, z4, w1, w2, w3, w4, z0, pre.map eA) =
  some ([.i w1, .i w2, .i w3, .i w4] ++ Uns.enc xa ++ Uns.enc xb ++ Uns.enc xn ++ [.d x1, .d x2, .d x3, .d x4, .d x5, .d x6, .d (pre ++ rest), .d ((pre ++ rest).map eA)]) := by
 intro rest
 induction rest with
 | nil =>
  intro pre n hn hl hg; obtain ⟨n, rfl⟩ := al n (by simp at hn; omega); rw [sS]; unfold yc; dsimp only; simp [aF]
 | cons x rest ih =>
  intro pre n hn hl hg; obtain ⟨n, rfl⟩ := al n (by simp at hn; omega); simp only [zae, zah] at hn hl; have e := JE (hg x (by simp)); have := ih (pre ++ [x]) n (by omega) (by simp; omega) (fun d hd => hg d (by simp [hd])); rw [List.map_append, show [x].map eA = [.r [.n (x.i 0), .n (bc x), .n (x.i 5)]] from rfl] at this; rw [sS]; unfold yc; dsimp only; simp only [LNi, ax, lt_eq, e]; simp (disch := omega) only [TRa, TRi, aa, LNl, LNi, zaa, ax]; simp only [LNl, LNi, zaa] at this ⊢; exact this
def f39 : Int × Int × Int × Int × aw × az × ak × List Dat × List Dat × List Dat × List Dat × List Dat × List Dat × List Dat -> Bool × List Un := fun (a0, a1, a2, a3, a4, a5, a6, a7, a8, a9, a10, a11, a12, a13) => (decide (((0 <= a0 /\ a0 <= 1125899906842624) /\ (0 <= a2 /\ a2 <= 1125899906842624) /\ (0 <= a3 /\ a3 <= 1125899906842624)) /\ (0 <= a6.bg /\ a6.bg <= a6.rin /\ a6.rin <= 1152921504606846976)) && ((decide (a12.length <= 1000) && a12.all cI) && (decide (a13.length <= 1000) && a13.all aI)), [.i (a6.fee), .i (a6.out), .i (min (a0 + a3 + a2) (bn bc a13)), .i (ud a5.target (ao 1 a12) (a6.rin - a6.bg))] ++ Uns.enc ((a4) : aw) ++ Uns.enc ((a5) : az) ++ Uns.enc ((a6) : ak) ++ [.d (a7), .d (a8), .d (a9), .d (a10), .d (a11), .d (a12), .d (a13), .d (a13.map eA)])
theorem LR (a0 : Int) (a1 : Int) (a2 : Int) (a3 : Int) (a4 : aw) (a5 : az) (a6 : ak) (a7 : List Dat) (a8 : List Dat) (a9 : List Dat) (a10 : List Dat) (a11 : List Dat) (a12 : List Dat) (a13 : List Dat) (hc : (decide (((0 <= a0 /\ a0 <= 1125899906842624) /\ (0 <= a2 /\ a2 <= 1125899906842624) /\ (0 <= a3 /\ a3 <= 1125899906842624)) /\ (0 <= a6.bg /\ a6.bg <= a6.rin /\ a6.rin <= 1152921504606846976)) && ((decide (a12.length <= 1000) && a12.all cI) && (decide (a13.length <= 1000) && a13.all aI))) = true) : ∃ m, t39 m (a0, a1, a2, a3, a4, a5, a6, a7, a8, a9, a10, a11, a12, a13) = some ([.i (a6.fee), .i (a6.out), .i (min (a0 + a3 + a2) (bn bc a13)), .i (ud a5.target (ao 1 a12) (a6.rin - a6.bg))] ++ Uns.enc ((a4) : aw) ++ Uns.enc ((a5) : az) ++ Uns.enc ((a6) : ak) ++ [.d (a7), .d (a8), .d (a9), .d (a10), .d (a11), .d (a12), .d (a13), .d (a13.map eA)]) := by
 simp only [zab, zag, zan] at hc; obtain ⟨⟨⟨h1, h2, h3⟩, h4, h5, h6⟩, ⟨h7, h8⟩, h9, h10⟩ := hc; have hg : dr a13 := ⟨h9, h10⟩
 have hb := xu h7 h8; have hs := (gO a13 h10).1; have hm := KZ (ao 1 a12) a5.target 10000 0; have hlb : (decide (a12.length <= 1000) && a12.all cI) = true := by rw [zab, zan]; exact ⟨zai h7, h8⟩
 refine ⟨a13.length + 1, ?_⟩; unfold t39 ud; dsimp only [lt]; refine bx (by rw [ez hg]; rfl) ?_
 refine bx (zaq.2 ⟨rfl, hlb⟩) ?_
 change tC _ _ (_, _, _, _, _, _, _, _, _, _, _, _, _, _, _, _, _, _, (if bn bc a13 < w64 (w64 (a0 + a3) + a2) then bn bc a13 else w64 (w64 (a0 + a3) + a2)), (if w64 (mdV (ao 1 a12) a5.target 10000 0 - w64 (a6.rin - a6.bg)) < 0 then 0 else w64 (mdV (ao 1 a12) a5.target 10000 0 - w64 (a6.rin - a6.bg))), _, _) = _; rw [aa (n := a0 + a3) (by omega) (by omega), aa (n := a0 + a3 + a2) (by omega) (by omega), aa (n := a6.rin - a6.bg) (by omega) (by omega), aa (n := mdV _ _ _ _ - _) (by omega) (by omega)]; rw [show (if bn bc a13 < a0 + a3 + a2 then bn bc a13 else a0 + a3 + a2) = min (a0 + a3 + a2) (bn bc a13) by omega, show ∀ z : Int, (if z < 0 then 0 else z) = max z 0 from fun z => by omega]; exact O4 _ a4 a5 a6 a7 a8 a9 a10 a11 a12 _ _ _ _ _ _ _ _ _ a13 [] (a13.length + 1) (by omega) (by simpa using h9) h10
theorem I6 : ER 39 (mkE N39.en N39.ex f39) := an ah T41.right (fun m => [F9 (tC m m)]) (t := t39) (by kernel_rfl) (fun m => (aL (NW m m) aB)) (fun m a => by kernel_rfl) fun (a0, a1, a2, a3, a4, a5, a6, a7, a8, a9, a10, a11, a12, a13) hc => LR a0 a1 a2 a3 a4 a5 a6 a7 a8 a9 a10 a11 a12 a13 hc
def T39 : Tb Tryz.prog LQ TE XX := T41.add 39 _ I6
theorem ub : ∀ (k : Nat) (n : Int), bT n k ++ [n + k] = bT n (k + 1)
 | 0, n => by simp [bT]
 | k + 1, n => by
  have := ub k (n + 1); simp only [bT, zaW, zay, zaa] at this ⊢; rw [<- this, show n + 1 + (k : Int) = n + ((k : Int) + 1) by omega]
theorem rQ (u p l r : Int) : 0 <= cC u p l r /\ cC u p l r <= max u 0 /\ cC u p l r <= max (u - p) 0 /\ cC u p l r <= max (l - r) 0 := by unfold cC; omega
def N42 : aC := ⟨T39.tab, 42, ⟨[.ptr 0 0 0, .agg [.int .i64, .int .i64, .int .i64, .int .i64]], bX 0, 0⟩, ⟨[], bX 0, 0⟩, []⟩
abbrev Cn : Type := Int × Int × Int × aw × az × ak × List Dat × List Dat × List Dat × List Dat × List Dat × List Dat × List Dat × List Int
def yo (m : Nat) (k : Cn -> Option (List Un)) : Cn -> Option (List Un) := fun (a0, a1, a2, a3, a4, a5, a6, a7, a8, a9, a10, a11, a12, a13) =>
 bif decide (a2 < a1) then
 chk (inb a2 a12.length) <|
 chk (fits (a13.length + ([(a2.toNat : Int)]).length) 8) <|
 k (a0, a1, (w64 (a2 + 1)), a3, a4, a5, a6, a7, a8, a9, a10, a11, a12, (a13 ++ ([(a2.toNat : Int)])))
 else
 chk (decide (0 < ([.r [.r a11]] : List Dat).length) && (decide (((ag ([.r [.r a11]] : List Dat) 0).d 0).length <= 1000) && ((ag ([.r [.r a11]] : List Dat) 0).d 0).all cI)) <|
 lt ((ao 1 ((ag ([.r [.r a11]] : List Dat) 0).d 0)) : Int) fun x1 =>
 chk (decide ((-1152921504606846976 <= a0 /\ a0 <= 1152921504606846976) /\ (-1152921504606846976 <= x1 /\ x1 <= 1152921504606846976) /\ (-1152921504606846976 <= a5.aD /\ a5.aD <= 1152921504606846976) /\ (-1152921504606846976 <= a5.aK /\ a5.aK <= 1152921504606846976))) <|
 chk (decide ((cC a0 x1 a5.aD a5.aK) <= 1152921504606846976) && ((decide (a13 = bT 0 a12.length)) && (decide (a12.length <= 1000) && a12.all aI))) <|
 some (Uns.enc (a3 : aw) ++ Uns.enc (a4 : az) ++ Uns.enc (a5 : ak) ++ [.d a6, .d a7, .d a8, .d a9, .d a10, .d a11, .d (fh (cC a0 x1 a5.aD a5.aK) a12)])
def wc (m : Nat) : Nat -> Cn -> Option (List Un) := bo (yo m)
theorem uj (m : Nat) (n : Nat) : wc m (n + 1) = yo m (wc m n) := rfl
def Fb (F : Cn -> Option (List Un)) : aW := ⟨[.lp [0, 1, 0, 1, 1, 1, 1, 1], .blk 0, .code [1, 1, 1, 1, 1, 1]], ⟨frm 70 [(0, .ptr 0 0 0), (7, .int .i64), (8, .buf 9 1), (39, .int .i64), (40, .int .i64)], bX 0 ++ [.dq 8 7 0], 0⟩, onU F⟩
theorem NX (m : Nat) : ∀ n, HO N42 (Fb (wc m n)) := au ah T39.right (fun k => [Fb k]) (fun k h => (aL h aB)) fun k a => by kernel_rfl
def t42 (m : Nat) : Int × Int × Int × Int × aw × az × ak × List Dat × List Dat × List Dat × List Dat × List Dat × List Dat × List Dat -> Option (List Un) := fun (a0, a1, a2, a3, a4, a5, a6, a7, a8, a9, a10, a11, a12, a13) =>
 chk (decide (0 <= 0) && (decide (a13.length <= 1000) && a13.all aI)) <|
 wc m m ((bn unD a13), (a13.length : Int), 0, a4, a5, ({ a6 with aD := (w64 (a6.aD + a2)), aK := (w64 (a6.aK + a3)) } : ak), a7, a8, a9, a10, a11, a12, a13, [])
theorem O2 (m : Nat) (u : Int) (xa : aw) (xb : az) (y : ak) (x1 x2 x3 x4 x5 x6 x7 : List Dat) (hu : 0 <= u /\ u <= 1099511627776000) (h1 : 0 <= y.aD /\ y.aD <= 1152921504606846976) (h2 : 0 <= y.aK /\ y.aK <= 1152921504606846976) (h3 : (decide (x6.length <= 1000) && x6.all cI) = true) (hb : 0 <= ao 1 x6 /\ ao 1 x6 <= 1099511627776000) (hg : dr x7) : ∀ (k i n : Nat), i + k = x7.length -> k < n ->
 wc m n (u, (x7.length : Int), (i : Int), xa, xb, y, x1, x2, x3, x4, x5, x6, x7, bT 0 i) = some (Uns.enc xa ++ Uns.enc xb ++ Uns.enc y ++ [.d x1, .d x2, .d x3, .d x4, .d x5, .d x6, .d (fh (cC u (ao 1 x6) y.aD y.aK) x7)]) := by
 intro k
 induction k with
 | zero =>
  intro i n hi hn; obtain ⟨n, rfl⟩ := al n (by omega); have ht := rQ u (ao 1 x6) y.aD y.aK; have hgb := ez hg; obtain rfl : i = x7.length := by omega
  rw [uj]; unfold yo; dsimp only; rw [aF (by omega)]; dsimp only [lt]; refine bx (zaq.2 ⟨rfl, h3⟩) ?_
  change chk (decide ((-1152921504606846976 <= u /\ u <= 1152921504606846976) /\ (-1152921504606846976 <= ao 1 x6 /\ ao 1 x6 <= 1152921504606846976) /\ (-1152921504606846976 <= y.aD /\ y.aD <= 1152921504606846976) /\ (-1152921504606846976 <= y.aK /\ y.aK <= 1152921504606846976))) (chk (decide (cC u (ao 1 x6) y.aD y.aK <= 1152921504606846976) && (decide (bT 0 x7.length = bT 0 x7.length) && (decide (x7.length <= 1000) && x7.all aI))) _) = _; rw [aN (by omega)]; exact bx (by rw [zab, zab]; exact ⟨@zai _ _ (by omega), @zai _ _ rfl, hgb⟩) rfl
 | succ k ih =>
  intro i n hi hn; obtain ⟨n, rfl⟩ := al n (by omega); have hg1 := hg.1; have hL := fw i 0; have := ih (i + 1) n (by omega) (by omega); rw [<- ub i 0] at this; rw [uj]; unfold yo; dsimp only; simp (disch := omega) only [TRa, TRi, aa, LNl, LNi, zaa, hL]; simp only [LNl, LNi, zaa] at this ⊢; exact this
def f42 : Int × Int × Int × Int × aw × az × ak × List Dat × List Dat × List Dat × List Dat × List Dat × List Dat × List Dat -> Bool × List Un := fun (a0, a1, a2, a3, a4, a5, a6, a7, a8, a9, a10, a11, a12, a13) => (decide (((0 <= a0 /\ a0 <= 1125899906842624) /\ (0 <= a2 /\ a2 <= 1125899906842624) /\ (0 <= a3 /\ a3 <= 1125899906842624)) /\ (0 <= a6.aD /\ a6.aD <= 1125899906842624) /\ (0 <= a6.aK /\ a6.aK <= 1125899906842624)) && ((decide (a12.length <= 1000) && a12.all cI) && (decide (a13.length <= 1000) && a13.all aI)), Uns.enc ((a4) : aw) ++ Uns.enc ((a5) : az) ++ Uns.enc (({ a6 with aD := a6.aD + a2, aK := a6.aK + a3 }) : ak) ++ [.d (a7), .d (a8), .d (a9), .d (a10), .d (a11), .d (a12), .d (fh (cC (bn unD a13) (ao 1 a12) (a6.aD + a2) (a6.aK + a3)) a13)])
theorem Nd (a0 : Int) (a1 : Int) (a2 : Int) (a3 : Int) (a4 : aw) (a5 : az) (a6 : ak) (a7 : List Dat) (a8 : List Dat) (a9 : List Dat) (a10 : List Dat) (a11 : List Dat) (a12 : List Dat) (a13 : List Dat) (hc : (decide (((0 <= a0 /\ a0 <= 1125899906842624) /\ (0 <= a2 /\ a2 <= 1125899906842624) /\ (0 <= a3 /\ a3 <= 1125899906842624)) /\ (0 <= a6.aD /\ a6.aD <= 1125899906842624) /\ (0 <= a6.aK /\ a6.aK <= 1125899906842624)) && ((decide (a12.length <= 1000) && a12.all cI) && (decide (a13.length <= 1000) && a13.all aI))) = true) : ∃ m, t42 m (a0, a1, a2, a3, a4, a5, a6, a7, a8, a9, a10, a11, a12, a13) = some (Uns.enc ((a4) : aw) ++ Uns.enc ((a5) : az) ++ Uns.enc (({ a6 with aD := a6.aD + a2, aK := a6.aK + a3 }) : ak) ++ [.d (a7), .d (a8), .d (a9), .d (a10), .d (a11), .d (a12), .d (fh (cC (bn unD a13) (ao 1 a12) (a6.aD + a2) (a6.aK + a3)) a13)]) := by
 simp only [zab, zag, zan] at hc; obtain ⟨⟨⟨h1, h2, h3⟩, h4, h5⟩, ⟨h7, h8⟩, h9, h10⟩ := hc; have hg : dr a13 := ⟨h9, h10⟩
 have hb := xu h7 h8; have hs := (gO a13 h10).2.2.2.1; refine ⟨a13.length + 1, ?_⟩; unfold t42; dsimp only; refine bx (by rw [ez hg]; rfl) ?_
 rw [aa (n := a6.aD + a2) (by omega) (by omega), aa (n := a6.aK + a3) (by omega) (by omega)]; exact O2 _ _ a4 a5 { a6 with aD := a6.aD + a2, aK := a6.aK + a3 } a7 a8 a9 a10 a11 a12 a13 (by omega) (by simp only; omega) (by simp only; omega) (by rw [zab, zan]; exact ⟨zai h7, h8⟩) hb hg a13.length 0 (a13.length + 1) (by omega) (by omega)
theorem HZ : ER 42 (mkE N42.en N42.ex f42) := an ah T39.right (fun m => [Fb (wc m m)]) (t := t42) (by kernel_rfl) (fun m => (aL (NX m m) aB)) (fun m a => by kernel_rfl) fun (a0, a1, a2, a3, a4, a5, a6, a7, a8, a9, a10, a11, a12, a13) hc => Nd a0 a1 a2 a3 a4 a5 a6 a7 a8 a9 a10 a11 a12 a13 hc
def T42 : Tb Tryz.prog LQ TE XX := T39.add 42 _ HZ
def Bi (d : Dat) : Dat := .r [.n (bc d), .n (d.i 5), .n (d.i 6)]
def N46 : aC := ⟨T42.tab, 46, ⟨[.agg [.bool, .int .i64, .int .i64, .int .i64, .int .i64, .int .i64, .int .i64, .int .i64, .int .i64, .int .i64, .int .i64, .buf 9 4, .int .i64, .int .i64, .int .i64, .int .i64, .int .i64, .dk, .int .i64], .np 0 0 0], bX 0 ++ [.ai (sI 4)], 10⟩, ⟨[.agg [.bool, .int .i64, .int .i64, .int .i64, .int .i64, .int .i64, .int .i64, .int .i64, .int .i64, .int .i64, .int .i64, .buf 9 4, .int .i64, .int .i64, .int .i64, .int .i64, .int .i64, .buf 10 3, .int .i64]], bX 0 ++ [.ai (sI 4), .ai (sI 3)], 10⟩, []⟩
abbrev B4 : Type := Int × Int × aw × az × ak × List Dat × List Dat × List Dat × List Dat × List Dat × List Dat × List Dat × List Dat × bK × bA × Int × bK × bA × Int × List Dat × List Dat × List Dat
def wN (m : Nat) (k : B4 -> Option (List Un)) : B4 -> Option (List Un) := fun (a0, a1, a2, a3, a4, a5, a6, a7, a8, a9, a10, a11, a12, a13, a14, a15, a16, a17, a18, a19, a20, a21) =>
 bif decide (a1 < a0) then
 chk (inb a1 a11.length) <|
 chk (decide (a1.toNat < a11.length)) <|
 lt (ag a11 a1.toNat : Dat) fun d3 =>
 chk (fits (a19.length + 1) 24) <|
 k (a0, (w64 (a1 + 1)), a2, a3, a4, a5, a6, a7, a8, a9, a10, a11, a12, a13, a14, a15, a16, a17, a18, (a19 ++ ([.r [.n (w64 (w64 ((d3.i 1) - w64 ((d3.i 3) - (d3.i 4))) - (d3.i 6))), .n (d3.i 5), .n (d3.i 6)]])), a20, a21)
 else
 some (Uns.enc (a13 : bK) ++ Uns.enc (a14 : bA) ++ [.i a15] ++ Uns.enc (a2 : aw) ++ Uns.enc (a3 : az) ++ Uns.enc (a4 : ak) ++ [.d a5, .d a6, .d a7, .d a8, .d a9, .d a10, .d a11, .d a12, .d a19])
def wA (m : Nat) : Nat -> B4 -> Option (List Un) := bo (wN m)
theorem ua (m : Nat) (n : Nat) : wA m (n + 1) = wN m (wA m n) := rfl
def Gm (F : B4 -> Option (List Un)) : aW := ⟨[.lp [0, 1, 0, 1, 1], .blk 0, .code [1, 1, 1]], ⟨frm 58 [(2, .ptr 10 0 0), (4, .ptr 11 0 0), (38, .buf 8 7), (39, .int .i64), (40, .int .i64)], bX 0 ++ [.ai (sI 4), .cells [.bool, .int .i64, .int .i64, .int .i64, .int .i64, .int .i64, .int .i64, .int .i64, .int .i64, .int .i64, .int .i64, .buf 9 4, .int .i64, .int .i64, .int .i64, .int .i64, .int .i64, .buf 12 3, .int .i64], .cells [.bool, .int .i64, .int .i64, .int .i64, .int .i64, .int .i64, .int .i64, .int .i64, .int .i64, .int .i64, .int .i64, .buf 13 4, .int .i64, .int .i64, .int .i64, .int .i64, .int .i64, .buf 14 3, .int .i64], .ai (sI 3), .ai (sI 4), .ai (sI 3)], 10⟩, onU F⟩
theorem OI (m : Nat) : ∀ n, HO N46 (Gm (wA m n)) := au ah T42.right (fun k => [Gm k]) (fun k h => (aL h aB)) fun k a => by kernel_rfl
def t46 (m : Nat) : bK × bA × Int × Int × aw × az × ak × List Dat × List Dat × List Dat × List Dat × List Dat × List Dat × List Dat × List Dat -> Option (List Un) := fun (a0, a1, a2, a3, a4, a5, a6, a7, a8, a9, a10, a11, a12, a13, a14) =>
 chk (decide (0 <= a3)) <|
 chk (decide (0 < ([.r [.r a12]] : List Dat).length) && (decide (((ag ([.r [.r a12]] : List Dat) 0).d 0).length <= 1000) && ((ag ([.r [.r a12]] : List Dat) 0).d 0).all cI)) <|
 chk (decide (0 <= a3)) <|
 chk (decide (0 <= a3)) <|
 chk (decide (0 <= a3)) <|
 chk (decide (0 <= a3)) <|
 chk (decide (0 <= a3)) <|
 wA m m ((a13.length : Int), 0, a4, a5, a6, a7, a8, a9, a10, a11, a12, a13, a14, a0, (⟨a1.bL, (ao 1 ((ag ([.r [.r a12]] : List Dat) 0).d 0)), (w64 (a6.rin - a6.bg)), a6.out, a6.fee⟩ : bA), a6.mode, (⟨false, 0, 0, 0, 0, 0, 0, 0, 0, 0, 0⟩ : bK), (⟨0, 0, 0, 0, 0⟩ : bA), 0, [], [], [])
theorem Iq (m : Nat) (xa : aw) (xb : az) (xn : ak) (x1 x2 x3 x4 x5 x6 py : List Dat) (ra za : bK) (rb zb : bA) (nx zx : Int) (z1 z2 : List Dat) : ∀ (rest pre : List Dat) (n : Nat), rest.length < n -> (pre ++ rest).length <= 1000 -> (∀ d ∈ rest, aI d = true) ->
 wA m n (((pre ++ rest).length : Int), (pre.length : Int), xa, xb, xn, x1, x2, x3, x4, x5, x6, pre ++ rest, py, ra, rb, nx, za, zb, zx, pre.map Bi, z1, z2) =
  some (Uns.enc ra ++ Uns.enc rb ++ [.i nx] ++ Uns.enc xa ++ Uns.enc xb ++ Uns.enc xn ++ [.d x1, .d x2, .d x3, .d x4, .d x5, .d x6, .d (pre ++ rest), .d py, .d ((pre ++ rest).map Bi)]) := by
 intro rest
 induction rest with
 | nil =>
  intro pre n hn hl hg; obtain ⟨n, rfl⟩ := al n (by simp at hn; omega); rw [ua]; unfold wN; dsimp only; simp [aF]
 | cons x rest ih =>
  intro pre n hn hl hg; obtain ⟨n, rfl⟩ := al n (by simp at hn; omega); simp only [zae, zah] at hn hl; have e := JE (hg x (by simp)); have := ih (pre ++ [x]) n (by omega) (by simp; omega) (fun d hd => hg d (by simp [hd])); rw [List.map_append, show [x].map Bi = [.r [.n (bc x), .n (x.i 5), .n (x.i 6)]] from rfl] at this; rw [ua]; unfold wN; dsimp only; simp only [LNi, ax, lt_eq, e]; simp (disch := omega) only [TRa, TRi, aa, LNl, LNi, zaa, ax]; simp only [LNl, LNi, zaa] at this ⊢; exact this
def f46 : bK × bA × Int × Int × aw × az × ak × List Dat × List Dat × List Dat × List Dat × List Dat × List Dat × List Dat × List Dat -> Bool × List Un := fun (a0, a1, a2, a3, a4, a5, a6, a7, a8, a9, a10, a11, a12, a13, a14) => (decide (0 <= a3) && (decide (0 <= a6.bg /\ a6.bg <= a6.rin /\ a6.rin <= 1152921504606846976) && ((decide (a12.length <= 1000) && a12.all cI) && (decide (a13.length <= 1000) && a13.all aI))), Uns.enc ((a0) : bK) ++ Uns.enc (((⟨a1.bL, ao 1 a12, a6.rin - a6.bg, a6.out, a6.fee⟩ : bA)) : bA) ++ [.i (a6.mode)] ++ Uns.enc ((a4) : aw) ++ Uns.enc ((a5) : az) ++ Uns.enc ((a6) : ak) ++ [.d (a7), .d (a8), .d (a9), .d (a10), .d (a11), .d (a12), .d (a13), .d (a14), .d (a13.map Bi)])
theorem LS (a0 : bK) (a1 : bA) (a2 : Int) (a3 : Int) (a4 : aw) (a5 : az) (a6 : ak) (a7 : List Dat) (a8 : List Dat) (a9 : List Dat) (a10 : List Dat) (a11 : List Dat) (a12 : List Dat) (a13 : List Dat) (a14 : List Dat) (hc : (decide (0 <= a3) && (decide (0 <= a6.bg /\ a6.bg <= a6.rin /\ a6.rin <= 1152921504606846976) && ((decide (a12.length <= 1000) && a12.all cI) && (decide (a13.length <= 1000) && a13.all aI)))) = true) : ∃ m, t46 m (a0, a1, a2, a3, a4, a5, a6, a7, a8, a9, a10, a11, a12, a13, a14) = some (Uns.enc ((a0) : bK) ++ Uns.enc (((⟨a1.bL, ao 1 a12, a6.rin - a6.bg, a6.out, a6.fee⟩ : bA)) : bA) ++ [.i (a6.mode)] ++ Uns.enc ((a4) : aw) ++ Uns.enc ((a5) : az) ++ Uns.enc ((a6) : ak) ++ [.d (a7), .d (a8), .d (a9), .d (a10), .d (a11), .d (a12), .d (a13), .d (a14), .d (a13.map Bi)]) := by
 simp only [zab, zag, zan] at hc; obtain ⟨h0, ⟨h4, h5, h6⟩, ⟨h7, h8⟩, h9, h10⟩ := hc; have hb := xu h7 h8; have hlb : (decide (a12.length <= 1000) && a12.all cI) = true := by rw [zab, zan]; exact ⟨zai h7, h8⟩
 refine ⟨a13.length + 1, ?_⟩; unfold t46; dsimp only [lt]; simp only [aN h0]; refine bx (zaq.2 ⟨rfl, hlb⟩) ?_
 rw [aa (n := a6.rin - a6.bg) (by omega) (by omega)]; exact Iq _ a4 a5 a6 a7 a8 a9 a10 a11 a12 a14 a0 _ _ _ _ _ _ _ a13 [] (a13.length + 1) (by omega) (by simpa using h9) h10
theorem Iy : ER 46 (mkE N46.en N46.ex f46) := an ah T42.right (fun m => [Gm (wA m m)]) (t := t46) (by kernel_rfl) (fun m => (aL (OI m m) aB)) (fun m a => by kernel_rfl) fun (a0, a1, a2, a3, a4, a5, a6, a7, a8, a9, a10, a11, a12, a13, a14) hc => LS a0 a1 a2 a3 a4 a5 a6 a7 a8 a9 a10 a11 a12 a13 a14 hc
def T46 : Tb Tryz.prog LQ TE XX := T42.add 46 _ Iy
def Kh (a b p : Int) : Bool := decide (0 <= a /\ a <= 1099511627776 /\ 0 <= b /\ b <= 1099511627776 /\ 0 <= p /\ p <= 100000)
def bJ (a b p : Int) : Bool := Kh a b p && decide (b * p <= a * 10000)
def cu (a b p : Int) : Bool := Kh a b p && decide (a * 10000 <= b * p)
def N87 : aC := ⟨T46.tab, 87, ⟨[.int .i64, .int .i64, .int .i64], [], 0⟩, ⟨[.bool], [], 0⟩, []⟩
def t87 (m : Nat) : Int × Int × Int -> Option (List Un) := fun (a0, a1, a2) =>
 bif decide (a0 >= 0) then
 bif (decide (a0 <= 1099511627776)) then
 bif decide (a1 >= 0) then
 bif (decide (a1 <= 1099511627776)) then
 bif decide (a2 >= 0) then
 bif decide (a2 <= 100000) then
 some ([.b (decide ((w64 (a0 * 10000)) >= (w64 (a1 * a2))))])
 else
 some ([.b false])
 else
 some ([.b false])
 else
 some ([.b false])
 else
 some ([.b false])
 else
 some ([.b false])
 else
 some ([.b false])
def f87 : Int × Int × Int -> Bool × List Un := fun (a0, a1, a2) => (true, [.b (bJ a0 a1 a2)])
theorem LM (a0 : Int) (a1 : Int) (a2 : Int) : ∃ m, t87 m (a0, a1, a2) = some ([.b (bJ a0 a1 a2)]) := by
 unfold t87 bJ Kh; dsimp only [ge_iff_le]
 by_cases h : 0 <= a0 /\ a0 <= 1099511627776 /\ 0 <= a1 /\ a1 <= 1099511627776 /\ 0 <= a2 /\ a2 <= 100000
 . obtain ⟨h1, h2, h3, h4, h5, h6⟩ := h; have hm := Int.mul_le_mul h4 h6 h5 (show (0 : Int) <= 1099511627776 by omega); have hm0 := zaZ h3 h5; refine ⟨0, ?_⟩; rw [zai (show 0 <= a0 /\ a0 <= 1099511627776 /\ 0 <= a1 /\ a1 <= 1099511627776 /\ 0 <= a2 /\ a2 <= 100000 from ⟨h1, h2, h3, h4, h5, h6⟩)]; simp (disch := omega) only [TRa, aa, zbg]
 . refine ⟨0, ?_⟩; rw [zaT h]
   by_cases h1 : 0 <= a0
   . by_cases h2 : a0 <= 1099511627776
     . by_cases h3 : 0 <= a1
       . by_cases h4 : a1 <= 1099511627776
         . by_cases h5 : 0 <= a2
           . simp [h1, h2, h3, h4, h5, show ¬ a2 <= 100000 by omega]
           . simp [h1, h2, h3, h4, h5]
         . simp [h1, h2, h3, h4]
       . simp [h1, h2, h3]
     . simp [h1, h2]
   . simp [h1]
theorem Hp : ER 87 (mkE N87.en N87.ex f87) := an ah T46.right (fun m => []) (t := t87) (by kernel_rfl) (fun m => aB) (fun m a => by kernel_rfl) fun (a0, a1, a2) hc => LM a0 a1 a2
def T87 : Tb Tryz.prog LQ TE XX := T46.add 87 _ Hp
def N88 : aC := ⟨T87.tab, 88, ⟨[.int .i64, .int .i64, .int .i64], [], 0⟩, ⟨[.bool], [], 0⟩, []⟩
def t88 (m : Nat) : Int × Int × Int -> Option (List Un) := fun (a0, a1, a2) =>
 bif decide (a0 >= 0) then
 bif (decide (a0 <= 1099511627776)) then
 bif decide (a1 >= 0) then
 bif (decide (a1 <= 1099511627776)) then
 bif decide (a2 >= 0) then
 bif decide (a2 <= 100000) then
 some ([.b (decide ((w64 (a0 * 10000)) <= (w64 (a1 * a2))))])
 else
 some ([.b false])
 else
 some ([.b false])
 else
 some ([.b false])
 else
 some ([.b false])
 else
 some ([.b false])
 else
 some ([.b false])
def f88 : Int × Int × Int -> Bool × List Un := fun (a0, a1, a2) => (true, [.b (cu a0 a1 a2)])
theorem MB (a0 : Int) (a1 : Int) (a2 : Int) : ∃ m, t88 m (a0, a1, a2) = some ([.b (cu a0 a1 a2)]) := by
 unfold t88 cu Kh; dsimp only [ge_iff_le]
 by_cases h : 0 <= a0 /\ a0 <= 1099511627776 /\ 0 <= a1 /\ a1 <= 1099511627776 /\ 0 <= a2 /\ a2 <= 100000
 . obtain ⟨h1, h2, h3, h4, h5, h6⟩ := h; have hm := Int.mul_le_mul h4 h6 h5 (show (0 : Int) <= 1099511627776 by omega); have hm0 := zaZ h3 h5; refine ⟨0, ?_⟩; rw [zai (show 0 <= a0 /\ a0 <= 1099511627776 /\ 0 <= a1 /\ a1 <= 1099511627776 /\ 0 <= a2 /\ a2 <= 100000 from ⟨h1, h2, h3, h4, h5, h6⟩)]; simp (disch := omega) only [TRa, aa, zbg]
 . refine ⟨0, ?_⟩; rw [zaT h]
   by_cases h1 : 0 <= a0
   . by_cases h2 : a0 <= 1099511627776
     . by_cases h3 : 0 <= a1
       . by_cases h4 : a1 <= 1099511627776
         . by_cases h5 : 0 <= a2
           . simp [h1, h2, h3, h4, h5, show ¬ a2 <= 100000 by omega]
           . simp [h1, h2, h3, h4, h5]
         . simp [h1, h2, h3, h4]
       . simp [h1, h2, h3]
     . simp [h1, h2]
   . simp [h1]
theorem JZ : ER 88 (mkE N88.en N88.ex f88) := an ah T87.right (fun m => []) (t := t88) (by kernel_rfl) (fun m => aB) (fun m a => by kernel_rfl) fun (a0, a1, a2) hc => MB a0 a1 a2
def T88 : Tb Tryz.prog LQ TE XX := T87.add 88 _ JZ
def N44 : aC := ⟨T88.tab, 44, ⟨[.agg [.int .i64, .int .i64, .int .i64, .int .i64, .int .i64], .agg [.int .i64, .int .i64, .int .i64, .int .i64, .int .i64, .int .i64, .int .i64]], [], 0⟩, ⟨[.agg [.bool, .bool, .bool, .bool]], [], 0⟩, []⟩
def t44 (m : Nat) : Int × Int × Int × Int × Int × Int × Int × Int × Int × Int × Int × Int -> Option (List Un) := fun (a0, a1, a2, a3, a4, a5, a6, a7, a8, a9, a10, a11) =>
 bif a0 == 0 then
 bif a1 == 0 then
 bif a2 == 0 then
 bif a3 == 0 then
 some ([.b true, .b true, .b true, .b true])
 else
 some ([.b true, .b true, .b true, .b (cu a11 a6 a3)])
 else
 bif a3 == 0 then
 some ([.b true, .b true, .b (cu a10 a5 a2), .b true])
 else
 some ([.b true, .b true, .b (cu a10 a5 a2), .b (cu a11 a6 a3)])
 else
 bif a2 == 0 then
 bif a3 == 0 then
 some ([.b true, .b (bJ a8 a9 a1), .b true, .b true])
 else
 some ([.b true, .b (bJ a8 a9 a1), .b true, .b (cu a11 a6 a3)])
 else
 bif a3 == 0 then
 some ([.b true, .b (bJ a8 a9 a1), .b (cu a10 a5 a2), .b true])
 else
 some ([.b true, .b (bJ a8 a9 a1), .b (cu a10 a5 a2), .b (cu a11 a6 a3)])
 else
 bif a1 == 0 then
 bif a2 == 0 then
 bif a3 == 0 then
 some ([.b (bJ a5 a7 a0), .b true, .b true, .b true])
 else
 some ([.b (bJ a5 a7 a0), .b true, .b true, .b (cu a11 a6 a3)])
 else
 bif a3 == 0 then
 some ([.b (bJ a5 a7 a0), .b true, .b (cu a10 a5 a2), .b true])
 else
 some ([.b (bJ a5 a7 a0), .b true, .b (cu a10 a5 a2), .b (cu a11 a6 a3)])
 else
 bif a2 == 0 then
 bif a3 == 0 then
 some ([.b (bJ a5 a7 a0), .b (bJ a8 a9 a1), .b true, .b true])
 else
 some ([.b (bJ a5 a7 a0), .b (bJ a8 a9 a1), .b true, .b (cu a11 a6 a3)])
 else
 bif a3 == 0 then
 some ([.b (bJ a5 a7 a0), .b (bJ a8 a9 a1), .b (cu a10 a5 a2), .b true])
 else
 some ([.b (bJ a5 a7 a0), .b (bJ a8 a9 a1), .b (cu a10 a5 a2), .b (cu a11 a6 a3)])
def f44 : Int × Int × Int × Int × Int × Int × Int × Int × Int × Int × Int × Int -> Bool × List Un := fun (a0, a1, a2, a3, a4, a5, a6, a7, a8, a9, a10, a11) => (true, [.b ((a0 == 0 || bJ a5 a7 a0)), .b ((a1 == 0 || bJ a8 a9 a1)), .b ((a2 == 0 || cu a10 a5 a2)), .b ((a3 == 0 || cu a11 a6 a3))])
theorem K5 (a0 : Int) (a1 : Int) (a2 : Int) (a3 : Int) (a4 : Int) (a5 : Int) (a6 : Int) (a7 : Int) (a8 : Int) (a9 : Int) (a10 : Int) (a11 : Int) : ∃ m, t44 m (a0, a1, a2, a3, a4, a5, a6, a7, a8, a9, a10, a11) = some ([.b ((a0 == 0 || bJ a5 a7 a0)), .b ((a1 == 0 || bJ a8 a9 a1)), .b ((a2 == 0 || cu a10 a5 a2)), .b ((a3 == 0 || cu a11 a6 a3))]) := by
 refine ⟨0, ?_⟩; unfold t44; dsimp only; cases a0 == 0 <;> cases a1 == 0 <;> cases a2 == 0 <;> cases a3 == 0 <;> rfl
theorem Jl : ER 44 (mkE N44.en N44.ex f44) := an ah T88.right (fun m => []) (t := t44) (by kernel_rfl) (fun m => aB) (fun m a => by kernel_rfl) fun (a0, a1, a2, a3, a4, a5, a6, a7, a8, a9, a10, a11) hc => K5 a0 a1 a2 a3 a4 a5 a6 a7 a8 a9 a10 a11
def T44 : Tb Tryz.prog LQ TE XX := T88.add 44 _ Jl
def fx (need has : Int) : Int := max (min (max need 0) has) 0
def A1 (need has may : Int) : Int := max (min (max need 0 - fx need has) may) 0
def N36 : aC := ⟨T44.tab, 36, ⟨[.int .i64, .np 0 0 20, .int .i64, .int .i64], bX 0, 0⟩, ⟨[.int .i64, .int .i64], bX 0, 0⟩, []⟩
def t36 (m : Nat) : Int × Int × Int × Int × aw × az × ak × List Dat × List Dat × List Dat × List Dat × List Dat × List Dat × List Dat -> Option (List Un) := fun (a0, a1, a2, a3, a4, a5, a6, a7, a8, a9, a10, a11, a12, a13) =>
 lt ((if a0 < 0 then 0 else a0) : Int) fun x1 =>
 bif (!((decide (a1 < 0)) && true)) then
 chk (decide (0 <= a1)) <|
 lt ((w64 (a6.rin - a6.bg)) : Int) fun x3 =>
 lt ((if x3 < x1 then x3 else x1) : Int) fun x4 =>
 lt ((if x4 < 0 then 0 else x4) : Int) fun x5 =>
 chk (decide (0 <= a1)) <|
 chk (decide (0 <= a1)) <|
 lt ((if (w64 (a3 - a2)) < (w64 (x1 - x5)) then (w64 (a3 - a2)) else (w64 (x1 - x5))) : Int) fun x6 =>
 some ([.i x5, .i (if x6 < 0 then 0 else x6)] ++ Uns.enc (a4 : aw) ++ Uns.enc (a5 : az) ++ Uns.enc (({ a6 with bg := (w64 (a6.bg + x5)) } : ak) : ak) ++ [.d a7, .d a8, .d a9, .d a10, .d a11, .d a12, .d a13])
 else
 lt ((if (w64 (a3 - a2)) < (w64 (x1 - 0)) then (w64 (a3 - a2)) else (w64 (x1 - 0))) : Int) fun x8 =>
 some ([.i 0, .i (if x8 < 0 then 0 else x8)] ++ Uns.enc (a4 : aw) ++ Uns.enc (a5 : az) ++ Uns.enc (a6 : ak) ++ [.d a7, .d a8, .d a9, .d a10, .d a11, .d a12, .d a13])
def f36 : Int × Int × Int × Int × aw × az × ak × List Dat × List Dat × List Dat × List Dat × List Dat × List Dat × List Dat -> Bool × List Un := fun (a0, a1, a2, a3, a4, a5, a6, a7, a8, a9, a10, a11, a12, a13) => (decide (0 <= a1) && decide ((-1152921504606846976 <= a0 /\ a0 <= 1152921504606846976) /\ ((0 : Int) <= a6.bg /\ a6.bg <= a6.rin /\ a6.rin <= (1152921504606846976 : Int)) /\ (0 <= a2 /\ a2 <= 1152921504606846976) /\ (0 <= a3 /\ a3 <= 1152921504606846976)), [.i (fx a0 (a6.rin - a6.bg)), .i (A1 a0 (a6.rin - a6.bg) (a3 - a2))] ++ Uns.enc ((a4) : aw) ++ Uns.enc ((a5) : az) ++ Uns.enc (({ a6 with bg := a6.bg + fx a0 (a6.rin - a6.bg) }) : ak) ++ [.d (a7), .d (a8), .d (a9), .d (a10), .d (a11), .d (a12), .d (a13)])
theorem KU (a0 : Int) (a1 : Int) (a2 : Int) (a3 : Int) (a4 : aw) (a5 : az) (a6 : ak) (a7 : List Dat) (a8 : List Dat) (a9 : List Dat) (a10 : List Dat) (a11 : List Dat) (a12 : List Dat) (a13 : List Dat) (hc : (decide (0 <= a1) && decide ((-1152921504606846976 <= a0 /\ a0 <= 1152921504606846976) /\ ((0 : Int) <= a6.bg /\ a6.bg <= a6.rin /\ a6.rin <= (1152921504606846976 : Int)) /\ (0 <= a2 /\ a2 <= 1152921504606846976) /\ (0 <= a3 /\ a3 <= 1152921504606846976))) = true) : ∃ m, t36 m (a0, a1, a2, a3, a4, a5, a6, a7, a8, a9, a10, a11, a12, a13) = some ([.i (fx a0 (a6.rin - a6.bg)), .i (A1 a0 (a6.rin - a6.bg) (a3 - a2))] ++ Uns.enc ((a4) : aw) ++ Uns.enc ((a5) : az) ++ Uns.enc (({ a6 with bg := a6.bg + fx a0 (a6.rin - a6.bg) }) : ak) ++ [.d (a7), .d (a8), .d (a9), .d (a10), .d (a11), .d (a12), .d (a13)]) := by
 simp only [zab, zag] at hc; obtain ⟨h0, ⟨h1, h2⟩, ⟨h3, h4, h5⟩, ⟨h6, h7⟩, h8, h9⟩ := hc; refine ⟨0, ?_⟩; unfold t36; dsimp only; simp only [za9, lt_eq, zaT (show ¬ a1 < 0 by omega), Bool.not_false, zaE, zai h0, hP]; rw [aa (n := a6.rin - a6.bg) (by omega) (by omega), aa (n := a3 - a2) (by omega) (by omega)]; have e : (if (if a6.rin - a6.bg < (if a0 < 0 then 0 else a0) then a6.rin - a6.bg else (if a0 < 0 then 0 else a0)) < 0 then 0 else (if a6.rin - a6.bg < (if a0 < 0 then 0 else a0) then a6.rin - a6.bg else (if a0 < 0 then 0 else a0))) = fx a0 (a6.rin - a6.bg) := by unfold fx; omega
 have hd : 0 <= fx a0 (a6.rin - a6.bg) /\ fx a0 (a6.rin - a6.bg) <= 1152921504606846976 /\ fx a0 (a6.rin - a6.bg) <= max a0 0 /\ fx a0 (a6.rin - a6.bg) <= a6.rin - a6.bg := by unfold fx; omega
 rw [e, show (if a0 < 0 then 0 else a0) = max a0 0 by omega, aa (n := max a0 0 - _) (by omega) (by omega), aa (n := a6.bg + _) (by omega) (by omega)]; rw [show (if (if a3 - a2 < max a0 0 - fx a0 (a6.rin - a6.bg) then a3 - a2 else max a0 0 - fx a0 (a6.rin - a6.bg)) < 0 then 0 else (if a3 - a2 < max a0 0 - fx a0 (a6.rin - a6.bg) then a3 - a2 else max a0 0 - fx a0 (a6.rin - a6.bg))) = A1 a0 (a6.rin - a6.bg) (a3 - a2) by unfold A1; omega]
theorem Ju : ER 36 (mkE N36.en N36.ex f36) := an ah T44.right (fun m => []) (t := t36) (by kernel_rfl) (fun m => aB) (fun m a => by kernel_rfl) fun (a0, a1, a2, a3, a4, a5, a6, a7, a8, a9, a10, a11, a12, a13) hc => KU a0 a1 a2 a3 a4 a5 a6 a7 a8 a9 a10 a11 a12 a13 hc
def T36 : Tb Tryz.prog LQ TE XX := T44.add 36 _ Ju
def eY (d : bk) (m : Int) : List Dat := if m = 0 then d.s0 else if m = 1 then d.s1 else if m = 2 then d.s2 else []
def N40 : aC := ⟨T36.tab, 40, ⟨[.agg [.int .i64, .int .i64, .int .i64, .ai (sI 2), .ai (sI 3), .int .i64, .int .i64, .int .i64, .int .i64, .int .i64, .int .i64, .int .i64, .int .i64, .int .i64, .int .i64, .ai (sI 2), .ai (sI 2), .ai (sI 2)], .agg [.int .i64, .int .i64]], [], 0⟩, ⟨[.buf 0 2], [.ai (sI 2)], 0⟩, []⟩
def t40 (m : Nat) : bk × Int × Int -> Option (List Un) := fun (a0, a1, a2) =>
 bif decide (a1 < 0) then
 some ([.d ([])])
 else
 bif decide (a1 >= 3) then
 some ([.d ([])])
 else
 chk (inb a1 3) <|
 chk (decide (a1.toNat < 3)) <|
 chk (decide ((List.getD [a0.s0, a0.s1, a0.s2] a1.toNat []).length < 1000000)) <|
 some ([.d (List.getD [a0.s0, a0.s1, a0.s2] a1.toNat [])])
def f40 : bk × Int × Int -> Bool × List Un := fun (a0, a1, a2) => (decide (a0.s0.length < 1000000 /\ a0.s1.length < 1000000 /\ a0.s2.length < 1000000), [.d (eY a0 a1)])
theorem Nm (a0 : bk) (a1 : Int) (a2 : Int) (hc : (decide (a0.s0.length < 1000000 /\ a0.s1.length < 1000000 /\ a0.s2.length < 1000000)) = true) : ∃ m, t40 m (a0, a1, a2) = some ([.d (eY a0 a1)]) := by
 obtain ⟨h1, h2, h3⟩ := zaj hc; refine ⟨0, ?_⟩; unfold t40 eY; dsimp only
 by_cases c0 : a1 < 0
 . rw [bE c0, if_neg (by omega), if_neg (by omega), if_neg (by omega)]
 by_cases c3 : a1 >= 3
 . rw [aF c0, bE c3, if_neg (by omega), if_neg (by omega), if_neg (by omega)]
 rw [aF c0, aF c3, dM (by omega) (by omega), aN (by omega)]; obtain rfl | rfl | rfl : a1 = 0 \/ a1 = 1 \/ a1 = 2 := by omega
 . exact (aN h1).trans rfl
 . exact (aN h2).trans rfl
 . exact (aN h3).trans rfl
theorem HB : ER 40 (mkE N40.en N40.ex f40) := an ah T36.right (fun m => []) (t := t40) (by kernel_rfl) (fun m => aB) (fun m a => by kernel_rfl) fun (a0, a1, a2) hc => Nm a0 a1 a2 hc
def T40 : Tb Tryz.prog LQ TE XX := T36.add 40 _ HB
def jr (d : Dat) : Prop := 0 <= d.i 1 /\ 0 <= d.i 2 /\ d.i 1 + d.i 2 <= 1099511627776 /\ (0 <= d.i 3 /\ d.i 3 <= 12) /\ (d.b 4 = true -> d.i 1 = 0) /\ (d.b 4 = false -> d.i 2 = 0)
theorem zk {p q r s l : Int} (h : mT p q r s l = true) : (0 <= p /\ p <= 1099511627776) /\ (0 <= q /\ q <= 1099511627776) /\ (0 <= r /\ r <= 1099511627776) /\ (0 <= s /\ s <= 1099511627776) /\ 0 <= l /\ l <= 12 := by
 simp only [mT, zab, zag] at h; omega
theorem Gp {x d : Dat} (hx : jr x) (hl : mT (d.i 1) (d.i 2) (d.i 3) (d.i 4) (d.i 5) = true) (hm : DR x d = true) : jr (lz x d) /\ (lz x d).i 1 = x.i 1 - (d.i 1 + d.i 2) - gB (x.i 1) (d.i 1) (d.i 2) (d.b 6) /\ (lz x d).i 2 = x.i 2 + gB (x.i 1) (d.i 1) (d.i 2) (d.b 6) - d.i 4 /\
 0 <= gB (x.i 1) (d.i 1) (d.i 2) (d.b 6) /\ d.i 1 + d.i 2 + gB (x.i 1) (d.i 1) (d.i 2) (d.b 6) <= x.i 1 /\ d.i 4 <= x.i 2 + gB (x.i 1) (d.i 1) (d.i 2) (d.b 6) := by
 obtain ⟨x1, x2, x3, x4, x5, x6⟩ := hx; have l := zk hl; have e1 : (lz x d).i 1 = sH (x.i 1) (d.i 1) (d.i 2) (d.b 6) := rfl; have e2 : (lz x d).i 2 = nF (x.i 1) (x.i 2) (d.i 1) (d.i 2) (d.i 4) (d.b 6) := rfl; have e3 : (lz x d).i 3 = nC (x.i 1) (x.b 4) (d.i 1) (d.i 2) (d.i 5) (d.b 6) := rfl; have e4 : (lz x d).b 4 = (d.b 6 || x.b 4) := PI _; unfold jr; rw [e1, e2, e3, e4]; unfold DR Ap at hm; unfold sH nF nC gB; generalize d.i 1 = p at *
 generalize d.i 2 = q at *
 generalize d.i 3 = r at *
 generalize d.i 4 = s at *
 generalize d.i 5 = t at *
 generalize x.i 1 = b at *
 generalize x.i 2 = o at *
 clear e1 e2 e3 e4 hl; cases hb : x.b 4
 . have := x6 hb; simp only [hb, zao, show w64 (b - p) = b - p from aa (by omega) (by omega), show w64 (b - p - q) = b - p - q from aa (by omega) (by omega)] at hm; simp only [show w64 (p + q) = p + q from aa (by omega) (by omega), show w64 (b - (p + q)) = b - (p + q) from aa (by omega) (by omega)]
   by_cases hn : b - p - q < 0
   . rw [zai hn] at hm; cases hm
   rw [zaT hn, zao] at hm; cases hd : d.b 6
   . simp only [hd, zao, zaw] at hm; subst hm; simp only [zao, Bool.or_self, zbl, zbQ, show w64 o = o from aa (by omega) (by omega)]; have hz : 0 <= (bif b - (p + q) == 0 then 0 else t) /\ (bif b - (p + q) == 0 then 0 else t) <= 12 := by cases (b - (p + q) == 0) <;> simp only [zaE, zao] <;> omega
     and_intros <;> first | trivial | omega | (intro h; cases h; done) | (intro _; omega)
   . simp only [hd, zaE, show w64 (o + (b - p - q)) = o + (b - p - q) from aa (by omega) (by omega)] at hm; have hr : s <= o + (b - p - q) := by
      by_cases hs : s <= o + (b - p - q)
      . exact hs
      . rw [zaT hs, zao, zaw] at hm; omega
     simp only [zaE, Bool.or_false, show w64 (o + (b - (p + q))) = o + (b - (p + q)) from aa (by omega) (by omega), show w64 (o + (b - (p + q)) - s) = o + (b - (p + q)) - s from aa (by omega) (by omega)]
     and_intros <;> first | trivial | omega | (intro h; cases h; done) | (intro _; omega)
 . have := x5 hb; subst this; rw [hb] at hm; simp only [zaE, zab, zaw, Bool.not_eq_true', zag] at hm; obtain ⟨rfl, rfl, h3, h4, h5, h6⟩ := hm; rw [h5]; simp only [zaE, zao, Bool.false_or, show w64 0 = 0 by decide, zbl, zbQ, show w64 (o - s) = o - s from aa (by omega) (by omega)]
   and_intros <;> first | trivial | omega | (intro h; cases h; done) | (intro _; omega)
theorem oE {β : Type} (f : Dat -> β) (y : Dat) : ∀ (l : List Dat) (j : Nat), j < l.length -> f y = f (ag l j) -> (l.set j y).map f = l.map f
 | [], j, h, _ => by simp at h
 | d :: l, 0, _, h => by simp only [List.set_cons_zero, za0, h]; rfl
 | d :: l, j + 1, h, hy => by simp only [zbN, za0, oE f y l j (by simpa using h) hy]
theorem fB {l : List Dat} (h : ∀ d ∈ l, jr d) : 0 <= ao 1 l /\ 0 <= ao 2 l := ⟨fp 1 l fun d hd => (h d hd).1, fp 2 l fun d hd => (h d hd).2.1⟩
theorem v8 : ∀ (t l : List Dat) (last p q s r : Int) (x : Fz), (∀ d ∈ l, jr d) -> th last t = true -> jw l p q s r t = some x -> ao 1 l + ao 2 l <= 1099511627776 -> (0 <= p /\ p + ao 1 l <= 4398046511104) -> (0 <= s /\ s + ao 1 l <= 4398046511104) -> (0 <= r /\ r + ao 1 l + ao 2 l <= 4398046511104) -> (0 <= q /\ q + 1099511627776 * t.length <= 1125899906842624) ->
 (∀ d ∈ x.ba, jr d) /\ x.ba.map (fun d => d.i 0) = l.map (fun d => d.i 0) /\ ao 1 x.ba = ao 1 l - (x.p - p) - (x.l - s) /\ ao 2 x.ba = ao 2 l + (x.l - s) - (x.r - r) /\ p <= x.p /\ s <= x.l /\ r <= x.r /\ (q <= x.q /\ x.q <= q + 1099511627776 * t.length) /\ x.e = 0
 | [], l, last, p, q, s, r, x, hl, ht, h, b1, b2, b3, b4, b5 => by
  simp only [jw, zak] at h; subst h; exact ⟨hl, rfl, by simp, by simp, by simp, by simp, by simp, by simp, rfl⟩
 | d :: t, l, last, p, q, s, r, x, hl, ht, h, b1, b2, b3, b4, b5 => by
  simp only [th] at ht
  split at ht
  . cases ht
  . split at ht
    . rename_i hT; unfold jw at h
      split at h
      . cases h
      . rename_i hi
        split at h
        . rename_i hm; rcases yy (d.i 0) l 0 with hj | ⟨hj1, hj2⟩
          . omega
          . have hj : (fa (d.i 0) 0 l).toNat < l.length := by omega
            generalize (fa (d.i 0) 0 l).toNat = j at *
            obtain ⟨r1, r2, r3, r4, r5, r6⟩ := Gp (hl _ (s9 hj)) hT hm; have lt := zk hT; have s1 := me 1 (lz (ag l j) d) l j hj; have s2 := me 2 (lz (ag l j) d) l j hj; have hl' := C3 (p := jr) (j := j) hl r1; obtain ⟨n1, n2⟩ := fB hl; obtain ⟨n3, n4⟩ := fB hl'; rw [r2] at s1; rw [r3] at s2; simp only [zae, zay, zaa] at b5; generalize gB ((ag l j).i 1) (d.i 1) (d.i 2) (d.b 6) = z at *
            rw [show w64 (d.i 1 + d.i 2) = d.i 1 + d.i 2 from aa (by omega) (by omega), show w64 (p + (d.i 1 + d.i 2)) = p + (d.i 1 + d.i 2) from aa (by omega) (by omega), show w64 (q + d.i 3) = q + d.i 3 from aa (by omega) (by omega), show w64 (s + z) = s + z from aa (by omega) (by omega), show w64 (r + d.i 4) = r + d.i 4 from aa (by omega) (by omega)] at h; obtain ⟨c1, c2, c3, c4, c5, c6, c7, c8, c9⟩ := v8 t _ _ _ _ _ _ x hl' ht h (by omega) (by omega) (by omega) (by omega) (by omega); refine ⟨c1, c2.trans (oE _ _ _ _ hj rfl), by omega, by omega, by omega, by omega, by omega, ?_, c9⟩; simp only [zae, zay, zaa]; omega
        . cases h
    . cases ht
theorem Ee {t l : List Dat} (hl : ∀ d ∈ l, jr d) (b : ao 1 l + ao 2 l <= 1099511627776) (he : (aA t l).e = 0) :
 (∀ d ∈ (aA t l).ba, jr d) /\ (aA t l).ba.map (fun d => d.i 0) = l.map (fun d => d.i 0) /\ ao 1 (aA t l).ba = ao 1 l - (aA t l).p - (aA t l).l /\ ao 2 (aA t l).ba = ao 2 l + (aA t l).l - (aA t l).r /\
 0 <= (aA t l).p /\ 0 <= (aA t l).l /\ 0 <= (aA t l).r /\ 0 <= (aA t l).q /\ (aA t l).q <= 70368744177664 := by
 unfold aA at he ⊢
 split at he
 . rename_i ht; rw [if_pos ht]; simp only [pQ, zab, zag] at ht; cases hx : jw l 0 0 0 0 t with
   | none => rw [hx] at he; cases he
   | some x =>
    obtain ⟨n1, n2⟩ := fB hl; obtain ⟨c1, c2, c3, c4, c5, c6, c7, c8, c9⟩ := v8 t l 0 0 0 0 0 x hl ht.2 hx b (by omega) (by omega) (by omega) (by omega); simp only [zbt]; exact ⟨c1, c2, by omega, by omega, c5, c6, c7, c8.1, by omega⟩
 . cases he
theorem mi (f : Dat -> Bool) : ∀ l : List Dat, (∀ d ∈ l, 0 <= d.i 3) -> 0 <= bh f l
 | [], _ => zb5 0
 | d :: l, h => by
  have := h d (by simp); have := mi f l fun x hx => h x (by simp [hx])
  simp only [bh]; cases f d <;> simp only [zaE, zao] <;> omega
def qT (d e : Dat) (b s : Int) : Prop := e.i 0 = d.i 0 /\ e.i 1 = d.i 1 /\ e.i 2 = d.i 2 /\ e.i 3 = d.i 3 + b /\ e.i 4 = d.i 4 /\ e.i 5 = d.i 5 - s /\ e.i 6 = d.i 6
def amt (f : Dat -> Bool) (d : Dat) : Int := bif f d then d.i 3 else 0
theorem gx (f : Dat -> Bool) (d : Dat) (l : List Dat) : bh f (d :: l) = amt f d + bh f l := rfl
theorem Gc {n : ak} {x : Dat} {c : List Dat} (h3 : 0 <= x.i 3) (hk : (x.i 1 = 1 \/ x.i 1 = 2 \/ x.i 1 = 6) \/ (0 <= x.i 2 /\ x.i 2 < (c.length : Int))) (hb : ∀ i, i < c.length -> amt (toB i) x <= bc (ag c i) /\ amt (toI i) x <= (ag c i).i 5) :
 iC n x = { n with fee := n.fee - amt kF x, out := n.out - amt kR x, rin := n.rin + amt kT x } /\ ∀ i, i < c.length -> qT (ag c i) (ag (jP c x) i) (amt (toB i) x) (amt (toI i) x) := by
 have zero : ∀ i, kI x = false -> kB x = false -> qT (ag c i) (ag c i) (amt (toB i) x) (amt (toI i) x) := fun i h1 h2 => by
  simp only [amt, toB, toI, h1, h2, zbE, zao]; exact ⟨rfl, rfl, rfl, by omega, rfl, by omega, rfl⟩
 unfold iC jP
 by_cases h1 : x.i 1 = 1
 . have a1 : kF x = true := by simp [kF, h1]
   have a2 : kR x = false := by simp [kR, h1]
   have a3 : kT x = false := by simp [kT, h1]
   have a4 : kI x = false := by simp [kI, h1]
   have a5 : kB x = false := by simp [kB, a1]
   rw [if_pos h1, if_pos h1]; refine ⟨?_, fun i hi => zero i a4 a5⟩; simp only [amt, a1, a2, a3, zaE, zao, zbl, zbQ]
 rw [if_neg h1, if_neg h1]; have a1 : kF x = false := nL h1
 by_cases h2 : x.i 1 = 2
 . have a2 : kR x = true := by simp [kR, h2]
   have a3 : kT x = false := by simp [kT, h2]
   have a4 : kI x = false := by simp [kI, h2]
   have a5 : kB x = false := by simp [kB, a2]
   rw [if_pos h2, if_pos h2]; refine ⟨?_, fun i hi => zero i a4 a5⟩; simp only [amt, a1, a2, a3, zaE, zao, zbl, zbQ]
 rw [if_neg h2, if_neg h2]; have a2 : kR x = false := nL h2
 by_cases h6 : x.i 1 = 6
 . have a3 : kT x = true := by simp [kT, h6]
   have a4 : kI x = false := by simp [kI, h6]
   have a5 : kB x = false := by simp [kB, a3]
   rw [if_pos h6, if_pos h6]; refine ⟨?_, fun i hi => zero i a4 a5⟩; simp only [amt, a1, a2, a3, zaE, zao, zbl, zbQ]
 rw [if_neg h6, if_neg h6]; have a3 : kT x = false := nL h6; refine ⟨by simp only [amt, a1, a2, a3, zao, zbl, zbQ], fun i hi => ?_⟩; have hj : (x.i 2).toNat < c.length := by omega
 have hx2 : x.i 2 = ((x.i 2).toNat : Int) := by omega
 generalize (x.i 2).toNat = j at *
 have hbj := hb j hj
 by_cases h3' : x.i 1 = 3
 . have a4 : kI x = true := by simp [kI, h3']
   have a5 : kB x = false := by simp [kB, a4]
   rw [if_pos h3']; simp only [amt, toB, toI, a4, a5, zbE, zbg, zao, hx2] at hbj ⊢
   by_cases hij : i = j
   . subst hij; rw [beq_self_eq_true, zaE] at hbj ⊢; rw [sA hj]; refine ⟨rfl, rfl, rfl, by simp only [mC, eM]; omega, rfl, ?_, rfl⟩; simp only [mC, na, zC]; omega
   . rw [show ((j : Int) == (i : Int)) = false from nL (by omega), zao, lv hij]; exact ⟨rfl, rfl, rfl, by omega, rfl, by omega, rfl⟩
 . have a4 : kI x = false := nL h3'; have a5 : kB x = true := by simp [kB, a1, a2, a3, a4]
   rw [if_neg h3']; simp only [amt, toB, toI, a4, a5, zbE, zbg, zao, hx2] at hbj ⊢
   by_cases hij : i = j
   . subst hij; rw [beq_self_eq_true, zaE] at hbj ⊢; rw [sA hj]; refine ⟨rfl, rfl, rfl, ?_, rfl, by simp only [qL, na]; omega, rfl⟩; simp only [qL, eM, lY]; omega
   . rw [show ((j : Int) == (i : Int)) = false from nL (by omega), zao, lv hij]; exact ⟨rfl, rfl, rfl, by omega, rfl, by omega, rfl⟩
theorem vY : ∀ (p : List Dat) (n : ak) (c : List Dat), (∀ d ∈ p, 0 <= d.i 3) -> (∀ d ∈ p, (d.i 1 = 1 \/ d.i 1 = 2 \/ d.i 1 = 6) \/ (0 <= d.i 2 /\ d.i 2 < (c.length : Int))) -> (∀ i, i < c.length -> bh (toB i) p <= bc (ag c i) /\ bh (toI i) p <= (ag c i).i 5) ->
 (cJ p n c).1 = { n with fee := n.fee - bh kF p, out := n.out - bh kR p, rin := n.rin + bh kT p } /\ (cJ p n c).2.length = c.length /\ ∀ i, i < c.length -> qT (ag c i) (ag (cJ p n c).2 i) (bh (toB i) p) (bh (toI i) p)
 | [], n, c, _, _, _ => by
  refine ⟨by simp [cJ, bh], rfl, fun i hi => ⟨rfl, rfl, rfl, ?_, rfl, ?_, rfl⟩⟩ <;> simp [cJ, bh]
 | x :: p, n, c, h0, hk, hb => by
  have n0 := fun f => mi f p fun d hd => h0 d (zaN _ hd)
  have hx0 := h0 x (by simp); have m0 : ∀ f, 0 <= amt f x := fun f => by unfold amt; cases f x <;> simp only [zaE, zao] <;> omega
  obtain ⟨o1, o2⟩ := Gc (n := n) hx0 (hk x (by simp)) fun i hi => by
   have := hb i hi; rw [gx, gx] at this; have := n0 (toB i); have := n0 (toI i); omega
  have hl := vu c x; obtain ⟨i1, i2, i3⟩ := vY p (iC n x) (jP c x) (fun d hd => h0 d (zaN _ hd)) (fun d hd => by rw [hl]; exact hk d (zaN _ hd)) fun i hi => by
   rw [hl] at hi; have := hb i hi; rw [gx, gx] at this; obtain ⟨_, e1, _, e3, e4, e5, e6⟩ := o2 i hi; unfold bc at this ⊢; omega
  refine ⟨?_, i2.trans hl, fun i hi => ?_⟩
  . show (cJ p (iC n x) (jP c x)).1 = _; rw [i1, o1]; simp only [gx, Int.sub_sub, Int.add_assoc]
  . obtain ⟨e0, e1, e2, e3, e4, e5, e6⟩ := o2 i hi; obtain ⟨f0, f1, f2, f3, f4, f5, f6⟩ := i3 i (by rw [hl]; exact hi); rw [gx, gx]; exact ⟨f0.trans e0, f1.trans e1, f2.trans e2, by show (ag (cJ p (iC n x) (jP c x)).2 i).i 3 = _; omega, f4.trans e4, by show (ag (cJ p (iC n x) (jP c x)).2 i).i 5 = _; omega, f6.trans e6⟩
def fI (d e : Dat) : Prop := e.i 0 = d.i 0 /\ e.i 1 = d.i 1 /\ e.i 2 = d.i 2 /\ e.i 3 = d.i 3 /\ e.i 4 = d.i 4 /\ e.i 5 = d.i 5
theorem fI.refl (d : Dat) : fI d d := ⟨rfl, rfl, rfl, rfl, rfl, rfl⟩
theorem fI.trans {a b c : Dat} (h : fI a b) (k : fI b c) : fI a c := ⟨k.1.trans h.1, k.2.1.trans h.2.1, k.2.2.1.trans h.2.2.1, k.2.2.2.1.trans h.2.2.2.1, k.2.2.2.2.1.trans h.2.2.2.2.1, k.2.2.2.2.2.trans h.2.2.2.2.2⟩
structure ev (c c' : List Dat) : Prop where
 len : c'.length = c.length
 row : ∀ i, i < c.length -> fI (ag c i) (ag c' i)
theorem ev.refl (c : List Dat) : ev c c := ⟨rfl, fun _ _ => .refl _⟩
theorem ev.trans {a b c : List Dat} (h : ev a b) (k : ev b c) : ev a c := ⟨k.len.trans h.len, fun i hi => (h.row i hi).trans (k.row i (by rw [h.len]; exact hi))⟩
theorem ev.set {c : List Dat} {j : Nat} {y : Dat} (hj : j < c.length) (h : fI (ag c j) y) : ev c (c.set j y) := ⟨zbb, fun i hi => by
 by_cases e : i = j
 . subst e; rw [sA hj]; exact h
 . rw [lv e]; exact .refl _⟩
theorem Ab (w : Int) (d : Dat) : fI d (dx w d) := ⟨rfl, rfl, rfl, rfl, rfl, rfl⟩
theorem BB (w : Int) (d : Dat) : fI d (fz w d) := ⟨rfl, rfl, rfl, rfl, rfl, rfl⟩
theorem vD (f : Dat -> Int) : ∀ c : List Dat, (∀ d ∈ c, f d = 0) -> bn f c = 0
 | [], _ => rfl
 | d :: c, h => by simp only [bn, h d (by simp), vD f c fun x hx => h x (by simp [hx])]; rfl
theorem wv (j : Nat) : ∀ c : List Dat, (∀ d ∈ c, d.i j = 0) -> ao j c = 0
 | [], _ => rfl
 | d :: c, h => by simp only [ao, h d (by simp), wv j c fun x hx => h x (by simp [hx])]; rfl
theorem JJ {c : List Dat} {j : Nat} {y : Dat} (hj : j < c.length) (h : fI (ag c j) y) : bn unD (c.set j y) = bn unD c := by
 obtain ⟨_, h1, _, h3, h4, _⟩ := h; rw [z7 _ _ _ _ hj]; unfold unD; omega
theorem CX (t : Int) : ∀ (k : Nat) (c : List Dat), dr c -> sr t c < k -> dr (qM k t c) /\ ev c (qM k t c) /\ (ao 6 c <= t -> ao 6 (qM k t c) = min t (bn unD c)) /\ (t <= ao 6 c -> qM k t c = c)
 | 0, c, _, h => by omega
 | k + 1, c, hg, h => by
  have hu := gO c hg.2; unfold qM
  by_cases hs : ao 6 c < t
  . rw [if_pos hs]
    by_cases hj : fk c c.length 0 (-1) < 0
    . rw [if_pos hj]; refine ⟨hg, .refl c, fun _ => ?_, fun _ => rfl⟩; have h0 := ((rL c c.length 0 (-1) (by omega) (.inl (by omega))).1 hj).2; have : bn bc c = 0 := vD _ _ fun d hd => by
       obtain ⟨i, hi, rfl⟩ := om hd; have := h0 i (by omega) hi; have := (DN (b9 hi hg.2)).1; omega
      omega
    . rw [if_neg hj]; obtain ⟨a1, a2, a3, a4⟩ := KG hg hs (by omega); have hw := Ab (t - ao 6 c) (ag c (fk c c.length 0 (-1)).toNat); have hun := JJ a1 hw; have has := ev.set a1 hw; generalize c.set (fk c c.length 0 (-1)).toNat (dx (t - ao 6 c) (ag c (fk c c.length 0 (-1)).toNat)) = c' at *
      obtain ⟨b1, b2, b3, b4⟩ := CX t k c' a2 (by omega); exact ⟨b1, has.trans b2, fun _ => by rw [b3 a4, hun], fun _ => by omega⟩
  . rw [if_neg hs]; exact ⟨hg, .refl c, fun _ => by omega, fun _ => rfl⟩
theorem Di (t : Int) (h0 : 0 <= t) : ∀ (k : Nat) (c : List Dat), dr c -> tM t c < k -> dr (pt k t c) /\ ev c (pt k t c) /\ (t <= ao 6 c -> ao 6 (pt k t c) = t) /\ (ao 6 c <= t -> pt k t c = c)
 | 0, c, _, h => by omega
 | k + 1, c, hg, h => by
  have hu := gO c hg.2; unfold pt
  by_cases hs : t < ao 6 c
  . rw [if_pos hs]
    by_cases hj : ff c c.length 0 (-1) < 0
    . have h0 := ((rC c c.length 0 (-1) (by omega) (.inl (by omega))).1 hj).2; have : ao 6 c = 0 := wv _ _ fun d hd => by
       obtain ⟨i, hi, rfl⟩ := om hd; have := h0 i (by omega) hi; have := (bZ (b9 hi hg.2)).2.2.2.2.1; omega
      omega
    . rw [if_neg hj]; obtain ⟨a1, a2, a3, a4⟩ := KF hg hs (by omega); have has := ev.set a1 (BB (ao 6 c - t) (ag c (ff c c.length 0 (-1)).toNat)); generalize c.set (ff c c.length 0 (-1)).toNat (fz (ao 6 c - t) (ag c (ff c c.length 0 (-1)).toNat)) = c' at *
      obtain ⟨b1, b2, b3, b4⟩ := Di t h0 k c' a2 (by omega); exact ⟨b1, has.trans b2, fun _ => b3 a4, fun _ => by omega⟩
  . rw [if_neg hs]; exact ⟨hg, .refl c, fun _ => by omega, fun _ => rfl⟩
theorem En {t : Int} {c : List Dat} (hg : dr c) (h0 : 0 <= t) (h1 : t <= bn unD c) : dr (fh t c) /\ ev c (fh t c) /\ ao 6 (fh t c) = t := by
 obtain ⟨a1, a2, a3, a4⟩ := CX t (c.length + 2) c hg (Aj t c); unfold fh; rw [show max t 0 = t by omega]; obtain ⟨b1, b2, b3, b4⟩ := Di t h0 (c.length + 2) (qM (c.length + 2) t c) a1 (by have := Af t (qM (c.length + 2) t c); rwa [a2.len] at this); refine ⟨b1, a2.trans b2, ?_⟩
 by_cases hs : ao 6 c <= t
 . have := a3 hs; rw [b4 (by omega)]; omega
 . rw [a4 (by omega)] at b3 ⊢; exact b3 (by omega)
structure NJ (d : bk) : Prop where
 year : 1 <= d.a.year /\ d.a.year <= 9000
 month : 1 <= d.a.month /\ d.a.month <= 12
 basis : 0 <= d.a.basis /\ d.a.basis <= 2
 fee : 0 <= d.b.fee /\ d.b.fee <= 5000
 bf : 0 <= d.b.bf /\ d.b.bf <= 1099511627776
 target : 0 <= d.b.target /\ d.b.target <= 10000
 advance : 0 <= d.b.advance /\ d.b.advance <= 1099511627776
 eB : 0 <= d.b.eB /\ d.b.eB <= 600
 oc : 0 <= d.b.oc /\ d.b.oc <= 100000
 ic : 0 <= d.b.ic /\ d.b.ic <= 100000
 late : 0 <= d.b.late /\ d.b.late <= 100000
 nG : 0 <= d.b.nG /\ d.b.nG <= 100000
 clean : 0 <= d.b.clean /\ d.b.clean <= 100000
 PG : ((cj d).getD (0, 0)).1 = ao 1 d.aZ
 ba : 0 <= ao 1 d.aZ /\ ao 1 d.aZ <= 1099511627776
 Ok : 1 <= d.aZ.length /\ d.aZ.length <= 64
 Hf : ∀ x ∈ d.aZ, 0 <= x.i 1 /\ x.i 1 <= 1099511627776
 ids : (d.aZ.map fun x => x.i 0).Pairwise (· < ·)
 pos : ∀ x ∈ d.aZ, 0 < x.i 0
 P2 : 1 <= d.notes.length /\ d.notes.length <= 8
 note : ∀ x ∈ d.notes, (0 <= x.i 0 /\ x.i 0 <= 7) /\ (1 <= x.i 1 /\ x.i 1 <= 1099511627776) /\ (0 <= x.i 2 /\ x.i 2 <= 5000)
 sumn : ao 1 d.notes <= ao 1 d.aZ
 s0 : dY d.s0 = true
 s1 : dY d.s1 = true
 s2 : dY d.s2 = true
theorem vJ : ∀ (l : List Dat) (last all r : Int), 0 <= all -> iW last all l = some r -> r = all + ao 1 l /\ (all <= 1099511627776 -> r <= 1099511627776) /\ (∀ x ∈ l, 0 <= x.i 1 /\ x.i 1 <= 1099511627776 /\ last < x.i 0) /\ (l.map fun x => x.i 0).Pairwise (· < ·)
 | [], last, all, r, h0, h => by
  simp only [iW, zak] at h; subst h; exact ⟨by simp [ao], fun h => h, fun x hx => by simp at hx, List.Pairwise.nil⟩
 | d :: l, last, all, r, h0, h => by
  unfold iW at h
  split at h
  . cases h
  . rename_i hl
    split at h
    . rename_i hb; obtain ⟨h1, h2, h3, h4⟩ := vJ l _ _ _ (by omega) h; refine ⟨by simp only [ao]; omega, fun _ => h2 (by omega), fun x hx => ?_, ?_⟩
      . rcases zbc.1 hx with rfl | hx
        . omega
        . have := h3 x hx; omega
      . simp only [za0, List.pairwise_cons]; refine ⟨fun y hy => ?_, h4⟩; obtain ⟨x, hx, rfl⟩ := zbp.1 hy; exact (h3 x hx).2.2
    . cases h
theorem wg (most : Int) (hm : most <= 1099511627776) : ∀ (l : List Dat) (all r : Int), 0 <= all -> lZ most all l = some r -> r = all + ao 1 l /\ (all <= most -> r <= most) /\ ∀ x ∈ l, (0 <= x.i 0 /\ x.i 0 <= 7) /\ (1 <= x.i 1 /\ x.i 1 <= 1099511627776) /\ (0 <= x.i 2 /\ x.i 2 <= 5000)
 | [], all, r, h0, h => by
  simp only [lZ, zak] at h; subst h; exact ⟨by simp [ao], fun h => h, fun x hx => by simp at hx⟩
 | d :: l, all, r, h0, h => by
  unfold lZ at h
  split at h
  . rename_i hb; obtain ⟨h1, h2, h3⟩ := wg most hm l _ _ (by omega) h; refine ⟨by simp only [ao]; omega, fun _ => h2 (by omega), fun x hx => ?_⟩; rcases zbc.1 hx with rfl | hx
    . omega
    . exact h3 x hx
  . cases h
theorem eT {d : bk} (h : (cj d).isSome = true) : NJ d := by
 unfold cj at h
 split at h
 . cases h
 . rename_i p hp
   split at h
   . cases h
   . rename_i n hn
     split at h
     . rename_i hc; have hs : cj d = some (p, n) := by unfold cj; simp only [hp, hn, if_pos hc]
       simp only [zab, nB, zag] at hc; obtain ⟨⟨t1, t2, t3, t4, t5, t6, t7, t8, t9, t10, t11, t12, t13⟩, s0, s1, s2⟩ := hc; unfold eQ at hp
       split at hp
       . rename_i hl; obtain ⟨l1, l2, l3, l4⟩ := vJ _ _ _ _ (by omega) hp; have l2 := l2 (by omega); unfold jx at hn
         split at hn
         . rename_i hnl; obtain ⟨n1, n2, n3⟩ := wg p (by omega) _ _ _ (by omega) hn; have h0 := fp 1 d.aZ fun x hx => (l3 x hx).1
           have n2 := n2 (by omega); exact ⟨t6, t7, t8, t9, t10, t11, t12, t13, t1, t2, t3, t4, t5, by rw [hs]; show p = _; omega, by omega, hl, fun x hx => ⟨(l3 x hx).1, (l3 x hx).2.1⟩, l4, fun x hx => (l3 x hx).2.2, hnl, n3, by omega, s0, s1, s2⟩
         . cases hn
       . cases hp
     . cases h
def iw (T : ae) : bk := ⟨T.a, T.aZ, T.notes, T.b, T.s0, T.s1, T.s2⟩
structure lC (T : ae) : Prop where
 wH : (cj (iw T)).isSome = true
 ON : T.tr.map (fun d => (d.i 0, d.i 1, d.i 2)) = T.notes.map (fun d => (d.i 0, d.i 1, d.i 2))
 IT : ∀ d ∈ T.tr, aI d = true /\ d.i 5 <= 1200000000000 * T.n.period
 ids : T.ba.map (fun d => d.i 0) = T.aZ.map (fun d => d.i 0)
 Hf : ∀ d ∈ T.ba, jr d
 bal : ao 1 T.ba + ao 2 T.ba + T.n.aK <= ao 1 T.aZ
 lost : T.n.aD - T.n.aK = ao 2 T.ba
 GO : 0 <= T.n.aK
 period : 0 <= T.n.period /\ T.n.period <= 600
 mode : 0 <= T.n.mode /\ T.n.mode <= 2
 aX : 0 <= T.n.aX /\ T.n.aX <= T.n.period
 fee : 0 <= T.n.fee /\ T.n.fee <= 1200000000000 * T.n.period
 out : 0 <= T.n.out /\ T.n.out <= T.b.advance
 res : 0 <= T.n.bg /\ T.n.bg <= T.n.rin /\ T.n.rin <= 1200000000000 * (T.n.period + 1)
 down : ao 6 T.tr <= ao 2 T.ba
section
variable (T : ae) (l : List Dat)
def cP : Fz := aA l T.ba
def ou : Int := cO T.a T.n.period (ao 1 T.ba) T.b.fee
def Eb : Int := bn (fun d => cO T.a T.n.period (bc d) (d.i 2)) T.tr
def cTr : List Dat := T.tr.map (dP T.a T.n.period)
def cIn : Int := (cP T l).p + (cP T l).q + (cP T l).r
def ma : Int := T.n.fee + ou T + ao 5 (cTr T) - cIn T l
def ft : Int := fx (ma T l) (T.n.rin - T.n.bg)
def m5 : Int := A1 (ma T l) (T.n.rin - T.n.bg) (T.b.advance - T.n.out)
def cN1 : ak := { T.n with fee := T.n.fee + ou T, bg := T.n.bg + ft T l }
def cX : aV := ⟨cIn T l + ft T l + m5 T l, T.n.fee + ou T, T.n.out, min ((cP T l).p + (cP T l).r + (cP T l).l) (bn bc (cTr T)), ud T.b.target (ao 1 (cP T l).ba) (T.n.rin - (T.n.bg + ft T l))⟩
def cZ : aV × List Dat × List Dat := dt 0 (eY (iw T) T.n.mode) (cX T l) ((cTr T).map eA)
def cT : ak × List Dat := cJ (cZ T l).2.2 (cN1 T l) (cTr T)
def cN2 : ak := { (cT T l).1 with out := (cT T l).1.out + m5 T l, aD := (cT T l).1.aD + (cP T l).l, aK := (cT T l).1.aK + (cP T l).r }
def AH : List Dat := fh (cC (bn unD (cT T l).2) (ao 1 (cP T l).ba) (cN2 T l).aD (cN2 T l).aK) (cT T l).2
def C5 : Int × Int := dz T.n.mode T.n.aX T.b.eB (T.b.oc == 0 || bJ (ao 1 (cP T l).ba) (bn bc (AH T l)) T.b.oc) (T.b.ic == 0 || bJ (min (cP T l).q 1099511627776) (min (Eb T) 1099511627776) T.b.ic)
 (T.b.late == 0 || cu (cg 2 (cP T l).ba + cg 3 (cP T l).ba) (ao 1 (cP T l).ba) T.b.late) (T.b.nG == 0 || cu ((cN2 T l).aD - (cN2 T l).aK) (ao 1 T.aZ) T.b.nG)
def cN3 : ak := { cN2 T l with mode := (C5 T l).1, aX := (C5 T l).2, period := T.n.period + 1 }
end
structure Bj where
 ra : bK
 rb : bA
 next : Int
 e : Int
 t : ae
 eG : List Dat
 notes : List Dat
def noR (e : Int) (T : ae) : Bj := ⟨⟨false, 0, 0, 0, 0, 0, 0, 0, 0, 0, 0⟩, ⟨0, 0, 0, 0, 0⟩, 0, e, T, [], []⟩
def Gj (T : ae) (l : List Dat) : Bj :=
 ⟨⟨false, T.n.period + 1, T.n.mode, (cP T l).p, (cP T l).q, (cP T l).l, (cP T l).r, ft T l, m5 T l, ou T, Eb T⟩, ⟨(cZ T l).1.ar, ao 1 (cP T l).ba, (cN2 T l).rin - (cN2 T l).bg, (cN2 T l).out, (cN2 T l).fee⟩, (C5 T l).1, 0,
  { T with n := cN3 T l, ba := (cP T l).ba, tr := AH T l }, (cZ T l).2.2, (AH T l).map Bi⟩
def aS (T : ae) (l : List Dat) : Bj := bif T.n.ox then noR 5 T else bif decide (T.n.period >= 600) then noR 4 T else bif (cP T l).e != 0 then noR (cP T l).e T else Gj T l
theorem Gv (f : Dat -> Dat) {l : List Dat} {i : Nat} (h : i < l.length) : ag (l.map f) i = f (ag l i) := by
 rw [lL (by simpa using h), lL h, List.getElem_map]
theorem Ah (a : aw) (p : Int) : ∀ l : List Dat, ao 5 (l.map (dP a p)) = ao 5 l + bn (fun d => cO a p (bc d) (d.i 2)) l /\ ao 6 (l.map (dP a p)) = ao 6 l /\ bn bc (l.map (dP a p)) = bn bc l
 | [] => ⟨rfl, rfl, rfl⟩
 | d :: l => by
  obtain ⟨h1, h2, h3⟩ := Ah a p l; have e5 : (dP a p d).i 5 = d.i 5 + cO a p (bc d) (d.i 2) := rfl; have e6 : (dP a p d).i 6 = d.i 6 := rfl; have eb : bc (dP a p d) = bc d := rfl; simp only [za0, ao, bn, h1, h2, h3, e5, e6, eb]
  and_intros <;> first | trivial | omega
theorem Dl (f : Dat -> Int) (b : Int) : ∀ l : List Dat, (∀ d ∈ l, 0 <= f d /\ f d <= b) -> 0 <= bn f l /\ bn f l <= b * l.length
 | [], _ => by simp [bn]
 | d :: l, h => by
  have h1 := h d (by simp); have h2 := Dl f b l fun x hx => h x (by simp [hx])
  simp only [bn, zae, zay, zbZ]; omega
theorem GK {n b : Int} (h1 : 0 <= n) (h2 : n <= 1099511627776) (h3 : 0 <= b) (h4 : b <= 10000) : mdV n b 10000 0 = n * b / 10000 /\ 0 <= mdV n b 10000 0 /\ mdV n b 10000 0 <= n := by
 have hm := zbO h4 h1; have hz := zaZ h1 h3; have i := Nx (n := n) (b := b) (p := 10000) (h := 0) h1 (by omega) h3 (by omega) (by omega) (by omega) (by omega) (by omega) (by omega); rw [i.2.1, Ln]; omega
theorem iX {l : List Dat} (h : dY l = true) : 1 <= l.length /\ l.length <= 16 := by
 simp only [dY, zab, zag] at h; omega
theorem DF {T : ae} {i : Nat} (hi : i < (cTr T).length) : ag ((cTr T).map eA) i = eA (ag (cTr T) i) := Gv _ hi
section
variable {T : ae} {l : List Dat} (h : lC T) (hp : T.n.period < 600) (he : (cP T l).e = 0)
include h
theorem vC : T.tr.length = T.notes.length := by
 have := congrArg List.length h.ON; simpa using this
theorem gZ : T.tr.length <= 8 /\ 1 <= T.tr.length := by
 have := (eT h.wH).P2; rw [vC h]; exact ⟨this.2, this.1⟩
theorem zS : dr T.tr := ⟨by have := gZ h; omega, fun d hd => (h.IT d hd).1⟩
theorem si : T.ba.length = T.aZ.length /\ T.ba.length <= 64 := by
 have := congrArg List.length h.ids; have := (eT h.wH).Ok; simp only [zbh, iw] at *
 omega
theorem jQ : 0 <= ao 1 T.ba /\ 0 <= ao 2 T.ba /\ ao 1 T.ba + ao 2 T.ba + T.n.aK <= 1099511627776 := by
 have h1 := fB h.Hf; have h2 := (eT h.wH).ba.2; have h3 := h.bal; have : ao 1 (iw T).aZ = ao 1 T.aZ := rfl; omega
theorem mD : (0 <= ou T /\ ou T <= 1200000000000) /\ dr (cTr T) /\ (∀ d ∈ cTr T, d.i 5 <= 1200000000000 * (T.n.period + 1)) /\ (Eb T = ao 5 (cTr T) - ao 5 T.tr /\ 0 <= Eb T /\ Eb T <= 1200000000000 * T.tr.length) /\ bn bc (cTr T) = bn bc T.tr /\ ao 6 (cTr T) = ao 6 T.tr := by
 have D := eT h.wH; obtain ⟨b1, b2, b3⟩ := jQ h; have r0 := h.GO; have hs : ∀ d ∈ T.tr, 0 <= cO T.a T.n.period (bc d) (d.i 2) /\ cO T.a T.n.period (bc d) (d.i 2) <= 1200000000000 := fun d hd =>
  oB _ D.year.1 D.year.2 D.month.1 D.month.2 h.period.1 (by have := h.period.2; omega) (DN (h.IT d hd).1).1 (DN (h.IT d hd).1).2
 obtain ⟨a1, a2, a3⟩ := Ah T.a T.n.period T.tr; have sd := Dl (fun d => cO T.a T.n.period (bc d) (d.i 2)) 1200000000000 T.tr hs; have hsh : ∀ d ∈ cTr T, aI d = true /\ d.i 5 <= 1200000000000 * (T.n.period + 1) := fun d hd => by
  obtain ⟨x, hx, rfl⟩ := zbp.1 hd; obtain ⟨g, g5⟩ := h.IT x hx; have g' := bZ g; have := hs x hx; have := h.period; have e5 : (dP T.a T.n.period x).i 5 = x.i 5 + cO T.a T.n.period (bc x) (x.i 2) := rfl; refine ⟨zai ?_, by omega⟩; rw [e5]; show (0 <= x.i 1 /\ x.i 1 <= 1099511627776 /\ 0 <= x.i 3 /\ x.i 4 = 0 /\ 0 <= x.i 6 /\ x.i 3 + x.i 6 <= x.i 1 /\ _); omega
 refine ⟨oB _ D.year.1 D.year.2 D.month.1 D.month.2 h.period.1 (by have := h.period.2; omega) b1 (by omega), ⟨by simp only [cTr, zbh]; have := gZ h; omega, fun d hd => (hsh d hd).1⟩, fun d hd => (hsh d hd).2, ⟨?_, sd.1, sd.2⟩, a3, a2⟩; show bn _ T.tr = ao 5 (T.tr.map (dP T.a T.n.period)) - ao 5 T.tr; omega
theorem rE : (cTr T).length = T.tr.length := by simp [cTr]
include he
theorem qR : (∀ d ∈ (cP T l).ba, jr d) /\ (cP T l).ba.map (fun d => d.i 0) = T.ba.map (fun d => d.i 0) /\ ao 1 (cP T l).ba = ao 1 T.ba - (cP T l).p - (cP T l).l /\ ao 2 (cP T l).ba = ao 2 T.ba + (cP T l).l - (cP T l).r /\
 0 <= (cP T l).p /\ 0 <= (cP T l).l /\ 0 <= (cP T l).r /\ 0 <= (cP T l).q /\ (cP T l).q <= 70368744177664 := by
 have b := jQ h; have r0 := h.GO; exact Ee h.Hf (by omega) he
theorem nu : (0 <= cIn T l /\ cIn T l <= 75000000000000) /\ (-1000000000000000 <= ma T l /\ ma T l <= 10000000000000000) /\ (0 <= ft T l /\ ft T l <= T.n.rin - T.n.bg /\ ft T l <= max (ma T l) 0) /\ (0 <= m5 T l /\ m5 T l <= T.b.advance - T.n.out) := by
 obtain ⟨p1, p2, p3, p4, p5, p6, p7, p8, p9⟩ := qR h he; obtain ⟨a1, a2, a3, a4, a5⟩ := mD h; have n1 := fB p1; have b := jQ h; have r0 := h.GO; have hi : 0 <= cIn T l /\ cIn T l <= 75000000000000 := by unfold cIn; omega
 have s5 := (gO (cTr T) a2.2).2.1; have hl := gZ h; have f := h.fee; have p := h.period; have s5' : ao 5 (cTr T) <= 1200000000000 * 601 * 8 := by
  have := wT 5 (1200000000000 * 601) (cTr T) fun d hd => ⟨(bZ (a2.2 d hd)).2.2.2.2.2.2.1, by have := a3 d hd; omega⟩
  have := rE h; omega
 have hn : -1000000000000000 <= ma T l /\ ma T l <= 10000000000000000 := by unfold ma; omega
 have r := h.res; have o := h.out; refine ⟨hi, hn, ?_, ?_⟩
 . unfold ft fx; omega
 . unfold m5 A1; omega
theorem xy : mP (cX T l) = true /\ aO ((cTr T).map eA) = true /\ ((cX T l).room <= 1099511627776 /\ (cX T l).ar <= 800000000000000) := by
 obtain ⟨p1, p2, p3, p4, p5, p6, p7, p8, p9⟩ := qR h he; obtain ⟨a1, a2, a3, a4, a5⟩ := mD h; obtain ⟨c1, c2, c3, c4⟩ := nu h he; have n1 := fB p1; have b := jQ h; have D := eT h.wH; have r := h.res; have o := h.out; have hpe := h.period; have f := h.fee; have r0 := h.GO; have sb := (gO (cTr T) a2.2).1; have tg : 0 <= T.b.target /\ T.b.target <= 10000 := D.target; have ad : T.b.advance <= 1099511627776 := D.advance.2; have g := GK (n := ao 1 (cP T l).ba) (b := T.b.target) n1.1 (by omega) tg.1 tg.2; refine ⟨zai ?_, ur (by rw [zbh]; exact a2.1) fun d hd => ?_, ?_, ?_⟩
 . simp only [cX, ud]; omega
 . obtain ⟨x, hx, rfl⟩ := zbp.1 hd; have g := bZ (a2.2 x hx); have gb := DN (a2.2 x hx); simp only [jA, eA, zab, dX, ik]; clear p1 p2 p3 p4 p5 p6 p7 p8 p9 a1 a3 a4 a5 c1 c2 c3 c4 D r o f r0 sb tg ad b n1 hpe; exact ⟨rfl, zai (by omega)⟩
 . simp only [cX, ud]; omega
 . simp only [cX]; omega
end
section
variable {T : ae} {l : List Dat} (h : lC T) (hp : T.n.period < 600) (he : (cP T l).e = 0)
include h
theorem qn : dY (eY (iw T) T.n.mode) = true := by
 have D := eT h.wH; have m := h.mode; unfold eY
 by_cases m0 : T.n.mode = 0
 . rw [if_pos m0]; exact D.s0
 rw [if_neg m0]
 by_cases m1 : T.n.mode = 1
 . rw [if_pos m1]; exact D.s1
 rw [if_neg m1, if_pos (by omega)]; exact D.s2
include he
theorem wx : Kept (cX T l) ((cTr T).map eA) (cZ T l).2.2 (cZ T l).1 (cZ T l).2.1 /\ (∀ d ∈ (cZ T l).2.2, EZ T.tr.length 0 (eY (iw T) T.n.mode) d) /\ mP (cZ T l).1 = true /\ aO (cZ T l).2.1 = true /\ (cZ T l).2.2.length <= 128000 := by
 obtain ⟨x1, x2, x3, x4⟩ := xy h he; have k := vo (eY (iw T) T.n.mode) 0 (cX T l) _ x1 x2; have o := Dq (eY (iw T) T.n.mode) 0 (cX T l) _ x1 x2; have sl := iX (qn h); have e : ((cTr T).map eA).length = T.tr.length := by rw [zbh, rE h]
 rw [e] at k; exact ⟨k.1, k.2.1, o.1, o.2.1, by have := o.2.2.2; unfold cZ; omega⟩
theorem sk : (∀ d ∈ (cZ T l).2.2, 1 <= d.i 3 /\ ((d.i 1 = 1 \/ d.i 1 = 2 \/ d.i 1 = 6) \/ (0 <= d.i 2 /\ d.i 2 < (T.tr.length : Int)))) /\ ao 3 (cZ T l).2.2 <= 800000000000000 /\
 (0 <= bh kF (cZ T l).2.2 /\ bh kF (cZ T l).2.2 <= T.n.fee + ou T) /\ (0 <= bh kR (cZ T l).2.2 /\ bh kR (cZ T l).2.2 <= T.n.out) /\ (0 <= bh kT (cZ T l).2.2 /\ bh kT (cZ T l).2.2 <= (cX T l).room) /\
 ∀ i, i < T.tr.length -> (0 <= bh (toB i) (cZ T l).2.2 /\ bh (toB i) (cZ T l).2.2 <= bc (ag (cTr T) i)) /\ (0 <= bh (toI i) (cZ T l).2.2 /\ bh (toI i) (cZ T l).2.2 <= (ag (cTr T) i).i 5) := by
 obtain ⟨k, p, g, c, _⟩ := wx h he; obtain ⟨x1, x2, x3, x4⟩ := xy h he; have g := qN g; have hpp : ∀ d ∈ (cZ T l).2.2, 1 <= d.i 3 /\ ((d.i 1 = 1 \/ d.i 1 = 2 \/ d.i 1 = 6) \/ (0 <= d.i 2 /\ d.i 2 < (T.tr.length : Int))) := fun d hd => by
  obtain ⟨_, _, h1, h2, h3, h4⟩ := p d hd; refine ⟨h2, ?_⟩; rw [<- h1] at h4
  by_cases hn : d.i 2 < 0
  . exact .inl (h4.1 hn)
  . exact .inr (by omega)
 have n0 := fun f => mi f (cZ T l).2.2 fun d hd => by have := (hpp d hd).1; omega
 have kf := k.fee; have kr := k.bB; have kt := k.room; have kc := k.ar; have e1 : (cX T l).fee = T.n.fee + ou T := rfl; have e2 : (cX T l).bB = T.n.out := rfl; refine ⟨hpp, by omega, ⟨n0 _, by omega⟩, ⟨n0 _, by omega⟩, ⟨n0 _, by omega⟩, fun i hi => ?_⟩; have hl := rE h; have hr := k.row i (by rw [zbh]; omega); rw [DF (by omega)] at hr; have hc := cd ((bF c).2 _ (s9 (l := (cZ T l).2.1) (j := i) (by rw [k.len, zbh]; omega))); rw [hr] at hc; have b1 : (eA (ag (cTr T) i)).i 1 = bc (ag (cTr T) i) := rfl; have b2 : (eA (ag (cTr T) i)).i 2 = (ag (cTr T) i).i 5 := rfl; simp only [dX, ik, b1, b2] at hc; exact ⟨⟨n0 _, by omega⟩, ⟨n0 _, by omega⟩⟩
theorem kJ : (cT T l).1 = { T.n with fee := T.n.fee + ou T - bh kF (cZ T l).2.2, out := T.n.out - bh kR (cZ T l).2.2, rin := T.n.rin + bh kT (cZ T l).2.2, bg := T.n.bg + ft T l } /\ (cT T l).2.length = T.tr.length /\ dr (cT T l).2 /\
 (∀ i, i < T.tr.length -> qT (ag (cTr T) i) (ag (cT T l).2 i) (bh (toB i) (cZ T l).2.2) (bh (toI i) (cZ T l).2.2)) /\ vG (cZ T l).2.2 (cN1 T l) (cTr T) = true := by
 obtain ⟨s1, s2, s3, s4, s5, s6⟩ := sk h he; obtain ⟨k, p, g, c, pl⟩ := wx h he; obtain ⟨a1, a2, a3, a4, a5⟩ := mD h; obtain ⟨c1, c2, c3, c4⟩ := nu h he; have hl := rE h; obtain ⟨d1, d2, d3⟩ := vY (cZ T l).2.2 (cN1 T l) (cTr T) (fun d hd => by have := (s1 d hd).1; omega) (fun d hd => by rw [hl]; exact (s1 d hd).2) (fun i hi => by have := s6 i (by omega); omega); have f := h.fee; have o := h.out; have r := h.res; have hpe := h.period; have ad : T.b.advance <= 1099511627776 := (eT h.wH).advance.2; have hg : dr (cT T l).2 := by
  have hdl : (cT T l).2.length = (cTr T).length := d2; refine ⟨by have := a2.1; omega, fun d hd => ?_⟩; obtain ⟨i, hi, rfl⟩ := om hd; obtain ⟨_, e1, _, e3, e4, e5, e6⟩ := d3 i (by omega); have := s6 i (by omega); have gi := bZ (b9 (c := cTr T) (i := i) (by omega) a2.2); have e1' : (ag (cT T l).2 i).i 1 = (ag (cTr T) i).i 1 := e1; have e3' : (ag (cT T l).2 i).i 3 = (ag (cTr T) i).i 3 + bh (toB i) (cZ T l).2.2 := e3; have e4' : (ag (cT T l).2 i).i 4 = (ag (cTr T) i).i 4 := e4; have e5' : (ag (cT T l).2 i).i 5 = (ag (cTr T) i).i 5 - bh (toI i) (cZ T l).2.2 := e5; have e6' : (ag (cT T l).2 i).i 6 = (ag (cTr T) i).i 6 := e6; refine zai ?_
  rw [e1', e3', e4', e5', e6']; unfold bc at this; omega
 refine ⟨d1, d2.trans hl, hg, fun i hi => d3 i (by omega), ?_⟩; simp only [vG, zab, zag, zan]; refine ⟨by omega, fun d hd => ?_, ⟨by omega, ?_⟩, a2⟩
 . have := s1 d hd; simp only [DO, zab, zbf, zag, hl]; exact ⟨by omega, this.2⟩
 . simp only [cN1]; omega
theorem zr : cN2 T l = { T.n with fee := T.n.fee + ou T - bh kF (cZ T l).2.2, out := T.n.out - bh kR (cZ T l).2.2 + m5 T l, rin := T.n.rin + bh kT (cZ T l).2.2, bg := T.n.bg + ft T l, aD := T.n.aD + (cP T l).l, aK := T.n.aK + (cP T l).r } := by
 unfold cN2; rw [(kJ h he).1]
theorem vb : 0 <= cC (bn unD (cT T l).2) (ao 1 (cP T l).ba) (cN2 T l).aD (cN2 T l).aK /\ cC (bn unD (cT T l).2) (ao 1 (cP T l).ba) (cN2 T l).aD (cN2 T l).aK <= bn unD (cT T l).2 /\
 cC (bn unD (cT T l).2) (ao 1 (cP T l).ba) (cN2 T l).aD (cN2 T l).aK <= ao 2 (cP T l).ba /\ (cN2 T l).aD - (cN2 T l).aK = ao 2 (cP T l).ba := by
 obtain ⟨p1, p2, p3, p4, p5, p6, p7, p8, p9⟩ := qR h he; have g := (kJ h he).2.2.1; have u := (gO _ g.2).2.2.2.1; have t := rQ (bn unD (cT T l).2) (ao 1 (cP T l).ba) (cN2 T l).aD (cN2 T l).aK; have n1 := fB p1; have hl := h.lost; have e : (cN2 T l).aD - (cN2 T l).aK = ao 2 (cP T l).ba := by rw [zr h he]; simp only; omega
 omega
theorem DL : dr (AH T l) /\ ev (cT T l).2 (AH T l) /\ ao 6 (AH T l) = cC (bn unD (cT T l).2) (ao 1 (cP T l).ba) (cN2 T l).aD (cN2 T l).aK := by
 have t := vb h he; exact En (kJ h he).2.2.1 t.1 t.2.1
end
def sq (T : ae) : Bool := @decide (lC T) (Classical.propDecidable _)
theorem sn {T : ae} : sq T = true ↔ lC T := by unfold sq; simp
theorem CW {l : List Dat} (h : ∀ d ∈ l, jr d) (hl : l.length <= 1000) : (decide (l.length <= 1000) && l.all cI) = true := by
 rw [zab, zan]; exact ⟨zai hl, fun d hd => zai (by have := h d hd; unfold jr at this; omega)⟩
theorem BO {T : ae} (h : lC T) : T.aZ.length < 1000000 /\ T.notes.length < 1000000 /\ T.s0.length < 1000000 /\ T.s1.length < 1000000 /\ T.s2.length < 1000000 /\ T.ba.length < 1000000 /\ T.tr.length < 1000000 := by
 have D := eT h.wH; have h0 := iX D.s0; have h1 := iX D.s1; have h2 := iX D.s2; have h3 := si h; have h4 := gZ h; have h5 := vC h; have : (iw T).aZ = T.aZ := rfl; have := D.Ok; simp only [iw] at *
 omega
theorem y9 {T : ae} (h : lC T) : (eY (iw T) T.n.mode).length <= 16 := (iX (qn h)).2
def N11 : aC := ⟨T40.tab, 11, ⟨[.np 0 0 0, .ai (sB 6)], bX 0, 0⟩, ⟨[.agg [.bool, .int .i64, .int .i64, .int .i64, .int .i64, .int .i64, .int .i64, .int .i64, .int .i64, .int .i64, .int .i64, .buf 17 4, .int .i64, .int .i64, .int .i64, .int .i64, .int .i64, .buf 18 3, .int .i64], .int .i64], [.cells [.int .i64, .int .i64, .int .i64, .buf 9 2, .buf 10 3, .int .i64, .int .i64, .int .i64, .int .i64, .int .i64, .int .i64, .int .i64, .int .i64, .int .i64, .int .i64, .buf 11 2, .buf 12 2, .buf 13 2, .ptr 14 0 0, .buf 16 7, .int .i64, .int .i64, .int .i64, .int .i64, .int .i64, .int .i64, .int .i64, .int .i64, .int .i64, .bool], .gone, .gone, .gone, .gone, .gone, .gone, .gone, .gone, .ai (sI 2), .ai (sI 3), .ai (sI 2), .ai (sI 2), .ai (sI 2), .cells [.buf 15 5], .ai (sB 4), .ai (sI 7), .ai (sI 4), .ai (sI 3)], 0⟩, []⟩
def t11 (m : Nat) : Int × List Dat × aw × az × ak × List Dat × List Dat × List Dat × List Dat × List Dat × List Dat × List Dat -> Option (List Un) := fun (a0, a1, a2, a3, a4, a5, a6, a7, a8, a9, a10, a11) =>
 chk (decide (0 <= a0)) <|
 bif a4.ox then
 some (Uns.enc ((⟨false, 0, 0, 0, 0, 0, 0, 0, 0, 0, 0⟩ : bK) : bK) ++ Uns.enc ((⟨0, 0, 0, 0, 0⟩ : bA) : bA) ++ [.i 0, .i 5] ++ Uns.enc (a2 : aw) ++ Uns.enc (a3 : az) ++ Uns.enc (a4 : ak) ++ [.d a5, .d a6, .d a7, .d a8, .d a9, .d a10, .d a11, .d ([]), .d ([])])
 else
 chk (decide (0 <= a0)) <|
 bif (decide (a4.period >= 600)) then
 some (Uns.enc ((⟨false, 0, 0, 0, 0, 0, 0, 0, 0, 0, 0⟩ : bK) : bK) ++ Uns.enc ((⟨0, 0, 0, 0, 0⟩ : bA) : bA) ++ [.i 0, .i 4] ++ Uns.enc (a2 : aw) ++ Uns.enc (a3 : az) ++ Uns.enc (a4 : ak) ++ [.d a5, .d a6, .d a7, .d a8, .d a9, .d a10, .d a11, .d ([]), .d ([])])
 else
 chk (decide (0 <= a0) && decide (a5.length < 1000000 /\ a6.length < 1000000 /\ a7.length < 1000000 /\ a8.length < 1000000 /\ a9.length < 1000000 /\ a10.length < 1000000 /\ a11.length < 1000000)) <|
 chk (decide (0 < ([.r [.r a10]] : List Dat).length) && (decide (((ag ([.r [.r a10]] : List Dat) 0).d 0).length <= 1000) && ((ag ([.r [.r a10]] : List Dat) 0).d 0).all cI)) <|
 lt ((ao 1 ((ag ([.r [.r a10]] : List Dat) 0).d 0)) : Int) fun x2 =>
 chk (decide (a10.length < 1000000)) <|
 bif (((aA a1 a10).e) != 0) then
 some (Uns.enc ((⟨false, 0, 0, 0, 0, 0, 0, 0, 0, 0, 0⟩ : bK) : bK) ++ Uns.enc ((⟨0, 0, 0, 0, 0⟩ : bA) : bA) ++ [.i 0, .i ((aA a1 a10).e)] ++ Uns.enc (a2 : aw) ++ Uns.enc (a3 : az) ++ Uns.enc (a4 : ak) ++ [.d a5, .d a6, .d a7, .d a8, .d a9, .d a10, .d a11, .d ([]), .d ([])])
 else
 chk (decide ((1 <= a2.year /\ a2.year <= 9000 /\ 1 <= a2.month /\ a2.month <= 12) /\ (0 <= a4.period /\ a4.period <= 600) /\ (0 <= a4.fee /\ a4.fee <= 1125899906842624) /\ (0 <= x2 /\ x2 <= 1099511627776)) && (decide (a11.length <= 1000) && a11.all aI)) <|
 lt ((bn (fun d => cO a2 a4.period (bc d) (d.i 2)) a11) : Int) fun x4 =>
 lt (({ a4 with fee := a4.fee + cO a2 a4.period x2 a3.fee }) : ak) fun g5 =>
 chk (decide (0 <= 0) && (decide ((a11.map (dP a2 a4.period)).length <= 1000) && (a11.map (dP a2 a4.period)).all aI)) <|
 lt ((w64 (g5.fee + (ao 5 (a11.map (dP a2 a4.period))))) : Int) fun x6 =>
 lt ((w64 ((w64 ((w64 ((w64 (((aA a1 a10).p) + ((aA a1 a10).q))) + ((aA a1 a10).r))) + 0)) + 0)) : Int) fun x9 =>
 chk (decide (0 <= 0) && decide ((-1152921504606846976 <= (w64 (x6 - x9)) /\ (w64 (x6 - x9)) <= 1152921504606846976) /\ ((0 : Int) <= g5.bg /\ g5.bg <= g5.rin /\ g5.rin <= (1152921504606846976 : Int)) /\ (0 <= g5.out /\ g5.out <= 1152921504606846976) /\ (0 <= a3.advance /\ a3.advance <= 1152921504606846976))) <|
 lt ((fx (w64 (x6 - x9)) (g5.rin - g5.bg)) : Int) fun x10 =>
 lt ((A1 (w64 (x6 - x9)) (g5.rin - g5.bg) (a3.advance - g5.out)) : Int) fun x11 =>
 lt (({ g5 with bg := g5.bg + fx (w64 (x6 - x9)) (g5.rin - g5.bg) }) : ak) fun g12 =>
 lt ((w64 ((w64 ((w64 ((w64 (((aA a1 a10).p) + ((aA a1 a10).q))) + ((aA a1 a10).r))) + x10)) + x11)) : Int) fun x15 =>
 chk (decide (((0 <= ((aA a1 a10).p) /\ ((aA a1 a10).p) <= 1125899906842624) /\ (0 <= ((aA a1 a10).l) /\ ((aA a1 a10).l) <= 1125899906842624) /\ (0 <= ((aA a1 a10).r) /\ ((aA a1 a10).r) <= 1125899906842624)) /\ (0 <= g12.bg /\ g12.bg <= g12.rin /\ g12.rin <= 1152921504606846976)) && ((decide (((aA a1 a10).ba).length <= 1000) && ((aA a1 a10).ba).all cI) && (decide ((a11.map (dP a2 a4.period)).length <= 1000) && (a11.map (dP a2 a4.period)).all aI))) <|
 lt ((min (((aA a1 a10).p) + ((aA a1 a10).r) + ((aA a1 a10).l)) (bn bc (a11.map (dP a2 a4.period)))) : Int) fun x16 =>
 lt ((ud a3.target (ao 1 ((aA a1 a10).ba)) (g12.rin - g12.bg)) : Int) fun x17 =>
 chk (decide ((⟨a2, a5, a6, a3, a7, a8, a9⟩ : bk).s0.length < 1000000 /\ (⟨a2, a5, a6, a3, a7, a8, a9⟩ : bk).s1.length < 1000000 /\ (⟨a2, a5, a6, a3, a7, a8, a9⟩ : bk).s2.length < 1000000)) <|
 lt ((eY (⟨a2, a5, a6, a3, a7, a8, a9⟩ : bk) g12.mode) : List Dat) fun l18 =>
 chk (decide (l18.length <= 1000000) && (mP ⟨x15, g12.fee, g12.out, x16, x17⟩ && aO ((a11.map (dP a2 a4.period)).map eA))) <|
 lt (((dt 0 l18 ⟨x15, g12.fee, g12.out, x16, x17⟩ ((a11.map (dP a2 a4.period)).map eA)).2.2) : List Dat) fun l24 =>
 chk (decide (0 <= 0) && vG l24 g12 (a11.map (dP a2 a4.period))) <|
 lt (((cJ l24 g12 (a11.map (dP a2 a4.period))).1).out : Int) fun x26 =>
 chk (decide (((0 <= ((aA a1 a10).p) /\ ((aA a1 a10).p) <= 1125899906842624) /\ (0 <= ((aA a1 a10).l) /\ ((aA a1 a10).l) <= 1125899906842624) /\ (0 <= ((aA a1 a10).r) /\ ((aA a1 a10).r) <= 1125899906842624)) /\ (0 <= ({ ((cJ l24 g12 (a11.map (dP a2 a4.period))).1) with out := (w64 (x26 + x11)) } : ak).aD /\ ({ ((cJ l24 g12 (a11.map (dP a2 a4.period))).1) with out := (w64 (x26 + x11)) } : ak).aD <= 1125899906842624) /\ (0 <= ({ ((cJ l24 g12 (a11.map (dP a2 a4.period))).1) with out := (w64 (x26 + x11)) } : ak).aK /\ ({ ((cJ l24 g12 (a11.map (dP a2 a4.period))).1) with out := (w64 (x26 + x11)) } : ak).aK <= 1125899906842624)) && ((decide (((aA a1 a10).ba).length <= 1000) && ((aA a1 a10).ba).all cI) && (decide (((cJ l24 g12 (a11.map (dP a2 a4.period))).2).length <= 1000) && ((cJ l24 g12 (a11.map (dP a2 a4.period))).2).all aI))) <|
 lt (({ ({ ((cJ l24 g12 (a11.map (dP a2 a4.period))).1) with out := (w64 (x26 + x11)) } : ak) with aD := ({ ((cJ l24 g12 (a11.map (dP a2 a4.period))).1) with out := (w64 (x26 + x11)) } : ak).aD + ((aA a1 a10).l), aK := ({ ((cJ l24 g12 (a11.map (dP a2 a4.period))).1) with out := (w64 (x26 + x11)) } : ak).aK + ((aA a1 a10).r) }) : ak) fun g27 =>
 lt ((fh (cC (bn unD ((cJ l24 g12 (a11.map (dP a2 a4.period))).2)) (ao 1 ((aA a1 a10).ba)) (({ ((cJ l24 g12 (a11.map (dP a2 a4.period))).1) with out := (w64 (x26 + x11)) } : ak).aD + ((aA a1 a10).l)) (({ ((cJ l24 g12 (a11.map (dP a2 a4.period))).1) with out := (w64 (x26 + x11)) } : ak).aK + ((aA a1 a10).r))) ((cJ l24 g12 (a11.map (dP a2 a4.period))).2)) : List Dat) fun l28 =>
 chk (decide (0 <= 0) && ((decide (((aA a1 a10).ba).length <= 1000) && ((aA a1 a10).ba).all cI) && (decide (l28.length <= 1000) && l28.all aI))) <|
 lt ((a3.oc == 0 || bJ (ao 1 ((aA a1 a10).ba)) (bn bc l28) a3.oc) : Bool) fun x32 =>
 lt ((a3.ic == 0 || bJ (min ((aA a1 a10).q) 1099511627776) (min x4 1099511627776) a3.ic) : Bool) fun x33 =>
 lt ((a3.late == 0 || cu (cg 2 ((aA a1 a10).ba) + cg 3 ((aA a1 a10).ba)) (ao 1 ((aA a1 a10).ba)) a3.late) : Bool) fun x34 =>
 lt ((a3.nG == 0 || cu (w64 (g27.aD - g27.aK)) (((cj (⟨a2, a5, a6, a3, a7, a8, a9⟩ : bk)).getD (0, 0)).1) a3.nG) : Bool) fun x35 =>
 chk (decide (0 <= g27.aX /\ g27.aX <= 1000000)) <|
 chk (decide (0 <= a0)) <|
 chk (decide (0 <= a0) && (decide (0 <= ({ g27 with mode := (dz g27.mode g27.aX a3.eB x32 x33 x34 x35).1, aX := (dz g27.mode g27.aX a3.eB x32 x33 x34 x35).2, period := (w64 (g27.period + 1)) } : ak).bg /\ ({ g27 with mode := (dz g27.mode g27.aX a3.eB x32 x33 x34 x35).1, aX := (dz g27.mode g27.aX a3.eB x32 x33 x34 x35).2, period := (w64 (g27.period + 1)) } : ak).bg <= ({ g27 with mode := (dz g27.mode g27.aX a3.eB x32 x33 x34 x35).1, aX := (dz g27.mode g27.aX a3.eB x32 x33 x34 x35).2, period := (w64 (g27.period + 1)) } : ak).rin /\ ({ g27 with mode := (dz g27.mode g27.aX a3.eB x32 x33 x34 x35).1, aX := (dz g27.mode g27.aX a3.eB x32 x33 x34 x35).2, period := (w64 (g27.period + 1)) } : ak).rin <= 1152921504606846976) && ((decide (((aA a1 a10).ba).length <= 1000) && ((aA a1 a10).ba).all cI) && (decide (l28.length <= 1000) && l28.all aI)))) <|
 some (Uns.enc ((⟨false, (w64 (a4.period + 1)), a4.mode, (aA a1 a10).p, (aA a1 a10).q, (aA a1 a10).l, (aA a1 a10).r, x10, x11, (cO a2 a4.period x2 a3.fee), x4⟩ : bK) : bK) ++ Uns.enc ((⟨(⟨((dt 0 l18 ⟨x15, g12.fee, g12.out, x16, x17⟩ ((a11.map (dP a2 a4.period)).map eA)).1.ar), 0, 0, 0, 0⟩ : bA).bL, ao 1 ((aA a1 a10).ba), ({ g27 with mode := (dz g27.mode g27.aX a3.eB x32 x33 x34 x35).1, aX := (dz g27.mode g27.aX a3.eB x32 x33 x34 x35).2, period := (w64 (g27.period + 1)) } : ak).rin - ({ g27 with mode := (dz g27.mode g27.aX a3.eB x32 x33 x34 x35).1, aX := (dz g27.mode g27.aX a3.eB x32 x33 x34 x35).2, period := (w64 (g27.period + 1)) } : ak).bg, ({ g27 with mode := (dz g27.mode g27.aX a3.eB x32 x33 x34 x35).1, aX := (dz g27.mode g27.aX a3.eB x32 x33 x34 x35).2, period := (w64 (g27.period + 1)) } : ak).out, ({ g27 with mode := (dz g27.mode g27.aX a3.eB x32 x33 x34 x35).1, aX := (dz g27.mode g27.aX a3.eB x32 x33 x34 x35).2, period := (w64 (g27.period + 1)) } : ak).fee⟩ : bA) : bA) ++ [.i (({ g27 with mode := (dz g27.mode g27.aX a3.eB x32 x33 x34 x35).1, aX := (dz g27.mode g27.aX a3.eB x32 x33 x34 x35).2, period := (w64 (g27.period + 1)) } : ak).mode), .i 0] ++ Uns.enc (a2 : aw) ++ Uns.enc (a3 : az) ++ Uns.enc (({ g27 with mode := (dz g27.mode g27.aX a3.eB x32 x33 x34 x35).1, aX := (dz g27.mode g27.aX a3.eB x32 x33 x34 x35).2, period := (w64 (g27.period + 1)) } : ak) : ak) ++ [.d a5, .d a6, .d a7, .d a8, .d a9, .d ((aA a1 a10).ba), .d l28, .d l24, .d (l28.map Bi)])
def f11 : Int × List Dat × aw × az × ak × List Dat × List Dat × List Dat × List Dat × List Dat × List Dat × List Dat -> Bool × List Un := fun (a0, a1, a2, a3, a4, a5, a6, a7, a8, a9, a10, a11) => (decide (0 <= a0) && sq (⟨a2, a3, a4, a5, a6, a7, a8, a9, a10, a11⟩ : ae), Uns.enc (((aS (⟨a2, a3, a4, a5, a6, a7, a8, a9, a10, a11⟩ : ae) a1).ra) : bK) ++ Uns.enc (((aS (⟨a2, a3, a4, a5, a6, a7, a8, a9, a10, a11⟩ : ae) a1).rb) : bA) ++ [.i ((aS (⟨a2, a3, a4, a5, a6, a7, a8, a9, a10, a11⟩ : ae) a1).next), .i ((aS (⟨a2, a3, a4, a5, a6, a7, a8, a9, a10, a11⟩ : ae) a1).e)] ++ Uns.enc (((aS (⟨a2, a3, a4, a5, a6, a7, a8, a9, a10, a11⟩ : ae) a1).t.a) : aw) ++ Uns.enc (((aS (⟨a2, a3, a4, a5, a6, a7, a8, a9, a10, a11⟩ : ae) a1).t.b) : az) ++ Uns.enc (((aS (⟨a2, a3, a4, a5, a6, a7, a8, a9, a10, a11⟩ : ae) a1).t.n) : ak) ++ [.d ((aS (⟨a2, a3, a4, a5, a6, a7, a8, a9, a10, a11⟩ : ae) a1).t.aZ), .d ((aS (⟨a2, a3, a4, a5, a6, a7, a8, a9, a10, a11⟩ : ae) a1).t.notes), .d ((aS (⟨a2, a3, a4, a5, a6, a7, a8, a9, a10, a11⟩ : ae) a1).t.s0), .d ((aS (⟨a2, a3, a4, a5, a6, a7, a8, a9, a10, a11⟩ : ae) a1).t.s1), .d ((aS (⟨a2, a3, a4, a5, a6, a7, a8, a9, a10, a11⟩ : ae) a1).t.s2), .d ((aS (⟨a2, a3, a4, a5, a6, a7, a8, a9, a10, a11⟩ : ae) a1).t.ba), .d ((aS (⟨a2, a3, a4, a5, a6, a7, a8, a9, a10, a11⟩ : ae) a1).t.tr), .d ((aS (⟨a2, a3, a4, a5, a6, a7, a8, a9, a10, a11⟩ : ae) a1).eG), .d ((aS (⟨a2, a3, a4, a5, a6, a7, a8, a9, a10, a11⟩ : ae) a1).notes)])
set_option maxHeartbeats 4000000 in
theorem Lb (a0 : Int) (a1 : List Dat) (a2 : aw) (a3 : az) (a4 : ak) (a5 : List Dat) (a6 : List Dat) (a7 : List Dat) (a8 : List Dat) (a9 : List Dat) (a10 : List Dat) (a11 : List Dat) (hc : (decide (0 <= a0) && sq (⟨a2, a3, a4, a5, a6, a7, a8, a9, a10, a11⟩ : ae)) = true) : ∃ m, t11 m (a0, a1, a2, a3, a4, a5, a6, a7, a8, a9, a10, a11) = some (Uns.enc (((aS (⟨a2, a3, a4, a5, a6, a7, a8, a9, a10, a11⟩ : ae) a1).ra) : bK) ++ Uns.enc (((aS (⟨a2, a3, a4, a5, a6, a7, a8, a9, a10, a11⟩ : ae) a1).rb) : bA) ++ [.i ((aS (⟨a2, a3, a4, a5, a6, a7, a8, a9, a10, a11⟩ : ae) a1).next), .i ((aS (⟨a2, a3, a4, a5, a6, a7, a8, a9, a10, a11⟩ : ae) a1).e)] ++ Uns.enc (((aS (⟨a2, a3, a4, a5, a6, a7, a8, a9, a10, a11⟩ : ae) a1).t.a) : aw) ++ Uns.enc (((aS (⟨a2, a3, a4, a5, a6, a7, a8, a9, a10, a11⟩ : ae) a1).t.b) : az) ++ Uns.enc (((aS (⟨a2, a3, a4, a5, a6, a7, a8, a9, a10, a11⟩ : ae) a1).t.n) : ak) ++ [.d ((aS (⟨a2, a3, a4, a5, a6, a7, a8, a9, a10, a11⟩ : ae) a1).t.aZ), .d ((aS (⟨a2, a3, a4, a5, a6, a7, a8, a9, a10, a11⟩ : ae) a1).t.notes), .d ((aS (⟨a2, a3, a4, a5, a6, a7, a8, a9, a10, a11⟩ : ae) a1).t.s0), .d ((aS (⟨a2, a3, a4, a5, a6, a7, a8, a9, a10, a11⟩ : ae) a1).t.s1), .d ((aS (⟨a2, a3, a4, a5, a6, a7, a8, a9, a10, a11⟩ : ae) a1).t.s2), .d ((aS (⟨a2, a3, a4, a5, a6, a7, a8, a9, a10, a11⟩ : ae) a1).t.ba), .d ((aS (⟨a2, a3, a4, a5, a6, a7, a8, a9, a10, a11⟩ : ae) a1).t.tr), .d ((aS (⟨a2, a3, a4, a5, a6, a7, a8, a9, a10, a11⟩ : ae) a1).eG), .d ((aS (⟨a2, a3, a4, a5, a6, a7, a8, a9, a10, a11⟩ : ae) a1).notes)]) := by
 have h0 := zaj (zaq.1 hc).1; have h := sn.1 (zaq.1 hc).2; clear hc; have hl := BO h; have hpl := si h; have hts := gZ h; have hpe : 0 <= a4.period /\ a4.period <= 600 := h.period; have hpa : 0 <= a4.aX /\ a4.aX <= a4.period := h.aX; refine ⟨0, ?_⟩; unfold t11; cases ho : a4.ox with
 | true =>
  have hC : aS (⟨a2, a3, a4, a5, a6, a7, a8, a9, a10, a11⟩ : ae) a1 = noR 5 (⟨a2, a3, a4, a5, a6, a7, a8, a9, a10, a11⟩ : ae) := by unfold aS; rw [show ((⟨a2, a3, a4, a5, a6, a7, a8, a9, a10, a11⟩ : ae)).n.ox = true from ho]; rfl
  rw [hC]; dsimp only; exact bx (zai h0) (OX ho rfl)
 | false =>
 dsimp only; refine bx (zai h0) (u9 ho (bx (zai h0) ?_))
 by_cases hp : a4.period >= 600
 . have hC : aS (⟨a2, a3, a4, a5, a6, a7, a8, a9, a10, a11⟩ : ae) a1 = noR 4 (⟨a2, a3, a4, a5, a6, a7, a8, a9, a10, a11⟩ : ae) := by unfold aS; rw [show ((⟨a2, a3, a4, a5, a6, a7, a8, a9, a10, a11⟩ : ae)).n.ox = false from ho, rI, bE hp]
   rw [hC, bE hp]; rfl
 rw [aF hp]; refine bx (zaq.2 ⟨zai h0, zai hl⟩) ?_
 refine bx (zaq.2 ⟨rfl, CW (l := a10) h.Hf (zaB hpl.2 (by decide))⟩) ?_
 refine jV fun x2 e2 => ?_
 obtain rfl : x2 = ao 1 a10 := e2; refine bx (zai hl.2.2.2.2.2.1) ?_
 by_cases he : (cP (⟨a2, a3, a4, a5, a6, a7, a8, a9, a10, a11⟩ : ae) a1).e = 0
 case neg =>
  have hC : aS (⟨a2, a3, a4, a5, a6, a7, a8, a9, a10, a11⟩ : ae) a1 = noR (cP (⟨a2, a3, a4, a5, a6, a7, a8, a9, a10, a11⟩ : ae) a1).e (⟨a2, a3, a4, a5, a6, a7, a8, a9, a10, a11⟩ : ae) := by unfold aS; rw [show ((⟨a2, a3, a4, a5, a6, a7, a8, a9, a10, a11⟩ : ae)).n.ox = false from ho, rI, aF hp, nV he]
  rw [hC]; exact nV he
 have hC : aS (⟨a2, a3, a4, a5, a6, a7, a8, a9, a10, a11⟩ : ae) a1 = Gj (⟨a2, a3, a4, a5, a6, a7, a8, a9, a10, a11⟩ : ae) a1 := by unfold aS; rw [show ((⟨a2, a3, a4, a5, a6, a7, a8, a9, a10, a11⟩ : ae)).n.ox = false from ho, rI, aF hp, nY he]
 rw [hC]; refine Eq.trans (nY he) ?_
 have hp' : ((⟨a2, a3, a4, a5, a6, a7, a8, a9, a10, a11⟩ : ae)).n.period < 600 := by simp only; omega
 have D := eT h.wH; have b : 0 <= ao 1 a10 /\ 0 <= ao 2 a10 /\ ao 1 a10 + ao 2 a10 + a4.aK <= 1099511627776 := jQ h; have r0 : 0 <= a4.aK := h.GO; have f : 0 <= a4.fee /\ a4.fee <= 1200000000000 * a4.period := h.fee; have o : 0 <= a4.out /\ a4.out <= a3.advance := h.out; have r : 0 <= a4.bg /\ a4.bg <= a4.rin /\ a4.rin <= 1200000000000 * (a4.period + 1) := h.res; have lo : a4.aD - a4.aK = ao 2 a10 := h.lost; obtain ⟨q1, q2, q3, q4, q5, q6, q7, q8, q9⟩ := qR h he; obtain ⟨c1, c2, c3, c4, c5⟩ := mD h; obtain ⟨m1, m2, m3, m4⟩ := nu h he; have m3 : 0 <= ft (⟨a2, a3, a4, a5, a6, a7, a8, a9, a10, a11⟩ : ae) a1 /\ ft (⟨a2, a3, a4, a5, a6, a7, a8, a9, a10, a11⟩ : ae) a1 <= a4.rin - a4.bg := ⟨m3.1, m3.2.1⟩
 have m4 : 0 <= m5 (⟨a2, a3, a4, a5, a6, a7, a8, a9, a10, a11⟩ : ae) a1 /\ m5 (⟨a2, a3, a4, a5, a6, a7, a8, a9, a10, a11⟩ : ae) a1 <= a3.advance - a4.out := m4; obtain ⟨x1, x2, x3, x4⟩ := xy h he; obtain ⟨d1, d2, d3, d4, d5⟩ := kJ h he; obtain ⟨t1, t2, t3⟩ := DL h he; have u2 := zr h he; have k := y9 h; have ad : 0 <= a3.advance /\ a3.advance <= 1099511627776 := D.advance; have nq := fB q1; have hpa9 : a10.length <= 64 := hpl.2; have hqlen : (cP (⟨a2, a3, a4, a5, a6, a7, a8, a9, a10, a11⟩ : ae) a1).ba.length <= 1000 := by
  have hq : (cP (⟨a2, a3, a4, a5, a6, a7, a8, a9, a10, a11⟩ : ae) a1).ba.length = a10.length := by have := congrArg List.length q2; simpa using this
  omega
 have hpo := CW q1 hqlen; have s5 := (gO _ c2.2).2.1; have st := sk h he; have q3 : ao 1 (cP (⟨a2, a3, a4, a5, a6, a7, a8, a9, a10, a11⟩ : ae) a1).ba = ao 1 a10 - (cP (⟨a2, a3, a4, a5, a6, a7, a8, a9, a10, a11⟩ : ae) a1).p - (cP (⟨a2, a3, a4, a5, a6, a7, a8, a9, a10, a11⟩ : ae) a1).l := q3; have q4 : ao 2 (cP (⟨a2, a3, a4, a5, a6, a7, a8, a9, a10, a11⟩ : ae) a1).ba = ao 2 a10 + (cP (⟨a2, a3, a4, a5, a6, a7, a8, a9, a10, a11⟩ : ae) a1).l - (cP (⟨a2, a3, a4, a5, a6, a7, a8, a9, a10, a11⟩ : ae) a1).r := q4; have stT := st.2.2.2.2.1; have stR : 0 <= bh kR (cZ (⟨a2, a3, a4, a5, a6, a7, a8, a9, a10, a11⟩ : ae) a1).2.2 /\ bh kR (cZ (⟨a2, a3, a4, a5, a6, a7, a8, a9, a10, a11⟩ : ae) a1).2.2 <= a4.out := st.2.2.2.1; have s5l : ao 5 (cTr (⟨a2, a3, a4, a5, a6, a7, a8, a9, a10, a11⟩ : ae)) <= 1125899906842624000 := by have := c2.1; omega
 refine bx (zaq.2 ⟨zai ⟨⟨D.year.1, D.year.2, D.month.1, D.month.2⟩, hpe, ⟨f.1, by omega⟩, b.1, by omega⟩, ez (zS h)⟩) ?_
 refine jV fun x3' e3 => ?_
 obtain rfl : x3' = Eb (⟨a2, a3, a4, a5, a6, a7, a8, a9, a10, a11⟩ : ae) := e3; refine jV fun g4 e4 => ?_
 obtain rfl : g4 = { a4 with fee := a4.fee + ou (⟨a2, a3, a4, a5, a6, a7, a8, a9, a10, a11⟩ : ae) } := e4; refine bx (zaq.2 ⟨rfl, ez c2⟩) ?_
 refine jV fun x5 e5 => ?_
 obtain rfl : x5 = a4.fee + ou (⟨a2, a3, a4, a5, a6, a7, a8, a9, a10, a11⟩ : ae) + ao 5 (cTr (⟨a2, a3, a4, a5, a6, a7, a8, a9, a10, a11⟩ : ae)) := e5.trans (aa (n := a4.fee + ou (⟨a2, a3, a4, a5, a6, a7, a8, a9, a10, a11⟩ : ae) + ao 5 (cTr (⟨a2, a3, a4, a5, a6, a7, a8, a9, a10, a11⟩ : ae))) (by omega) (by omega)); refine jV fun x8 e8 => ?_
 obtain rfl : x8 = cIn (⟨a2, a3, a4, a5, a6, a7, a8, a9, a10, a11⟩ : ae) a1 := e8.trans (by
  have i := m1; unfold cIn at i ⊢; rw [show w64 ((aA a1 a10).p + (aA a1 a10).q) = (cP (⟨a2, a3, a4, a5, a6, a7, a8, a9, a10, a11⟩ : ae) a1).p + (cP (⟨a2, a3, a4, a5, a6, a7, a8, a9, a10, a11⟩ : ae) a1).q from aa (by show _ <= (cP (⟨a2, a3, a4, a5, a6, a7, a8, a9, a10, a11⟩ : ae) a1).p + (cP (⟨a2, a3, a4, a5, a6, a7, a8, a9, a10, a11⟩ : ae) a1).q; omega) (by show (cP (⟨a2, a3, a4, a5, a6, a7, a8, a9, a10, a11⟩ : ae) a1).p + (cP (⟨a2, a3, a4, a5, a6, a7, a8, a9, a10, a11⟩ : ae) a1).q <= _; omega)]; rw [show w64 ((cP (⟨a2, a3, a4, a5, a6, a7, a8, a9, a10, a11⟩ : ae) a1).p + (cP (⟨a2, a3, a4, a5, a6, a7, a8, a9, a10, a11⟩ : ae) a1).q + (aA a1 a10).r) = (cP (⟨a2, a3, a4, a5, a6, a7, a8, a9, a10, a11⟩ : ae) a1).p + (cP (⟨a2, a3, a4, a5, a6, a7, a8, a9, a10, a11⟩ : ae) a1).q + (cP (⟨a2, a3, a4, a5, a6, a7, a8, a9, a10, a11⟩ : ae) a1).r from aa (by show _ <= (cP (⟨a2, a3, a4, a5, a6, a7, a8, a9, a10, a11⟩ : ae) a1).p + (cP (⟨a2, a3, a4, a5, a6, a7, a8, a9, a10, a11⟩ : ae) a1).q + (cP (⟨a2, a3, a4, a5, a6, a7, a8, a9, a10, a11⟩ : ae) a1).r; omega) (by show (cP (⟨a2, a3, a4, a5, a6, a7, a8, a9, a10, a11⟩ : ae) a1).p + (cP (⟨a2, a3, a4, a5, a6, a7, a8, a9, a10, a11⟩ : ae) a1).q + (cP (⟨a2, a3, a4, a5, a6, a7, a8, a9, a10, a11⟩ : ae) a1).r <= _; omega)]; have w : w64 ((cP (⟨a2, a3, a4, a5, a6, a7, a8, a9, a10, a11⟩ : ae) a1).p + (cP (⟨a2, a3, a4, a5, a6, a7, a8, a9, a10, a11⟩ : ae) a1).q + (cP (⟨a2, a3, a4, a5, a6, a7, a8, a9, a10, a11⟩ : ae) a1).r) = (cP (⟨a2, a3, a4, a5, a6, a7, a8, a9, a10, a11⟩ : ae) a1).p + (cP (⟨a2, a3, a4, a5, a6, a7, a8, a9, a10, a11⟩ : ae) a1).q + (cP (⟨a2, a3, a4, a5, a6, a7, a8, a9, a10, a11⟩ : ae) a1).r := aa (by omega) (by omega); simp only [zbQ, w])
 have en : w64 (a4.fee + ou (⟨a2, a3, a4, a5, a6, a7, a8, a9, a10, a11⟩ : ae) + ao 5 (cTr (⟨a2, a3, a4, a5, a6, a7, a8, a9, a10, a11⟩ : ae)) - cIn (⟨a2, a3, a4, a5, a6, a7, a8, a9, a10, a11⟩ : ae) a1) = ma (⟨a2, a3, a4, a5, a6, a7, a8, a9, a10, a11⟩ : ae) a1 := aa (by show _ <= ma (⟨a2, a3, a4, a5, a6, a7, a8, a9, a10, a11⟩ : ae) a1; omega) (by show ma (⟨a2, a3, a4, a5, a6, a7, a8, a9, a10, a11⟩ : ae) a1 <= _; omega); rw [en]; refine bx (zaq.2 ⟨rfl, zai ⟨by omega, ⟨r.1, r.2.1, by show a4.rin <= _; omega⟩, ⟨o.1, by show a4.out <= _; omega⟩, D.advance.1, by omega⟩⟩) ?_
 refine jV fun x9 e9 => ?_
 obtain rfl : x9 = ft (⟨a2, a3, a4, a5, a6, a7, a8, a9, a10, a11⟩ : ae) a1 := e9; refine jV fun x10 e10 => ?_
 obtain rfl : x10 = m5 (⟨a2, a3, a4, a5, a6, a7, a8, a9, a10, a11⟩ : ae) a1 := e10; refine jV fun g11 e11 => ?_
 obtain rfl : g11 = cN1 (⟨a2, a3, a4, a5, a6, a7, a8, a9, a10, a11⟩ : ae) a1 := e11; refine jV fun x14 e14 => ?_
 obtain rfl : x14 = (cX (⟨a2, a3, a4, a5, a6, a7, a8, a9, a10, a11⟩ : ae) a1).ar := e14.trans (by
  have i := m1; have z : (cX (⟨a2, a3, a4, a5, a6, a7, a8, a9, a10, a11⟩ : ae) a1).ar = cIn (⟨a2, a3, a4, a5, a6, a7, a8, a9, a10, a11⟩ : ae) a1 + ft (⟨a2, a3, a4, a5, a6, a7, a8, a9, a10, a11⟩ : ae) a1 + m5 (⟨a2, a3, a4, a5, a6, a7, a8, a9, a10, a11⟩ : ae) a1 := rfl; rw [z]; unfold cIn at i ⊢; rw [show w64 ((aA a1 a10).p + (aA a1 a10).q) = (cP (⟨a2, a3, a4, a5, a6, a7, a8, a9, a10, a11⟩ : ae) a1).p + (cP (⟨a2, a3, a4, a5, a6, a7, a8, a9, a10, a11⟩ : ae) a1).q from aa (by show _ <= (cP (⟨a2, a3, a4, a5, a6, a7, a8, a9, a10, a11⟩ : ae) a1).p + (cP (⟨a2, a3, a4, a5, a6, a7, a8, a9, a10, a11⟩ : ae) a1).q; omega) (by show (cP (⟨a2, a3, a4, a5, a6, a7, a8, a9, a10, a11⟩ : ae) a1).p + (cP (⟨a2, a3, a4, a5, a6, a7, a8, a9, a10, a11⟩ : ae) a1).q <= _; omega)]; rw [show w64 ((cP (⟨a2, a3, a4, a5, a6, a7, a8, a9, a10, a11⟩ : ae) a1).p + (cP (⟨a2, a3, a4, a5, a6, a7, a8, a9, a10, a11⟩ : ae) a1).q + (aA a1 a10).r) = (cP (⟨a2, a3, a4, a5, a6, a7, a8, a9, a10, a11⟩ : ae) a1).p + (cP (⟨a2, a3, a4, a5, a6, a7, a8, a9, a10, a11⟩ : ae) a1).q + (cP (⟨a2, a3, a4, a5, a6, a7, a8, a9, a10, a11⟩ : ae) a1).r from aa (by show _ <= (cP (⟨a2, a3, a4, a5, a6, a7, a8, a9, a10, a11⟩ : ae) a1).p + (cP (⟨a2, a3, a4, a5, a6, a7, a8, a9, a10, a11⟩ : ae) a1).q + (cP (⟨a2, a3, a4, a5, a6, a7, a8, a9, a10, a11⟩ : ae) a1).r; omega) (by show (cP (⟨a2, a3, a4, a5, a6, a7, a8, a9, a10, a11⟩ : ae) a1).p + (cP (⟨a2, a3, a4, a5, a6, a7, a8, a9, a10, a11⟩ : ae) a1).q + (cP (⟨a2, a3, a4, a5, a6, a7, a8, a9, a10, a11⟩ : ae) a1).r <= _; omega)]; rw [aa (n := (cP (⟨a2, a3, a4, a5, a6, a7, a8, a9, a10, a11⟩ : ae) a1).p + (cP (⟨a2, a3, a4, a5, a6, a7, a8, a9, a10, a11⟩ : ae) a1).q + (cP (⟨a2, a3, a4, a5, a6, a7, a8, a9, a10, a11⟩ : ae) a1).r + ft (⟨a2, a3, a4, a5, a6, a7, a8, a9, a10, a11⟩ : ae) a1) (by omega) (by omega), aa (n := (cP (⟨a2, a3, a4, a5, a6, a7, a8, a9, a10, a11⟩ : ae) a1).p + (cP (⟨a2, a3, a4, a5, a6, a7, a8, a9, a10, a11⟩ : ae) a1).q + (cP (⟨a2, a3, a4, a5, a6, a7, a8, a9, a10, a11⟩ : ae) a1).r + ft (⟨a2, a3, a4, a5, a6, a7, a8, a9, a10, a11⟩ : ae) a1 + m5 (⟨a2, a3, a4, a5, a6, a7, a8, a9, a10, a11⟩ : ae) a1) (by omega) (by omega)])
 have c1r : (0 <= (cN1 (⟨a2, a3, a4, a5, a6, a7, a8, a9, a10, a11⟩ : ae) a1).bg /\ (cN1 (⟨a2, a3, a4, a5, a6, a7, a8, a9, a10, a11⟩ : ae) a1).bg <= (cN1 (⟨a2, a3, a4, a5, a6, a7, a8, a9, a10, a11⟩ : ae) a1).rin /\ (cN1 (⟨a2, a3, a4, a5, a6, a7, a8, a9, a10, a11⟩ : ae) a1).rin <= 1152921504606846976) := by
  show 0 <= a4.bg + ft (⟨a2, a3, a4, a5, a6, a7, a8, a9, a10, a11⟩ : ae) a1 /\ a4.bg + ft (⟨a2, a3, a4, a5, a6, a7, a8, a9, a10, a11⟩ : ae) a1 <= a4.rin /\ a4.rin <= _; omega
 refine bx (zaq.2 ⟨zai ⟨⟨⟨q5, by show (cP (⟨a2, a3, a4, a5, a6, a7, a8, a9, a10, a11⟩ : ae) a1).p <= _; omega⟩, ⟨q6, by show (cP (⟨a2, a3, a4, a5, a6, a7, a8, a9, a10, a11⟩ : ae) a1).l <= _; omega⟩, q7, by show (cP (⟨a2, a3, a4, a5, a6, a7, a8, a9, a10, a11⟩ : ae) a1).r <= _; omega⟩, c1r⟩, zaq.2 ⟨hpo, ez c2⟩⟩) ?_
 refine jV fun x15 e15 => ?_
 obtain rfl : x15 = (cX (⟨a2, a3, a4, a5, a6, a7, a8, a9, a10, a11⟩ : ae) a1).aj := e15; refine jV fun x16 e16 => ?_
 obtain rfl : x16 = (cX (⟨a2, a3, a4, a5, a6, a7, a8, a9, a10, a11⟩ : ae) a1).room := e16; refine bx (zai ⟨hl.2.2.1, hl.2.2.2.1, hl.2.2.2.2.1⟩) ?_
 refine jV fun l17 e17 => ?_
 obtain rfl : l17 = eY (iw (⟨a2, a3, a4, a5, a6, a7, a8, a9, a10, a11⟩ : ae)) ((⟨a2, a3, a4, a5, a6, a7, a8, a9, a10, a11⟩ : ae)).n.mode := e17; refine bx (zaq.2 ⟨zai (by omega), zaq.2 ⟨x1, x2⟩⟩) ?_
 refine jV fun l23 e23 => ?_
 obtain rfl : l23 = (cZ (⟨a2, a3, a4, a5, a6, a7, a8, a9, a10, a11⟩ : ae) a1).2.2 := e23; refine bx d5 ?_
 refine jV fun x25 e25 => ?_
 obtain rfl : x25 = (cT (⟨a2, a3, a4, a5, a6, a7, a8, a9, a10, a11⟩ : ae) a1).1.out := e25; have eo : w64 ((cT (⟨a2, a3, a4, a5, a6, a7, a8, a9, a10, a11⟩ : ae) a1).1.out + m5 (⟨a2, a3, a4, a5, a6, a7, a8, a9, a10, a11⟩ : ae) a1) = (cN2 (⟨a2, a3, a4, a5, a6, a7, a8, a9, a10, a11⟩ : ae) a1).out := by
  refine Eq.trans (aa ?_ ?_) rfl
  . rw [d1]; show _ <= a4.out - bh kR (cZ (⟨a2, a3, a4, a5, a6, a7, a8, a9, a10, a11⟩ : ae) a1).2.2 + m5 (⟨a2, a3, a4, a5, a6, a7, a8, a9, a10, a11⟩ : ae) a1; omega
  . rw [d1]; show a4.out - bh kR (cZ (⟨a2, a3, a4, a5, a6, a7, a8, a9, a10, a11⟩ : ae) a1).2.2 + m5 (⟨a2, a3, a4, a5, a6, a7, a8, a9, a10, a11⟩ : ae) a1 <= _; omega
 rw [eo]; refine bx (zaq.2 ⟨zai ⟨⟨⟨q5, by show (cP (⟨a2, a3, a4, a5, a6, a7, a8, a9, a10, a11⟩ : ae) a1).p <= _; omega⟩, ⟨q6, by show (cP (⟨a2, a3, a4, a5, a6, a7, a8, a9, a10, a11⟩ : ae) a1).l <= _; omega⟩, q7, by show (cP (⟨a2, a3, a4, a5, a6, a7, a8, a9, a10, a11⟩ : ae) a1).r <= _; omega⟩, ⟨by show 0 <= (cT (⟨a2, a3, a4, a5, a6, a7, a8, a9, a10, a11⟩ : ae) a1).1.aD; rw [d1]; show 0 <= a4.aD; omega, by show (cT (⟨a2, a3, a4, a5, a6, a7, a8, a9, a10, a11⟩ : ae) a1).1.aD <= _; rw [d1]; show a4.aD <= _; omega⟩, by show 0 <= (cT (⟨a2, a3, a4, a5, a6, a7, a8, a9, a10, a11⟩ : ae) a1).1.aK; rw [d1]; exact r0, by show (cT (⟨a2, a3, a4, a5, a6, a7, a8, a9, a10, a11⟩ : ae) a1).1.aK <= _; rw [d1]; show a4.aK <= _; omega⟩, zaq.2 ⟨hpo, ez d3⟩⟩) ?_
 refine jV fun g26 e26 => ?_
 obtain rfl : g26 = cN2 (⟨a2, a3, a4, a5, a6, a7, a8, a9, a10, a11⟩ : ae) a1 := e26; refine jV fun l27 e27 => ?_
 obtain rfl : l27 = AH (⟨a2, a3, a4, a5, a6, a7, a8, a9, a10, a11⟩ : ae) a1 := e27; refine bx (zaq.2 ⟨rfl, zaq.2 ⟨hpo, ez t1⟩⟩) ?_
 refine jV fun x31 e31 => ?_
 refine jV fun x32 e32 => ?_
 refine jV fun x33 e33 => ?_
 refine jV fun x34 e34 => ?_
 have g4 := (vb h he).2.2.2; have el : w64 ((cN2 (⟨a2, a3, a4, a5, a6, a7, a8, a9, a10, a11⟩ : ae) a1).aD - (cN2 (⟨a2, a3, a4, a5, a6, a7, a8, a9, a10, a11⟩ : ae) a1).aK) = (cN2 (⟨a2, a3, a4, a5, a6, a7, a8, a9, a10, a11⟩ : ae) a1).aD - (cN2 (⟨a2, a3, a4, a5, a6, a7, a8, a9, a10, a11⟩ : ae) a1).aK := aa (by omega) (by omega); rw [el, show ((cj (⟨a2, a5, a6, a3, a7, a8, a9⟩ : bk)).getD (0, 0)).1 = ao 1 a5 from D.PG] at e34; have n2m : (cN2 (⟨a2, a3, a4, a5, a6, a7, a8, a9, a10, a11⟩ : ae) a1).mode = a4.mode /\ (cN2 (⟨a2, a3, a4, a5, a6, a7, a8, a9, a10, a11⟩ : ae) a1).aX = a4.aX /\ (cN2 (⟨a2, a3, a4, a5, a6, a7, a8, a9, a10, a11⟩ : ae) a1).period = a4.period := by rw [u2]; exact ⟨rfl, rfl, rfl⟩
 have ep : w64 ((cN2 (⟨a2, a3, a4, a5, a6, a7, a8, a9, a10, a11⟩ : ae) a1).period + 1) = a4.period + 1 := by rw [n2m.2.2]; exact aa (by omega) (by omega)
 have ex : dz (cN2 (⟨a2, a3, a4, a5, a6, a7, a8, a9, a10, a11⟩ : ae) a1).mode (cN2 (⟨a2, a3, a4, a5, a6, a7, a8, a9, a10, a11⟩ : ae) a1).aX a3.eB x31 x32 x33 x34 = C5 (⟨a2, a3, a4, a5, a6, a7, a8, a9, a10, a11⟩ : ae) a1 := by rw [n2m.1, n2m.2.1, e31, e32, e33, e34]; rfl
 rw [ep, ex]; refine bx (zai ?_) ?_
 . rw [n2m.2.1]; omega
 have c2r : (0 <= (cN2 (⟨a2, a3, a4, a5, a6, a7, a8, a9, a10, a11⟩ : ae) a1).bg /\ (cN2 (⟨a2, a3, a4, a5, a6, a7, a8, a9, a10, a11⟩ : ae) a1).bg <= (cN2 (⟨a2, a3, a4, a5, a6, a7, a8, a9, a10, a11⟩ : ae) a1).rin /\ (cN2 (⟨a2, a3, a4, a5, a6, a7, a8, a9, a10, a11⟩ : ae) a1).rin <= 1152921504606846976) := by
  rw [u2]; show 0 <= a4.bg + ft (⟨a2, a3, a4, a5, a6, a7, a8, a9, a10, a11⟩ : ae) a1 /\ a4.bg + ft (⟨a2, a3, a4, a5, a6, a7, a8, a9, a10, a11⟩ : ae) a1 <= a4.rin + bh kT (cZ (⟨a2, a3, a4, a5, a6, a7, a8, a9, a10, a11⟩ : ae) a1).2.2 /\ a4.rin + bh kT (cZ (⟨a2, a3, a4, a5, a6, a7, a8, a9, a10, a11⟩ : ae) a1).2.2 <= _; omega
 refine bx (zai h0) ?_
 refine bx (zaq.2 ⟨zai h0, zaq.2 ⟨zai c2r, zaq.2 ⟨hpo, ez t1⟩⟩⟩) ?_
 rw [show w64 (a4.period + 1) = a4.period + 1 from aa (by omega) (by omega)]; rfl
theorem Cp : ER 11 (mkE N11.en N11.ex f11) := an ah T40.right (fun m => []) (t := t11) (by kernel_rfl) (fun m => aB) (fun m a => by kernel_rfl) fun (a0, a1, a2, a3, a4, a5, a6, a7, a8, a9, a10, a11) hc => Lb a0 a1 a2 a3 a4 a5 a6 a7 a8 a9 a10 a11 hc
def T11 : Tb Tryz.prog LQ TE XX := T40.add 11 _ Cp
theorem tX (d : Dat) : (gm d).i 0 = d.i 0 /\ (gm d).i 1 = d.i 1 /\ (gm d).i 2 = 0 /\ (gm d).i 3 = 0 /\ (gm d).b 4 = false := ⟨rfl, rfl, rfl, rfl, rfl⟩
theorem vN : ∀ l : List Dat, ao 1 (l.map gm) = ao 1 l /\ ao 2 (l.map gm) = 0
 | [] => ⟨rfl, rfl⟩
 | d :: l => by
  obtain ⟨h1, h2⟩ := vN l; simp only [za0, ao, h1, h2, (tX d).2.1, (tX d).2.2.1]; exact ⟨trivial, rfl⟩
theorem wo : ∀ l : List Dat, ao 5 (l.map pN) = 0 /\ ao 6 (l.map pN) = 0
 | [] => ⟨rfl, rfl⟩
 | d :: l => by
  obtain ⟨h1, h2⟩ := wo l; simp only [za0, ao, h1, h2, pN, na, nc]
  decide
theorem EY {d : bk} (h : (cj d).isSome = true) : lC (cE d) := by
 have D := eT h; obtain ⟨s1, s2⟩ := vN d.aZ; obtain ⟨n5, n6⟩ := wo d.notes; refine ⟨h, ?_, fun x hx => ?_, ?_, fun x hx => ?_, ?_, ?_, zb5 _, ?_, ?_, ?_, ?_, ?_, ?_, ?_⟩
 . simp only [cE, List.map_map]; rfl
 . obtain ⟨y, hy, rfl⟩ := zbp.1 (show x ∈ d.notes.map pN from hx); have := D.note y hy; refine ⟨zai ?_, ?_⟩
   . show (0 <= y.i 1 /\ y.i 1 <= 1099511627776 /\ (0 : Int) <= 0 /\ (0 : Int) = 0 /\ (0 : Int) <= 0 /\ (0 : Int) + 0 <= y.i 1 /\ (0 : Int) <= 0 /\ (0 : Int) <= 1125899906842624); omega
   . show (0 : Int) <= 1200000000000 * 0; omega
 . simp only [cE, List.map_map]; rfl
 . obtain ⟨y, hy, rfl⟩ := zbp.1 (show x ∈ d.aZ.map gm from hx); have := D.Hf y hy; obtain ⟨_, e1, e2, e3, e4⟩ := tX y; unfold jr; rw [e1, e2, e3, e4]
   and_intros <;> first | omega | (intro h; cases h; done) | (intro _; rfl)
 . show ao 1 (d.aZ.map gm) + ao 2 (d.aZ.map gm) + 0 <= ao 1 d.aZ; omega
 . show (0 : Int) - 0 = ao 2 (d.aZ.map gm); omega
 . show (0 : Int) <= 0 /\ (0 : Int) <= 600; omega
 . show (0 : Int) <= 0 /\ (0 : Int) <= 2; omega
 . show (0 : Int) <= 0 /\ (0 : Int) <= 0; omega
 . show (0 : Int) <= 0 /\ (0 : Int) <= 1200000000000 * 0; omega
 . exact ⟨zb5 _, D.advance.1⟩
 . show (0 : Int) <= 0 /\ 0 <= d.b.bf /\ d.b.bf <= 1200000000000 * (0 + 1)
   have := D.bf; omega
 . show ao 6 (d.notes.map pN) <= ao 2 (d.aZ.map gm); omega
theorem Mg {d : bk} (h : (cj d).isSome = true) : ij d = cE d := by unfold ij; rw [if_pos h]
def de : bk := ⟨⟨2024, 1, 0⟩, [.r [.n 1, .n 100]], [.r [.n 0, .n 100, .n 0]], ⟨0, 0, 0, 0, 0, 0, 0, 0, 0, 0⟩, [.r [.n 3, .n 0], .r [.n 7, .n 0]], [.r [.n 3, .n 0], .r [.n 7, .n 0]], [.r [.n 3, .n 0], .r [.n 7, .n 0]]⟩
theorem uy : (cj de).isSome = true := by kernel_rfl
theorem Ey : ij de = cE de := Mg uy
theorem Ox : lC (cE de) := EY uy
def k8 : List Dat := [.r [.n 1, .n 40, .n 0, .n 0, .n 0, .n 0, .n (bI false)]]
theorem DK : (aS (cE de) k8).ra = ⟨false, 1, 0, 40, 0, 0, 0, 0, 0, 0, 0⟩ /\ (aS (cE de) k8).rb = ⟨0, 60, 0, 0, 0⟩ /\ (aS (cE de) k8).next = 0 /\ (aS (cE de) k8).e = 0 /\ (aS (cE de) k8).eG = [.r [.n 1, .n 7, .n 0, .n 40]] /\ (aS (cE de) k8).notes = [.r [.n 60, .n 0, .n 0]] := by
 refine ⟨?_, ?_, ?_, ?_, ?_, ?_⟩ <;> kernel_rfl
def N10 : aC := ⟨T11.tab, 10, ⟨[], [], 0⟩, ⟨[.agg [.int .i64, .int .i64, .int .i64, .buf 0 2, .buf 1 3, .int .i64, .int .i64, .int .i64, .int .i64, .int .i64, .int .i64, .int .i64, .int .i64, .int .i64, .int .i64, .buf 2 2, .buf 3 2, .buf 4 2]], [.ai (sI 2), .ai (sI 3), .ai (sI 2), .ai (sI 2), .ai (sI 2)], 0⟩, []⟩
def t10 (m : Nat) : Unit -> Option (List Un) := fun _ =>
 some (Uns.enc ((⟨2024, 1, 0⟩ : aw) : aw) ++ Uns.enc ((⟨0, 0, 0, 0, 0, 0, 0, 0, 0, 0⟩ : az) : az) ++ [.d ([.r [.n 1, .n 100]] : List Dat), .d ([.r [.n 0, .n 100, .n 0]] : List Dat), .d ([.r [.n 3, .n 0], .r [.n 7, .n 0]] : List Dat), .d ([.r [.n 3, .n 0], .r [.n 7, .n 0]] : List Dat), .d ([.r [.n 3, .n 0], .r [.n 7, .n 0]] : List Dat)])
def f10 : Unit -> Bool × List Un := fun _ => (true, Uns.enc ((de.a) : aw) ++ Uns.enc ((de.b) : az) ++ [.d (de.aZ), .d (de.notes), .d (de.s0), .d (de.s1), .d (de.s2)])
theorem Nn : ∃ m, t10 m () = some (Uns.enc ((de.a) : aw) ++ Uns.enc ((de.b) : az) ++ [.d (de.aZ), .d (de.notes), .d (de.s0), .d (de.s1), .d (de.s2)]) := by
 exact ⟨0, rfl⟩
theorem Jv : ER 10 (mkE N10.en N10.ex f10) := an ah T11.right (fun m => []) (t := t10) (by kernel_rfl) (fun m => aB) (fun m a => by kernel_rfl) fun _ hc => Nn
def T10 : Tb Tryz.prog LQ TE XX := T11.add 10 _ Jv
def Ag (n : Int) : List Int := [wu8 (Int.fdiv n 72057594037927936), wu8 (Int.fdiv n 281474976710656), wu8 (Int.fdiv n 1099511627776), wu8 (Int.fdiv n 4294967296), wu8 (Int.fdiv n 16777216), wu8 (Int.fdiv n 65536), wu8 (Int.fdiv n 256), wu8 (Int.fdiv n 1)]
def iq (l : List Int) : List Int := l.flatMap Ag
theorem EG : (2 : Int) ^ (min (56 : Int).toNat 64) = 72057594037927936 /\ (2 : Int) ^ (min (48 : Int).toNat 64) = 281474976710656 /\ (2 : Int) ^ (min (40 : Int).toNat 64) = 1099511627776 /\ (2 : Int) ^ (min (32 : Int).toNat 64) = 4294967296 /\ (2 : Int) ^ (min (24 : Int).toNat 64) = 16777216 /\ (2 : Int) ^ (min (16 : Int).toNat 64) = 65536 /\ (2 : Int) ^ (min (8 : Int).toNat 64) = 256 /\ (2 : Int) ^ (min (0 : Int).toNat 64) = 1 := by decide
def N48 : aC := ⟨T10.tab, 48, ⟨[.ints .i64], [], 0⟩, ⟨[.buf 0 1], [.ints .u8], 0⟩, [[0, 1, 1, 0, 0, 1, 1, 0, 0, 1, 0, 1, 1]]⟩
abbrev CC : Type := List Int × Int × Int × List Int
def wP (m : Nat) (k : CC -> Option (List Un)) : CC -> Option (List Un) := fun (a0, a1, a2, a3) =>
 bif decide (a2 < a1) then
 chk (inb a2 a0.length) <|
 chk (decide (a2.toNat < a0.length)) <|
 lt ((Int.fdiv (a0.getD a2.toNat 0) (2 ^ (min (56 : Int).toNat 64))) : Int) fun x1 =>
 chk (fits (a3.length + 1) 1) <|
 chk (fits ((a3 ++ ([(wu8 x1)])).length + 1) 1) <|
 lt (((a3 ++ ([(wu8 x1)])) ++ ([(wu8 (Int.fdiv (a0.getD a2.toNat 0) (2 ^ (min (48 : Int).toNat 64))))])) : List Int) fun l3 =>
 lt ((Int.fdiv (a0.getD a2.toNat 0) (2 ^ (min (40 : Int).toNat 64))) : Int) fun x4 =>
 chk (fits (l3.length + 1) 1) <|
 chk (fits ((l3 ++ ([(wu8 x4)])).length + 1) 1) <|
 lt (((l3 ++ ([(wu8 x4)])) ++ ([(wu8 (Int.fdiv (a0.getD a2.toNat 0) (2 ^ (min (32 : Int).toNat 64))))])) : List Int) fun l6 =>
 lt ((Int.fdiv (a0.getD a2.toNat 0) (2 ^ (min (24 : Int).toNat 64))) : Int) fun x7 =>
 chk (fits (l6.length + 1) 1) <|
 chk (fits ((l6 ++ ([(wu8 x7)])).length + 1) 1) <|
 lt (((l6 ++ ([(wu8 x7)])) ++ ([(wu8 (Int.fdiv (a0.getD a2.toNat 0) (2 ^ (min (16 : Int).toNat 64))))])) : List Int) fun l9 =>
 lt ((Int.fdiv (a0.getD a2.toNat 0) (2 ^ (min (8 : Int).toNat 64))) : Int) fun x10 =>
 chk (fits (l9.length + 1) 1) <|
 chk (fits ((l9 ++ ([(wu8 x10)])).length + 1) 1) <|
 k (a0, a1, (w64 (a2 + 1)), ((l9 ++ ([(wu8 x10)])) ++ ([(wu8 (Int.fdiv (a0.getD a2.toNat 0) (2 ^ (min (0 : Int).toNat 64))))])))
 else
 some ([.l a3])
def vF (m : Nat) : Nat -> CC -> Option (List Un) := bo (wP m)
theorem sg (m : Nat) (n : Nat) : vF m (n + 1) = wP m (vF m n) := rfl
def GL (F : CC -> Option (List Un)) : aW := ⟨[.lp [0, 1, 0, 1, 1], .blk 0, .code [1, 1, 1]], ⟨frm 27 [(3, .buf 0 1), (7, .ints .i64), (8, .int .i64), (9, .int .i64)], [.ints .u8], 0⟩, onU F⟩
theorem O9 (m : Nat) : ∀ n, HO N48 (GL (vF m n)) := au ah T10.right (fun k => [GL k]) (fun k h => (aL h aB)) fun k a => by kernel_rfl
def t48 (m : Nat) : List Int -> Option (List Un) := fun a0 =>
 vF m m (a0, (a0.length : Int), 0, [])
theorem JY (m : Nat) : ∀ (rest pre acc : List Int) (n : Nat), rest.length < n -> (pre ++ rest).length <= 1000000 -> acc.length = 8 * pre.length -> vF m n (pre ++ rest, ((pre ++ rest).length : Int), (pre.length : Int), acc) = some [.l (acc ++ iq rest)] := by
 intro rest
 induction rest with
 | nil =>
  intro pre acc n hn hl ha; obtain ⟨n, rfl⟩ := al n (by simp at hn; omega); rw [sg]; unfold wP; dsimp only; rw [aF (by simp)]; simp [iq]
 | cons x rest ih =>
  intro pre acc n hn hl ha; obtain ⟨n, rfl⟩ := al n (by simp at hn; omega); simp only [zae, zah] at hn hl; rw [sg]; unfold wP; dsimp only; rw [bE (by simp only [zah, zae]; omega), dM (by omega) (by simp only [zah, zae]; omega), aN (by simp)]; have hx : (pre ++ x :: rest).getD (pre.length : Int).toNat 0 = x := by simp
  obtain ⟨p1, p2, p3, p4, p5, p6, p7, p8⟩ := EG; have f : ∀ k, k <= 8 -> fits (acc.length + k) 1 = true := fun k hk => zai (by omega)
  dsimp only [lt]; simp only [hx, p1, p2, p3, p4, p5, p6, p7, p8, zah, zae, zaI, zaA, za2, Nat.reduceAdd, f 1 (by decide), f 2 (by decide), f 3 (by decide), f 4 (by decide), f 5 (by decide), f 6 (by decide), f 7 (by decide), f 8 (by decide), chk, zaE]; have := ih (pre ++ [x]) (acc ++ Ag x) n (by omega) (by simp; omega) (by simp [Ag, ha]; omega); have e : w64 ((pre.length : Int) + 1) = ((pre ++ [x]).length : Int) := by
   rw [aa (by omega) (by omega)]; simp
  rw [e]; have e2 : acc ++ iq (x :: rest) = (acc ++ Ag x) ++ iq rest := by simp [iq]
  rw [e2, <- this]; simp only [zaF, zaW, zaU, Ag, zah, zae, zaI, zaA, za2, Nat.add_comm 1]
def f48 : List Int -> Bool × List Un := fun a0 => (decide (a0.length <= 1000000), [.l (iq a0)])
theorem KW (a0 : List Int) (hc : (decide (a0.length <= 1000000)) = true) : ∃ m, t48 m a0 = some ([.l (iq a0)]) := by
 have hl := zaj hc; refine ⟨a0.length + 1, ?_⟩; have := JY (a0.length + 1) a0 [] [] (a0.length + 1) (by omega) (by simpa using hl) rfl; simp only [zaU] at this; exact this
theorem Jy : ER 48 (mkE N48.en N48.ex f48) := an ah T10.right (fun m => [GL (vF m m)]) (t := t48) (by kernel_rfl) (fun m => (aL (O9 m m) aB)) (fun m a => by kernel_rfl) fun a0 hc => KW a0 hc
def T48 : Tb Tryz.prog LQ TE XX := T10.add 48 _ Jy
structure RdR where
 v : Int
 o : Int
 n : Int
 bad : Bool
 l : List Int
def rdN (o n : Int) (bad : Bool) (l : List Int) : RdR := bif bad || (n.toNat : Int) == 0 then ⟨0, o.toNat, n.toNat, true, l⟩ else ⟨l.getD o.toNat 0, ((o.toNat + 1 : Nat) : Int), ((n.toNat - 1 : Nat) : Int), bad, l⟩
def rdM (o n : Int) (bad : Bool) (l : List Int) (most : Int) : RdR := let r := rdN o n bad l; bif decide (r.v < 0) || decide (r.v > most) then { r with v := 0, bad := true } else r
def N95 : aC := ⟨T48.tab, 95, ⟨[.ptr 0 0 0], [.cells [.sl 1 1, .bool], .ints .i64], 0⟩, ⟨[.int .i64], [.cells [.sl 1 1, .bool], .ints .i64], 0⟩, []⟩
def t95 (m : Nat) : Int × Int × Bool × List Int -> Option (List Un) := fun (a0, a1, a2, a3) =>
 bif a2 then
 some ([.i 0, .i (a0.toNat : Int), .i (a1.toNat : Int), .b true, .l a3])
 else
 bif (a1.toNat : Int) == 0 then
 some ([.i 0, .i (a0.toNat : Int), .i (a1.toNat : Int), .b true, .l a3])
 else
 chk (inb 0 a1.toNat) <|
 chk (decide (a0.toNat < a3.length)) <|
 chk (true && (true && decide (1 <= a1.toNat /\ a1.toNat <= a1.toNat))) <|
 some ([.i (a3.getD a0.toNat 0), .i (((a0.toNat + 1) : Nat) : Int), .i (((a1.toNat - 1) : Nat) : Int), .b a2, .l a3])
def f95 : Int × Int × Bool × List Int -> Bool × List Un := fun (a0, a1, a2, a3) => (decide (a0.toNat + a1.toNat <= a3.length), [.i ((rdN a0 a1 a2 a3).v), .i ((rdN a0 a1 a2 a3).o), .i ((rdN a0 a1 a2 a3).n), .b ((rdN a0 a1 a2 a3).bad), .l ((rdN a0 a1 a2 a3).l)])
theorem L2 (a0 : Int) (a1 : Int) (a2 : Bool) (a3 : List Int) (hc : (decide (a0.toNat + a1.toNat <= a3.length)) = true) : ∃ m, t95 m (a0, a1, a2, a3) = some ([.i ((rdN a0 a1 a2 a3).v), .i ((rdN a0 a1 a2 a3).o), .i ((rdN a0 a1 a2 a3).n), .b ((rdN a0 a1 a2 a3).bad), .l ((rdN a0 a1 a2 a3).l)]) := by
 have hl := zaj hc; refine ⟨0, ?_⟩; unfold t95 rdN; dsimp only; cases a2 with
 | true => rfl
 | false =>
  rw [Bool.false_or]; cases h : ((a1.toNat : Int) == 0) with
  | true => rfl
  | false =>
   have h : ¬ (a1.toNat : Int) = 0 := by simpa using h
   rw [zao, zao, zao, dM (by decide) (by omega), aN (by omega)]; exact bx (by simp; omega) rfl
theorem B5 : ER 95 (mkE N95.en N95.ex f95) := an ah T48.right (fun m => []) (t := t95) (by kernel_rfl) (fun m => aB) (fun m a => by kernel_rfl) fun (a0, a1, a2, a3) hc => L2 a0 a1 a2 a3 hc
def T95 : Tb Tryz.prog LQ TE XX := T48.add 95 _ B5
def PR : RdR -> List Un := fun r => [.i r.v, .i r.o, .i r.n, .b r.bad, .l r.l]
def PJ : Int × Int × Bool × List Int -> Bool × RdR := fun (a0, a1, a2, a3) => (decide (a0.toNat + a1.toNat <= a3.length), (rdN a0 a1 a2 a3))
theorem E9 : ER 95 (mkB N95.en N95.ex PJ PR) := rebind B5 fun (a0, a1, a2, a3) => rfl
def No : Tb Tryz.prog LQ TE XX := T95.add 95 _ E9
def N52 : aC := ⟨No.tab, 52, ⟨[.ptr 0 0 0], [.cells [.sl 1 1, .bool], .ints .i64], 2⟩, ⟨[.bool], [.cells [.sl 1 1, .bool], .ints .i64], 2⟩, []⟩
def t52 (m : Nat) : Int × Int × Bool × List Int -> Option (List Un) := fun (a0, a1, a2, a3) =>
 bif !a2 then
 some ([.b ((a1.toNat : Int) == 0), .i (a0.toNat : Int), .i (a1.toNat : Int), .b a2, .l a3])
 else
 some ([.b false, .i (a0.toNat : Int), .i (a1.toNat : Int), .b a2, .l a3])
def f52 : Int × Int × Bool × List Int -> Bool × List Un := fun (a0, a1, a2, a3) => (true, [.b ((!a2 && (a1.toNat : Int) == 0)), .i ((a0.toNat : Int)), .i ((a1.toNat : Int)), .b (a2), .l (a3)])
theorem L9 (a0 : Int) (a1 : Int) (a2 : Bool) (a3 : List Int) : ∃ m, t52 m (a0, a1, a2, a3) = some ([.b ((!a2 && (a1.toNat : Int) == 0)), .i ((a0.toNat : Int)), .i ((a1.toNat : Int)), .b (a2), .l (a3)]) := by
 refine ⟨0, ?_⟩; unfold t52; cases a2 <;> rfl
theorem Kb : ER 52 (mkE N52.en N52.ex f52) := an ah No.right (fun m => []) (t := t52) (by kernel_rfl) (fun m => aB) (fun m a => by kernel_rfl) fun (a0, a1, a2, a3) hc => L9 a0 a1 a2 a3
def T52 : Tb Tryz.prog LQ TE XX := No.add 52 _ Kb
def N50 : aC := ⟨T52.tab, 50, ⟨[.ints .i64], [], 0⟩, ⟨[.ptr 0 0 0], [.cells [.sl 1 1, .bool], .ints .i64], 0⟩, []⟩
def t50 (m : Nat) : List Int -> Option (List Un) := fun a0 =>
 chk (decide (a0.length < 1000000)) <|
 some ([.i 0, .i (a0.length : Int), .b false, .l a0])
def f50 : List Int -> Bool × List Un := fun a0 => (decide (a0.length < 1000000), [.i (0), .i ((a0.length : Int)), .b (false), .l (a0)])
theorem LG (a0 : List Int) (hc : (decide (a0.length < 1000000)) = true) : ∃ m, t50 m a0 = some ([.i (0), .i ((a0.length : Int)), .b (false), .l (a0)]) := by
 refine ⟨0, ?_⟩; unfold t50; exact bx hc rfl
theorem Ht : ER 50 (mkE N50.en N50.ex f50) := an ah T52.right (fun m => []) (t := t50) (by kernel_rfl) (fun m => aB) (fun m a => by kernel_rfl) fun a0 hc => LG a0 hc
def T50 : Tb Tryz.prog LQ TE XX := T52.add 50 _ Ht
def N94 : aC := ⟨T50.tab, 94, ⟨[.ptr 0 0 0, .int .i64], [.cells [.sl 1 1, .bool], .ints .i64], 0⟩, ⟨[.int .i64], [.cells [.sl 1 1, .bool], .ints .i64], 0⟩, []⟩
def t94 (m : Nat) : Int × Int × Int × Bool × List Int -> Option (List Un) := fun (a0, a1, a2, a3, a4) =>
 chk (decide ((a1.toNat : Int).toNat + (a2.toNat : Int).toNat <= a4.length)) <|
 bd ((rdN (a1.toNat : Int) (a2.toNat : Int) a3 a4) : RdR) fun r1 =>
 bif decide (r1.v < 0) then
 some ([.i 0, .i (r1.o.toNat : Int), .i (r1.n.toNat : Int), .b true, .l r1.l])
 else
 bif decide (r1.v > a0) then
 some ([.i 0, .i (r1.o.toNat : Int), .i (r1.n.toNat : Int), .b true, .l r1.l])
 else
 some ([.i r1.v, .i (r1.o.toNat : Int), .i (r1.n.toNat : Int), .b r1.bad, .l r1.l])
theorem Jm (o n : Int) (b : Bool) (l : List Int) : ((rdN o n b l).o.toNat : Int) = (rdN o n b l).o /\ ((rdN o n b l).n.toNat : Int) = (rdN o n b l).n := by
 unfold rdN; cases (b || (n.toNat : Int) == 0) with
 | true => exact ⟨rfl, rfl⟩
 | false => exact ⟨rfl, rfl⟩
theorem Dt (o n : Int) (b : Bool) (l : List Int) : rdN (o.toNat : Int) (n.toNat : Int) b l = rdN o n b l := rfl
def f94 : Int × Int × Int × Bool × List Int -> Bool × List Un := fun (a0, a1, a2, a3, a4) => (decide (a1.toNat + a2.toNat <= a4.length), [.i ((rdM a1 a2 a3 a4 a0).v), .i ((rdM a1 a2 a3 a4 a0).o), .i ((rdM a1 a2 a3 a4 a0).n), .b ((rdM a1 a2 a3 a4 a0).bad), .l ((rdM a1 a2 a3 a4 a0).l)])
theorem Lu (a0 : Int) (a1 : Int) (a2 : Int) (a3 : Bool) (a4 : List Int) (hc : (decide (a1.toNat + a2.toNat <= a4.length)) = true) : ∃ m, t94 m (a0, a1, a2, a3, a4) = some ([.i ((rdM a1 a2 a3 a4 a0).v), .i ((rdM a1 a2 a3 a4 a0).o), .i ((rdM a1 a2 a3 a4 a0).n), .b ((rdM a1 a2 a3 a4 a0).bad), .l ((rdM a1 a2 a3 a4 a0).l)]) := by
 have hl := zaj hc; refine ⟨0, ?_⟩; unfold t94; dsimp only [bd]; refine bx (zai (by omega)) ?_
 rw [Dt]; obtain ⟨n1, n2⟩ := Jm a1 a2 a3 a4; rw [n1, n2]; unfold rdM; dsimp only; cases decide ((rdN a1 a2 a3 a4).v < 0) with
 | true => rfl
 | false => cases decide ((rdN a1 a2 a3 a4).v > a0) <;> rfl
theorem Dm : ER 94 (mkE N94.en N94.ex f94) := an ah T50.right (fun m => []) (t := t94) (by kernel_rfl) (fun m => aB) (fun m a => by kernel_rfl) fun (a0, a1, a2, a3, a4) hc => Lu a0 a1 a2 a3 a4 hc
def T94 : Tb Tryz.prog LQ TE XX := T50.add 94 _ Dm
def PB : RdR -> List Un := fun r => [.i r.v, .i r.o, .i r.n, .b r.bad, .l r.l]
def P0 : Int × Int × Int × Bool × List Int -> Bool × RdR := fun (a0, a1, a2, a3, a4) => (decide (a1.toNat + a2.toNat <= a4.length), (rdM a1 a2 a3 a4 a0))
theorem Ft : ER 94 (mkB N94.en N94.ex P0 PB) := rebind Dm fun (a0, a1, a2, a3, a4) => rfl
def Jt : Tb Tryz.prog LQ TE XX := T94.add 94 _ Ft
def yI (n : Int) : Bool := decide (0 <= n) && decide (n <= 1152921504606846976)
def N54 : aC := ⟨Jt.tab, 54, ⟨[.ints .i64], [], 0⟩, ⟨[.bool], [], 0⟩, []⟩
abbrev Ci : Type := List Int × Int × Int
def xd (m : Nat) (k : Ci -> Option (List Un)) : Ci -> Option (List Un) := fun (a0, a1, a2) =>
 bif decide (a2 < a1) then
 chk (inb a2 a0.length) <|
 chk (decide (a2.toNat < a0.length)) <|
 bif (decide ((a0.getD a2.toNat 0) < 0)) then
 some ([.b false])
 else
 bif (decide ((a0.getD a2.toNat 0) > 1152921504606846976)) then
 some ([.b false])
 else
 k (a0, a1, (w64 (a2 + 1)))
 else
 some ([.b true])
def vQ (m : Nat) : Nat -> Ci -> Option (List Un) := bo (xd m)
theorem tt (m : Nat) (n : Nat) : vQ m (n + 1) = xd m (vQ m n) := rfl
def Fj (F : Ci -> Option (List Un)) : aW := ⟨[.lp [0, 1, 0, 1], .blk 0, .code [1, 1]], ⟨frm 18 [(5, .ints .i64), (6, .int .i64), (7, .int .i64)], [], 0⟩, onU F⟩
theorem Oh (m : Nat) : ∀ n, HO N54 (Fj (vQ m n)) := au ah Jt.right (fun k => [Fj k]) (fun k h => (aL h aB)) fun k a => by kernel_rfl
def t54 (m : Nat) : List Int -> Option (List Un) := fun a0 =>
 vQ m m (a0, (a0.length : Int), 0)
theorem OR (m : Nat) : ∀ (rest pre : List Int) (n : Nat), rest.length < n -> (pre ++ rest).length <= 1000000 -> vQ m n (pre ++ rest, ((pre ++ rest).length : Int), (pre.length : Int)) = some [.b (rest.all yI)] := by
 intro rest
 induction rest with
 | nil =>
  intro pre n hn hl; obtain ⟨n, rfl⟩ := al n (by simp at hn; omega); rw [tt]; unfold xd; dsimp only; rw [aF (by simp)]; rfl
 | cons x rest ih =>
  intro pre n hn hl; obtain ⟨n, rfl⟩ := al n (by simp at hn; omega); simp only [zae, zah] at hn hl; rw [tt]; unfold xd; dsimp only; rw [bE (by simp only [zah, zae]; omega), dM (by omega) (by simp only [zah, zae]; omega), aN (by simp)]; have hx : (pre ++ x :: rest).getD (pre.length : Int).toNat 0 = x := by simp
  have := ih (pre ++ [x]) n (by omega) (by simp; omega); have e : w64 ((pre.length : Int) + 1) = ((pre ++ [x]).length : Int) := by
   rw [aa (by omega) (by omega)]; simp
  have e3 : pre ++ x :: rest = (pre ++ [x]) ++ rest := by simp
  rw [hx, zT, xk, e, e3, this, mE, mE]; simp only [List.all_cons, yI, Bool.and_assoc]
def f54 : List Int -> Bool × List Un := fun a0 => (decide (a0.length <= 1000000), [.b (a0.all yI)])
theorem MK (a0 : List Int) (hc : (decide (a0.length <= 1000000)) = true) : ∃ m, t54 m a0 = some ([.b (a0.all yI)]) := by
 have hl := zaj hc; refine ⟨a0.length + 1, ?_⟩; exact OR (a0.length + 1) a0 [] (a0.length + 1) (by omega) (by simpa using hl)
theorem Kz : ER 54 (mkE N54.en N54.ex f54) := an ah Jt.right (fun m => [Fj (vQ m m)]) (t := t54) (by kernel_rfl) (fun m => (aL (Oh m m) aB)) (fun m a => by kernel_rfl) fun a0 hc => MK a0 hc
def T54 : Tb Tryz.prog LQ TE XX := Jt.add 54 _ Kz
structure Dk where
 ra : bK
 rb : bA
 next : Int
 eG : List Dat
 notes : List Dat
 r : RdR
def nx (r : RdR) : RdR := rdN r.o r.n r.bad r.l
def mx (r : RdR) (most : Int) : RdR := rdM r.o r.n r.bad r.l most
def l8 : Nat -> RdR -> List Dat × RdR
 | 0, r => ([], r)
 | k + 1, r => let s := nx (nx (nx (nx r))); (.r [.n (nx r).v, .n (nx (nx r)).v, .n (nx (nx (nx r))).v, .n s.v] :: (l8 k s).1, (l8 k s).2)
def jv : Nat -> RdR -> List Dat × RdR
 | 0, r => ([], r)
 | k + 1, r => let s := nx (nx (nx r)); (.r [.n (nx r).v, .n (nx (nx r)).v, .n s.v] :: (jv k s).1, (jv k s).2)
def Dc (r1 r17 : RdR) : bK × bA × Int :=
 let r2 := nx r1; let r3 := nx r2; let r4 := nx r3; let r5 := nx r4; let r6 := nx r5; let r7 := nx r6; let r8 := nx r7; let r9 := nx r8; let r10 := nx r9; let r11 := nx r10; let r12 := nx r11; let r13 := nx r12; let r14 := nx r13; let r15 := nx r14; let r16 := nx r15
 (⟨r1.v == 1, r2.v, r3.v, r4.v, r5.v, r6.v, r7.v, r8.v, r9.v, r10.v, r11.v⟩, ⟨r12.v, r13.v, r14.v, r15.v, r16.v⟩, r17.v)
def dv (o n : Int) (bad : Bool) (l : List Int) : Dk :=
 let r1 := rdM o n bad l 1
 let r17 := nx (nx (nx (nx (nx (nx (nx (nx (nx (nx (nx (nx (nx (nx (nx (nx r1)))))))))))))))
 let h := Dc r1 r17
 let r18 := mx r17 160
 let p := l8 r18.v.toNat r18
 let r24 := mx p.2 8
 let q := jv r24.v.toNat r24
 ⟨h.1, h.2.1, h.2.2, p.1, q.1, q.2⟩
def RdI (r : RdR) : Prop := (r.o.toNat : Int) = r.o /\ (r.n.toNat : Int) = r.n /\ r.o.toNat + r.n.toNat <= r.l.length
theorem KM {o n : Int} {b : Bool} {l : List Int} (h : o.toNat + n.toNat <= l.length) : RdI (rdN o n b l) /\ (rdN o n b l).l = l := by
 unfold rdN RdI; cases hb : (b || (n.toNat : Int) == 0) with
 | true => exact ⟨⟨rfl, rfl, h⟩, rfl⟩
 | false =>
  simp only [zbF, beq_eq_false_iff_ne] at hb; refine ⟨⟨rfl, rfl, ?_⟩, rfl⟩; simp only [zao, zaG]; omega
theorem cS {r : RdR} (h : RdI r) : RdI (nx r) := (KM h.2.2).1
theorem FY {o n : Int} {b : Bool} {l : List Int} {most : Int} (h : o.toNat + n.toNat <= l.length) : RdI (rdM o n b l most) := by
 have := (KM (b := b) h).1; unfold rdM; dsimp only; cases (decide ((rdN o n b l).v < 0) || decide ((rdN o n b l).v > most)) <;> exact this
theorem Is {r : RdR} {most : Int} (h : RdI r) : RdI (mx r most) := FY h.2.2
theorem B9 {o n : Int} {b : Bool} {l : List Int} {most : Int} (hm : 0 <= most) : 0 <= (rdM o n b l most).v /\ (rdM o n b l most).v <= most := by
 unfold rdM; dsimp only; cases h : (decide ((rdN o n b l).v < 0) || decide ((rdN o n b l).v > most)) with
 | true => exact ⟨zb5 _, hm⟩
 | false =>
  simp only [zbF, decide_eq_false_iff_not] at h; simp only [zao]; omega
theorem CP : ∀ (k : Nat) {r : RdR}, RdI r -> RdI (l8 k r).2
 | 0, r, h => h
 | k + 1, r, h => CP k (cS (cS (cS (cS h))))
theorem Cs : ∀ (k : Nat) {r : RdR}, RdI r -> RdI (jv k r).2
 | 0, r, h => h
 | k + 1, r, h => Cs k (cS (cS (cS h)))
def N51 : aC := ⟨T54.tab, 51, ⟨[.ptr 0 0 0], [.cells [.sl 1 1, .bool], .ints .i64], 0⟩, ⟨[.agg [.bool, .int .i64, .int .i64, .int .i64, .int .i64, .int .i64, .int .i64, .int .i64, .int .i64, .int .i64, .int .i64, .buf 2 4, .int .i64, .int .i64, .int .i64, .int .i64, .int .i64, .buf 3 3, .int .i64]], [.cells [.sl 1 1, .bool], .ints .i64, .ai (sI 4), .ai (sI 3)], 0⟩, [[0, 1, 0, 1, 1, 1], [0, 1, 0, 1, 0, 0, 1, 1, 0, 0, 1, 0, 1, 1, 1, 1], [0, 1, 0, 1, 0, 0, 1, 1, 0, 0, 1, 0, 1, 1, 1, 1, 1]]⟩
abbrev CG : Type := Int × Int × Int × Int × Bool × List Int × bK × bA × Int × bK × bA × Int × List Dat × List Dat × List Dat × List Dat
abbrev Cx : Type := Int × Int × Int × Int × Bool × List Int × bK × bA × Int × bK × bA × Int × List Dat × List Dat × List Dat × List Dat
def xv (m : Nat) (k : CG -> Option (List Un)) : CG -> Option (List Un) := fun (a0, a1, a2, a3, a4, a5, a6, a7, a8, a9, a10, a11, a12, a13, a14, a15) =>
 bif decide (a1 < a0) then
 chk (decide ((a2.toNat : Int).toNat + (a3.toNat : Int).toNat <= a5.length)) <|
 bd ((rdN (a2.toNat : Int) (a3.toNat : Int) a4 a5) : RdR) fun r25 =>
 chk (decide ((r25.o.toNat : Int).toNat + (r25.n.toNat : Int).toNat <= r25.l.length)) <|
 bd ((rdN (r25.o.toNat : Int) (r25.n.toNat : Int) r25.bad r25.l) : RdR) fun r26 =>
 chk (decide ((r26.o.toNat : Int).toNat + (r26.n.toNat : Int).toNat <= r26.l.length)) <|
 bd ((rdN (r26.o.toNat : Int) (r26.n.toNat : Int) r26.bad r26.l) : RdR) fun r27 =>
 chk (fits (a15.length + 1) 24) <|
 k (a0, (w64 (a1 + 1)), (r27.o.toNat : Int), (r27.n.toNat : Int), r27.bad, r27.l, a6, a7, a8, a9, a10, a11, a12, a13, a14, (a15 ++ ([.r [.n r25.v, .n r26.v, .n r27.v]])))
 else
 some (Uns.enc (a9 : bK) ++ Uns.enc (a10 : bA) ++ [.i a11, .i (a2.toNat : Int), .i (a3.toNat : Int), .b a4, .l a5, .d a14, .d a15])
def vm (m : Nat) : Nat -> CG -> Option (List Un) := bo (xv m)
theorem uk (m : Nat) (n : Nat) : vm m (n + 1) = xv m (vm m n) := rfl
def F1 (F : CG -> Option (List Un)) : aW := ⟨[.lp [0, 1, 0, 1, 1, 1, 1, 1], .blk 6, .code [1, 1, 1, 1, 1, 1]], ⟨frm 92 [(0, .ptr 0 0 0), (2, .ptr 2 0 0), (3, .ptr 3 0 0), (73, .int .i64), (74, .int .i64)], [.cells [.sl 1 1, .bool], .ints .i64, .cells [.bool, .int .i64, .int .i64, .int .i64, .int .i64, .int .i64, .int .i64, .int .i64, .int .i64, .int .i64, .int .i64, .buf 4 4, .int .i64, .int .i64, .int .i64, .int .i64, .int .i64, .buf 5 3, .int .i64], .cells [.bool, .int .i64, .int .i64, .int .i64, .int .i64, .int .i64, .int .i64, .int .i64, .int .i64, .int .i64, .int .i64, .buf 6 4, .int .i64, .int .i64, .int .i64, .int .i64, .int .i64, .buf 7 3, .int .i64], .ai (sI 4), .ai (sI 3), .ai (sI 4), .ai (sI 3)], 0⟩, onU F⟩
def xO (m : Nat) (k : Cx -> Option (List Un)) : Cx -> Option (List Un) := fun (a0, a1, a2, a3, a4, a5, a6, a7, a8, a9, a10, a11, a12, a13, a14, a15) =>
 bif decide (a1 < a0) then
 chk (decide ((a2.toNat : Int).toNat + (a3.toNat : Int).toNat <= a5.length)) <|
 bd ((rdN (a2.toNat : Int) (a3.toNat : Int) a4 a5) : RdR) fun r19 =>
 chk (decide ((r19.o.toNat : Int).toNat + (r19.n.toNat : Int).toNat <= r19.l.length)) <|
 bd ((rdN (r19.o.toNat : Int) (r19.n.toNat : Int) r19.bad r19.l) : RdR) fun r20 =>
 chk (decide ((r20.o.toNat : Int).toNat + (r20.n.toNat : Int).toNat <= r20.l.length)) <|
 bd ((rdN (r20.o.toNat : Int) (r20.n.toNat : Int) r20.bad r20.l) : RdR) fun r21 =>
 chk (decide ((r21.o.toNat : Int).toNat + (r21.n.toNat : Int).toNat <= r21.l.length)) <|
 bd ((rdN (r21.o.toNat : Int) (r21.n.toNat : Int) r21.bad r21.l) : RdR) fun r22 =>
 chk (fits (a14.length + 1) 32) <|
 k (a0, (w64 (a1 + 1)), (r22.o.toNat : Int), (r22.n.toNat : Int), r22.bad, r22.l, a6, a7, a8, a9, a10, a11, a12, a13, (a14 ++ ([.r [.n r19.v, .n r20.v, .n r21.v, .n r22.v]])), a15)
 else
 chk (decide ((a2.toNat : Int).toNat + (a3.toNat : Int).toNat <= a5.length)) <|
 bd ((rdM (a2.toNat : Int) (a3.toNat : Int) a4 a5 8) : RdR) fun r24 =>
 vm m m (r24.v, 0, (r24.o.toNat : Int), (r24.n.toNat : Int), r24.bad, r24.l, a6, a7, a8, a9, a10, a11, a12, a13, a14, a15)
def u6 (m : Nat) : Nat -> Cx -> Option (List Un) := bo (xO m)
theorem sX (m : Nat) (n : Nat) : u6 m (n + 1) = xO m (u6 m n) := rfl
def Fo (F : Cx -> Option (List Un)) : aW := ⟨[.lp [0, 1, 0, 1, 1, 1, 1], .blk 2, .code [1, 1, 1, 1, 1]], ⟨frm 92 [(0, .ptr 0 0 0), (2, .ptr 2 0 0), (3, .ptr 3 0 0), (47, .int .i64), (48, .int .i64)], [.cells [.sl 1 1, .bool], .ints .i64, .cells [.bool, .int .i64, .int .i64, .int .i64, .int .i64, .int .i64, .int .i64, .int .i64, .int .i64, .int .i64, .int .i64, .buf 4 4, .int .i64, .int .i64, .int .i64, .int .i64, .int .i64, .buf 5 3, .int .i64], .cells [.bool, .int .i64, .int .i64, .int .i64, .int .i64, .int .i64, .int .i64, .int .i64, .int .i64, .int .i64, .int .i64, .buf 6 4, .int .i64, .int .i64, .int .i64, .int .i64, .int .i64, .buf 7 3, .int .i64], .ai (sI 4), .ai (sI 3), .ai (sI 4), .ai (sI 3)], 0⟩, onU F⟩
theorem Om (m : Nat) : ∀ n, HO N51 (F1 (vm m n)) := au ah T54.right (fun k => [F1 k]) (fun k h => (aL h aB)) fun k a => by kernel_rfl
theorem Pa (m : Nat) : ∀ n, HO N51 (Fo (u6 m n)) := au ah T54.right (fun k => [Fo k, F1 (vm m m)]) (fun k h => (aL h (aL (Om m m) aB))) fun k a => by kernel_rfl
def t51 (m : Nat) : Int × Int × Bool × List Int -> Option (List Un) := fun (a0, a1, a2, a3) =>
 chk (decide ((a0.toNat : Int).toNat + (a1.toNat : Int).toNat <= a3.length)) <|
 bd ((rdM (a0.toNat : Int) (a1.toNat : Int) a2 a3 1) : RdR) fun r1 =>
 chk (decide ((r1.o.toNat : Int).toNat + (r1.n.toNat : Int).toNat <= r1.l.length)) <|
 bd ((rdN (r1.o.toNat : Int) (r1.n.toNat : Int) r1.bad r1.l) : RdR) fun r2 =>
 chk (decide ((r2.o.toNat : Int).toNat + (r2.n.toNat : Int).toNat <= r2.l.length)) <|
 bd ((rdN (r2.o.toNat : Int) (r2.n.toNat : Int) r2.bad r2.l) : RdR) fun r3 =>
 chk (decide ((r3.o.toNat : Int).toNat + (r3.n.toNat : Int).toNat <= r3.l.length)) <|
 bd ((rdN (r3.o.toNat : Int) (r3.n.toNat : Int) r3.bad r3.l) : RdR) fun r4 =>
 chk (decide ((r4.o.toNat : Int).toNat + (r4.n.toNat : Int).toNat <= r4.l.length)) <|
 bd ((rdN (r4.o.toNat : Int) (r4.n.toNat : Int) r4.bad r4.l) : RdR) fun r5 =>
 chk (decide ((r5.o.toNat : Int).toNat + (r5.n.toNat : Int).toNat <= r5.l.length)) <|
 bd ((rdN (r5.o.toNat : Int) (r5.n.toNat : Int) r5.bad r5.l) : RdR) fun r6 =>
 chk (decide ((r6.o.toNat : Int).toNat + (r6.n.toNat : Int).toNat <= r6.l.length)) <|
 bd ((rdN (r6.o.toNat : Int) (r6.n.toNat : Int) r6.bad r6.l) : RdR) fun r7 =>
 chk (decide ((r7.o.toNat : Int).toNat + (r7.n.toNat : Int).toNat <= r7.l.length)) <|
 bd ((rdN (r7.o.toNat : Int) (r7.n.toNat : Int) r7.bad r7.l) : RdR) fun r8 =>
 chk (decide ((r8.o.toNat : Int).toNat + (r8.n.toNat : Int).toNat <= r8.l.length)) <|
 bd ((rdN (r8.o.toNat : Int) (r8.n.toNat : Int) r8.bad r8.l) : RdR) fun r9 =>
 chk (decide ((r9.o.toNat : Int).toNat + (r9.n.toNat : Int).toNat <= r9.l.length)) <|
 bd ((rdN (r9.o.toNat : Int) (r9.n.toNat : Int) r9.bad r9.l) : RdR) fun r10 =>
 chk (decide ((r10.o.toNat : Int).toNat + (r10.n.toNat : Int).toNat <= r10.l.length)) <|
 bd ((rdN (r10.o.toNat : Int) (r10.n.toNat : Int) r10.bad r10.l) : RdR) fun r11 =>
 chk (decide ((r11.o.toNat : Int).toNat + (r11.n.toNat : Int).toNat <= r11.l.length)) <|
 bd ((rdN (r11.o.toNat : Int) (r11.n.toNat : Int) r11.bad r11.l) : RdR) fun r12 =>
 chk (decide ((r12.o.toNat : Int).toNat + (r12.n.toNat : Int).toNat <= r12.l.length)) <|
 bd ((rdN (r12.o.toNat : Int) (r12.n.toNat : Int) r12.bad r12.l) : RdR) fun r13 =>
 chk (decide ((r13.o.toNat : Int).toNat + (r13.n.toNat : Int).toNat <= r13.l.length)) <|
 bd ((rdN (r13.o.toNat : Int) (r13.n.toNat : Int) r13.bad r13.l) : RdR) fun r14 =>
 chk (decide ((r14.o.toNat : Int).toNat + (r14.n.toNat : Int).toNat <= r14.l.length)) <|
 bd ((rdN (r14.o.toNat : Int) (r14.n.toNat : Int) r14.bad r14.l) : RdR) fun r15 =>
 chk (decide ((r15.o.toNat : Int).toNat + (r15.n.toNat : Int).toNat <= r15.l.length)) <|
 bd ((rdN (r15.o.toNat : Int) (r15.n.toNat : Int) r15.bad r15.l) : RdR) fun r16 =>
 chk (decide ((r16.o.toNat : Int).toNat + (r16.n.toNat : Int).toNat <= r16.l.length)) <|
 bd ((rdN (r16.o.toNat : Int) (r16.n.toNat : Int) r16.bad r16.l) : RdR) fun r17 =>
 chk (decide ((r17.o.toNat : Int).toNat + (r17.n.toNat : Int).toNat <= r17.l.length)) <|
 bd ((rdM (r17.o.toNat : Int) (r17.n.toNat : Int) r17.bad r17.l 160) : RdR) fun r18 =>
 u6 m m (r18.v, 0, (r18.o.toNat : Int), (r18.n.toNat : Int), r18.bad, r18.l, (⟨false, 0, 0, 0, 0, 0, 0, 0, 0, 0, 0⟩ : bK), (⟨0, 0, 0, 0, 0⟩ : bA), 0, (⟨r1.v == 1, r2.v, r3.v, r4.v, r5.v, r6.v, r7.v, r8.v, r9.v, r10.v, r11.v⟩ : bK), (⟨r12.v, r13.v, r14.v, r15.v, r16.v⟩ : bA), r17.v, [], [], [], [])
theorem MM (m : Nat) (xa : bK) (xb : bA) (xn : Int) (ya : bK) (yb : bA) (yn : Int) (z1 z2 p : List Dat) : ∀ (c : Nat) (n : Nat) (k : Nat) (r : RdR) (acc : List Dat), c < n -> k + c <= 8 -> acc.length <= k -> RdI r ->
 vm m n (((k + c : Nat) : Int), (k : Int), r.o, r.n, r.bad, r.l, xa, xb, xn, ya, yb, yn, z1, z2, p, acc) = some (Uns.enc ya ++ Uns.enc yb ++ [.i yn, .i (jv c r).2.o, .i (jv c r).2.n, .b (jv c r).2.bad, .l (jv c r).2.l, .d p, .d (acc ++ (jv c r).1)]) := by
 intro c
 induction c with
 | zero =>
  intro n k r acc hn hk ha hr; obtain ⟨n, rfl⟩ := al n (by omega); rw [uk]; unfold xv; dsimp only; rw [aF (by omega), hr.1, hr.2.1]; simp [jv]
 | succ c ih =>
  intro n k r acc hn hk ha hr; obtain ⟨n, rfl⟩ := al n (by omega); rw [uk]; unfold xv; dsimp only; have h1 := cS hr; have h2 := cS h1; have h3 := cS h2; rw [bE (by omega)]; dsimp only [bd]; rw [hr.1, hr.2.1]; refine bx (zai hr.2.2) ?_
  rw [show rdN r.o r.n r.bad r.l = nx r from rfl, h1.1, h1.2.1]; refine bx (zai h1.2.2) ?_
  rw [show rdN (nx r).o (nx r).n (nx r).bad (nx r).l = nx (nx r) from rfl, h2.1, h2.2.1]; refine bx (zai h2.2.2) ?_
  rw [show rdN (nx (nx r)).o (nx (nx r)).n (nx (nx r)).bad (nx (nx r)).l = nx (nx (nx r)) from rfl, h3.1, h3.2.1]; rw [je (by omega) (by omega)]; have := ih n (k + 1) (nx (nx (nx r))) (acc ++ [.r [.n (nx r).v, .n (nx (nx r)).v, .n (nx (nx (nx r))).v]]) (by omega) (by omega) (by simp; omega) h3; have e : w64 ((k : Int) + 1) = ((k + 1 : Nat) : Int) := by rw [aa (by omega) (by omega)]; simp
  rw [e, show k + (c + 1) = k + 1 + c by omega, this]; simp only [jv, zaF, zaW, zaU]
theorem M8 (m : Nat) (hm : 9 <= m) (xa : bK) (xb : bA) (xn : Int) (ya : bK) (yb : bA) (yn : Int) (z1 z2 : List Dat) : ∀ (c : Nat) (n : Nat) (k : Nat) (r : RdR) (acc : List Dat), c < n -> k + c <= 160 -> acc.length <= k -> RdI r ->
 u6 m n (((k + c : Nat) : Int), (k : Int), r.o, r.n, r.bad, r.l, xa, xb, xn, ya, yb, yn, z1, z2, acc, []) =
  (let p := l8 c r; let t := mx p.2 8; let q := jv t.v.toNat t; some (Uns.enc ya ++ Uns.enc yb ++ [.i yn, .i q.2.o, .i q.2.n, .b q.2.bad, .l q.2.l, .d (acc ++ p.1), .d q.1])) := by
 intro c
 induction c with
 | zero =>
  intro n k r acc hn hk ha hr; obtain ⟨n, rfl⟩ := al n (by omega); rw [sX]; unfold xO; dsimp only; rw [aF (by omega), hr.1, hr.2.1]; dsimp only [bd]; refine bx (zai hr.2.2) ?_
  have ht := Is (most := 8) hr; rw [show rdM r.o r.n r.bad r.l 8 = mx r 8 from rfl, ht.1, ht.2.1]; have hv : 0 <= (mx r 8).v /\ (mx r 8).v <= 8 := B9 (by decide); have := MM m xa xb xn ya yb yn z1 z2 acc (mx r 8).v.toNat m 0 (mx r 8) [] (by omega) (by omega) (by simp) ht; rw [show (((0 + (mx r 8).v.toNat : Nat)) : Int) = (mx r 8).v by omega] at this; simp only [l8, zaY]; exact this
 | succ c ih =>
  intro n k r acc hn hk ha hr; obtain ⟨n, rfl⟩ := al n (by omega); rw [sX]; unfold xO; dsimp only; have h1 := cS hr; have h2 := cS h1; have h3 := cS h2; have h4 := cS h3; rw [bE (by omega)]; dsimp only [bd]; rw [hr.1, hr.2.1]; refine bx (zai hr.2.2) ?_
  rw [show rdN r.o r.n r.bad r.l = nx r from rfl, h1.1, h1.2.1]; refine bx (zai h1.2.2) ?_
  rw [show rdN (nx r).o (nx r).n (nx r).bad (nx r).l = nx (nx r) from rfl, h2.1, h2.2.1]; refine bx (zai h2.2.2) ?_
  rw [show rdN (nx (nx r)).o (nx (nx r)).n (nx (nx r)).bad (nx (nx r)).l = nx (nx (nx r)) from rfl, h3.1, h3.2.1]; refine bx (zai h3.2.2) ?_
  rw [show rdN (nx (nx (nx r))).o (nx (nx (nx r))).n (nx (nx (nx r))).bad (nx (nx (nx r))).l = nx (nx (nx (nx r))) from rfl, h4.1, h4.2.1]; rw [je (by omega) (by omega)]; have := ih n (k + 1) (nx (nx (nx (nx r)))) (acc ++ [.r [.n (nx r).v, .n (nx (nx r)).v, .n (nx (nx (nx r))).v, .n (nx (nx (nx (nx r)))).v]]) (by omega) (by omega) (by simp; omega) h4; have e : w64 ((k : Int) + 1) = ((k + 1 : Nat) : Int) := by rw [aa (by omega) (by omega)]; simp
  rw [e, show k + (c + 1) = k + 1 + c by omega, this]; simp only [l8, zaF, zaW, zaU]
theorem iz {r : RdR} (h : RdI r) {β : Type} (f : RdR -> Option β) : (chk (decide ((r.o.toNat : Int).toNat + (r.n.toNat : Int).toNat <= r.l.length)) <| bd (rdN (r.o.toNat : Int) (r.n.toNat : Int) r.bad r.l) f) = f (nx r) := by
 rw [h.1, h.2.1]; exact bx (zai h.2.2) rfl
def f51 : Int × Int × Bool × List Int -> Bool × List Un := fun (a0, a1, a2, a3) => (decide (a0.toNat + a1.toNat <= a3.length), Uns.enc (((dv a0 a1 a2 a3).ra) : bK) ++ Uns.enc (((dv a0 a1 a2 a3).rb) : bA) ++ [.i ((dv a0 a1 a2 a3).next), .i ((dv a0 a1 a2 a3).r.o), .i ((dv a0 a1 a2 a3).r.n), .b ((dv a0 a1 a2 a3).r.bad), .l ((dv a0 a1 a2 a3).r.l), .d ((dv a0 a1 a2 a3).eG), .d ((dv a0 a1 a2 a3).notes)])
set_option maxHeartbeats 2000000 in
theorem Lc (a0 : Int) (a1 : Int) (a2 : Bool) (a3 : List Int) (hc : (decide (a0.toNat + a1.toNat <= a3.length)) = true) : ∃ m, t51 m (a0, a1, a2, a3) = some (Uns.enc (((dv a0 a1 a2 a3).ra) : bK) ++ Uns.enc (((dv a0 a1 a2 a3).rb) : bA) ++ [.i ((dv a0 a1 a2 a3).next), .i ((dv a0 a1 a2 a3).r.o), .i ((dv a0 a1 a2 a3).r.n), .b ((dv a0 a1 a2 a3).r.bad), .l ((dv a0 a1 a2 a3).r.l), .d ((dv a0 a1 a2 a3).eG), .d ((dv a0 a1 a2 a3).notes)]) := by
 have hl := zaj hc; refine ⟨200, ?_⟩; unfold t51; have i1 : RdI (rdM a0 a1 a2 a3 1) := FY hl; refine bx (zai hl) ?_
 rw [show bd (rdM (a0.toNat : Int) (a1.toNat : Int) a2 a3 1) = bd (rdM a0 a1 a2 a3 1) from rfl]; have e1 : ∀ {β : Type} (f : RdR -> Option β), bd (rdM a0 a1 a2 a3 1) f = f (rdM a0 a1 a2 a3 1) := fun f => rfl
 rw [e1]; have i2 := cS i1; have i3 := cS i2; have i4 := cS i3; have i5 := cS i4; have i6 := cS i5; have i7 := cS i6; have i8 := cS i7; have i9 := cS i8; have i10 := cS i9; have i11 := cS i10; have i12 := cS i11; have i13 := cS i12; have i14 := cS i13; have i15 := cS i14; have i16 := cS i15; have i17 := cS i16; rw [iz i1, iz i2, iz i3, iz i4, iz i5, iz i6, iz i7, iz i8, iz i9, iz i10, iz i11, iz i12, iz i13, iz i14, iz i15, iz i16]; rw [i17.1, i17.2.1]; refine bx (zai i17.2.2) ?_
 dsimp only [bd]; have i18 := Is (most := 160) i17; unfold dv; dsimp only; generalize nx (nx (nx (nx (nx (nx (nx (nx (nx (nx (nx (nx (nx (nx (nx (nx (rdM a0 a1 a2 a3 1)))))))))))))))) = r17 at *
 rw [show rdM r17.o r17.n r17.bad r17.l 160 = mx r17 160 from rfl, i18.1, i18.2.1]; have hv : 0 <= (mx r17 160).v /\ (mx r17 160).v <= 160 := B9 (by decide); have := M8 200 (by decide) (⟨false, 0, 0, 0, 0, 0, 0, 0, 0, 0, 0⟩ : bK) (⟨0, 0, 0, 0, 0⟩ : bA) 0 (Dc (rdM a0 a1 a2 a3 1) r17).1 (Dc (rdM a0 a1 a2 a3 1) r17).2.1 (Dc (rdM a0 a1 a2 a3 1) r17).2.2 [] [] (mx r17 160).v.toNat 200 0 (mx r17 160) [] (by omega) (by omega) (by simp) i18; rw [show (((0 + (mx r17 160).v.toNat : Nat)) : Int) = (mx r17 160).v by omega] at this; exact this
theorem C6 : ER 51 (mkE N51.en N51.ex f51) := an ah T54.right (fun m => [Fo (u6 m m)]) (t := t51) (by kernel_rfl) (fun m => (aL (Pa m m) aB)) (fun m a => by kernel_rfl) fun (a0, a1, a2, a3) hc => Lc a0 a1 a2 a3 hc
def T51 : Tb Tryz.prog LQ TE XX := T54.add 51 _ C6
def PE : Dk -> List Un := fun r => Uns.enc (r.ra : bK) ++ Uns.enc (r.rb : bA) ++ [.i r.next, .i r.r.o, .i r.r.n, .b r.r.bad, .l r.r.l, .d r.eG, .d r.notes]
def PA : Int × Int × Bool × List Int -> Bool × Dk := fun (a0, a1, a2, a3) => (decide (a0.toNat + a1.toNat <= a3.length), (dv a0 a1 a2 a3))
theorem E0 : ER 51 (mkB N51.en N51.ex PA PE) := rebind C6 fun (a0, a1, a2, a3) => rfl
def Ha : Tb Tryz.prog LQ TE XX := T51.add 51 _ E0
theorem zq {α : Type} {c d : Bool} {F Y : α} : (bif c then (bif !d then F else Y) else F) = bif c && d then Y else F := by cases c <;> cases d <;> rfl
theorem cond_not {α : Type} {d : Bool} {F Y : α} : (bif !d then F else Y) = bif d then Y else F := by cases d <;> rfl
def Dg (d : Dat) : Bool := decide (d.i 0 >= 0) && (decide (d.i 0 <= 15) && (decide (d.i 1 >= 1) && (decide (d.i 1 <= 7) && (decide (d.i 2 >= -1) && (decide (d.i 2 <= 7) && (decide (d.i 3 >= 1) && decide (d.i 3 <= 1152921504606846976)))))))
def Aa (d : Dat) : Bool := ([d.i 0, d.i 1, d.i 2] : List Int).all yI
def yO (ra : bK) (rb : bA) : List Int := [ra.aj, ra.cn, ra.aD, ra.aK, ra.draw, ra.advance, ra.fee, ra.due, rb.bL, rb.ba, rb.bf, rb.out, rb.kY]
def gz (ra : bK) (eG : List Dat) (rb : bA) (notes : List Dat) (next : Int) : Bool :=
 decide (ra.period >= 0) && (decide (ra.period <= 600) && (decide (ra.mode >= 0) && (decide (ra.mode <= 2) && (decide (next >= 0) && (decide (next <= 2) && ((yO ra rb).all yI && (decide ((eG.length : Int) <= 160) && (decide ((notes.length : Int) <= 8) && (eG.all Dg && notes.all Aa)))))))))
def N15 : aC := ⟨Ha.tab, 15, ⟨[.agg [.bool, .int .i64, .int .i64, .int .i64, .int .i64, .int .i64, .int .i64, .int .i64, .int .i64, .int .i64, .int .i64, .ai (sI 4), .int .i64, .int .i64, .int .i64, .int .i64, .int .i64, .ai (sI 3), .int .i64]], [], 0⟩, ⟨[.bool], [], 0⟩, []⟩
abbrev CK : Type := List Dat × Int × Int
abbrev B6 : Type := List Dat × Int × Int × bK × List Dat × bA × List Dat × Int
def xi (m : Nat) (k : CK -> Option (List Un)) : CK -> Option (List Un) := fun (a0, a1, a2) =>
 bif decide (a2 < a1) then
 chk (inb a2 a0.length) <|
 chk (decide (a2.toNat < a0.length)) <|
 lt (ag a0 a2.toNat : Dat) fun d8 =>
 chk (decide (([(d8.i 0), (d8.i 1), (d8.i 2)] : List Int).length <= 1000000)) <|
 bif !(([(d8.i 0), (d8.i 1), (d8.i 2)] : List Int).all yI) then
 some ([.b false])
 else
 k (a0, a1, (w64 (a2 + 1)))
 else
 some ([.b true])
def wh (m : Nat) : Nat -> CK -> Option (List Un) := bo (xi m)
theorem tu (m : Nat) (n : Nat) : wh m (n + 1) = xi m (wh m n) := rfl
def Hc (F : CK -> Option (List Un)) : aW := ⟨[.lp [0, 1, 0, 1, 1, 1], .blk 2, .code [1, 1, 1, 1]], ⟨frm 82 [(72, .ai (sI 3)), (73, .int .i64), (74, .int .i64)], [], 0⟩, onU F⟩
def xr (m : Nat) (k : B6 -> Option (List Un)) : B6 -> Option (List Un) := fun (a0, a1, a2, a3, a4, a5, a6, a7) =>
 bif decide (a2 < a1) then
 chk (inb a2 a0.length) <|
 chk (decide (a2.toNat < a0.length)) <|
 lt (ag a0 a2.toNat : Dat) fun d5 =>
 bif decide ((d5.i 0) >= 0) then
 bif !(decide ((d5.i 0) <= 15)) then
 some ([.b false])
 else
 bif decide ((d5.i 1) >= 1) then
 bif !(decide ((d5.i 1) <= 7)) then
 some ([.b false])
 else
 bif (decide ((d5.i 2) >= (-1))) then
 bif !(decide ((d5.i 2) <= 7)) then
 some ([.b false])
 else
 bif decide ((d5.i 3) >= 1) then
 bif !(decide ((d5.i 3) <= 1152921504606846976)) then
 some ([.b false])
 else
 k (a0, a1, (w64 (a2 + 1)), a3, a4, a5, a6, a7)
 else
 some ([.b false])
 else
 some ([.b false])
 else
 some ([.b false])
 else
 some ([.b false])
 else
 wh m m (a6, (a6.length : Int), 0)
def rR (m : Nat) : Nat -> B6 -> Option (List Un) := bo (xr m)
theorem sU (m : Nat) (n : Nat) : rR m (n + 1) = xr m (rR m n) := rfl
def Fx (F : B6 -> Option (List Un)) : aW := ⟨[.lp [0, 1, 0, 1, 1], .blk 0, .code [1, 1, 1]], ⟨frm 82 [(1, .ptr 0 0 0), (42, .ai (sI 4)), (43, .int .i64), (44, .int .i64)], [.cells [.bool, .int .i64, .int .i64, .int .i64, .int .i64, .int .i64, .int .i64, .int .i64, .int .i64, .int .i64, .int .i64, .ai (sI 4), .int .i64, .int .i64, .int .i64, .int .i64, .int .i64, .ai (sI 3), .int .i64]], 0⟩, onU F⟩
theorem NM (m : Nat) : ∀ n, HO N15 (Hc (wh m n)) := au ah Ha.right (fun k => [Hc k]) (fun k h => (aL h aB)) fun k a => by kernel_rfl
theorem Pj (m : Nat) : ∀ n, HO N15 (Fx (rR m n)) := au ah Ha.right (fun k => [Fx k, Hc (wh m m)]) (fun k h => (aL h (aL (NM m m) aB))) fun k a => by kernel_rfl
def t15 (m : Nat) : bK × List Dat × bA × List Dat × Int -> Option (List Un) := fun (a0, a1, a2, a3, a4) =>
 bif decide (a0.period >= 0) then
 bif !(decide (a0.period <= 600)) then
 some ([.b false])
 else
 bif decide (a0.mode >= 0) then
 bif !(decide (a0.mode <= 2)) then
 some ([.b false])
 else
 bif decide (a4 >= 0) then
 bif !(decide (a4 <= 2)) then
 some ([.b false])
 else
 chk (decide (([a0.aj, a0.cn, a0.aD, a0.aK, a0.draw, a0.advance, a0.fee, a0.due, a2.bL, a2.ba, a2.bf, a2.out, a2.kY] : List Int).length <= 1000000)) <|
 bif !(([a0.aj, a0.cn, a0.aD, a0.aK, a0.draw, a0.advance, a0.fee, a0.due, a2.bL, a2.ba, a2.bf, a2.out, a2.kY] : List Int).all yI) then
 some ([.b false])
 else
 bif (decide ((a1.length : Int) > 160)) then
 some ([.b false])
 else
 bif (decide ((a3.length : Int) > 8)) then
 some ([.b false])
 else
 rR m m (a1, (a1.length : Int), 0, a0, a1, a2, a3, a4)
 else
 some ([.b false])
 else
 some ([.b false])
 else
 some ([.b false])
theorem J3 (m : Nat) : ∀ (rest pre : List Dat) (n : Nat), rest.length < n -> (pre ++ rest).length <= 1000000 -> wh m n (pre ++ rest, ((pre ++ rest).length : Int), (pre.length : Int)) = some [.b (rest.all Aa)] := by
 intro rest
 induction rest with
 | nil =>
  intro pre n hn hl; obtain ⟨n, rfl⟩ := al n (by simp at hn; omega); rw [tu]; unfold xi; dsimp only; rw [aF (by simp)]; rfl
 | cons x rest ih =>
  intro pre n hn hl; obtain ⟨n, rfl⟩ := al n (by simp at hn; omega); simp only [zae, zah] at hn hl; rw [tu]; unfold xi; dsimp only; rw [bE (by simp only [zah, zae]; omega), dM (by omega) (by simp only [zah, zae]; omega), aN (by simp)]; have hx : ag (pre ++ x :: rest) (pre.length : Int).toNat = x := by simp [ag]
  have := ih (pre ++ [x]) n (by omega) (by simp; omega); have e : w64 ((pre.length : Int) + 1) = ((pre ++ [x]).length : Int) := by
   rw [aa (by omega) (by omega)]; simp
  have e3 : pre ++ x :: rest = (pre ++ [x]) ++ rest := by simp
  rw [hx]; dsimp only [lt]; refine bx rfl ?_
  rw [cond_not, e, e3, this, mE]; simp only [List.all_cons, Aa]
theorem Ke (m : Nat) (ra : bK) (xp : List Dat) (rb : bA) (notes : List Dat) (xn : Int) (hm : notes.length < m) (hn9 : notes.length <= 1000000) : ∀ (rest pre : List Dat) (n : Nat), rest.length < n -> (pre ++ rest).length <= 1000000 -> rR m n (pre ++ rest, ((pre ++ rest).length : Int), (pre.length : Int), ra, xp, rb, notes, xn) = some [.b (rest.all Dg && notes.all Aa)] := by
 intro rest
 induction rest with
 | nil =>
  intro pre n hn hl; obtain ⟨n, rfl⟩ := al n (by simp at hn; omega); rw [sU]; unfold xr; dsimp only; rw [aF (by simp)]; exact J3 m notes [] m hm hn9
 | cons x rest ih =>
  intro pre n hn hl; obtain ⟨n, rfl⟩ := al n (by simp at hn; omega); simp only [zae, zah] at hn hl; rw [sU]; unfold xr; dsimp only; rw [bE (by simp only [zah, zae]; omega), dM (by omega) (by simp only [zah, zae]; omega), aN (by simp)]; have hx : ag (pre ++ x :: rest) (pre.length : Int).toNat = x := by simp [ag]
  have := ih (pre ++ [x]) n (by omega) (by simp; omega); have e : w64 ((pre.length : Int) + 1) = ((pre ++ [x]).length : Int) := by
   rw [aa (by omega) (by omega)]; simp
  have e3 : pre ++ x :: rest = (pre ++ [x]) ++ rest := by simp
  rw [hx]; dsimp only [lt]; rw [e, e3, this]; simp only [zq, mE, List.all_cons, Dg, Bool.and_assoc]
def f15 : bK × List Dat × bA × List Dat × Int -> Bool × List Un := fun (a0, a1, a2, a3, a4) => (decide (a1.length <= 1000000) && decide (a3.length <= 1000000), [.b ((gz a0 a1 a2 a3 a4))])
theorem L0 (a0 : bK) (a1 : List Dat) (a2 : bA) (a3 : List Dat) (a4 : Int) (hc : (decide (a1.length <= 1000000) && decide (a3.length <= 1000000)) = true) : ∃ m, t15 m (a0, a1, a2, a3, a4) = some ([.b ((gz a0 a1 a2 a3 a4))]) := by
 have hc' := hc; simp only [zab, zag] at hc'; obtain ⟨h1, h2⟩ := hc'; refine ⟨a1.length + a3.length + 1, ?_⟩; have this : rR (a1.length + a3.length + 1) (a1.length + a3.length + 1) (a1, (a1.length : Int), 0, a0, a1, a2, a3, a4) = some [.b (a1.all Dg && a3.all Aa)] := Ke (a1.length + a3.length + 1) a0 a1 a2 a3 a4 (by omega) h2 a1 [] (a1.length + a3.length + 1) (by omega) (by simpa using h1); unfold t15; dsimp only; rw [this]; simp only [zq, cond_not, xk]; rw [show (decide (([a0.aj, a0.cn, a0.aD, a0.aK, a0.draw, a0.advance, a0.fee, a0.due, a2.bL, a2.ba, a2.bf, a2.out, a2.kY] : List Int).length <= 1000000)) = true from rfl]; simp only [chk, zaE, mE, gz, yO, Bool.and_assoc]
theorem I7 : ER 15 (mkE N15.en N15.ex f15) := an ah Ha.right (fun m => [Fx (rR m m)]) (t := t15) (by kernel_rfl) (fun m => (aL (Pj m m) aB)) (fun m a => by kernel_rfl) fun (a0, a1, a2, a3, a4) hc => L0 a0 a1 a2 a3 a4 hc
def T15 : Tb Tryz.prog LQ TE XX := Ha.add 15 _ I7
def E2 (d : Dat) : List Int := [d.i 0, d.i 1, d.i 2, d.i 3]
def DP (d : Dat) : List Int := [d.i 0, d.i 1, d.i 2]
def KH (ra : bK) (eG : List Dat) (rb : bA) (next : Int) : List Int := [bI ra.call, ra.period, ra.mode, ra.aj, ra.cn, ra.aD, ra.aK, ra.draw, ra.advance, ra.fee, ra.due, rb.bL, rb.ba, rb.bf, rb.out, rb.kY, next, (eG.length : Int)]
def KI (ra : bK) (eG : List Dat) (rb : bA) (notes : List Dat) (next : Int) : List Int := KH ra eG rb next ++ (eG.flatMap E2 ++ ((notes.length : Int) :: notes.flatMap DP))
def ri (ra : bK) (eG : List Dat) (rb : bA) (notes : List Dat) (next : Int) : List Int := bif gz ra eG rb notes next then iq (KI ra eG rb notes next) else []
def N12 : aC := ⟨T15.tab, 12, ⟨[.agg [.bool, .int .i64, .int .i64, .int .i64, .int .i64, .int .i64, .int .i64, .int .i64, .int .i64, .int .i64, .int .i64, .ai (sI 4), .int .i64, .int .i64, .int .i64, .int .i64, .int .i64, .ai (sI 3), .int .i64]], [], 0⟩, ⟨[.buf 0 1], [.ints .u8], 0⟩, []⟩
abbrev Ck : Type := List Dat × Int × Int × List Int
abbrev CL : Type := List Dat × Int × Int × bK × List Dat × bA × List Dat × Int × List Int
def xZ (m : Nat) (k : Ck -> Option (List Un)) : Ck -> Option (List Un) := fun (a0, a1, a2, a3) =>
 bif decide (a2 < a1) then
 chk (inb a2 a0.length) <|
 chk (decide (a2.toNat < a0.length)) <|
 lt (ag a0 a2.toNat : Dat) fun d4 =>
 chk (fits (a3.length + 3) 8) <|
 k (a0, a1, (w64 (a2 + 1)), (a3 ++ ([(d4.i 0), (d4.i 1), (d4.i 2)])))
 else
 chk (decide (a3.length <= 1000000)) <|
 some ([.l (iq a3)])
def vj (m : Nat) : Nat -> Ck -> Option (List Un) := bo (xZ m)
theorem su (m : Nat) (n : Nat) : vj m (n + 1) = xZ m (vj m n) := rfl
def E6 (F : Ck -> Option (List Un)) : aW := ⟨[.lp [0, 1, 0, 1, 1, 1, 1, 1, 1, 1, 1], .blk 2, .code [1, 1, 1, 1, 1, 1, 1, 1, 1]], ⟨frm 69 [(4, .buf 0 1), (57, .ai (sI 3)), (58, .int .i64), (59, .int .i64)], [.ints .i64], 0⟩, onU F⟩
def xX (m : Nat) (k : CL -> Option (List Un)) : CL -> Option (List Un) := fun (a0, a1, a2, a3, a4, a5, a6, a7, a8) =>
 bif decide (a2 < a1) then
 chk (inb a2 a0.length) <|
 chk (decide (a2.toNat < a0.length)) <|
 lt (ag a0 a2.toNat : Dat) fun d1 =>
 chk (fits (a8.length + 4) 8) <|
 k (a0, a1, (w64 (a2 + 1)), a3, a4, a5, a6, a7, (a8 ++ ([(d1.i 0), (d1.i 1), (d1.i 2), (d1.i 3)])))
 else
 chk (fits (a8.length + 1) 8) <|
 vj m m (a6, (a6.length : Int), 0, (a8 ++ ([(a6.length : Int)])))
def pR (m : Nat) : Nat -> CL -> Option (List Un) := bo (xX m)
theorem rX (m : Nat) (n : Nat) : pR m (n + 1) = xX m (pR m n) := rfl
def GD (F : CL -> Option (List Un)) : aW := ⟨[.lp [0, 1, 0, 1, 1, 1, 1, 1, 1], .blk 0, .code [1, 1, 1, 1, 1, 1, 1]], ⟨frm 69 [(1, .ptr 0 0 0), (4, .buf 1 1), (32, .ai (sI 4)), (33, .int .i64), (34, .int .i64)], [.cells [.bool, .int .i64, .int .i64, .int .i64, .int .i64, .int .i64, .int .i64, .int .i64, .int .i64, .int .i64, .int .i64, .ai (sI 4), .int .i64, .int .i64, .int .i64, .int .i64, .int .i64, .ai (sI 3), .int .i64], .ints .i64], 0⟩, onU F⟩
theorem Oj (m : Nat) : ∀ n, HO N12 (E6 (vj m n)) := au ah T15.right (fun k => [E6 k]) (fun k h => (aL h aB)) fun k a => by kernel_rfl
theorem Ot (m : Nat) : ∀ n, HO N12 (GD (pR m n)) := au ah T15.right (fun k => [GD k, E6 (vj m m)]) (fun k h => (aL h (aL (Oj m m) aB))) fun k a => by kernel_rfl
def t12 (m : Nat) : bK × List Dat × bA × List Dat × Int -> Option (List Un) := fun (a0, a1, a2, a3, a4) =>
 chk (decide (a1.length <= 1000000) && decide (a3.length <= 1000000)) <|
 bif !(gz a0 a1 a2 a3 a4) then
 some ([.l ([])])
 else
 bif a0.call then
 pR m m (a1, (a1.length : Int), 0, a0, a1, a2, a3, a4, ([1, a0.period, a0.mode, a0.aj, a0.cn, a0.aD, a0.aK, a0.draw, a0.advance, a0.fee, a0.due, a2.bL, a2.ba, a2.bf, a2.out, a2.kY, a4, (a1.length : Int)] : List Int))
 else
 pR m m (a1, (a1.length : Int), 0, a0, a1, a2, a3, a4, ([0, a0.period, a0.mode, a0.aj, a0.cn, a0.aD, a0.aK, a0.draw, a0.advance, a0.fee, a0.due, a2.bL, a2.ba, a2.bf, a2.out, a2.kY, a4, (a1.length : Int)] : List Int))
theorem OF (m : Nat) : ∀ (rest pre : List Dat) (acc : List Int) (n : Nat), rest.length < n -> (pre ++ rest).length <= 8 -> acc.length + 3 * rest.length <= 1000 -> vj m n (pre ++ rest, ((pre ++ rest).length : Int), (pre.length : Int), acc) = some [.l (iq (acc ++ rest.flatMap DP))] := by
 intro rest
 induction rest with
 | nil =>
  intro pre acc n hn hl ha; obtain ⟨n, rfl⟩ := al n (by simp at hn; omega); rw [su]; unfold xZ; dsimp only; rw [aF (by simp)]; refine (bx (zai (by simp at ha; omega)) rfl).trans ?_
  simp
 | cons x rest ih =>
  intro pre acc n hn hl ha; obtain ⟨n, rfl⟩ := al n (by simp at hn; omega); simp only [zae, zah] at hn hl ha; rw [su]; unfold xZ; dsimp only; rw [bE (by simp only [zah, zae]; omega), dM (by omega) (by simp only [zah, zae]; omega), aN (by simp)]; have hx : ag (pre ++ x :: rest) (pre.length : Int).toNat = x := by simp [ag]
  have := ih (pre ++ [x]) (acc ++ DP x) n (by omega) (by simp; omega) (by simp [DP]; omega); have e : w64 ((pre.length : Int) + 1) = ((pre ++ [x]).length : Int) := by
   rw [aa (by omega) (by omega)]; simp
  have e3 : pre ++ x :: rest = (pre ++ [x]) ++ rest := by simp
  rw [hx]; dsimp only [lt]; rw [je (by omega) (by omega), e, e3]; refine Eq.trans this ?_
  simp
theorem OZ (m : Nat) (ra : bK) (xp : List Dat) (rb : bA) (notes : List Dat) (xn : Int) (hm : notes.length < m) (h8 : notes.length <= 8) : ∀ (rest pre : List Dat) (acc : List Int) (n : Nat), rest.length < n -> (pre ++ rest).length <= 160 -> acc.length + 4 * rest.length <= 700 -> pR m n (pre ++ rest, ((pre ++ rest).length : Int), (pre.length : Int), ra, xp, rb, notes, xn, acc) = some [.l (iq (acc ++ (rest.flatMap E2 ++ ((notes.length : Int) :: notes.flatMap DP))))] := by
 intro rest
 induction rest with
 | nil =>
  intro pre acc n hn hl ha; obtain ⟨n, rfl⟩ := al n (by simp at hn; omega); rw [rX]; unfold xX; dsimp only; rw [aF (by simp)]; simp only [zaI] at ha; rw [je (by omega) (by omega)]; have := OF m notes [] (acc ++ [(notes.length : Int)]) m hm (by simpa using h8) (by simp; omega); refine Eq.trans this ?_
  simp
 | cons x rest ih =>
  intro pre acc n hn hl ha; obtain ⟨n, rfl⟩ := al n (by simp at hn; omega); simp only [zae, zah] at hn hl ha; rw [rX]; unfold xX; dsimp only; rw [bE (by simp only [zah, zae]; omega), dM (by omega) (by simp only [zah, zae]; omega), aN (by simp)]; have hx : ag (pre ++ x :: rest) (pre.length : Int).toNat = x := by simp [ag]
  have := ih (pre ++ [x]) (acc ++ E2 x) n (by omega) (by simp; omega) (by simp [E2]; omega); have e : w64 ((pre.length : Int) + 1) = ((pre ++ [x]).length : Int) := by
   rw [aa (by omega) (by omega)]; simp
  have e3 : pre ++ x :: rest = (pre ++ [x]) ++ rest := by simp
  rw [hx]; dsimp only [lt]; rw [je (by omega) (by omega), e, e3]; refine Eq.trans this ?_
  simp
def f12 : bK × List Dat × bA × List Dat × Int -> Bool × List Un := fun (a0, a1, a2, a3, a4) => (decide (a1.length <= 1000000) && decide (a3.length <= 1000000), [.l (ri a0 a1 a2 a3 a4)])
theorem K3 (a0 : bK) (a1 : List Dat) (a2 : bA) (a3 : List Dat) (a4 : Int) (hc : (decide (a1.length <= 1000000) && decide (a3.length <= 1000000)) = true) : ∃ m, t12 m (a0, a1, a2, a3, a4) = some ([.l (ri a0 a1 a2 a3 a4)]) := by
 refine ⟨200, ?_⟩; unfold t12 ri; refine bx hc ?_
 cases hr : gz a0 a1 a2 a3 a4 with
 | false => rfl
 | true =>
  have hb : a1.length <= 160 /\ a3.length <= 8 := by
   unfold gz at hr; simp only [zab, zag] at hr; omega
  have key : ∀ c : Int, pR 200 200 (a1, (a1.length : Int), 0, a0, a1, a2, a3, a4, ([c, a0.period, a0.mode, a0.aj, a0.cn, a0.aD, a0.aK, a0.draw, a0.advance, a0.fee, a0.due, a2.bL, a2.ba, a2.bf, a2.out, a2.kY, a4, (a1.length : Int)] : List Int)) = some [.l (iq (([c, a0.period, a0.mode, a0.aj, a0.cn, a0.aD, a0.aK, a0.draw, a0.advance, a0.fee, a0.due, a2.bL, a2.ba, a2.bf, a2.out, a2.kY, a4, (a1.length : Int)] : List Int) ++ (a1.flatMap E2 ++ ((a3.length : Int) :: a3.flatMap DP))))] := fun c =>
   OZ 200 a0 a1 a2 a3 a4 (by omega) hb.2 a1 [] _ 200 (by omega) (by simpa using hb.1) (by simp; omega)
  refine u9 rfl ?_
  unfold KI KH; cases hcall : a0.call with
  | true => exact key 1
  | false => exact key 0
theorem JM : ER 12 (mkE N12.en N12.ex f12) := an ah T15.right (fun m => [GD (pR m m)]) (t := t12) (by kernel_rfl) (fun m => (aL (Ot m m) aB)) (fun m a => by kernel_rfl) fun (a0, a1, a2, a3, a4) hc => K3 a0 a1 a2 a3 a4 hc
def T12 : Tb Tryz.prog LQ TE XX := T15.add 12 _ JM
structure DA where
 ra : bK
 rb : bA
 next : Int
 ok : Bool
 eG : List Dat
 notes : List Dat
def FB : DA := ⟨⟨false, 0, 0, 0, 0, 0, 0, 0, 0, 0, 0⟩, ⟨0, 0, 0, 0, 0⟩, 0, false, [], []⟩
def CV (l : List Int) : DA :=
 let r := dv 0 (l.length : Int) false l
 bif !r.r.bad && r.r.n == 0 then (bif gz r.ra r.eG r.rb r.notes r.next then ⟨r.ra, r.rb, r.next, true, r.eG, r.notes⟩ else FB) else FB
def dJ (xs : List Int) : DA := bif xs.length % 8 == 0 then CV (dE xs) else FB
def N13 : aC := ⟨T12.tab, 13, ⟨[.ints .u8], [], 0⟩, ⟨[.agg [.bool, .int .i64, .int .i64, .int .i64, .int .i64, .int .i64, .int .i64, .int .i64, .int .i64, .int .i64, .int .i64, .buf 0 4, .int .i64, .int .i64, .int .i64, .int .i64, .int .i64, .buf 1 3, .int .i64], .bool], [.ai (sI 4), .ai (sI 3)], 0⟩, []⟩
def t13 (m : Nat) : List Int -> Option (List Un) := fun a0 =>
 chk (decide (a0.length <= 140737488351232)) <|
 bif !(a0.length % 8 == 0) then
 some (Uns.enc ((⟨false, 0, 0, 0, 0, 0, 0, 0, 0, 0, 0⟩ : bK) : bK) ++ Uns.enc ((⟨0, 0, 0, 0, 0⟩ : bA) : bA) ++ [.i 0, .b false, .d ([]), .d ([])])
 else
 chk (decide ((iA a0).length < 1000000)) <|
 lt (((iA a0).length : Int) : Int) fun x1 =>
 chk (decide ((0 : Int).toNat + (x1.toNat : Int).toNat <= (iA a0).length)) <|
 bd ((dv 0 (x1.toNat : Int) false (iA a0)) : Dk) fun r2 =>
 bif !(!r2.r.bad && ((r2.r.n.toNat : Int).toNat : Int) == 0) then
 some (Uns.enc ((⟨false, 0, 0, 0, 0, 0, 0, 0, 0, 0, 0⟩ : bK) : bK) ++ Uns.enc ((⟨0, 0, 0, 0, 0⟩ : bA) : bA) ++ [.i 0, .b false, .d ([]), .d ([])])
 else
 chk (decide (r2.eG.length <= 1000000) && decide (r2.notes.length <= 1000000)) <|
 bif !(gz r2.ra r2.eG r2.rb r2.notes r2.next) then
 some (Uns.enc ((⟨false, 0, 0, 0, 0, 0, 0, 0, 0, 0, 0⟩ : bK) : bK) ++ Uns.enc ((⟨0, 0, 0, 0, 0⟩ : bA) : bA) ++ [.i 0, .b false, .d ([]), .d ([])])
 else
 some (Uns.enc (r2.ra : bK) ++ Uns.enc (r2.rb : bA) ++ [.i r2.next, .b true, .d r2.eG, .d r2.notes])
theorem Em (xs : List Int) : (dE xs).length = xs.length / 8 := by simp [dE]
theorem vn : ∀ (k : Nat) (r : RdR), (l8 k r).1.length = k
 | 0, r => rfl
 | k + 1, r => by simp only [l8, zae, vn k]
theorem vr : ∀ (k : Nat) (r : RdR), (jv k r).1.length = k
 | 0, r => rfl
 | k + 1, r => by simp only [jv, zae, vr k]
theorem Jz {o n : Int} {b : Bool} {l : List Int} (h : o.toNat + n.toNat <= l.length) : RdI (dv o n b l).r /\ (dv o n b l).eG.length <= 160 /\ (dv o n b l).notes.length <= 8 := by
 have i1 : RdI (rdM o n b l 1) := FY h; have i17 := cS (cS (cS (cS (cS (cS (cS (cS (cS (cS (cS (cS (cS (cS (cS (cS i1))))))))))))))); have i18 := Is (most := 160) i17; unfold dv; dsimp only; generalize nx (nx (nx (nx (nx (nx (nx (nx (nx (nx (nx (nx (nx (nx (nx (nx (rdM o n b l 1)))))))))))))))) = r17 at *
 have hv : 0 <= (mx r17 160).v /\ (mx r17 160).v <= 160 := B9 (by decide); have iP := CP (mx r17 160).v.toNat i18; have i24 := Is (most := 8) iP; have hw : 0 <= (mx (l8 (mx r17 160).v.toNat (mx r17 160)).2 8).v /\ (mx (l8 (mx r17 160).v.toNat (mx r17 160)).2 8).v <= 8 := B9 (by decide); refine ⟨Cs _ i24, ?_, ?_⟩
 . rw [vn]; omega
 . rw [vr]; omega
def f13 : List Int -> Bool × List Un := fun a0 => (decide (a0.length <= 1000000), Uns.enc (((dJ a0).ra) : bK) ++ Uns.enc (((dJ a0).rb) : bA) ++ [.i ((dJ a0).next), .b ((dJ a0).ok), .d ((dJ a0).eG), .d ((dJ a0).notes)])
theorem K4 (a0 : List Int) (hc : (decide (a0.length <= 1000000)) = true) : ∃ m, t13 m a0 = some (Uns.enc (((dJ a0).ra) : bK) ++ Uns.enc (((dJ a0).rb) : bA) ++ [.i ((dJ a0).next), .b ((dJ a0).ok), .d ((dJ a0).eG), .d ((dJ a0).notes)]) := by
 have hl := zaj hc; refine ⟨0, ?_⟩; unfold t13 dJ; refine bx (zai (by omega)) ?_
 cases h8 : (a0.length % 8 == 0) with
 | false => rfl
 | true =>
  have e : iA a0 = dE a0 := by unfold iA; rw [h8]; rfl
  rw [e]; have hw := Em a0; refine u9 rfl (bx (zai (by omega)) ?_); dsimp only [lt, bd]; refine bx (zai (by simp)) ?_
  rw [show (((dE a0).length : Int).toNat : Int) = ((dE a0).length : Int) from rfl]; obtain ⟨hI, hp, hn⟩ := Jz (o := 0) (n := ((dE a0).length : Int)) (b := false) (l := dE a0) (by simp); rw [zaE]; unfold CV; dsimp only; generalize dv 0 ((dE a0).length : Int) false (dE a0) = r at *
  rw [show ((r.r.n.toNat : Int).toNat : Int) = r.r.n from hI.2.1]; cases hb : (!r.r.bad && r.r.n == 0) with
  | false => rfl
  | true =>
   refine u9 rfl (bx (zaq.2 ⟨zai (by omega), zai (by omega)⟩) ?_); cases hr : gz r.ra r.eG r.rb r.notes r.next with
   | false => rfl
   | true => rfl
theorem B7 : ER 13 (mkE N13.en N13.ex f13) := an ah T12.right (fun m => []) (t := t13) (by kernel_rfl) (fun m => aB) (fun m a => by kernel_rfl) fun a0 hc => K4 a0 hc
def T13 : Tb Tryz.prog LQ TE XX := T12.add 13 _ B7
def Po : DA -> List Un := fun r => Uns.enc (r.ra : bK) ++ Uns.enc (r.rb : bA) ++ [.i r.next, .b r.ok, .d r.eG, .d r.notes]
def Ps : List Int -> Bool × DA := fun a0 => (decide (a0.length <= 1000000), (dJ a0))
theorem FE : ER 13 (mkB N13.en N13.ex Ps Po) := rebind B7 fun a0 => rfl
def PF : Tb Tryz.prog LQ TE XX := T13.add 13 _ FE
def E7 (T : ae) (l : List Dat) : Bool := @decide (T = cE de /\ l = k8) (Classical.propDecidable _)
theorem yR {T : ae} {l : List Dat} : E7 T l = true ↔ T = cE de /\ l = k8 := by unfold E7; simp
def N1 : Int × List Dat × aw × az × ak × List Dat × List Dat × List Dat × List Dat × List Dat × List Dat × List Dat -> Bool × List Un := fun (a0, a1, a2, a3, a4, a5, a6, a7, a8, a9, a10, a11) => (decide (0 <= a0) && E7 (⟨a2, a3, a4, a5, a6, a7, a8, a9, a10, a11⟩ : ae) a1, Uns.enc (((⟨false, 1, 0, 40, 0, 0, 0, 0, 0, 0, 0⟩ : bK)) : bK) ++ Uns.enc (((⟨0, 60, 0, 0, 0⟩ : bA)) : bA) ++ [.i (0), .i (0)] ++ Uns.enc (((aS (cE de) k8).t.a) : aw) ++ Uns.enc (((aS (cE de) k8).t.b) : az) ++ Uns.enc (((aS (cE de) k8).t.n) : ak) ++ [.d ((aS (cE de) k8).t.aZ), .d ((aS (cE de) k8).t.notes), .d ((aS (cE de) k8).t.s0), .d ((aS (cE de) k8).t.s1), .d ((aS (cE de) k8).t.s2), .d ((aS (cE de) k8).t.ba), .d ((aS (cE de) k8).t.tr), .d (([.r [.n 1, .n 7, .n 0, .n 40]] : List Dat)), .d (([.r [.n 60, .n 0, .n 0]] : List Dat))])
theorem FM : ER 11 (mkE N11.en N11.ex N1) := weaken Cp fun (a0, a1, a2, a3, a4, a5, a6, a7, a8, a9, a10, a11) hc => by
 have hc : (decide (0 <= a0) && E7 (⟨a2, a3, a4, a5, a6, a7, a8, a9, a10, a11⟩ : ae) a1) = true := hc; have h0 := (zaq.1 hc).1; obtain ⟨e1, e2⟩ := yR.1 (zaq.1 hc).2; have hq : (decide (0 <= a0) && sq (⟨a2, a3, a4, a5, a6, a7, a8, a9, a10, a11⟩ : ae)) = true := zaq.2 ⟨h0, by rw [e1]; exact sn.2 Ox⟩; obtain ⟨o1, o2, o3, o4, o5, o6⟩ := DK; refine Prod.ext (hq.trans hc.symm) ?_
 unfold f11 N1; dsimp only; rw [e1, e2, o1, o2, o3, o4, o5, o6]
def N0 : Tb Tryz.prog LQ TE XX := PF.add 11 _ FM
def qv : List Par := []
def N3w : aC := ⟨N0.tab, 3, ⟨List.map Par.vp qv, [], 0⟩, ⟨[.bool], [], 0⟩, []⟩
def t3w (m : Nat) : Unit -> Option (List Un) := fun _ =>
 chk (decide (de.aZ.length < 1000000 /\ de.notes.length < 1000000 /\ de.s0.length < 1000000 /\ de.s1.length < 1000000 /\ de.s2.length < 1000000)) <|
 lt (((if (cj de).isSome then 0 else -1) : Int) : Int) fun x1 =>
 bif ((decide (x1 < 0)) && true) then
 some ([.b false])
 else
 bif ((if (cj de).isSome then 0 else 2) : Int) != 0 then
 some ([.b false])
 else
 chk (decide (0 <= x1) && E7 (ij de) ([.r [.n 1, .n 40, .n 0, .n 0, .n 0, .n 0, .n (bI false)]] : List Dat)) <|
 lt ((⟨false, 1, 0, 40, 0, 0, 0, 0, 0, 0, 0⟩ : bK) : bK) fun g4 =>
 lt ((⟨0, 60, 0, 0, 0⟩ : bA) : bA) fun g5 =>
 chk (decide (([.r [.n 1, .n 7, .n 0, .n 40]] : List Dat).length <= 1000000) && decide (([.r [.n 60, .n 0, .n 0]] : List Dat).length <= 1000000)) <|
 lt ((ri g4 ([.r [.n 1, .n 7, .n 0, .n 40]] : List Dat) g5 ([.r [.n 60, .n 0, .n 0]] : List Dat) 0) : List Int) fun l6 =>
 chk (decide (l6.length <= 1000000)) <|
 bd ((dJ l6) : DA) fun r7 =>
 lt (ag ([.r [.n 1, .n 7, .n 0, .n 40]] : List Dat) 0 : Dat) fun d8 =>
 bif (d8.i 2) != 0 then
 chk (decide (([.r [.n 1, .n 7, .n 0, .n 40]] : List Dat).length <= 1000000) && decide (([.r [.n 60, .n 0, .n 0]] : List Dat).length <= 1000000)) <|
 bif (gz g4 ([.r [.n 1, .n 7, .n 0, .n 40]] : List Dat) g5 ([.r [.n 60, .n 0, .n 0]] : List Dat) 0) then
 bif ((l6.length : Int) == 208) then
 bif r7.ok then
 bif r7.ra.call == g4.call then
 bif (r7.ra.period == g4.period) then
 bif r7.ra.mode == g4.mode then
 bif ((r7.ra.aj == g4.aj) && ((r7.ra.cn == g4.cn) && ((r7.ra.aD == g4.aD) && ((r7.ra.aK == g4.aK) && true)))) then
 bif r7.ra.draw == g4.draw then
 bif (r7.ra.advance == g4.advance) then
 bif r7.ra.fee == g4.fee then
 bif r7.ra.due == g4.due then
 chk (decide (r7.eG.length < 1099511627776)) <|
 bif (fP 4 r7.eG ([.r [.n 1, .n 7, .n 0, .n 40]] : List Dat)) then
 bif (r7.rb.bL == g5.bL) then
 bif r7.rb.ba == g5.ba then
 bif (r7.rb.bf == g5.bf) then
 bif r7.rb.out == g5.out then
 bif r7.rb.kY == g5.kY then
 chk (decide (r7.notes.length < 1099511627776)) <|
 bif (fP 3 r7.notes ([.r [.n 60, .n 0, .n 0]] : List Dat)) then
 bif r7.next == 0 then
 some ([.b false])
 else
 some ([.b false])
 else
 some ([.b false])
 else
 some ([.b false])
 else
 some ([.b false])
 else
 some ([.b false])
 else
 some ([.b false])
 else
 some ([.b false])
 else
 some ([.b false])
 else
 some ([.b false])
 else
 some ([.b false])
 else
 some ([.b false])
 else
 some ([.b false])
 else
 some ([.b false])
 else
 some ([.b false])
 else
 some ([.b false])
 else
 some ([.b false])
 else
 some ([.b false])
 else
 some ([.b false])
 else
 some ([.b false])
 else
 bif (d8.i 1) == 3 then
 chk (decide (([.r [.n 1, .n 7, .n 0, .n 40]] : List Dat).length <= 1000000) && decide (([.r [.n 60, .n 0, .n 0]] : List Dat).length <= 1000000)) <|
 bif (gz g4 ([.r [.n 1, .n 7, .n 0, .n 40]] : List Dat) g5 ([.r [.n 60, .n 0, .n 0]] : List Dat) 0) then
 bif ((l6.length : Int) == 208) then
 bif r7.ok then
 bif r7.ra.call == g4.call then
 bif (r7.ra.period == g4.period) then
 bif r7.ra.mode == g4.mode then
 bif ((r7.ra.aj == g4.aj) && ((r7.ra.cn == g4.cn) && ((r7.ra.aD == g4.aD) && ((r7.ra.aK == g4.aK) && true)))) then
 bif r7.ra.draw == g4.draw then
 bif (r7.ra.advance == g4.advance) then
 bif r7.ra.fee == g4.fee then
 bif r7.ra.due == g4.due then
 chk (decide (r7.eG.length < 1099511627776)) <|
 bif (fP 4 r7.eG ([.r [.n 1, .n 7, .n 0, .n 40]] : List Dat)) then
 bif (r7.rb.bL == g5.bL) then
 bif r7.rb.ba == g5.ba then
 bif (r7.rb.bf == g5.bf) then
 bif r7.rb.out == g5.out then
 bif r7.rb.kY == g5.kY then
 chk (decide (r7.notes.length < 1099511627776)) <|
 bif (fP 3 r7.notes ([.r [.n 60, .n 0, .n 0]] : List Dat)) then
 bif r7.next == 0 then
 bif ((w64 (0 + (d8.i 3))) == 0) then
 some ([.b false])
 else
 some ([.b false])
 else
 some ([.b false])
 else
 some ([.b false])
 else
 some ([.b false])
 else
 some ([.b false])
 else
 some ([.b false])
 else
 some ([.b false])
 else
 some ([.b false])
 else
 some ([.b false])
 else
 some ([.b false])
 else
 some ([.b false])
 else
 some ([.b false])
 else
 some ([.b false])
 else
 some ([.b false])
 else
 some ([.b false])
 else
 some ([.b false])
 else
 some ([.b false])
 else
 some ([.b false])
 else
 some ([.b false])
 else
 some ([.b false])
 else
 chk (decide (([.r [.n 1, .n 7, .n 0, .n 40]] : List Dat).length <= 1000000) && decide (([.r [.n 60, .n 0, .n 0]] : List Dat).length <= 1000000)) <|
 bif (gz g4 ([.r [.n 1, .n 7, .n 0, .n 40]] : List Dat) g5 ([.r [.n 60, .n 0, .n 0]] : List Dat) 0) then
 bif ((l6.length : Int) == 208) then
 bif r7.ok then
 bif r7.ra.call == g4.call then
 bif (r7.ra.period == g4.period) then
 bif r7.ra.mode == g4.mode then
 bif ((r7.ra.aj == g4.aj) && ((r7.ra.cn == g4.cn) && ((r7.ra.aD == g4.aD) && ((r7.ra.aK == g4.aK) && true)))) then
 bif r7.ra.draw == g4.draw then
 bif (r7.ra.advance == g4.advance) then
 bif r7.ra.fee == g4.fee then
 bif r7.ra.due == g4.due then
 chk (decide (r7.eG.length < 1099511627776)) <|
 bif (fP 4 r7.eG ([.r [.n 1, .n 7, .n 0, .n 40]] : List Dat)) then
 bif (r7.rb.bL == g5.bL) then
 bif r7.rb.ba == g5.ba then
 bif (r7.rb.bf == g5.bf) then
 bif r7.rb.out == g5.out then
 bif r7.rb.kY == g5.kY then
 chk (decide (r7.notes.length < 1099511627776)) <|
 bif (fP 3 r7.notes ([.r [.n 60, .n 0, .n 0]] : List Dat)) then
 bif r7.next == 0 then
 some ([.b ((w64 (0 + (d8.i 3))) == 40)])
 else
 some ([.b false])
 else
 some ([.b false])
 else
 some ([.b false])
 else
 some ([.b false])
 else
 some ([.b false])
 else
 some ([.b false])
 else
 some ([.b false])
 else
 some ([.b false])
 else
 some ([.b false])
 else
 some ([.b false])
 else
 some ([.b false])
 else
 some ([.b false])
 else
 some ([.b false])
 else
 some ([.b false])
 else
 some ([.b false])
 else
 some ([.b false])
 else
 some ([.b false])
 else
 some ([.b false])
 else
 some ([.b false])
theorem Lr  : ∃ m, t3w m () = some [.b true] := by
 refine ⟨0, ?_⟩; unfold t3w; dsimp only [lt]; refine bx (by kernel_rfl) ?_
 refine u9 (by kernel_rfl) (u9 (by kernel_rfl) (bx (zaq.2 ⟨by kernel_rfl, yR.2 ⟨Ey, rfl⟩⟩) ?_))
 kernel_rfl
set_option maxRecDepth 20000 in
theorem sh {HH : Type} {enc : TypeId × Value -> HH} {w : World} {base : Nat} {vs : List Value} {ds : List (DataW HH)} {ps : List MemPlace} (hsh : w.ShapedOpen Tryz.prog)
 (hd : DataW.TrodAll enc Tryz.prog w 0 (fun _ => true) true Tryz.f3.params.toList vs ds ps) {us' : List TypeId} {gs : List (DataW HH)} (hz : (DataW.weightsEach Tryz.prog (Tryz.f3.params.toList ++ us') (ds ++ gs)).all (· <= reachBytes) = true) (hval : ∀ (j : Nat) t v, Tryz.f3.params.toList[j]? = some t -> vs[j]? = some v -> Value.okWide Tryz.prog w .any base t v) :
 Calls Tryz.prog 3 vs.toArray w fun e w' => e = .returned (.bool true) /\ RowKit.Below w.heap.size w w' :=
 FT Seat.mix Seat.names FJ KC (pars := qv) (by kernel_rfl) (fun us h => by
  change WfU [] us at h; obtain rfl := FF h; obtain ⟨m, hm⟩ := Lr; have G : N3w.Ar Tryz.prog LQ KN (Uns.enc ()) ([]) = t3w m () := by kernel_rfl
  exact N3w.KL ah N0.right (W := []) (by kernel_rfl) (by kernel_rfl) (by kernel_rfl) aB (G.trans hm)) hsh hd hz hval
end
end Go.Proofs.YtcbnpnaagbhknaaGreat
