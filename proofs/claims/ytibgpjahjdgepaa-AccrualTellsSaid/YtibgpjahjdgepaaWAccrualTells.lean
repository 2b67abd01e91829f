/- The law 'AccrualTells' answers true, whatever whole numbers it is given. Conditions: none. -/
import Derived.Test.YtibgpjahjdgepaaAccrAid
import Derived.Test.YtibgpjahjdgepaaF17
namespace Go.Proofs.Ytibgpjahjdgepaa
open Go Go.Proofs.Ytibgpjahjdgepaa.Ev
set_option linter.unusedVariables false
set_option linter.unusedSimpArgs false
set_option linter.unnecessarySimpa false
/-- A name for a value. -/
def lt {α β : Type} (v : α) (f : α → β) : β := f v
def teL : List (FuncId × (List Value → Option (Bool × Value))) := [(7, e7), (17, e17), (20, e20), (21, e21), (23, e23), (24, e24), (25, e25), (26, e26), (27, e27), (32, e32), (33, e33), (35, e35), (36, e36), (37, e37), (38, e38), (39, e39), (40, e40), (45, e45), (46, e46), (48, e48)]
def TE : Tab := tabOf teL
def KN : FuncId → Bool := knOf teL
theorem TE_right : Known.right Try.prog TE := tab_right (all1 right7 (all1 right17 (all1 right20 (all1 right21 (all1 right23 (all1 right24 (all1 right25 (all1 right26 (all1 right27 (all1 right32 (all1 right33 (all1 right35 (all1 right36 (all1 right37 (all1 right38 (all1 right39 (all1 right40 (all1 right45 (all1 right46 (all1 right48 all0))))))))))))))))))))
theorem KN_none : ∀ g, KN g = false → ∀ args, ofTab TE g args = none := knOf_none
def dayT (n : Int) : Int := bif (IntKind.i64.wrap ((BitVec.ofInt 64 n &&& BitVec.ofInt 64 31).toNat)) == 7 then 31 else dateD (within n (-5) 3652063)

/-! cascade/cascadelaw3.date -/
def N22 : Pn := ⟨[.int .i64], []⟩
def X22 : Pn := ⟨[.agg [.int .i64, .int .i64, .int .i64], .agg [.int .i64, .int .i64, .int .i64]], []⟩
def t22 (m : Nat) (a0 : Int) : Option (List Un) :=
  lt ((within a0 (-5) 3652063) : Int) fun x1 =>
  bif (IntKind.i64.wrap ((BitVec.ofInt 64 a0 &&& BitVec.ofInt 64 31).toNat)) == 7 then
   some [.i (dateY x1), .i (dateM x1), .i 31, .i (dateY x1), .i (dateM x1), .i 31]
  else
   some [.i (dateY x1), .i (dateM x1), .i (dateD x1), .i (dateY x1), .i (dateM x1), .i (dateD x1)]
def T22 : TabS := tabS TE []
theorem T22_right : TabRight Try.prog [] (ofTab TE) T22 := tabS_right all0
theorem G22 (m : Nat) (a0 : Int) : roadInS Try.prog [] T22 KN (fnOf Try.prog 22) N22 [.i a0] (kksS Try.prog (fnOf Try.prog 22).results.toList X22 0 []) = t22 m a0 := by kernel_rfl
theorem tells22 (m : Nat) (a0 : Int) {ys : List Un} (h : t22 m a0 = some ys) : TellsS Try.prog [] (ofTab TE) 22 N22 X22 [.i a0] ys :=
  tells_road KN_none T22_right (W := []) (by kernel_rfl) (by kernel_rfl) (by kernel_rfl)
    all0 ((G22 m a0).trans h)


def q22 : List Un → Option (Bool × List Un)
  | [.i a0] => some (true, [.i (dateY (within a0 (-5) 3652063)), .i (dateM (within a0 (-5) 3652063)), .i (dayT a0), .i (dateY (within a0 (-5) 3652063)), .i (dateM (within a0 (-5) 3652063)), .i (dayT a0)])
  | _ => none
def e22 : EntS := ⟨N22, X22, q22⟩

theorem spec22 (a0 : Int) : ∃ m, t22 m a0 = some [.i (dateY (within a0 (-5) 3652063)), .i (dateM (within a0 (-5) 3652063)), .i (dayT a0), .i (dateY (within a0 (-5) 3652063)), .i (dateM (within a0 (-5) 3652063)), .i (dayT a0)] := by
  refine ⟨0, ?_⟩
  unfold t22 dayT
  cases ((IntKind.i64.wrap ((BitVec.ofInt 64 a0 &&& BitVec.ofInt 64 31).toNat)) == 7) <;> rfl

theorem right22 : EntSRight Try.prog [] (ofTab TE) 22 e22 := by
  intro us ys h
  replace h : q22 us = some (true, ys) := h
  unfold q22 at h
  split at h
  · rename_i a0
    simp only [Option.some.injEq, Prod.mk.injEq, true_and] at h
    obtain rfl := h
    obtain ⟨m, hm⟩ := spec22 a0
    exact tells22 m a0 hm
  · cases h


/-! cascade/cascadelaw3.AccrualTells -/
def N8 : Pn := ⟨[.int .i64, .int .i64, .int .i64, .int .i64, .int .i64], []⟩
def X8 : Pn := ⟨[.bool], []⟩
def t8 (m : Nat) (a0 : Int) (a1 : Int) (a2 : Int) (a3 : Int) (a4 : Int) : Option (List Un) :=
  lt ((dateY (within a3 (-5) 3652063)) : Int) fun x1 =>
  lt ((dateM (within a3 (-5) 3652063)) : Int) fun x2 =>
  lt ((dateY (within a3 (-5) 3652063)) : Int) fun x3 =>
  lt ((dateM (within a3 (-5) 3652063)) : Int) fun x4 =>
  lt ((dateY (within a4 (-5) 3652063)) : Int) fun x5 =>
  lt ((dateM (within a4 (-5) 3652063)) : Int) fun x6 =>
  lt ((dateY (within a4 (-5) 3652063)) : Int) fun x7 =>
  lt ((dateM (within a4 (-5) 3652063)) : Int) fun x8 =>
  bif (daysN (within a2 (-1) 4) x1 x2 (dayT a3) x5 x6 (dayT a4)) == (daysN (within a2 (-1) 4) x3 x4 (dayT a3) x7 x8 (dayT a4)) then
   bif (perN (within a2 (-1) 4)) == (perN (within a2 (-1) 4)) then
    bif (intV a0 a1 (within a2 (-1) 4) x1 x2 (dayT a3) x5 x6 (dayT a4)) == (intV a0 a1 (within a2 (-1) 4) x3 x4 (dayT a3) x7 x8 (dayT a4)) then
     bif (intOk a0 a1 (within a2 (-1) 4) x1 x2 (dayT a3) x5 x6 (dayT a4)) == (intOk a0 a1 (within a2 (-1) 4) x3 x4 (dayT a3) x7 x8 (dayT a4)) then
      some [.b true]
     else
      some [.b false]
    else
     some [.b false]
   else
    some [.b false]
  else
   some [.b false]
def T8 : TabS := tabS TE [(22, e22)]
theorem T8_right : TabRight Try.prog [] (ofTab TE) T8 := tabS_right (all1 right22 all0)
theorem G8 (m : Nat) (a0 : Int) (a1 : Int) (a2 : Int) (a3 : Int) (a4 : Int) : roadInS Try.prog [] T8 KN (fnOf Try.prog 8) N8 [.i a0, .i a1, .i a2, .i a3, .i a4] (kksS Try.prog (fnOf Try.prog 8).results.toList X8 0 []) = t8 m a0 a1 a2 a3 a4 := by kernel_rfl
theorem tells8 (m : Nat) (a0 : Int) (a1 : Int) (a2 : Int) (a3 : Int) (a4 : Int) {ys : List Un} (h : t8 m a0 a1 a2 a3 a4 = some ys) : TellsS Try.prog [] (ofTab TE) 8 N8 X8 [.i a0, .i a1, .i a2, .i a3, .i a4] ys :=
  tells_road KN_none T8_right (W := []) (by kernel_rfl) (by kernel_rfl) (by kernel_rfl)
    all0 ((G8 m a0 a1 a2 a3 a4).trans h)


theorem spec8 (a0 : Int) (w0 : (Lit.int .i64 a0).wf = true) (a1 : Int) (w1 : (Lit.int .i64 a1).wf = true) (a2 : Int) (w2 : (Lit.int .i64 a2).wf = true) (a3 : Int) (w3 : (Lit.int .i64 a3).wf = true) (a4 : Int) (w4 : (Lit.int .i64 a4).wf = true) : ∃ m, t8 m a0 a1 a2 a3 a4 = some [.b true] := by
  refine ⟨0, ?_⟩
  unfold t8
  simp [lt]

theorem walkAccrualTells (w : World) (a0 : Int) (w0 : (Lit.int .i64 a0).wf = true) (a1 : Int) (w1 : (Lit.int .i64 a1).wf = true) (a2 : Int) (w2 : (Lit.int .i64 a2).wf = true) (a3 : Int) (w3 : (Lit.int .i64 a3).wf = true) (a4 : Int) (w4 : (Lit.int .i64 a4).wf = true) : Calls Try.prog 8 #[.int .i64 a0, .int .i64 a1, .int .i64 a2, .int .i64 a3, .int .i64 a4] w fun e w' => e = .returned (.bool true) ∧ RowKit.Below w.heap.size w w' := by
  obtain ⟨m, hm⟩ := spec8 a0 w0 a1 w1 a2 w2 a3 w3 a4 w4
  exact law_lists Seat.mix Seat.names TE_right (xs := [.i .i64 a0, .i .i64 a1, .i .i64 a2, .i .i64 a3, .i .i64 a4]) (vps := N8.vals) (tells8 m a0 a1 a2 a3 a4 hm) (by simp only [List.map_cons, List.map_nil] <;> rfl) (by simp only [List.map_cons, List.map_nil] <;> rfl)
    (by intro a ha; simp only [List.mem_cons, List.not_mem_nil, or_false] at ha; rcases ha with rfl | rfl | rfl | rfl | rfl <;> first | assumption | trivial)
end Go.Proofs.Ytibgpjahjdgepaa
