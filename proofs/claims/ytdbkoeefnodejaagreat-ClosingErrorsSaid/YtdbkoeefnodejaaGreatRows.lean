/-
  No cell of these rows narrows 'for every input' (looked for: loops, veiled, ifaces, maps, wideKeys, modest, calm, conditions, laid).
  DERIVED. THE GIVEN ROWS OF THIS SEAT. 8 by the template 'for every input the law returns true; each argument reads behind the call as it read before'; 0 by the template 'total and deterministic' (their statements: YtdbkoeefnodejaaGreatTotals.lean).
  GIVEN WITH THE SEED: the statements are not yours to turn. If you find one false, say at which input.
  Laid BY PROGRAM, IN A SANDBOX (cutbox-rows.mjs): the forced cells as the released guide's own fill.sh prints them over the translation 5d9a1af46dd01a2a… (all of the seat's roots in one cut). By AI agents, Wed Nov 11 2026. No macro, syntax, notation, axiom, sorry.
-/
import Derived.Test.YtdbkoeefnodejaaGreatChecked
import GoSem.Claim
import GoSem.ClaimJoined
import GoSem.ClaimMapViews
import Derived.JoinedTies
import Derived.KernelRfl
namespace Go.Proofs.YtdbkoeefnodejaaGreat
/- THE CELL 'sum', in the pinned program and in every row, IS THE sha256 OF THE DUMP (.gsa) THAT YtdbkoeefnodejaaGreatProg.lean LOADS. Nothing in Lean hashes anything: it is a label: what it is worth is what the hold of that sum in a sandbox is worth. -/
noncomputable def Tryz.pinned : Pinned := { name := "ytdbkoeefnodejaagreat", sum := "5d9a1af46dd01a2ad94d0f4d6254886f8a67f5b50439969a2b97eb576528280b", checked := Tryz.checked }
namespace Rows
def none {H : Type} : Left H := { results := [], args := [] }

/-- 'cascadelaw21.ClosingRuns': WHATEVER THE INPUT: true; the input reads as it did. -/
def closingRunsSpec : ChangeSpec := { name := "closingRuns", fn := fun _ => fun
  | [] => { results := [.lit (.bool true)], args := [] }
  | _ => none }
def closingRunsRow : OpenClaim := { program := "ytdbkoeefnodejaagreat", sum := "5d9a1af46dd01a2ad94d0f4d6254886f8a67f5b50439969a2b97eb576528280b", func := "cascade/cascadelaw21.ClosingRuns", spec := "closingRuns", unfollowed := true, recurses := true, named := ["math/bits.divideError", "math/bits.overflowError"], apart := false }
def ClosingRunsSaid : Prop := closingRunsRow.holds Tryz.pinned (OpenSpec.ofChange closingRunsSpec)

/-- ITS FALSE NEIGHBOUR: 'it returns false'. Refute it at one input. -/
def closingRunsWrong : ChangeSpec := { name := "closingRuns", fn := fun _ => fun
  | [] => { results := [.lit (.bool false)], args := [] }
  | _ => none }
def ClosingRunsWrongFalsely : Prop := closingRunsRow.holds Tryz.pinned (OpenSpec.ofChange closingRunsWrong)

/-- 'cascadelaw21.ClosingCents': WHATEVER THE INPUT: true; the input reads as it did. -/
def closingCentsSpec : ChangeSpec := { name := "closingCents", fn := fun _ => fun
  | [d1, d2] => { results := [.lit (.bool true)], args := [d1, d2] }
  | _ => none }
def closingCentsRow : OpenClaim := { program := "ytdbkoeefnodejaagreat", sum := "5d9a1af46dd01a2ad94d0f4d6254886f8a67f5b50439969a2b97eb576528280b", func := "cascade/cascadelaw21.ClosingCents", spec := "closingCents", unfollowed := true, recurses := true, named := ["math/bits.divideError", "math/bits.overflowError"], apart := false }
def ClosingCentsSaid : Prop := closingCentsRow.holds Tryz.pinned (OpenSpec.ofChange closingCentsSpec)

/-- ITS FALSE NEIGHBOUR: 'it returns false'. Refute it at one input. -/
def closingCentsWrong : ChangeSpec := { name := "closingCents", fn := fun _ => fun
  | [d1, d2] => { results := [.lit (.bool false)], args := [d1, d2] }
  | _ => none }
def ClosingCentsWrongFalsely : Prop := closingCentsRow.holds Tryz.pinned (OpenSpec.ofChange closingCentsWrong)

/-- 'cascadelaw21.ClosingNothing': WHATEVER THE INPUT: true; the input reads as it did. -/
def closingNothingSpec : ChangeSpec := { name := "closingNothing", fn := fun _ => fun
  | [d] => { results := [.lit (.bool true)], args := [d] }
  | _ => none }
def closingNothingRow : OpenClaim := { program := "ytdbkoeefnodejaagreat", sum := "5d9a1af46dd01a2ad94d0f4d6254886f8a67f5b50439969a2b97eb576528280b", func := "cascade/cascadelaw21.ClosingNothing", spec := "closingNothing", unfollowed := true, recurses := true, named := ["math/bits.divideError", "math/bits.overflowError"], apart := false }
def ClosingNothingSaid : Prop := closingNothingRow.holds Tryz.pinned (OpenSpec.ofChange closingNothingSpec)

/-- ITS FALSE NEIGHBOUR: 'it returns false'. Refute it at one input. -/
def closingNothingWrong : ChangeSpec := { name := "closingNothing", fn := fun _ => fun
  | [d] => { results := [.lit (.bool false)], args := [d] }
  | _ => none }
def ClosingNothingWrongFalsely : Prop := closingNothingRow.holds Tryz.pinned (OpenSpec.ofChange closingNothingWrong)

/-- 'cascadelaw21.ClosingModes': WHATEVER THE INPUT: true; the input reads as it did. -/
def closingModesSpec : ChangeSpec := { name := "closingModes", fn := fun _ => fun
  | [d1, d2] => { results := [.lit (.bool true)], args := [d1, d2] }
  | _ => none }
def closingModesRow : OpenClaim := { program := "ytdbkoeefnodejaagreat", sum := "5d9a1af46dd01a2ad94d0f4d6254886f8a67f5b50439969a2b97eb576528280b", func := "cascade/cascadelaw21.ClosingModes", spec := "closingModes", unfollowed := true, recurses := true, named := ["math/bits.divideError", "math/bits.overflowError"], apart := false }
def ClosingModesSaid : Prop := closingModesRow.holds Tryz.pinned (OpenSpec.ofChange closingModesSpec)

/-- ITS FALSE NEIGHBOUR: 'it returns false'. Refute it at one input. -/
def closingModesWrong : ChangeSpec := { name := "closingModes", fn := fun _ => fun
  | [d1, d2] => { results := [.lit (.bool false)], args := [d1, d2] }
  | _ => none }
def ClosingModesWrongFalsely : Prop := closingModesRow.holds Tryz.pinned (OpenSpec.ofChange closingModesWrong)

/-- 'cascadelaw21.ClosingAll': WHATEVER THE INPUT: true; the input reads as it did. -/
def closingAllSpec : ChangeSpec := { name := "closingAll", fn := fun _ => fun
  | [d1, d2] => { results := [.lit (.bool true)], args := [d1, d2] }
  | _ => none }
def closingAllRow : OpenClaim := { program := "ytdbkoeefnodejaagreat", sum := "5d9a1af46dd01a2ad94d0f4d6254886f8a67f5b50439969a2b97eb576528280b", func := "cascade/cascadelaw21.ClosingAll", spec := "closingAll", unfollowed := true, recurses := true, named := ["math/bits.divideError", "math/bits.overflowError"], apart := false }
def ClosingAllSaid : Prop := closingAllRow.holds Tryz.pinned (OpenSpec.ofChange closingAllSpec)

/-- ITS FALSE NEIGHBOUR: 'it returns false'. Refute it at one input. -/
def closingAllWrong : ChangeSpec := { name := "closingAll", fn := fun _ => fun
  | [d1, d2] => { results := [.lit (.bool false)], args := [d1, d2] }
  | _ => none }
def ClosingAllWrongFalsely : Prop := closingAllRow.holds Tryz.pinned (OpenSpec.ofChange closingAllWrong)

/-- 'cascadelaw21.ClosingCopies': WHATEVER THE INPUT: true; the input reads as it did. -/
def closingCopiesSpec : ChangeSpec := { name := "closingCopies", fn := fun _ => fun
  | [d1, d2] => { results := [.lit (.bool true)], args := [d1, d2] }
  | _ => none }
def closingCopiesRow : OpenClaim := { program := "ytdbkoeefnodejaagreat", sum := "5d9a1af46dd01a2ad94d0f4d6254886f8a67f5b50439969a2b97eb576528280b", func := "cascade/cascadelaw21.ClosingCopies", spec := "closingCopies", unfollowed := true, recurses := true, named := ["math/bits.divideError", "math/bits.overflowError"], apart := false }
def ClosingCopiesSaid : Prop := closingCopiesRow.holds Tryz.pinned (OpenSpec.ofChange closingCopiesSpec)

/-- ITS FALSE NEIGHBOUR: 'it returns false'. Refute it at one input. -/
def closingCopiesWrong : ChangeSpec := { name := "closingCopies", fn := fun _ => fun
  | [d1, d2] => { results := [.lit (.bool false)], args := [d1, d2] }
  | _ => none }
def ClosingCopiesWrongFalsely : Prop := closingCopiesRow.holds Tryz.pinned (OpenSpec.ofChange closingCopiesWrong)

/-- 'cascadelaw21.ClosingPlays': WHATEVER THE INPUT: true; the input reads as it did. -/
def closingPlaysSpec : ChangeSpec := { name := "closingPlays", fn := fun _ => fun
  | [d1, d2, d3, d4, d5] => { results := [.lit (.bool true)], args := [d1, d2, d3, d4, d5] }
  | _ => none }
def closingPlaysRow : OpenClaim := { program := "ytdbkoeefnodejaagreat", sum := "5d9a1af46dd01a2ad94d0f4d6254886f8a67f5b50439969a2b97eb576528280b", func := "cascade/cascadelaw21.ClosingPlays", spec := "closingPlays", unfollowed := true, recurses := true, named := ["math/bits.divideError", "math/bits.overflowError"], apart := false }
def ClosingPlaysSaid : Prop := closingPlaysRow.holds Tryz.pinned (OpenSpec.ofChange closingPlaysSpec)

/-- ITS FALSE NEIGHBOUR: 'it returns false'. Refute it at one input. -/
def closingPlaysWrong : ChangeSpec := { name := "closingPlays", fn := fun _ => fun
  | [d1, d2, d3, d4, d5] => { results := [.lit (.bool false)], args := [d1, d2, d3, d4, d5] }
  | _ => none }
def ClosingPlaysWrongFalsely : Prop := closingPlaysRow.holds Tryz.pinned (OpenSpec.ofChange closingPlaysWrong)

/-- 'cascadelaw21.ClosingErrors': WHATEVER THE INPUT: true; the input reads as it did. -/
def closingErrorsSpec : ChangeSpec := { name := "closingErrors", fn := fun _ => fun
  | [d1, d2, d3] => { results := [.lit (.bool true)], args := [d1, d2, d3] }
  | _ => none }
def closingErrorsRow : OpenClaim := { program := "ytdbkoeefnodejaagreat", sum := "5d9a1af46dd01a2ad94d0f4d6254886f8a67f5b50439969a2b97eb576528280b", func := "cascade/cascadelaw21.ClosingErrors", spec := "closingErrors", unfollowed := true, recurses := true, named := ["math/bits.divideError", "math/bits.overflowError"], apart := false }
def ClosingErrorsSaid : Prop := closingErrorsRow.holds Tryz.pinned (OpenSpec.ofChange closingErrorsSpec)

/-- ITS FALSE NEIGHBOUR: 'it returns false'. Refute it at one input. -/
def closingErrorsWrong : ChangeSpec := { name := "closingErrors", fn := fun _ => fun
  | [d1, d2, d3] => { results := [.lit (.bool false)], args := [d1, d2, d3] }
  | _ => none }
def ClosingErrorsWrongFalsely : Prop := closingErrorsRow.holds Tryz.pinned (OpenSpec.ofChange closingErrorsWrong)

/- THE SECOND FORM. 'bulk': how many values and letters a reading holds, each counted each time it is reached (what is shared counts as often as it is met; a slice's spare places count too). A statement '..UptoSaid' is the law's where the arguments, and the package variables that the reading takes, are together of bulk at most 1048576: NARROWER than '..Said'. Prove '..Said' where nothing that the law and all that it calls make is longer than what came in: it says more and counts as full. Else prove '..UptoSaid'. A law counts once. -/
mutual
def uptoBulk {H : Type} : DataW H → Nat
  | .lit (.string bytes) => bytes.length + 1
  | .lit _ => 1
  | .nil => 1
  | .ptr d => uptoBulk d + 1
  | .slice elems spare => uptoBulkAll elems + uptoBulkAll spare + 1
  | .agg parts => uptoBulkAll parts + 1
  | .iface _ d => uptoBulk d + 1
  | .map entries => uptoBulkEntries entries + 1
  | .held _ => 1
def uptoBulkAll {H : Type} : List (DataW H) → Nat
  | [] => 0
  | d :: r => uptoBulk d + uptoBulkAll r
def uptoBulkEntries {H : Type} : List (Lit × DataW H) → Nat
  | [] => 0
  | x :: r => uptoBulkEntry x + uptoBulkEntries r
def uptoBulkEntry {H : Type} : Lit × DataW H → Nat
  | (.string bytes, d) => bytes.length + uptoBulk d + 1
  | (_, d) => uptoBulk d + 1
 end
def uptoSmall : (H : Type) → List (DataW H) → Bool := fun _ ds => decide (uptoBulkAll ds ≤ 1048576)
def OpenSpec.upto (s : _root_.Go.ChangeSpec) : _root_.Go.OpenSpec := { _root_.Go.OpenSpec.ofChange s with cond := some uptoSmall }

/-- 'cascadelaw21.ClosingRuns', WHERE WHAT IT READS IS OF BULK AT MOST 1048576: true; the input reads as it did. -/
def closingRunsUptoRow : OpenClaim := { program := "ytdbkoeefnodejaagreat", sum := "5d9a1af46dd01a2ad94d0f4d6254886f8a67f5b50439969a2b97eb576528280b", func := "cascade/cascadelaw21.ClosingRuns", spec := "closingRuns", unfollowed := true, recurses := true, named := ["math/bits.divideError", "math/bits.overflowError"], apart := false, narrowed := true }
def ClosingRunsUptoSaid : Prop := closingRunsUptoRow.holds Tryz.pinned (OpenSpec.upto closingRunsSpec)

/-- 'cascadelaw21.ClosingCents', WHERE WHAT IT READS IS OF BULK AT MOST 1048576: true; the input reads as it did. -/
def closingCentsUptoRow : OpenClaim := { program := "ytdbkoeefnodejaagreat", sum := "5d9a1af46dd01a2ad94d0f4d6254886f8a67f5b50439969a2b97eb576528280b", func := "cascade/cascadelaw21.ClosingCents", spec := "closingCents", unfollowed := true, recurses := true, named := ["math/bits.divideError", "math/bits.overflowError"], apart := false, narrowed := true }
def ClosingCentsUptoSaid : Prop := closingCentsUptoRow.holds Tryz.pinned (OpenSpec.upto closingCentsSpec)

/-- 'cascadelaw21.ClosingNothing', WHERE WHAT IT READS IS OF BULK AT MOST 1048576: true; the input reads as it did. -/
def closingNothingUptoRow : OpenClaim := { program := "ytdbkoeefnodejaagreat", sum := "5d9a1af46dd01a2ad94d0f4d6254886f8a67f5b50439969a2b97eb576528280b", func := "cascade/cascadelaw21.ClosingNothing", spec := "closingNothing", unfollowed := true, recurses := true, named := ["math/bits.divideError", "math/bits.overflowError"], apart := false, narrowed := true }
def ClosingNothingUptoSaid : Prop := closingNothingUptoRow.holds Tryz.pinned (OpenSpec.upto closingNothingSpec)

/-- 'cascadelaw21.ClosingModes', WHERE WHAT IT READS IS OF BULK AT MOST 1048576: true; the input reads as it did. -/
def closingModesUptoRow : OpenClaim := { program := "ytdbkoeefnodejaagreat", sum := "5d9a1af46dd01a2ad94d0f4d6254886f8a67f5b50439969a2b97eb576528280b", func := "cascade/cascadelaw21.ClosingModes", spec := "closingModes", unfollowed := true, recurses := true, named := ["math/bits.divideError", "math/bits.overflowError"], apart := false, narrowed := true }
def ClosingModesUptoSaid : Prop := closingModesUptoRow.holds Tryz.pinned (OpenSpec.upto closingModesSpec)

/-- 'cascadelaw21.ClosingAll', WHERE WHAT IT READS IS OF BULK AT MOST 1048576: true; the input reads as it did. -/
def closingAllUptoRow : OpenClaim := { program := "ytdbkoeefnodejaagreat", sum := "5d9a1af46dd01a2ad94d0f4d6254886f8a67f5b50439969a2b97eb576528280b", func := "cascade/cascadelaw21.ClosingAll", spec := "closingAll", unfollowed := true, recurses := true, named := ["math/bits.divideError", "math/bits.overflowError"], apart := false, narrowed := true }
def ClosingAllUptoSaid : Prop := closingAllUptoRow.holds Tryz.pinned (OpenSpec.upto closingAllSpec)

/-- 'cascadelaw21.ClosingCopies', WHERE WHAT IT READS IS OF BULK AT MOST 1048576: true; the input reads as it did. -/
def closingCopiesUptoRow : OpenClaim := { program := "ytdbkoeefnodejaagreat", sum := "5d9a1af46dd01a2ad94d0f4d6254886f8a67f5b50439969a2b97eb576528280b", func := "cascade/cascadelaw21.ClosingCopies", spec := "closingCopies", unfollowed := true, recurses := true, named := ["math/bits.divideError", "math/bits.overflowError"], apart := false, narrowed := true }
def ClosingCopiesUptoSaid : Prop := closingCopiesUptoRow.holds Tryz.pinned (OpenSpec.upto closingCopiesSpec)

/-- 'cascadelaw21.ClosingPlays', WHERE WHAT IT READS IS OF BULK AT MOST 1048576: true; the input reads as it did. -/
def closingPlaysUptoRow : OpenClaim := { program := "ytdbkoeefnodejaagreat", sum := "5d9a1af46dd01a2ad94d0f4d6254886f8a67f5b50439969a2b97eb576528280b", func := "cascade/cascadelaw21.ClosingPlays", spec := "closingPlays", unfollowed := true, recurses := true, named := ["math/bits.divideError", "math/bits.overflowError"], apart := false, narrowed := true }
def ClosingPlaysUptoSaid : Prop := closingPlaysUptoRow.holds Tryz.pinned (OpenSpec.upto closingPlaysSpec)

/-- 'cascadelaw21.ClosingErrors', WHERE WHAT IT READS IS OF BULK AT MOST 1048576: true; the input reads as it did. -/
def closingErrorsUptoRow : OpenClaim := { program := "ytdbkoeefnodejaagreat", sum := "5d9a1af46dd01a2ad94d0f4d6254886f8a67f5b50439969a2b97eb576528280b", func := "cascade/cascadelaw21.ClosingErrors", spec := "closingErrors", unfollowed := true, recurses := true, named := ["math/bits.divideError", "math/bits.overflowError"], apart := false, narrowed := true }
def ClosingErrorsUptoSaid : Prop := closingErrorsUptoRow.holds Tryz.pinned (OpenSpec.upto closingErrorsSpec)

end Rows
end Go.Proofs.YtdbkoeefnodejaaGreat
