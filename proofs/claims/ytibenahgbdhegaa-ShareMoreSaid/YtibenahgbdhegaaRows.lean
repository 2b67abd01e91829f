/-
  No cell of these rows narrows 'for every input' (looked for: loops, veiled, ifaces, maps, wideKeys, modest, calm, conditions, laid).
  DERIVED. THE GIVEN ROWS OF THIS SEAT. 6 by the template 'for every input the law returns true; each argument reads behind the call as it read before'; 0 by the template 'total and deterministic' (their statements: YtibenahgbdhegaaTotals.lean).
  GIVEN WITH THE SEED: the statements are not yours to turn. If you find one false, say at which input.
  Laid BY PROGRAM, IN A SANDBOX (cutbox-rows.mjs): the forced cells as the released guide's own fill.sh prints them over the translation bf56cf53aa60ec47… (all of the seat's roots in one cut). By AI agents, Wed Nov 11 2026. No macro, syntax, notation, axiom, sorry.
-/
import Derived.Test.YtibenahgbdhegaaChecked
import GoSem.Claim
import GoSem.ClaimJoined
import GoSem.ClaimMapViews
import Derived.JoinedTies
import Derived.KernelRfl
namespace Go.Proofs.Ytibenahgbdhegaa
/- THE CELL 'sum', in the pinned program and in every row, IS THE sha256 OF THE DUMP (.gsa) THAT YtibenahgbdhegaaProg.lean LOADS. Nothing in Lean hashes anything: it is a label: what it is worth is what the hold of that sum in a sandbox is worth. -/
noncomputable def Try.pinned : Pinned := { name := "ytibenahgbdhegaa", sum := "bf56cf53aa60ec4722f79e02c0af30bbcab967e63bfa38361105a292156e40f6", checked := Try.checked }
namespace Rows
def none {H : Type} : Left H := { results := [], args := [] }

/-- 'cascadelaw4.ShareRuns': WHATEVER THE INPUT: true; the input reads as it did. -/
def shareRunsSpec : ChangeSpec := { name := "shareRuns", fn := fun _ => fun
  | [] => { results := [.lit (.bool true)], args := [] }
  | _ => none }
def shareRunsRow : OpenClaim := { program := "ytibenahgbdhegaa", sum := "bf56cf53aa60ec4722f79e02c0af30bbcab967e63bfa38361105a292156e40f6", func := "cascade/cascadelaw4.ShareRuns", spec := "shareRuns", named := ["math/bits.divideError", "math/bits.overflowError"], apart := false }
def ShareRunsSaid : Prop := shareRunsRow.holds Try.pinned (OpenSpec.ofChange shareRunsSpec)

/-- ITS FALSE NEIGHBOUR: 'it returns false'. Refute it at one input. -/
def shareRunsWrong : ChangeSpec := { name := "shareRuns", fn := fun _ => fun
  | [] => { results := [.lit (.bool false)], args := [] }
  | _ => none }
def ShareRunsWrongFalsely : Prop := shareRunsRow.holds Try.pinned (OpenSpec.ofChange shareRunsWrong)

/-- 'cascadelaw4.ShareTells': WHATEVER THE INPUT: true; the input reads as it did. -/
def shareTellsSpec : ChangeSpec := { name := "shareTells", fn := fun _ => fun
  | [d1, d2] => { results := [.lit (.bool true)], args := [d1, d2] }
  | _ => none }
def shareTellsRow : OpenClaim := { program := "ytibenahgbdhegaa", sum := "bf56cf53aa60ec4722f79e02c0af30bbcab967e63bfa38361105a292156e40f6", func := "cascade/cascadelaw4.ShareTells", spec := "shareTells", named := ["math/bits.divideError", "math/bits.overflowError"], apart := false }
def ShareTellsSaid : Prop := shareTellsRow.holds Try.pinned (OpenSpec.ofChange shareTellsSpec)

/-- ITS FALSE NEIGHBOUR: 'it returns false'. Refute it at one input. -/
def shareTellsWrong : ChangeSpec := { name := "shareTells", fn := fun _ => fun
  | [d1, d2] => { results := [.lit (.bool false)], args := [d1, d2] }
  | _ => none }
def ShareTellsWrongFalsely : Prop := shareTellsRow.holds Try.pinned (OpenSpec.ofChange shareTellsWrong)

/-- 'cascadelaw4.ShareAll': WHATEVER THE INPUT: true; the input reads as it did. -/
def shareAllSpec : ChangeSpec := { name := "shareAll", fn := fun _ => fun
  | [d1, d2] => { results := [.lit (.bool true)], args := [d1, d2] }
  | _ => none }
def shareAllRow : OpenClaim := { program := "ytibenahgbdhegaa", sum := "bf56cf53aa60ec4722f79e02c0af30bbcab967e63bfa38361105a292156e40f6", func := "cascade/cascadelaw4.ShareAll", spec := "shareAll", named := ["math/bits.divideError", "math/bits.overflowError"], apart := false }
def ShareAllSaid : Prop := shareAllRow.holds Try.pinned (OpenSpec.ofChange shareAllSpec)

/-- ITS FALSE NEIGHBOUR: 'it returns false'. Refute it at one input. -/
def shareAllWrong : ChangeSpec := { name := "shareAll", fn := fun _ => fun
  | [d1, d2] => { results := [.lit (.bool false)], args := [d1, d2] }
  | _ => none }
def ShareAllWrongFalsely : Prop := shareAllRow.holds Try.pinned (OpenSpec.ofChange shareAllWrong)

/-- 'cascadelaw4.SharePro': WHATEVER THE INPUT: true; the input reads as it did. -/
def shareProSpec : ChangeSpec := { name := "sharePro", fn := fun _ => fun
  | [d1, d2] => { results := [.lit (.bool true)], args := [d1, d2] }
  | _ => none }
def shareProRow : OpenClaim := { program := "ytibenahgbdhegaa", sum := "bf56cf53aa60ec4722f79e02c0af30bbcab967e63bfa38361105a292156e40f6", func := "cascade/cascadelaw4.SharePro", spec := "sharePro", named := ["math/bits.divideError", "math/bits.overflowError"], apart := false }
def ShareProSaid : Prop := shareProRow.holds Try.pinned (OpenSpec.ofChange shareProSpec)

/-- ITS FALSE NEIGHBOUR: 'it returns false'. Refute it at one input. -/
def shareProWrong : ChangeSpec := { name := "sharePro", fn := fun _ => fun
  | [d1, d2] => { results := [.lit (.bool false)], args := [d1, d2] }
  | _ => none }
def ShareProWrongFalsely : Prop := shareProRow.holds Try.pinned (OpenSpec.ofChange shareProWrong)

/-- 'cascadelaw4.ShareMore': WHATEVER THE INPUT: true; the input reads as it did. -/
def shareMoreSpec : ChangeSpec := { name := "shareMore", fn := fun _ => fun
  | [d1, d2, d3, d4, d5] => { results := [.lit (.bool true)], args := [d1, d2, d3, d4, d5] }
  | _ => none }
def shareMoreRow : OpenClaim := { program := "ytibenahgbdhegaa", sum := "bf56cf53aa60ec4722f79e02c0af30bbcab967e63bfa38361105a292156e40f6", func := "cascade/cascadelaw4.ShareMore", spec := "shareMore", named := ["math/bits.divideError", "math/bits.overflowError"], apart := false }
def ShareMoreSaid : Prop := shareMoreRow.holds Try.pinned (OpenSpec.ofChange shareMoreSpec)

/-- ITS FALSE NEIGHBOUR: 'it returns false'. Refute it at one input. -/
def shareMoreWrong : ChangeSpec := { name := "shareMore", fn := fun _ => fun
  | [d1, d2, d3, d4, d5] => { results := [.lit (.bool false)], args := [d1, d2, d3, d4, d5] }
  | _ => none }
def ShareMoreWrongFalsely : Prop := shareMoreRow.holds Try.pinned (OpenSpec.ofChange shareMoreWrong)

/-- 'cascadelaw4.ShareTimes': WHATEVER THE INPUT: true; the input reads as it did. -/
def shareTimesSpec : ChangeSpec := { name := "shareTimes", fn := fun _ => fun
  | [d1, d2, d3] => { results := [.lit (.bool true)], args := [d1, d2, d3] }
  | _ => none }
def shareTimesRow : OpenClaim := { program := "ytibenahgbdhegaa", sum := "bf56cf53aa60ec4722f79e02c0af30bbcab967e63bfa38361105a292156e40f6", func := "cascade/cascadelaw4.ShareTimes", spec := "shareTimes", named := ["math/bits.divideError", "math/bits.overflowError"], apart := false }
def ShareTimesSaid : Prop := shareTimesRow.holds Try.pinned (OpenSpec.ofChange shareTimesSpec)

/-- ITS FALSE NEIGHBOUR: 'it returns false'. Refute it at one input. -/
def shareTimesWrong : ChangeSpec := { name := "shareTimes", fn := fun _ => fun
  | [d1, d2, d3] => { results := [.lit (.bool false)], args := [d1, d2, d3] }
  | _ => none }
def ShareTimesWrongFalsely : Prop := shareTimesRow.holds Try.pinned (OpenSpec.ofChange shareTimesWrong)

/- THE SECOND FORM. 'bulk': how many values and letters a reading holds, each counted each time it is reached (what is shared counts as often as it is met; a slice's spare places count too). A statement '..UptoSaid' is the law's where the arguments, and the package variables that the reading takes, are together of bulk at most 1048576: NARROWER than '..Said'. Prove '..Said' where nothing that the law and all that it calls make is longer than what came in: it says more and counts as full. Else prove '..UptoSaid'. A law counts once. -/
mutual
def uptoBulk {H : Type} : DataW H → Nat
  | .lit (.string bytes) => bytes.length + 1
  | .lit _ => 1
  | .nil => 1
  | .ptr d => uptoBulk d + 1
  | .slice elems spare => uptoBulkAll elems + uptoBulkAll spare + 1
  | .agg parts => uptoBulkAll parts + 1
  | .iface _ d => uptoBulk d + 1
  | .map entries => uptoBulkEntries entries + 1
  | .held _ => 1
def uptoBulkAll {H : Type} : List (DataW H) → Nat
  | [] => 0
  | d :: r => uptoBulk d + uptoBulkAll r
def uptoBulkEntries {H : Type} : List (Lit × DataW H) → Nat
  | [] => 0
  | x :: r => uptoBulkEntry x + uptoBulkEntries r
def uptoBulkEntry {H : Type} : Lit × DataW H → Nat
  | (.string bytes, d) => bytes.length + uptoBulk d + 1
  | (_, d) => uptoBulk d + 1
 end
def uptoSmall : (H : Type) → List (DataW H) → Bool := fun _ ds => decide (uptoBulkAll ds ≤ 1048576)
def OpenSpec.upto (s : _root_.Go.ChangeSpec) : _root_.Go.OpenSpec := { _root_.Go.OpenSpec.ofChange s with cond := some uptoSmall }

/-- 'cascadelaw4.ShareRuns', WHERE WHAT IT READS IS OF BULK AT MOST 1048576: true; the input reads as it did. -/
def shareRunsUptoRow : OpenClaim := { program := "ytibenahgbdhegaa", sum := "bf56cf53aa60ec4722f79e02c0af30bbcab967e63bfa38361105a292156e40f6", func := "cascade/cascadelaw4.ShareRuns", spec := "shareRuns", named := ["math/bits.divideError", "math/bits.overflowError"], apart := false, narrowed := true }
def ShareRunsUptoSaid : Prop := shareRunsUptoRow.holds Try.pinned (OpenSpec.upto shareRunsSpec)

/-- 'cascadelaw4.ShareTells', WHERE WHAT IT READS IS OF BULK AT MOST 1048576: true; the input reads as it did. -/
def shareTellsUptoRow : OpenClaim := { program := "ytibenahgbdhegaa", sum := "bf56cf53aa60ec4722f79e02c0af30bbcab967e63bfa38361105a292156e40f6", func := "cascade/cascadelaw4.ShareTells", spec := "shareTells", named := ["math/bits.divideError", "math/bits.overflowError"], apart := false, narrowed := true }
def ShareTellsUptoSaid : Prop := shareTellsUptoRow.holds Try.pinned (OpenSpec.upto shareTellsSpec)

/-- 'cascadelaw4.ShareAll', WHERE WHAT IT READS IS OF BULK AT MOST 1048576: true; the input reads as it did. -/
def shareAllUptoRow : OpenClaim := { program := "ytibenahgbdhegaa", sum := "bf56cf53aa60ec4722f79e02c0af30bbcab967e63bfa38361105a292156e40f6", func := "cascade/cascadelaw4.ShareAll", spec := "shareAll", named := ["math/bits.divideError", "math/bits.overflowError"], apart := false, narrowed := true }
def ShareAllUptoSaid : Prop := shareAllUptoRow.holds Try.pinned (OpenSpec.upto shareAllSpec)

/-- 'cascadelaw4.SharePro', WHERE WHAT IT READS IS OF BULK AT MOST 1048576: true; the input reads as it did. -/
def shareProUptoRow : OpenClaim := { program := "ytibenahgbdhegaa", sum := "bf56cf53aa60ec4722f79e02c0af30bbcab967e63bfa38361105a292156e40f6", func := "cascade/cascadelaw4.SharePro", spec := "sharePro", named := ["math/bits.divideError", "math/bits.overflowError"], apart := false, narrowed := true }
def ShareProUptoSaid : Prop := shareProUptoRow.holds Try.pinned (OpenSpec.upto shareProSpec)

/-- 'cascadelaw4.ShareMore', WHERE WHAT IT READS IS OF BULK AT MOST 1048576: true; the input reads as it did. -/
def shareMoreUptoRow : OpenClaim := { program := "ytibenahgbdhegaa", sum := "bf56cf53aa60ec4722f79e02c0af30bbcab967e63bfa38361105a292156e40f6", func := "cascade/cascadelaw4.ShareMore", spec := "shareMore", named := ["math/bits.divideError", "math/bits.overflowError"], apart := false, narrowed := true }
def ShareMoreUptoSaid : Prop := shareMoreUptoRow.holds Try.pinned (OpenSpec.upto shareMoreSpec)

/-- 'cascadelaw4.ShareTimes', WHERE WHAT IT READS IS OF BULK AT MOST 1048576: true; the input reads as it did. -/
def shareTimesUptoRow : OpenClaim := { program := "ytibenahgbdhegaa", sum := "bf56cf53aa60ec4722f79e02c0af30bbcab967e63bfa38361105a292156e40f6", func := "cascade/cascadelaw4.ShareTimes", spec := "shareTimes", named := ["math/bits.divideError", "math/bits.overflowError"], apart := false, narrowed := true }
def ShareTimesUptoSaid : Prop := shareTimesUptoRow.holds Try.pinned (OpenSpec.upto shareTimesSpec)

end Rows
end Go.Proofs.Ytibenahgbdhegaa
