/-
  No cell of these rows narrows 'for every input' (looked for: loops, veiled, ifaces, maps, wideKeys, modest, calm, conditions, laid).
  DERIVED. THE GIVEN ROWS OF THIS SEAT. 6 by the template 'for every input the law returns true; each argument reads behind the call as it read before'; 0 by the template 'total and deterministic' (their statements: YtcbnpnaagbhknaaGreatTotals.lean).
  GIVEN WITH THE SEED: the statements are not yours to turn. If you find one false, say at which input.
  Laid BY PROGRAM, IN A SANDBOX (cutbox-rows.mjs): the forced cells as the released guide's own fill.sh prints them over the translation 00ffa6cc814acbcd… (all of the seat's roots in one cut). By AI agents, Wed Nov 11 2026. No macro, syntax, notation, axiom, sorry.
-/
import Derived.Test.YtcbnpnaagbhknaaGreatChecked
import GoSem.Claim
import GoSem.ClaimJoined
import GoSem.ClaimMapViews
import Derived.JoinedTies
import Derived.KernelRfl
namespace Go.Proofs.YtcbnpnaagbhknaaGreat
/- THE CELL 'sum', in the pinned program and in every row, IS THE sha256 OF THE DUMP (.gsa) THAT YtcbnpnaagbhknaaGreatProg.lean LOADS. Nothing in Lean hashes anything: it is a label: what it is worth is what the hold of that sum in a sandbox is worth. -/
noncomputable def Tryz.pinned : Pinned := { name := "ytcbnpnaagbhknaagreat", sum := "00ffa6cc814acbcdeba78ac819c2ff0787a15f5eafce1e062ae8e111a0b5bd1a", checked := Tryz.checked }
namespace Rows
def none {H : Type} : Left H := { results := [], args := [] }

/-- 'cascadelaw22.ReportRuns': WHATEVER THE INPUT: true; the input reads as it did. -/
def reportRunsSpec : ChangeSpec := { name := "reportRuns", fn := fun _ => fun
  | [] => { results := [.lit (.bool true)], args := [] }
  | _ => none }
def reportRunsRow : OpenClaim := { program := "ytcbnpnaagbhknaagreat", sum := "00ffa6cc814acbcdeba78ac819c2ff0787a15f5eafce1e062ae8e111a0b5bd1a", func := "cascade/cascadelaw22.ReportRuns", spec := "reportRuns", unfollowed := true, recurses := true, named := ["math/bits.divideError", "math/bits.overflowError"], apart := false }
def ReportRunsSaid : Prop := reportRunsRow.holds Tryz.pinned (OpenSpec.ofChange reportRunsSpec)

/-- ITS FALSE NEIGHBOUR: 'it returns false'. Refute it at one input. -/
def reportRunsWrong : ChangeSpec := { name := "reportRuns", fn := fun _ => fun
  | [] => { results := [.lit (.bool false)], args := [] }
  | _ => none }
def ReportRunsWrongFalsely : Prop := reportRunsRow.holds Tryz.pinned (OpenSpec.ofChange reportRunsWrong)

/-- 'cascadelaw22.ReportBack': WHATEVER THE INPUT: true; the input reads as it did. -/
def reportBackSpec : ChangeSpec := { name := "reportBack", fn := fun _ => fun
  | [d1, d2] => { results := [.lit (.bool true)], args := [d1, d2] }
  | _ => none }
def reportBackRow : OpenClaim := { program := "ytcbnpnaagbhknaagreat", sum := "00ffa6cc814acbcdeba78ac819c2ff0787a15f5eafce1e062ae8e111a0b5bd1a", func := "cascade/cascadelaw22.ReportBack", spec := "reportBack", unfollowed := true, recurses := true, named := ["math/bits.divideError", "math/bits.overflowError"], apart := false }
def ReportBackSaid : Prop := reportBackRow.holds Tryz.pinned (OpenSpec.ofChange reportBackSpec)

/-- ITS FALSE NEIGHBOUR: 'it returns false'. Refute it at one input. -/
def reportBackWrong : ChangeSpec := { name := "reportBack", fn := fun _ => fun
  | [d1, d2] => { results := [.lit (.bool false)], args := [d1, d2] }
  | _ => none }
def ReportBackWrongFalsely : Prop := reportBackRow.holds Tryz.pinned (OpenSpec.ofChange reportBackWrong)

/-- 'cascadelaw22.ReportOwn': WHATEVER THE INPUT: true; the input reads as it did. -/
def reportOwnSpec : ChangeSpec := { name := "reportOwn", fn := fun _ => fun
  | [d1, d2] => { results := [.lit (.bool true)], args := [d1, d2] }
  | _ => none }
def reportOwnRow : OpenClaim := { program := "ytcbnpnaagbhknaagreat", sum := "00ffa6cc814acbcdeba78ac819c2ff0787a15f5eafce1e062ae8e111a0b5bd1a", func := "cascade/cascadelaw22.ReportOwn", spec := "reportOwn", unfollowed := true, recurses := true, named := ["math/bits.divideError", "math/bits.overflowError"], apart := false }
def ReportOwnSaid : Prop := reportOwnRow.holds Tryz.pinned (OpenSpec.ofChange reportOwnSpec)

/-- ITS FALSE NEIGHBOUR: 'it returns false'. Refute it at one input. -/
def reportOwnWrong : ChangeSpec := { name := "reportOwn", fn := fun _ => fun
  | [d1, d2] => { results := [.lit (.bool false)], args := [d1, d2] }
  | _ => none }
def ReportOwnWrongFalsely : Prop := reportOwnRow.holds Tryz.pinned (OpenSpec.ofChange reportOwnWrong)

/-- 'cascadelaw22.ReportOnly': WHATEVER THE INPUT: true; the input reads as it did. -/
def reportOnlySpec : ChangeSpec := { name := "reportOnly", fn := fun _ => fun
  | [d1, d2, d3, d4, d5] => { results := [.lit (.bool true)], args := [d1, d2, d3, d4, d5] }
  | _ => none }
def reportOnlyRow : OpenClaim := { program := "ytcbnpnaagbhknaagreat", sum := "00ffa6cc814acbcdeba78ac819c2ff0787a15f5eafce1e062ae8e111a0b5bd1a", func := "cascade/cascadelaw22.ReportOnly", spec := "reportOnly", unfollowed := true, recurses := true, named := ["math/bits.divideError", "math/bits.overflowError"], apart := false }
def ReportOnlySaid : Prop := reportOnlyRow.holds Tryz.pinned (OpenSpec.ofChange reportOnlySpec)

/-- ITS FALSE NEIGHBOUR: 'it returns false'. Refute it at one input. -/
def reportOnlyWrong : ChangeSpec := { name := "reportOnly", fn := fun _ => fun
  | [d1, d2, d3, d4, d5] => { results := [.lit (.bool false)], args := [d1, d2, d3, d4, d5] }
  | _ => none }
def ReportOnlyWrongFalsely : Prop := reportOnlyRow.holds Tryz.pinned (OpenSpec.ofChange reportOnlyWrong)

/-- 'cascadelaw22.ReportEdges': WHATEVER THE INPUT: true; the input reads as it did. -/
def reportEdgesSpec : ChangeSpec := { name := "reportEdges", fn := fun _ => fun
  | [d1, d2] => { results := [.lit (.bool true)], args := [d1, d2] }
  | _ => none }
def reportEdgesRow : OpenClaim := { program := "ytcbnpnaagbhknaagreat", sum := "00ffa6cc814acbcdeba78ac819c2ff0787a15f5eafce1e062ae8e111a0b5bd1a", func := "cascade/cascadelaw22.ReportEdges", spec := "reportEdges", unfollowed := true, recurses := true, named := ["math/bits.divideError", "math/bits.overflowError"], apart := false }
def ReportEdgesSaid : Prop := reportEdgesRow.holds Tryz.pinned (OpenSpec.ofChange reportEdgesSpec)

/-- ITS FALSE NEIGHBOUR: 'it returns false'. Refute it at one input. -/
def reportEdgesWrong : ChangeSpec := { name := "reportEdges", fn := fun _ => fun
  | [d1, d2] => { results := [.lit (.bool false)], args := [d1, d2] }
  | _ => none }
def ReportEdgesWrongFalsely : Prop := reportEdgesRow.holds Tryz.pinned (OpenSpec.ofChange reportEdgesWrong)

/-- 'cascadelaw22.ReportSums': WHATEVER THE INPUT: true; the input reads as it did. -/
def reportSumsSpec : ChangeSpec := { name := "reportSums", fn := fun _ => fun
  | [d1, d2, d3] => { results := [.lit (.bool true)], args := [d1, d2, d3] }
  | _ => none }
def reportSumsRow : OpenClaim := { program := "ytcbnpnaagbhknaagreat", sum := "00ffa6cc814acbcdeba78ac819c2ff0787a15f5eafce1e062ae8e111a0b5bd1a", func := "cascade/cascadelaw22.ReportSums", spec := "reportSums", unfollowed := true, recurses := true, named := ["math/bits.divideError", "math/bits.overflowError"], apart := false }
def ReportSumsSaid : Prop := reportSumsRow.holds Tryz.pinned (OpenSpec.ofChange reportSumsSpec)

/-- ITS FALSE NEIGHBOUR: 'it returns false'. Refute it at one input. -/
def reportSumsWrong : ChangeSpec := { name := "reportSums", fn := fun _ => fun
  | [d1, d2, d3] => { results := [.lit (.bool false)], args := [d1, d2, d3] }
  | _ => none }
def ReportSumsWrongFalsely : Prop := reportSumsRow.holds Tryz.pinned (OpenSpec.ofChange reportSumsWrong)

/- THE SECOND FORM. 'bulk': how many values and letters a reading holds, each counted each time it is reached (what is shared counts as often as it is met; a slice's spare places count too). A statement '..UptoSaid' is the law's where the arguments, and the package variables that the reading takes, are together of bulk at most 1048576: NARROWER than '..Said'. Prove '..Said' where nothing that the law and all that it calls make is longer than what came in: it says more and counts as full. Else prove '..UptoSaid'. A law counts once. -/
mutual
def uptoBulk {H : Type} : DataW H → Nat
  | .lit (.string bytes) => bytes.length + 1
  | .lit _ => 1
  | .nil => 1
  | .ptr d => uptoBulk d + 1
  | .slice elems spare => uptoBulkAll elems + uptoBulkAll spare + 1
  | .agg parts => uptoBulkAll parts + 1
  | .iface _ d => uptoBulk d + 1
  | .map entries => uptoBulkEntries entries + 1
  | .held _ => 1
def uptoBulkAll {H : Type} : List (DataW H) → Nat
  | [] => 0
  | d :: r => uptoBulk d + uptoBulkAll r
def uptoBulkEntries {H : Type} : List (Lit × DataW H) → Nat
  | [] => 0
  | x :: r => uptoBulkEntry x + uptoBulkEntries r
def uptoBulkEntry {H : Type} : Lit × DataW H → Nat
  | (.string bytes, d) => bytes.length + uptoBulk d + 1
  | (_, d) => uptoBulk d + 1
 end
def uptoSmall : (H : Type) → List (DataW H) → Bool := fun _ ds => decide (uptoBulkAll ds ≤ 1048576)
def OpenSpec.upto (s : _root_.Go.ChangeSpec) : _root_.Go.OpenSpec := { _root_.Go.OpenSpec.ofChange s with cond := some uptoSmall }

/-- 'cascadelaw22.ReportRuns', WHERE WHAT IT READS IS OF BULK AT MOST 1048576: true; the input reads as it did. -/
def reportRunsUptoRow : OpenClaim := { program := "ytcbnpnaagbhknaagreat", sum := "00ffa6cc814acbcdeba78ac819c2ff0787a15f5eafce1e062ae8e111a0b5bd1a", func := "cascade/cascadelaw22.ReportRuns", spec := "reportRuns", unfollowed := true, recurses := true, named := ["math/bits.divideError", "math/bits.overflowError"], apart := false, narrowed := true }
def ReportRunsUptoSaid : Prop := reportRunsUptoRow.holds Tryz.pinned (OpenSpec.upto reportRunsSpec)

/-- 'cascadelaw22.ReportBack', WHERE WHAT IT READS IS OF BULK AT MOST 1048576: true; the input reads as it did. -/
def reportBackUptoRow : OpenClaim := { program := "ytcbnpnaagbhknaagreat", sum := "00ffa6cc814acbcdeba78ac819c2ff0787a15f5eafce1e062ae8e111a0b5bd1a", func := "cascade/cascadelaw22.ReportBack", spec := "reportBack", unfollowed := true, recurses := true, named := ["math/bits.divideError", "math/bits.overflowError"], apart := false, narrowed := true }
def ReportBackUptoSaid : Prop := reportBackUptoRow.holds Tryz.pinned (OpenSpec.upto reportBackSpec)

/-- 'cascadelaw22.ReportOwn', WHERE WHAT IT READS IS OF BULK AT MOST 1048576: true; the input reads as it did. -/
def reportOwnUptoRow : OpenClaim := { program := "ytcbnpnaagbhknaagreat", sum := "00ffa6cc814acbcdeba78ac819c2ff0787a15f5eafce1e062ae8e111a0b5bd1a", func := "cascade/cascadelaw22.ReportOwn", spec := "reportOwn", unfollowed := true, recurses := true, named := ["math/bits.divideError", "math/bits.overflowError"], apart := false, narrowed := true }
def ReportOwnUptoSaid : Prop := reportOwnUptoRow.holds Tryz.pinned (OpenSpec.upto reportOwnSpec)

/-- 'cascadelaw22.ReportOnly', WHERE WHAT IT READS IS OF BULK AT MOST 1048576: true; the input reads as it did. -/
def reportOnlyUptoRow : OpenClaim := { program := "ytcbnpnaagbhknaagreat", sum := "00ffa6cc814acbcdeba78ac819c2ff0787a15f5eafce1e062ae8e111a0b5bd1a", func := "cascade/cascadelaw22.ReportOnly", spec := "reportOnly", unfollowed := true, recurses := true, named := ["math/bits.divideError", "math/bits.overflowError"], apart := false, narrowed := true }
def ReportOnlyUptoSaid : Prop := reportOnlyUptoRow.holds Tryz.pinned (OpenSpec.upto reportOnlySpec)

/-- 'cascadelaw22.ReportEdges', WHERE WHAT IT READS IS OF BULK AT MOST 1048576: true; the input reads as it did. -/
def reportEdgesUptoRow : OpenClaim := { program := "ytcbnpnaagbhknaagreat", sum := "00ffa6cc814acbcdeba78ac819c2ff0787a15f5eafce1e062ae8e111a0b5bd1a", func := "cascade/cascadelaw22.ReportEdges", spec := "reportEdges", unfollowed := true, recurses := true, named := ["math/bits.divideError", "math/bits.overflowError"], apart := false, narrowed := true }
def ReportEdgesUptoSaid : Prop := reportEdgesUptoRow.holds Tryz.pinned (OpenSpec.upto reportEdgesSpec)

/-- 'cascadelaw22.ReportSums', WHERE WHAT IT READS IS OF BULK AT MOST 1048576: true; the input reads as it did. -/
def reportSumsUptoRow : OpenClaim := { program := "ytcbnpnaagbhknaagreat", sum := "00ffa6cc814acbcdeba78ac819c2ff0787a15f5eafce1e062ae8e111a0b5bd1a", func := "cascade/cascadelaw22.ReportSums", spec := "reportSums", unfollowed := true, recurses := true, named := ["math/bits.divideError", "math/bits.overflowError"], apart := false, narrowed := true }
def ReportSumsUptoSaid : Prop := reportSumsUptoRow.holds Tryz.pinned (OpenSpec.upto reportSumsSpec)

end Rows
end Go.Proofs.YtcbnpnaagbhknaaGreat
