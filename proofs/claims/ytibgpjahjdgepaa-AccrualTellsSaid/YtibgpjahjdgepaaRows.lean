/-
  No cell of these rows narrows 'for every input' (looked for: loops, veiled, ifaces, maps, wideKeys, modest, calm, conditions, laid).
  DERIVED. THE GIVEN ROWS OF THIS SEAT. 9 by the template 'for every input the law returns true; each argument reads behind the call as it read before'; 0 by the template 'total and deterministic' (their statements: YtibgpjahjdgepaaTotals.lean).
  GIVEN WITH THE SEED: the statements are not yours to turn. If you find one false, say at which input.
  Laid BY PROGRAM, IN A SANDBOX (cutbox-rows.mjs): the forced cells as the released guide's own fill.sh prints them over the translation f55f9bb01dbea767… (all of the seat's roots in one cut). By AI agents, Wed Nov 11 2026. No macro, syntax, notation, axiom, sorry.
-/
import Derived.Test.YtibgpjahjdgepaaChecked
import GoSem.Claim
import GoSem.ClaimJoined
import GoSem.ClaimMapViews
import Derived.JoinedTies
import Derived.KernelRfl
namespace Go.Proofs.Ytibgpjahjdgepaa
/- THE CELL 'sum', in the pinned program and in every row, IS THE sha256 OF THE DUMP (.gsa) THAT YtibgpjahjdgepaaProg.lean LOADS. Nothing in Lean hashes anything: it is a label: what it is worth is what the hold of that sum in a sandbox is worth. -/
noncomputable def Try.pinned : Pinned := { name := "ytibgpjahjdgepaa", sum := "f55f9bb01dbea76750c774cb4fed0874e3194696068d807675f642654d37bf14", checked := Try.checked }
namespace Rows
def none {H : Type} : Left H := { results := [], args := [] }

/-- 'cascadelaw19.DrawRuns': WHATEVER THE INPUT: true; the input reads as it did. -/
def drawRunsSpec : ChangeSpec := { name := "drawRuns", fn := fun _ => fun
  | [] => { results := [.lit (.bool true)], args := [] }
  | _ => none }
def drawRunsRow : OpenClaim := { program := "ytibgpjahjdgepaa", sum := "f55f9bb01dbea76750c774cb4fed0874e3194696068d807675f642654d37bf14", func := "cascade/cascadelaw19.DrawRuns", spec := "drawRuns", named := ["math/bits.divideError", "math/bits.overflowError"], apart := false }
def DrawRunsSaid : Prop := drawRunsRow.holds Try.pinned (OpenSpec.ofChange drawRunsSpec)

/-- ITS FALSE NEIGHBOUR: 'it returns false'. Refute it at one input. -/
def drawRunsWrong : ChangeSpec := { name := "drawRuns", fn := fun _ => fun
  | [] => { results := [.lit (.bool false)], args := [] }
  | _ => none }
def DrawRunsWrongFalsely : Prop := drawRunsRow.holds Try.pinned (OpenSpec.ofChange drawRunsWrong)

/-- 'cascadelaw19.DrawRooms': WHATEVER THE INPUT: true; the input reads as it did. -/
def drawRoomsSpec : ChangeSpec := { name := "drawRooms", fn := fun _ => fun
  | [d1, d2, d3, d4] => { results := [.lit (.bool true)], args := [d1, d2, d3, d4] }
  | _ => none }
def drawRoomsRow : OpenClaim := { program := "ytibgpjahjdgepaa", sum := "f55f9bb01dbea76750c774cb4fed0874e3194696068d807675f642654d37bf14", func := "cascade/cascadelaw19.DrawRooms", spec := "drawRooms", named := ["math/bits.divideError", "math/bits.overflowError"], apart := false }
def DrawRoomsSaid : Prop := drawRoomsRow.holds Try.pinned (OpenSpec.ofChange drawRoomsSpec)

/-- ITS FALSE NEIGHBOUR: 'it returns false'. Refute it at one input. -/
def drawRoomsWrong : ChangeSpec := { name := "drawRooms", fn := fun _ => fun
  | [d1, d2, d3, d4] => { results := [.lit (.bool false)], args := [d1, d2, d3, d4] }
  | _ => none }
def DrawRoomsWrongFalsely : Prop := drawRoomsRow.holds Try.pinned (OpenSpec.ofChange drawRoomsWrong)

/-- 'cascadelaw19.DrawParts': WHATEVER THE INPUT: true; the input reads as it did. -/
def drawPartsSpec : ChangeSpec := { name := "drawParts", fn := fun _ => fun
  | [d1, d2, d3, d4, d5, d6] => { results := [.lit (.bool true)], args := [d1, d2, d3, d4, d5, d6] }
  | _ => none }
def drawPartsRow : OpenClaim := { program := "ytibgpjahjdgepaa", sum := "f55f9bb01dbea76750c774cb4fed0874e3194696068d807675f642654d37bf14", func := "cascade/cascadelaw19.DrawParts", spec := "drawParts", named := ["math/bits.divideError", "math/bits.overflowError"], apart := false }
def DrawPartsSaid : Prop := drawPartsRow.holds Try.pinned (OpenSpec.ofChange drawPartsSpec)

/-- ITS FALSE NEIGHBOUR: 'it returns false'. Refute it at one input. -/
def drawPartsWrong : ChangeSpec := { name := "drawParts", fn := fun _ => fun
  | [d1, d2, d3, d4, d5, d6] => { results := [.lit (.bool false)], args := [d1, d2, d3, d4, d5, d6] }
  | _ => none }
def DrawPartsWrongFalsely : Prop := drawPartsRow.holds Try.pinned (OpenSpec.ofChange drawPartsWrong)

/-- 'cascadelaw19.DrawCovers': WHATEVER THE INPUT: true; the input reads as it did. -/
def drawCoversSpec : ChangeSpec := { name := "drawCovers", fn := fun _ => fun
  | [d1, d2, d3, d4] => { results := [.lit (.bool true)], args := [d1, d2, d3, d4] }
  | _ => none }
def drawCoversRow : OpenClaim := { program := "ytibgpjahjdgepaa", sum := "f55f9bb01dbea76750c774cb4fed0874e3194696068d807675f642654d37bf14", func := "cascade/cascadelaw19.DrawCovers", spec := "drawCovers", named := ["math/bits.divideError", "math/bits.overflowError"], apart := false }
def DrawCoversSaid : Prop := drawCoversRow.holds Try.pinned (OpenSpec.ofChange drawCoversSpec)

/-- ITS FALSE NEIGHBOUR: 'it returns false'. Refute it at one input. -/
def drawCoversWrong : ChangeSpec := { name := "drawCovers", fn := fun _ => fun
  | [d1, d2, d3, d4] => { results := [.lit (.bool false)], args := [d1, d2, d3, d4] }
  | _ => none }
def DrawCoversWrongFalsely : Prop := drawCoversRow.holds Try.pinned (OpenSpec.ofChange drawCoversWrong)

/-- 'cascadelaw3.AccrualRuns': WHATEVER THE INPUT: true; the input reads as it did. -/
def accrualRunsSpec : ChangeSpec := { name := "accrualRuns", fn := fun _ => fun
  | [] => { results := [.lit (.bool true)], args := [] }
  | _ => none }
def accrualRunsRow : OpenClaim := { program := "ytibgpjahjdgepaa", sum := "f55f9bb01dbea76750c774cb4fed0874e3194696068d807675f642654d37bf14", func := "cascade/cascadelaw3.AccrualRuns", spec := "accrualRuns", named := ["math/bits.divideError", "math/bits.overflowError"], apart := false }
def AccrualRunsSaid : Prop := accrualRunsRow.holds Try.pinned (OpenSpec.ofChange accrualRunsSpec)

/-- ITS FALSE NEIGHBOUR: 'it returns false'. Refute it at one input. -/
def accrualRunsWrong : ChangeSpec := { name := "accrualRuns", fn := fun _ => fun
  | [] => { results := [.lit (.bool false)], args := [] }
  | _ => none }
def AccrualRunsWrongFalsely : Prop := accrualRunsRow.holds Try.pinned (OpenSpec.ofChange accrualRunsWrong)

/-- 'cascadelaw3.AccrualTells': WHATEVER THE INPUT: true; the input reads as it did. -/
def accrualTellsSpec : ChangeSpec := { name := "accrualTells", fn := fun _ => fun
  | [d1, d2, d3, d4, d5] => { results := [.lit (.bool true)], args := [d1, d2, d3, d4, d5] }
  | _ => none }
def accrualTellsRow : OpenClaim := { program := "ytibgpjahjdgepaa", sum := "f55f9bb01dbea76750c774cb4fed0874e3194696068d807675f642654d37bf14", func := "cascade/cascadelaw3.AccrualTells", spec := "accrualTells", named := ["math/bits.divideError", "math/bits.overflowError"], apart := false }
def AccrualTellsSaid : Prop := accrualTellsRow.holds Try.pinned (OpenSpec.ofChange accrualTellsSpec)

/-- ITS FALSE NEIGHBOUR: 'it returns false'. Refute it at one input. -/
def accrualTellsWrong : ChangeSpec := { name := "accrualTells", fn := fun _ => fun
  | [d1, d2, d3, d4, d5] => { results := [.lit (.bool false)], args := [d1, d2, d3, d4, d5] }
  | _ => none }
def AccrualTellsWrongFalsely : Prop := accrualTellsRow.holds Try.pinned (OpenSpec.ofChange accrualTellsWrong)

/-- 'cascadelaw3.AccrualMore': WHATEVER THE INPUT: true; the input reads as it did. -/
def accrualMoreSpec : ChangeSpec := { name := "accrualMore", fn := fun _ => fun
  | [d1, d2, d3, d4, d5, d6] => { results := [.lit (.bool true)], args := [d1, d2, d3, d4, d5, d6] }
  | _ => none }
def accrualMoreRow : OpenClaim := { program := "ytibgpjahjdgepaa", sum := "f55f9bb01dbea76750c774cb4fed0874e3194696068d807675f642654d37bf14", func := "cascade/cascadelaw3.AccrualMore", spec := "accrualMore", named := ["math/bits.divideError", "math/bits.overflowError"], apart := false }
def AccrualMoreSaid : Prop := accrualMoreRow.holds Try.pinned (OpenSpec.ofChange accrualMoreSpec)

/-- ITS FALSE NEIGHBOUR: 'it returns false'. Refute it at one input. -/
def accrualMoreWrong : ChangeSpec := { name := "accrualMore", fn := fun _ => fun
  | [d1, d2, d3, d4, d5, d6] => { results := [.lit (.bool false)], args := [d1, d2, d3, d4, d5, d6] }
  | _ => none }
def AccrualMoreWrongFalsely : Prop := accrualMoreRow.holds Try.pinned (OpenSpec.ofChange accrualMoreWrong)

/-- 'cascadelaw3.AccrualSplit': WHATEVER THE INPUT: true; the input reads as it did. -/
def accrualSplitSpec : ChangeSpec := { name := "accrualSplit", fn := fun _ => fun
  | [d1, d2, d3, d4, d5, d6] => { results := [.lit (.bool true)], args := [d1, d2, d3, d4, d5, d6] }
  | _ => none }
def accrualSplitRow : OpenClaim := { program := "ytibgpjahjdgepaa", sum := "f55f9bb01dbea76750c774cb4fed0874e3194696068d807675f642654d37bf14", func := "cascade/cascadelaw3.AccrualSplit", spec := "accrualSplit", named := ["math/bits.divideError", "math/bits.overflowError"], apart := false }
def AccrualSplitSaid : Prop := accrualSplitRow.holds Try.pinned (OpenSpec.ofChange accrualSplitSpec)

/-- ITS FALSE NEIGHBOUR: 'it returns false'. Refute it at one input. -/
def accrualSplitWrong : ChangeSpec := { name := "accrualSplit", fn := fun _ => fun
  | [d1, d2, d3, d4, d5, d6] => { results := [.lit (.bool false)], args := [d1, d2, d3, d4, d5, d6] }
  | _ => none }
def AccrualSplitWrongFalsely : Prop := accrualSplitRow.holds Try.pinned (OpenSpec.ofChange accrualSplitWrong)

/-- 'cascadelaw3.AccrualAdds': WHATEVER THE INPUT: true; the input reads as it did. -/
def accrualAddsSpec : ChangeSpec := { name := "accrualAdds", fn := fun _ => fun
  | [d1, d2, d3, d4] => { results := [.lit (.bool true)], args := [d1, d2, d3, d4] }
  | _ => none }
def accrualAddsRow : OpenClaim := { program := "ytibgpjahjdgepaa", sum := "f55f9bb01dbea76750c774cb4fed0874e3194696068d807675f642654d37bf14", func := "cascade/cascadelaw3.AccrualAdds", spec := "accrualAdds", named := ["math/bits.divideError", "math/bits.overflowError"], apart := false }
def AccrualAddsSaid : Prop := accrualAddsRow.holds Try.pinned (OpenSpec.ofChange accrualAddsSpec)

/-- ITS FALSE NEIGHBOUR: 'it returns false'. Refute it at one input. -/
def accrualAddsWrong : ChangeSpec := { name := "accrualAdds", fn := fun _ => fun
  | [d1, d2, d3, d4] => { results := [.lit (.bool false)], args := [d1, d2, d3, d4] }
  | _ => none }
def AccrualAddsWrongFalsely : Prop := accrualAddsRow.holds Try.pinned (OpenSpec.ofChange accrualAddsWrong)

/- THE SECOND FORM. 'bulk': how many values and letters a reading holds, each counted each time it is reached (what is shared counts as often as it is met; a slice's spare places count too). A statement '..UptoSaid' is the law's where the arguments, and the package variables that the reading takes, are together of bulk at most 1048576: NARROWER than '..Said'. Prove '..Said' where nothing that the law and all that it calls make is longer than what came in: it says more and counts as full. Else prove '..UptoSaid'. A law counts once. -/
mutual
def uptoBulk {H : Type} : DataW H → Nat
  | .lit (.string bytes) => bytes.length + 1
  | .lit _ => 1
  | .nil => 1
  | .ptr d => uptoBulk d + 1
  | .slice elems spare => uptoBulkAll elems + uptoBulkAll spare + 1
  | .agg parts => uptoBulkAll parts + 1
  | .iface _ d => uptoBulk d + 1
  | .map entries => uptoBulkEntries entries + 1
  | .held _ => 1
def uptoBulkAll {H : Type} : List (DataW H) → Nat
  | [] => 0
  | d :: r => uptoBulk d + uptoBulkAll r
def uptoBulkEntries {H : Type} : List (Lit × DataW H) → Nat
  | [] => 0
  | x :: r => uptoBulkEntry x + uptoBulkEntries r
def uptoBulkEntry {H : Type} : Lit × DataW H → Nat
  | (.string bytes, d) => bytes.length + uptoBulk d + 1
  | (_, d) => uptoBulk d + 1
 end
def uptoSmall : (H : Type) → List (DataW H) → Bool := fun _ ds => decide (uptoBulkAll ds ≤ 1048576)
def OpenSpec.upto (s : _root_.Go.ChangeSpec) : _root_.Go.OpenSpec := { _root_.Go.OpenSpec.ofChange s with cond := some uptoSmall }

/-- 'cascadelaw19.DrawRuns', WHERE WHAT IT READS IS OF BULK AT MOST 1048576: true; the input reads as it did. -/
def drawRunsUptoRow : OpenClaim := { program := "ytibgpjahjdgepaa", sum := "f55f9bb01dbea76750c774cb4fed0874e3194696068d807675f642654d37bf14", func := "cascade/cascadelaw19.DrawRuns", spec := "drawRuns", named := ["math/bits.divideError", "math/bits.overflowError"], apart := false, narrowed := true }
def DrawRunsUptoSaid : Prop := drawRunsUptoRow.holds Try.pinned (OpenSpec.upto drawRunsSpec)

/-- 'cascadelaw19.DrawRooms', WHERE WHAT IT READS IS OF BULK AT MOST 1048576: true; the input reads as it did. -/
def drawRoomsUptoRow : OpenClaim := { program := "ytibgpjahjdgepaa", sum := "f55f9bb01dbea76750c774cb4fed0874e3194696068d807675f642654d37bf14", func := "cascade/cascadelaw19.DrawRooms", spec := "drawRooms", named := ["math/bits.divideError", "math/bits.overflowError"], apart := false, narrowed := true }
def DrawRoomsUptoSaid : Prop := drawRoomsUptoRow.holds Try.pinned (OpenSpec.upto drawRoomsSpec)

/-- 'cascadelaw19.DrawParts', WHERE WHAT IT READS IS OF BULK AT MOST 1048576: true; the input reads as it did. -/
def drawPartsUptoRow : OpenClaim := { program := "ytibgpjahjdgepaa", sum := "f55f9bb01dbea76750c774cb4fed0874e3194696068d807675f642654d37bf14", func := "cascade/cascadelaw19.DrawParts", spec := "drawParts", named := ["math/bits.divideError", "math/bits.overflowError"], apart := false, narrowed := true }
def DrawPartsUptoSaid : Prop := drawPartsUptoRow.holds Try.pinned (OpenSpec.upto drawPartsSpec)

/-- 'cascadelaw19.DrawCovers', WHERE WHAT IT READS IS OF BULK AT MOST 1048576: true; the input reads as it did. -/
def drawCoversUptoRow : OpenClaim := { program := "ytibgpjahjdgepaa", sum := "f55f9bb01dbea76750c774cb4fed0874e3194696068d807675f642654d37bf14", func := "cascade/cascadelaw19.DrawCovers", spec := "drawCovers", named := ["math/bits.divideError", "math/bits.overflowError"], apart := false, narrowed := true }
def DrawCoversUptoSaid : Prop := drawCoversUptoRow.holds Try.pinned (OpenSpec.upto drawCoversSpec)

/-- 'cascadelaw3.AccrualRuns', WHERE WHAT IT READS IS OF BULK AT MOST 1048576: true; the input reads as it did. -/
def accrualRunsUptoRow : OpenClaim := { program := "ytibgpjahjdgepaa", sum := "f55f9bb01dbea76750c774cb4fed0874e3194696068d807675f642654d37bf14", func := "cascade/cascadelaw3.AccrualRuns", spec := "accrualRuns", named := ["math/bits.divideError", "math/bits.overflowError"], apart := false, narrowed := true }
def AccrualRunsUptoSaid : Prop := accrualRunsUptoRow.holds Try.pinned (OpenSpec.upto accrualRunsSpec)

/-- 'cascadelaw3.AccrualTells', WHERE WHAT IT READS IS OF BULK AT MOST 1048576: true; the input reads as it did. -/
def accrualTellsUptoRow : OpenClaim := { program := "ytibgpjahjdgepaa", sum := "f55f9bb01dbea76750c774cb4fed0874e3194696068d807675f642654d37bf14", func := "cascade/cascadelaw3.AccrualTells", spec := "accrualTells", named := ["math/bits.divideError", "math/bits.overflowError"], apart := false, narrowed := true }
def AccrualTellsUptoSaid : Prop := accrualTellsUptoRow.holds Try.pinned (OpenSpec.upto accrualTellsSpec)

/-- 'cascadelaw3.AccrualMore', WHERE WHAT IT READS IS OF BULK AT MOST 1048576: true; the input reads as it did. -/
def accrualMoreUptoRow : OpenClaim := { program := "ytibgpjahjdgepaa", sum := "f55f9bb01dbea76750c774cb4fed0874e3194696068d807675f642654d37bf14", func := "cascade/cascadelaw3.AccrualMore", spec := "accrualMore", named := ["math/bits.divideError", "math/bits.overflowError"], apart := false, narrowed := true }
def AccrualMoreUptoSaid : Prop := accrualMoreUptoRow.holds Try.pinned (OpenSpec.upto accrualMoreSpec)

/-- 'cascadelaw3.AccrualSplit', WHERE WHAT IT READS IS OF BULK AT MOST 1048576: true; the input reads as it did. -/
def accrualSplitUptoRow : OpenClaim := { program := "ytibgpjahjdgepaa", sum := "f55f9bb01dbea76750c774cb4fed0874e3194696068d807675f642654d37bf14", func := "cascade/cascadelaw3.AccrualSplit", spec := "accrualSplit", named := ["math/bits.divideError", "math/bits.overflowError"], apart := false, narrowed := true }
def AccrualSplitUptoSaid : Prop := accrualSplitUptoRow.holds Try.pinned (OpenSpec.upto accrualSplitSpec)

/-- 'cascadelaw3.AccrualAdds', WHERE WHAT IT READS IS OF BULK AT MOST 1048576: true; the input reads as it did. -/
def accrualAddsUptoRow : OpenClaim := { program := "ytibgpjahjdgepaa", sum := "f55f9bb01dbea76750c774cb4fed0874e3194696068d807675f642654d37bf14", func := "cascade/cascadelaw3.AccrualAdds", spec := "accrualAdds", named := ["math/bits.divideError", "math/bits.overflowError"], apart := false, narrowed := true }
def AccrualAddsUptoSaid : Prop := accrualAddsUptoRow.holds Try.pinned (OpenSpec.upto accrualAddsSpec)

end Rows
end Go.Proofs.Ytibgpjahjdgepaa
