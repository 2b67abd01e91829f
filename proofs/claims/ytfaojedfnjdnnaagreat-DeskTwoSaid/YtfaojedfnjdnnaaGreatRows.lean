/-
  No cell of these rows narrows 'for every input' (looked for: loops, veiled, ifaces, maps, wideKeys, modest, calm, conditions, laid).
  DERIVED. THE GIVEN ROWS OF THIS SEAT. 9 by the template 'for every input the law returns true; each argument reads behind the call as it read before'; 0 by the template 'total and deterministic' (their statements: YtfaojedfnjdnnaaGreatTotals.lean).
  GIVEN WITH THE SEED: the statements are not yours to turn. If you find one false, say at which input.
  Laid BY PROGRAM, IN A SANDBOX (cutbox-rows.mjs): the forced cells as the released guide's own fill.sh prints them over the translation 73cf398204f23540… (all of the seat's roots in one cut). By AI agents, Wed Nov 11 2026. No macro, syntax, notation, axiom, sorry.
-/
import Derived.Test.YtfaojedfnjdnnaaGreatChecked
import GoSem.Claim
import GoSem.ClaimJoined
import GoSem.ClaimMapViews
import Derived.JoinedTies
import Derived.KernelRfl
namespace Go.Proofs.YtfaojedfnjdnnaaGreat
/- THE CELL 'sum', in the pinned program and in every row, IS THE sha256 OF THE DUMP (.gsa) THAT YtfaojedfnjdnnaaGreatProg.lean LOADS. Nothing in Lean hashes anything: it is a label: what it is worth is what the hold of that sum in a sandbox is worth. -/
noncomputable def Tryz.pinned : Pinned := { name := "ytfaojedfnjdnnaagreat", sum := "73cf398204f235401da4cc299671e7249267a67a20b0788cd5d3cee36afae593", checked := Tryz.checked }
namespace Rows
def none {H : Type} : Left H := { results := [], args := [] }

/-- 'cascadelaw26.DeskRuns': WHATEVER THE INPUT: true; the input reads as it did. -/
def deskRunsSpec : ChangeSpec := { name := "deskRuns", fn := fun _ => fun
  | [] => { results := [.lit (.bool true)], args := [] }
  | _ => none }
def deskRunsRow : OpenClaim := { program := "ytfaojedfnjdnnaagreat", sum := "73cf398204f235401da4cc299671e7249267a67a20b0788cd5d3cee36afae593", func := "cascade/cascadelaw26.DeskRuns", spec := "deskRuns", unfollowed := true, recurses := true, named := ["math/bits.divideError", "math/bits.overflowError"], apart := false }
def DeskRunsSaid : Prop := deskRunsRow.holds Tryz.pinned (OpenSpec.ofChange deskRunsSpec)

/-- ITS FALSE NEIGHBOUR: 'it returns false'. Refute it at one input. -/
def deskRunsWrong : ChangeSpec := { name := "deskRuns", fn := fun _ => fun
  | [] => { results := [.lit (.bool false)], args := [] }
  | _ => none }
def DeskRunsWrongFalsely : Prop := deskRunsRow.holds Tryz.pinned (OpenSpec.ofChange deskRunsWrong)

/-- 'cascadelaw26.DeskCrash': WHATEVER THE INPUT: true; the input reads as it did. -/
def deskCrashSpec : ChangeSpec := { name := "deskCrash", fn := fun _ => fun
  | [d1, d2, d3, d4] => { results := [.lit (.bool true)], args := [d1, d2, d3, d4] }
  | _ => none }
def deskCrashRow : OpenClaim := { program := "ytfaojedfnjdnnaagreat", sum := "73cf398204f235401da4cc299671e7249267a67a20b0788cd5d3cee36afae593", func := "cascade/cascadelaw26.DeskCrash", spec := "deskCrash", unfollowed := true, recurses := true, named := ["math/bits.divideError", "math/bits.overflowError"], apart := false }
def DeskCrashSaid : Prop := deskCrashRow.holds Tryz.pinned (OpenSpec.ofChange deskCrashSpec)

/-- ITS FALSE NEIGHBOUR: 'it returns false'. Refute it at one input. -/
def deskCrashWrong : ChangeSpec := { name := "deskCrash", fn := fun _ => fun
  | [d1, d2, d3, d4] => { results := [.lit (.bool false)], args := [d1, d2, d3, d4] }
  | _ => none }
def DeskCrashWrongFalsely : Prop := deskCrashRow.holds Tryz.pinned (OpenSpec.ofChange deskCrashWrong)

/-- 'cascadelaw26.DeskTwo': WHATEVER THE INPUT: true; the input reads as it did. -/
def deskTwoSpec : ChangeSpec := { name := "deskTwo", fn := fun _ => fun
  | [d1, d2, d3, d4] => { results := [.lit (.bool true)], args := [d1, d2, d3, d4] }
  | _ => none }
def deskTwoRow : OpenClaim := { program := "ytfaojedfnjdnnaagreat", sum := "73cf398204f235401da4cc299671e7249267a67a20b0788cd5d3cee36afae593", func := "cascade/cascadelaw26.DeskTwo", spec := "deskTwo", unfollowed := true, recurses := true, named := ["math/bits.divideError", "math/bits.overflowError"], apart := false }
def DeskTwoSaid : Prop := deskTwoRow.holds Tryz.pinned (OpenSpec.ofChange deskTwoSpec)

/-- ITS FALSE NEIGHBOUR: 'it returns false'. Refute it at one input. -/
def deskTwoWrong : ChangeSpec := { name := "deskTwo", fn := fun _ => fun
  | [d1, d2, d3, d4] => { results := [.lit (.bool false)], args := [d1, d2, d3, d4] }
  | _ => none }
def DeskTwoWrongFalsely : Prop := deskTwoRow.holds Tryz.pinned (OpenSpec.ofChange deskTwoWrong)

/-- 'cascadelaw26.DeskSpoilt': WHATEVER THE INPUT: true; the input reads as it did. -/
def deskSpoiltSpec : ChangeSpec := { name := "deskSpoilt", fn := fun _ => fun
  | [d1, d2, d3, d4] => { results := [.lit (.bool true)], args := [d1, d2, d3, d4] }
  | _ => none }
def deskSpoiltRow : OpenClaim := { program := "ytfaojedfnjdnnaagreat", sum := "73cf398204f235401da4cc299671e7249267a67a20b0788cd5d3cee36afae593", func := "cascade/cascadelaw26.DeskSpoilt", spec := "deskSpoilt", unfollowed := true, recurses := true, named := ["math/bits.divideError", "math/bits.overflowError"], apart := false }
def DeskSpoiltSaid : Prop := deskSpoiltRow.holds Tryz.pinned (OpenSpec.ofChange deskSpoiltSpec)

/-- ITS FALSE NEIGHBOUR: 'it returns false'. Refute it at one input. -/
def deskSpoiltWrong : ChangeSpec := { name := "deskSpoilt", fn := fun _ => fun
  | [d1, d2, d3, d4] => { results := [.lit (.bool false)], args := [d1, d2, d3, d4] }
  | _ => none }
def DeskSpoiltWrongFalsely : Prop := deskSpoiltRow.holds Tryz.pinned (OpenSpec.ofChange deskSpoiltWrong)

/-- 'cascadelaw26.DeskPlays': WHATEVER THE INPUT: true; the input reads as it did. -/
def deskPlaysSpec : ChangeSpec := { name := "deskPlays", fn := fun _ => fun
  | [d1, d2, d3] => { results := [.lit (.bool true)], args := [d1, d2, d3] }
  | _ => none }
def deskPlaysRow : OpenClaim := { program := "ytfaojedfnjdnnaagreat", sum := "73cf398204f235401da4cc299671e7249267a67a20b0788cd5d3cee36afae593", func := "cascade/cascadelaw26.DeskPlays", spec := "deskPlays", unfollowed := true, recurses := true, named := ["math/bits.divideError", "math/bits.overflowError"], apart := false }
def DeskPlaysSaid : Prop := deskPlaysRow.holds Tryz.pinned (OpenSpec.ofChange deskPlaysSpec)

/-- ITS FALSE NEIGHBOUR: 'it returns false'. Refute it at one input. -/
def deskPlaysWrong : ChangeSpec := { name := "deskPlays", fn := fun _ => fun
  | [d1, d2, d3] => { results := [.lit (.bool false)], args := [d1, d2, d3] }
  | _ => none }
def DeskPlaysWrongFalsely : Prop := deskPlaysRow.holds Tryz.pinned (OpenSpec.ofChange deskPlaysWrong)

/-- 'cascadelaw26.DeskEmpty': WHATEVER THE INPUT: true; the input reads as it did. -/
def deskEmptySpec : ChangeSpec := { name := "deskEmpty", fn := fun _ => fun
  | [d1, d2, d3] => { results := [.lit (.bool true)], args := [d1, d2, d3] }
  | _ => none }
def deskEmptyRow : OpenClaim := { program := "ytfaojedfnjdnnaagreat", sum := "73cf398204f235401da4cc299671e7249267a67a20b0788cd5d3cee36afae593", func := "cascade/cascadelaw26.DeskEmpty", spec := "deskEmpty", unfollowed := true, recurses := true, named := ["math/bits.divideError", "math/bits.overflowError"], apart := false }
def DeskEmptySaid : Prop := deskEmptyRow.holds Tryz.pinned (OpenSpec.ofChange deskEmptySpec)

/-- ITS FALSE NEIGHBOUR: 'it returns false'. Refute it at one input. -/
def deskEmptyWrong : ChangeSpec := { name := "deskEmpty", fn := fun _ => fun
  | [d1, d2, d3] => { results := [.lit (.bool false)], args := [d1, d2, d3] }
  | _ => none }
def DeskEmptyWrongFalsely : Prop := deskEmptyRow.holds Tryz.pinned (OpenSpec.ofChange deskEmptyWrong)

/-- 'cascadelaw27.ScriptRuns': WHATEVER THE INPUT: true; the input reads as it did. -/
def scriptRunsSpec : ChangeSpec := { name := "scriptRuns", fn := fun _ => fun
  | [] => { results := [.lit (.bool true)], args := [] }
  | _ => none }
def scriptRunsRow : OpenClaim := { program := "ytfaojedfnjdnnaagreat", sum := "73cf398204f235401da4cc299671e7249267a67a20b0788cd5d3cee36afae593", func := "cascade/cascadelaw27.ScriptRuns", spec := "scriptRuns", unfollowed := true, recurses := true, named := ["math/bits.divideError", "math/bits.overflowError"], apart := false }
def ScriptRunsSaid : Prop := scriptRunsRow.holds Tryz.pinned (OpenSpec.ofChange scriptRunsSpec)

/-- ITS FALSE NEIGHBOUR: 'it returns false'. Refute it at one input. -/
def scriptRunsWrong : ChangeSpec := { name := "scriptRuns", fn := fun _ => fun
  | [] => { results := [.lit (.bool false)], args := [] }
  | _ => none }
def ScriptRunsWrongFalsely : Prop := scriptRunsRow.holds Tryz.pinned (OpenSpec.ofChange scriptRunsWrong)

/-- 'cascadelaw27.ScriptTwins': WHATEVER THE INPUT: true; the input reads as it did. -/
def scriptTwinsSpec : ChangeSpec := { name := "scriptTwins", fn := fun _ => fun
  | [d1, d2, d3, d4, d5] => { results := [.lit (.bool true)], args := [d1, d2, d3, d4, d5] }
  | _ => none }
def scriptTwinsRow : OpenClaim := { program := "ytfaojedfnjdnnaagreat", sum := "73cf398204f235401da4cc299671e7249267a67a20b0788cd5d3cee36afae593", func := "cascade/cascadelaw27.ScriptTwins", spec := "scriptTwins", unfollowed := true, recurses := true, named := ["math/bits.divideError", "math/bits.overflowError"], apart := false }
def ScriptTwinsSaid : Prop := scriptTwinsRow.holds Tryz.pinned (OpenSpec.ofChange scriptTwinsSpec)

/-- ITS FALSE NEIGHBOUR: 'it returns false'. Refute it at one input. -/
def scriptTwinsWrong : ChangeSpec := { name := "scriptTwins", fn := fun _ => fun
  | [d1, d2, d3, d4, d5] => { results := [.lit (.bool false)], args := [d1, d2, d3, d4, d5] }
  | _ => none }
def ScriptTwinsWrongFalsely : Prop := scriptTwinsRow.holds Tryz.pinned (OpenSpec.ofChange scriptTwinsWrong)

/-- 'cascadelaw27.ScriptPlays': WHATEVER THE INPUT: true; the input reads as it did. -/
def scriptPlaysSpec : ChangeSpec := { name := "scriptPlays", fn := fun _ => fun
  | [d1, d2, d3] => { results := [.lit (.bool true)], args := [d1, d2, d3] }
  | _ => none }
def scriptPlaysRow : OpenClaim := { program := "ytfaojedfnjdnnaagreat", sum := "73cf398204f235401da4cc299671e7249267a67a20b0788cd5d3cee36afae593", func := "cascade/cascadelaw27.ScriptPlays", spec := "scriptPlays", unfollowed := true, recurses := true, named := ["math/bits.divideError", "math/bits.overflowError"], apart := false }
def ScriptPlaysSaid : Prop := scriptPlaysRow.holds Tryz.pinned (OpenSpec.ofChange scriptPlaysSpec)

/-- ITS FALSE NEIGHBOUR: 'it returns false'. Refute it at one input. -/
def scriptPlaysWrong : ChangeSpec := { name := "scriptPlays", fn := fun _ => fun
  | [d1, d2, d3] => { results := [.lit (.bool false)], args := [d1, d2, d3] }
  | _ => none }
def ScriptPlaysWrongFalsely : Prop := scriptPlaysRow.holds Tryz.pinned (OpenSpec.ofChange scriptPlaysWrong)

/- THE SECOND FORM. 'bulk': how many values and letters a reading holds, each counted each time it is reached (what is shared counts as often as it is met; a slice's spare places count too). A statement '..UptoSaid' is the law's where the arguments, and the package variables that the reading takes, are together of bulk at most 1048576: NARROWER than '..Said'. Prove '..Said' where nothing that the law and all that it calls make is longer than what came in: it says more and counts as full. Else prove '..UptoSaid'. A law counts once. -/
mutual
def uptoBulk {H : Type} : DataW H → Nat
  | .lit (.string bytes) => bytes.length + 1
  | .lit _ => 1
  | .nil => 1
  | .ptr d => uptoBulk d + 1
  | .slice elems spare => uptoBulkAll elems + uptoBulkAll spare + 1
  | .agg parts => uptoBulkAll parts + 1
  | .iface _ d => uptoBulk d + 1
  | .map entries => uptoBulkEntries entries + 1
  | .held _ => 1
def uptoBulkAll {H : Type} : List (DataW H) → Nat
  | [] => 0
  | d :: r => uptoBulk d + uptoBulkAll r
def uptoBulkEntries {H : Type} : List (Lit × DataW H) → Nat
  | [] => 0
  | x :: r => uptoBulkEntry x + uptoBulkEntries r
def uptoBulkEntry {H : Type} : Lit × DataW H → Nat
  | (.string bytes, d) => bytes.length + uptoBulk d + 1
  | (_, d) => uptoBulk d + 1
 end
def uptoSmall : (H : Type) → List (DataW H) → Bool := fun _ ds => decide (uptoBulkAll ds ≤ 1048576)
def OpenSpec.upto (s : _root_.Go.ChangeSpec) : _root_.Go.OpenSpec := { _root_.Go.OpenSpec.ofChange s with cond := some uptoSmall }

/-- 'cascadelaw26.DeskRuns', WHERE WHAT IT READS IS OF BULK AT MOST 1048576: true; the input reads as it did. -/
def deskRunsUptoRow : OpenClaim := { program := "ytfaojedfnjdnnaagreat", sum := "73cf398204f235401da4cc299671e7249267a67a20b0788cd5d3cee36afae593", func := "cascade/cascadelaw26.DeskRuns", spec := "deskRuns", unfollowed := true, recurses := true, named := ["math/bits.divideError", "math/bits.overflowError"], apart := false, narrowed := true }
def DeskRunsUptoSaid : Prop := deskRunsUptoRow.holds Tryz.pinned (OpenSpec.upto deskRunsSpec)

/-- 'cascadelaw26.DeskCrash', WHERE WHAT IT READS IS OF BULK AT MOST 1048576: true; the input reads as it did. -/
def deskCrashUptoRow : OpenClaim := { program := "ytfaojedfnjdnnaagreat", sum := "73cf398204f235401da4cc299671e7249267a67a20b0788cd5d3cee36afae593", func := "cascade/cascadelaw26.DeskCrash", spec := "deskCrash", unfollowed := true, recurses := true, named := ["math/bits.divideError", "math/bits.overflowError"], apart := false, narrowed := true }
def DeskCrashUptoSaid : Prop := deskCrashUptoRow.holds Tryz.pinned (OpenSpec.upto deskCrashSpec)

/-- 'cascadelaw26.DeskTwo', WHERE WHAT IT READS IS OF BULK AT MOST 1048576: true; the input reads as it did. -/
def deskTwoUptoRow : OpenClaim := { program := "ytfaojedfnjdnnaagreat", sum := "73cf398204f235401da4cc299671e7249267a67a20b0788cd5d3cee36afae593", func := "cascade/cascadelaw26.DeskTwo", spec := "deskTwo", unfollowed := true, recurses := true, named := ["math/bits.divideError", "math/bits.overflowError"], apart := false, narrowed := true }
def DeskTwoUptoSaid : Prop := deskTwoUptoRow.holds Tryz.pinned (OpenSpec.upto deskTwoSpec)

/-- 'cascadelaw26.DeskSpoilt', WHERE WHAT IT READS IS OF BULK AT MOST 1048576: true; the input reads as it did. -/
def deskSpoiltUptoRow : OpenClaim := { program := "ytfaojedfnjdnnaagreat", sum := "73cf398204f235401da4cc299671e7249267a67a20b0788cd5d3cee36afae593", func := "cascade/cascadelaw26.DeskSpoilt", spec := "deskSpoilt", unfollowed := true, recurses := true, named := ["math/bits.divideError", "math/bits.overflowError"], apart := false, narrowed := true }
def DeskSpoiltUptoSaid : Prop := deskSpoiltUptoRow.holds Tryz.pinned (OpenSpec.upto deskSpoiltSpec)

/-- 'cascadelaw26.DeskPlays', WHERE WHAT IT READS IS OF BULK AT MOST 1048576: true; the input reads as it did. -/
def deskPlaysUptoRow : OpenClaim := { program := "ytfaojedfnjdnnaagreat", sum := "73cf398204f235401da4cc299671e7249267a67a20b0788cd5d3cee36afae593", func := "cascade/cascadelaw26.DeskPlays", spec := "deskPlays", unfollowed := true, recurses := true, named := ["math/bits.divideError", "math/bits.overflowError"], apart := false, narrowed := true }
def DeskPlaysUptoSaid : Prop := deskPlaysUptoRow.holds Tryz.pinned (OpenSpec.upto deskPlaysSpec)

/-- 'cascadelaw26.DeskEmpty', WHERE WHAT IT READS IS OF BULK AT MOST 1048576: true; the input reads as it did. -/
def deskEmptyUptoRow : OpenClaim := { program := "ytfaojedfnjdnnaagreat", sum := "73cf398204f235401da4cc299671e7249267a67a20b0788cd5d3cee36afae593", func := "cascade/cascadelaw26.DeskEmpty", spec := "deskEmpty", unfollowed := true, recurses := true, named := ["math/bits.divideError", "math/bits.overflowError"], apart := false, narrowed := true }
def DeskEmptyUptoSaid : Prop := deskEmptyUptoRow.holds Tryz.pinned (OpenSpec.upto deskEmptySpec)

/-- 'cascadelaw27.ScriptRuns', WHERE WHAT IT READS IS OF BULK AT MOST 1048576: true; the input reads as it did. -/
def scriptRunsUptoRow : OpenClaim := { program := "ytfaojedfnjdnnaagreat", sum := "73cf398204f235401da4cc299671e7249267a67a20b0788cd5d3cee36afae593", func := "cascade/cascadelaw27.ScriptRuns", spec := "scriptRuns", unfollowed := true, recurses := true, named := ["math/bits.divideError", "math/bits.overflowError"], apart := false, narrowed := true }
def ScriptRunsUptoSaid : Prop := scriptRunsUptoRow.holds Tryz.pinned (OpenSpec.upto scriptRunsSpec)

/-- 'cascadelaw27.ScriptTwins', WHERE WHAT IT READS IS OF BULK AT MOST 1048576: true; the input reads as it did. -/
def scriptTwinsUptoRow : OpenClaim := { program := "ytfaojedfnjdnnaagreat", sum := "73cf398204f235401da4cc299671e7249267a67a20b0788cd5d3cee36afae593", func := "cascade/cascadelaw27.ScriptTwins", spec := "scriptTwins", unfollowed := true, recurses := true, named := ["math/bits.divideError", "math/bits.overflowError"], apart := false, narrowed := true }
def ScriptTwinsUptoSaid : Prop := scriptTwinsUptoRow.holds Tryz.pinned (OpenSpec.upto scriptTwinsSpec)

/-- 'cascadelaw27.ScriptPlays', WHERE WHAT IT READS IS OF BULK AT MOST 1048576: true; the input reads as it did. -/
def scriptPlaysUptoRow : OpenClaim := { program := "ytfaojedfnjdnnaagreat", sum := "73cf398204f235401da4cc299671e7249267a67a20b0788cd5d3cee36afae593", func := "cascade/cascadelaw27.ScriptPlays", spec := "scriptPlays", unfollowed := true, recurses := true, named := ["math/bits.divideError", "math/bits.overflowError"], apart := false, narrowed := true }
def ScriptPlaysUptoSaid : Prop := scriptPlaysUptoRow.holds Tryz.pinned (OpenSpec.upto scriptPlaysSpec)

end Rows
end Go.Proofs.YtfaojedfnjdnnaaGreat
