/-
  No cell of these rows narrows 'for every input' (looked for: loops, veiled, ifaces, maps, wideKeys, modest, calm, conditions, laid).
  DERIVED. THE GIVEN ROWS OF THIS SEAT. 10 by the template 'for every input the law returns true; each argument reads behind the call as it read before'; 0 by the template 'total and deterministic' (their statements: YtlnnlkjjgenddaaTotals.lean).
  GIVEN WITH THE SEED: the statements are not yours to turn. If you find one false, say at which input.
  Laid BY PROGRAM, IN A SANDBOX (cutbox-rows.mjs): the forced cells as the released guide's own fill.sh prints them over the translation 31966e50e931d9f1… (all of the seat's roots in one cut). By AI agents, Wed Nov 11 2026. No macro, syntax, notation, axiom, sorry.
-/
import Derived.Test.YtlnnlkjjgenddaaChecked
import GoSem.Claim
import GoSem.ClaimJoined
import GoSem.ClaimMapViews
import Derived.JoinedTies
import Derived.KernelRfl
namespace Go.Proofs.Ytlnnlkjjgenddaa
/- THE CELL 'sum', in the pinned program and in every row, IS THE sha256 OF THE DUMP (.gsa) THAT YtlnnlkjjgenddaaProg.lean LOADS. Nothing in Lean hashes anything: it is a label: what it is worth is what the hold of that sum in a sandbox is worth. -/
noncomputable def Try.pinned : Pinned := { name := "ytlnnlkjjgenddaa", sum := "31966e50e931d9f15f7275cdfd4e5a536265da77d2f0d5354b07936de4d503c4", checked := Try.checked }
namespace Rows
def none {H : Type} : Left H := { results := [], args := [] }

/-- 'cascadelaw2.CivilRuns': WHATEVER THE INPUT: true; the input reads as it did. -/
def civilRunsSpec : ChangeSpec := { name := "civilRuns", fn := fun _ => fun
  | [] => { results := [.lit (.bool true)], args := [] }
  | _ => none }
def civilRunsRow : OpenClaim := { program := "ytlnnlkjjgenddaa", sum := "31966e50e931d9f15f7275cdfd4e5a536265da77d2f0d5354b07936de4d503c4", func := "cascade/cascadelaw2.CivilRuns", spec := "civilRuns", apart := false }
def CivilRunsSaid : Prop := civilRunsRow.holds Try.pinned (OpenSpec.ofChange civilRunsSpec)

/-- ITS FALSE NEIGHBOUR: 'it returns false'. Refute it at one input. -/
def civilRunsWrong : ChangeSpec := { name := "civilRuns", fn := fun _ => fun
  | [] => { results := [.lit (.bool false)], args := [] }
  | _ => none }
def CivilRunsWrongFalsely : Prop := civilRunsRow.holds Try.pinned (OpenSpec.ofChange civilRunsWrong)

/-- 'cascadelaw2.CivilTells': WHATEVER THE INPUT: true; the input reads as it did. -/
def civilTellsSpec : ChangeSpec := { name := "civilTells", fn := fun _ => fun
  | [d1, d2, d3, d4, d5] => { results := [.lit (.bool true)], args := [d1, d2, d3, d4, d5] }
  | _ => none }
def civilTellsRow : OpenClaim := { program := "ytlnnlkjjgenddaa", sum := "31966e50e931d9f15f7275cdfd4e5a536265da77d2f0d5354b07936de4d503c4", func := "cascade/cascadelaw2.CivilTells", spec := "civilTells", apart := false }
def CivilTellsSaid : Prop := civilTellsRow.holds Try.pinned (OpenSpec.ofChange civilTellsSpec)

/-- ITS FALSE NEIGHBOUR: 'it returns false'. Refute it at one input. -/
def civilTellsWrong : ChangeSpec := { name := "civilTells", fn := fun _ => fun
  | [d1, d2, d3, d4, d5] => { results := [.lit (.bool false)], args := [d1, d2, d3, d4, d5] }
  | _ => none }
def CivilTellsWrongFalsely : Prop := civilTellsRow.holds Try.pinned (OpenSpec.ofChange civilTellsWrong)

/-- 'cascadelaw2.CivilBack': WHATEVER THE INPUT: true; the input reads as it did. -/
def civilBackSpec : ChangeSpec := { name := "civilBack", fn := fun _ => fun
  | [d1, d2] => { results := [.lit (.bool true)], args := [d1, d2] }
  | _ => none }
def civilBackRow : OpenClaim := { program := "ytlnnlkjjgenddaa", sum := "31966e50e931d9f15f7275cdfd4e5a536265da77d2f0d5354b07936de4d503c4", func := "cascade/cascadelaw2.CivilBack", spec := "civilBack", apart := false }
def CivilBackSaid : Prop := civilBackRow.holds Try.pinned (OpenSpec.ofChange civilBackSpec)

/-- ITS FALSE NEIGHBOUR: 'it returns false'. Refute it at one input. -/
def civilBackWrong : ChangeSpec := { name := "civilBack", fn := fun _ => fun
  | [d1, d2] => { results := [.lit (.bool false)], args := [d1, d2] }
  | _ => none }
def CivilBackWrongFalsely : Prop := civilBackRow.holds Try.pinned (OpenSpec.ofChange civilBackWrong)

/-- 'cascadelaw2.CivilMonths': WHATEVER THE INPUT: true; the input reads as it did. -/
def civilMonthsSpec : ChangeSpec := { name := "civilMonths", fn := fun _ => fun
  | [d1, d2, d3] => { results := [.lit (.bool true)], args := [d1, d2, d3] }
  | _ => none }
def civilMonthsRow : OpenClaim := { program := "ytlnnlkjjgenddaa", sum := "31966e50e931d9f15f7275cdfd4e5a536265da77d2f0d5354b07936de4d503c4", func := "cascade/cascadelaw2.CivilMonths", spec := "civilMonths", apart := false }
def CivilMonthsSaid : Prop := civilMonthsRow.holds Try.pinned (OpenSpec.ofChange civilMonthsSpec)

/-- ITS FALSE NEIGHBOUR: 'it returns false'. Refute it at one input. -/
def civilMonthsWrong : ChangeSpec := { name := "civilMonths", fn := fun _ => fun
  | [d1, d2, d3] => { results := [.lit (.bool false)], args := [d1, d2, d3] }
  | _ => none }
def CivilMonthsWrongFalsely : Prop := civilMonthsRow.holds Try.pinned (OpenSpec.ofChange civilMonthsWrong)

/-- 'cascadelaw2.CivilYears': WHATEVER THE INPUT: true; the input reads as it did. -/
def civilYearsSpec : ChangeSpec := { name := "civilYears", fn := fun _ => fun
  | [d1, d2, d3] => { results := [.lit (.bool true)], args := [d1, d2, d3] }
  | _ => none }
def civilYearsRow : OpenClaim := { program := "ytlnnlkjjgenddaa", sum := "31966e50e931d9f15f7275cdfd4e5a536265da77d2f0d5354b07936de4d503c4", func := "cascade/cascadelaw2.CivilYears", spec := "civilYears", apart := false }
def CivilYearsSaid : Prop := civilYearsRow.holds Try.pinned (OpenSpec.ofChange civilYearsSpec)

/-- ITS FALSE NEIGHBOUR: 'it returns false'. Refute it at one input. -/
def civilYearsWrong : ChangeSpec := { name := "civilYears", fn := fun _ => fun
  | [d1, d2, d3] => { results := [.lit (.bool false)], args := [d1, d2, d3] }
  | _ => none }
def CivilYearsWrongFalsely : Prop := civilYearsRow.holds Try.pinned (OpenSpec.ofChange civilYearsWrong)

/-- 'cascadelaw1.CentsRuns': WHATEVER THE INPUT: true; the input reads as it did. -/
def centsRunsSpec : ChangeSpec := { name := "centsRuns", fn := fun _ => fun
  | [] => { results := [.lit (.bool true)], args := [] }
  | _ => none }
def centsRunsRow : OpenClaim := { program := "ytlnnlkjjgenddaa", sum := "31966e50e931d9f15f7275cdfd4e5a536265da77d2f0d5354b07936de4d503c4", func := "cascade/cascadelaw1.CentsRuns", spec := "centsRuns", named := ["math/bits.divideError", "math/bits.overflowError"], apart := false }
def CentsRunsSaid : Prop := centsRunsRow.holds Try.pinned (OpenSpec.ofChange centsRunsSpec)

/-- ITS FALSE NEIGHBOUR: 'it returns false'. Refute it at one input. -/
def centsRunsWrong : ChangeSpec := { name := "centsRuns", fn := fun _ => fun
  | [] => { results := [.lit (.bool false)], args := [] }
  | _ => none }
def CentsRunsWrongFalsely : Prop := centsRunsRow.holds Try.pinned (OpenSpec.ofChange centsRunsWrong)

/-- 'cascadelaw1.CentsTells': WHATEVER THE INPUT: true; the input reads as it did. -/
def centsTellsSpec : ChangeSpec := { name := "centsTells", fn := fun _ => fun
  | [d1, d2, d3, d4, d5] => { results := [.lit (.bool true)], args := [d1, d2, d3, d4, d5] }
  | _ => none }
def centsTellsRow : OpenClaim := { program := "ytlnnlkjjgenddaa", sum := "31966e50e931d9f15f7275cdfd4e5a536265da77d2f0d5354b07936de4d503c4", func := "cascade/cascadelaw1.CentsTells", spec := "centsTells", named := ["math/bits.divideError", "math/bits.overflowError"], apart := false }
def CentsTellsSaid : Prop := centsTellsRow.holds Try.pinned (OpenSpec.ofChange centsTellsSpec)

/-- ITS FALSE NEIGHBOUR: 'it returns false'. Refute it at one input. -/
def centsTellsWrong : ChangeSpec := { name := "centsTells", fn := fun _ => fun
  | [d1, d2, d3, d4, d5] => { results := [.lit (.bool false)], args := [d1, d2, d3, d4, d5] }
  | _ => none }
def CentsTellsWrongFalsely : Prop := centsTellsRow.holds Try.pinned (OpenSpec.ofChange centsTellsWrong)

/-- 'cascadelaw1.CentsRound': WHATEVER THE INPUT: true; the input reads as it did. -/
def centsRoundSpec : ChangeSpec := { name := "centsRound", fn := fun _ => fun
  | [d1, d2, d3] => { results := [.lit (.bool true)], args := [d1, d2, d3] }
  | _ => none }
def centsRoundRow : OpenClaim := { program := "ytlnnlkjjgenddaa", sum := "31966e50e931d9f15f7275cdfd4e5a536265da77d2f0d5354b07936de4d503c4", func := "cascade/cascadelaw1.CentsRound", spec := "centsRound", named := ["math/bits.divideError", "math/bits.overflowError"], apart := false }
def CentsRoundSaid : Prop := centsRoundRow.holds Try.pinned (OpenSpec.ofChange centsRoundSpec)

/-- ITS FALSE NEIGHBOUR: 'it returns false'. Refute it at one input. -/
def centsRoundWrong : ChangeSpec := { name := "centsRound", fn := fun _ => fun
  | [d1, d2, d3] => { results := [.lit (.bool false)], args := [d1, d2, d3] }
  | _ => none }
def CentsRoundWrongFalsely : Prop := centsRoundRow.holds Try.pinned (OpenSpec.ofChange centsRoundWrong)

/-- 'cascadelaw1.CentsSums': WHATEVER THE INPUT: true; the input reads as it did. -/
def centsSumsSpec : ChangeSpec := { name := "centsSums", fn := fun _ => fun
  | [d1, d2] => { results := [.lit (.bool true)], args := [d1, d2] }
  | _ => none }
def centsSumsRow : OpenClaim := { program := "ytlnnlkjjgenddaa", sum := "31966e50e931d9f15f7275cdfd4e5a536265da77d2f0d5354b07936de4d503c4", func := "cascade/cascadelaw1.CentsSums", spec := "centsSums", named := ["math/bits.divideError", "math/bits.overflowError"], apart := false }
def CentsSumsSaid : Prop := centsSumsRow.holds Try.pinned (OpenSpec.ofChange centsSumsSpec)

/-- ITS FALSE NEIGHBOUR: 'it returns false'. Refute it at one input. -/
def centsSumsWrong : ChangeSpec := { name := "centsSums", fn := fun _ => fun
  | [d1, d2] => { results := [.lit (.bool false)], args := [d1, d2] }
  | _ => none }
def CentsSumsWrongFalsely : Prop := centsSumsRow.holds Try.pinned (OpenSpec.ofChange centsSumsWrong)

/-- 'cascadelaw1.CentsParts': WHATEVER THE INPUT: true; the input reads as it did. -/
def centsPartsSpec : ChangeSpec := { name := "centsParts", fn := fun _ => fun
  | [d1, d2, d3, d4, d5] => { results := [.lit (.bool true)], args := [d1, d2, d3, d4, d5] }
  | _ => none }
def centsPartsRow : OpenClaim := { program := "ytlnnlkjjgenddaa", sum := "31966e50e931d9f15f7275cdfd4e5a536265da77d2f0d5354b07936de4d503c4", func := "cascade/cascadelaw1.CentsParts", spec := "centsParts", named := ["math/bits.divideError", "math/bits.overflowError"], apart := false }
def CentsPartsSaid : Prop := centsPartsRow.holds Try.pinned (OpenSpec.ofChange centsPartsSpec)

/-- ITS FALSE NEIGHBOUR: 'it returns false'. Refute it at one input. -/
def centsPartsWrong : ChangeSpec := { name := "centsParts", fn := fun _ => fun
  | [d1, d2, d3, d4, d5] => { results := [.lit (.bool false)], args := [d1, d2, d3, d4, d5] }
  | _ => none }
def CentsPartsWrongFalsely : Prop := centsPartsRow.holds Try.pinned (OpenSpec.ofChange centsPartsWrong)

/- THE SECOND FORM. 'bulk': how many values and letters a reading holds, each counted each time it is reached (what is shared counts as often as it is met; a slice's spare places count too). A statement '..UptoSaid' is the law's where the arguments, and the package variables that the reading takes, are together of bulk at most 1048576: NARROWER than '..Said'. Prove '..Said' where nothing that the law and all that it calls make is longer than what came in: it says more and counts as full. Else prove '..UptoSaid'. A law counts once. -/
mutual
def uptoBulk {H : Type} : DataW H → Nat
  | .lit (.string bytes) => bytes.length + 1
  | .lit _ => 1
  | .nil => 1
  | .ptr d => uptoBulk d + 1
  | .slice elems spare => uptoBulkAll elems + uptoBulkAll spare + 1
  | .agg parts => uptoBulkAll parts + 1
  | .iface _ d => uptoBulk d + 1
  | .map entries => uptoBulkEntries entries + 1
  | .held _ => 1
def uptoBulkAll {H : Type} : List (DataW H) → Nat
  | [] => 0
  | d :: r => uptoBulk d + uptoBulkAll r
def uptoBulkEntries {H : Type} : List (Lit × DataW H) → Nat
  | [] => 0
  | x :: r => uptoBulkEntry x + uptoBulkEntries r
def uptoBulkEntry {H : Type} : Lit × DataW H → Nat
  | (.string bytes, d) => bytes.length + uptoBulk d + 1
  | (_, d) => uptoBulk d + 1
 end
def uptoSmall : (H : Type) → List (DataW H) → Bool := fun _ ds => decide (uptoBulkAll ds ≤ 1048576)
def OpenSpec.upto (s : _root_.Go.ChangeSpec) : _root_.Go.OpenSpec := { _root_.Go.OpenSpec.ofChange s with cond := some uptoSmall }

/-- 'cascadelaw2.CivilRuns', WHERE WHAT IT READS IS OF BULK AT MOST 1048576: true; the input reads as it did. -/
def civilRunsUptoRow : OpenClaim := { program := "ytlnnlkjjgenddaa", sum := "31966e50e931d9f15f7275cdfd4e5a536265da77d2f0d5354b07936de4d503c4", func := "cascade/cascadelaw2.CivilRuns", spec := "civilRuns", apart := false, narrowed := true }
def CivilRunsUptoSaid : Prop := civilRunsUptoRow.holds Try.pinned (OpenSpec.upto civilRunsSpec)

/-- 'cascadelaw2.CivilTells', WHERE WHAT IT READS IS OF BULK AT MOST 1048576: true; the input reads as it did. -/
def civilTellsUptoRow : OpenClaim := { program := "ytlnnlkjjgenddaa", sum := "31966e50e931d9f15f7275cdfd4e5a536265da77d2f0d5354b07936de4d503c4", func := "cascade/cascadelaw2.CivilTells", spec := "civilTells", apart := false, narrowed := true }
def CivilTellsUptoSaid : Prop := civilTellsUptoRow.holds Try.pinned (OpenSpec.upto civilTellsSpec)

/-- 'cascadelaw2.CivilBack', WHERE WHAT IT READS IS OF BULK AT MOST 1048576: true; the input reads as it did. -/
def civilBackUptoRow : OpenClaim := { program := "ytlnnlkjjgenddaa", sum := "31966e50e931d9f15f7275cdfd4e5a536265da77d2f0d5354b07936de4d503c4", func := "cascade/cascadelaw2.CivilBack", spec := "civilBack", apart := false, narrowed := true }
def CivilBackUptoSaid : Prop := civilBackUptoRow.holds Try.pinned (OpenSpec.upto civilBackSpec)

/-- 'cascadelaw2.CivilMonths', WHERE WHAT IT READS IS OF BULK AT MOST 1048576: true; the input reads as it did. -/
def civilMonthsUptoRow : OpenClaim := { program := "ytlnnlkjjgenddaa", sum := "31966e50e931d9f15f7275cdfd4e5a536265da77d2f0d5354b07936de4d503c4", func := "cascade/cascadelaw2.CivilMonths", spec := "civilMonths", apart := false, narrowed := true }
def CivilMonthsUptoSaid : Prop := civilMonthsUptoRow.holds Try.pinned (OpenSpec.upto civilMonthsSpec)

/-- 'cascadelaw2.CivilYears', WHERE WHAT IT READS IS OF BULK AT MOST 1048576: true; the input reads as it did. -/
def civilYearsUptoRow : OpenClaim := { program := "ytlnnlkjjgenddaa", sum := "31966e50e931d9f15f7275cdfd4e5a536265da77d2f0d5354b07936de4d503c4", func := "cascade/cascadelaw2.CivilYears", spec := "civilYears", apart := false, narrowed := true }
def CivilYearsUptoSaid : Prop := civilYearsUptoRow.holds Try.pinned (OpenSpec.upto civilYearsSpec)

/-- 'cascadelaw1.CentsRuns', WHERE WHAT IT READS IS OF BULK AT MOST 1048576: true; the input reads as it did. -/
def centsRunsUptoRow : OpenClaim := { program := "ytlnnlkjjgenddaa", sum := "31966e50e931d9f15f7275cdfd4e5a536265da77d2f0d5354b07936de4d503c4", func := "cascade/cascadelaw1.CentsRuns", spec := "centsRuns", named := ["math/bits.divideError", "math/bits.overflowError"], apart := false, narrowed := true }
def CentsRunsUptoSaid : Prop := centsRunsUptoRow.holds Try.pinned (OpenSpec.upto centsRunsSpec)

/-- 'cascadelaw1.CentsTells', WHERE WHAT IT READS IS OF BULK AT MOST 1048576: true; the input reads as it did. -/
def centsTellsUptoRow : OpenClaim := { program := "ytlnnlkjjgenddaa", sum := "31966e50e931d9f15f7275cdfd4e5a536265da77d2f0d5354b07936de4d503c4", func := "cascade/cascadelaw1.CentsTells", spec := "centsTells", named := ["math/bits.divideError", "math/bits.overflowError"], apart := false, narrowed := true }
def CentsTellsUptoSaid : Prop := centsTellsUptoRow.holds Try.pinned (OpenSpec.upto centsTellsSpec)

/-- 'cascadelaw1.CentsRound', WHERE WHAT IT READS IS OF BULK AT MOST 1048576: true; the input reads as it did. -/
def centsRoundUptoRow : OpenClaim := { program := "ytlnnlkjjgenddaa", sum := "31966e50e931d9f15f7275cdfd4e5a536265da77d2f0d5354b07936de4d503c4", func := "cascade/cascadelaw1.CentsRound", spec := "centsRound", named := ["math/bits.divideError", "math/bits.overflowError"], apart := false, narrowed := true }
def CentsRoundUptoSaid : Prop := centsRoundUptoRow.holds Try.pinned (OpenSpec.upto centsRoundSpec)

/-- 'cascadelaw1.CentsSums', WHERE WHAT IT READS IS OF BULK AT MOST 1048576: true; the input reads as it did. -/
def centsSumsUptoRow : OpenClaim := { program := "ytlnnlkjjgenddaa", sum := "31966e50e931d9f15f7275cdfd4e5a536265da77d2f0d5354b07936de4d503c4", func := "cascade/cascadelaw1.CentsSums", spec := "centsSums", named := ["math/bits.divideError", "math/bits.overflowError"], apart := false, narrowed := true }
def CentsSumsUptoSaid : Prop := centsSumsUptoRow.holds Try.pinned (OpenSpec.upto centsSumsSpec)

/-- 'cascadelaw1.CentsParts', WHERE WHAT IT READS IS OF BULK AT MOST 1048576: true; the input reads as it did. -/
def centsPartsUptoRow : OpenClaim := { program := "ytlnnlkjjgenddaa", sum := "31966e50e931d9f15f7275cdfd4e5a536265da77d2f0d5354b07936de4d503c4", func := "cascade/cascadelaw1.CentsParts", spec := "centsParts", named := ["math/bits.divideError", "math/bits.overflowError"], apart := false, narrowed := true }
def CentsPartsUptoSaid : Prop := centsPartsUptoRow.holds Try.pinned (OpenSpec.upto centsPartsSpec)

end Rows
end Go.Proofs.Ytlnnlkjjgenddaa
