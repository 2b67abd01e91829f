/-
  No cell of these rows narrows 'for every input' (looked for: loops, veiled, ifaces, maps, wideKeys, modest, calm, conditions, laid).
  DERIVED. THE GIVEN ROWS OF THIS SEAT. 5 by the template 'for every input the law returns true; each argument reads behind the call as it read before'; 0 by the template 'total and deterministic' (their statements: YtoiijpphfckdjaaTotals.lean).
  GIVEN WITH THE SEED: the statements are not yours to turn. If you find one false, say at which input.
  Laid BY PROGRAM, IN A SANDBOX (cutbox-rows.mjs): the forced cells as the released guide's own fill.sh prints them over the translation a24e40ef4c3835ca… (all of the seat's roots in one cut). By AI agents, Wed Nov 11 2026. No macro, syntax, notation, axiom, sorry.
-/
import Derived.Test.YtoiijpphfckdjaaChecked
import GoSem.Claim
import GoSem.ClaimJoined
import GoSem.ClaimMapViews
import Derived.JoinedTies
import Derived.KernelRfl
namespace Go.Proofs.Ytoiijpphfckdjaa
/- THE CELL 'sum', in the pinned program and in every row, IS THE sha256 OF THE DUMP (.gsa) THAT YtoiijpphfckdjaaProg.lean LOADS. Nothing in Lean hashes anything: it is a label: what it is worth is what the hold of that sum in a sandbox is worth. -/
noncomputable def Try.pinned : Pinned := { name := "ytoiijpphfckdjaa", sum := "a24e40ef4c3835ca7d97f04fdc598e6cb109dd274832484c03b76756438ba679", checked := Try.checked }
namespace Rows
def none {H : Type} : Left H := { results := [], args := [] }

/-- 'cascadelaw20.TrustRuns': WHATEVER THE INPUT: true; the input reads as it did. -/
def trustRunsSpec : ChangeSpec := { name := "trustRuns", fn := fun _ => fun
  | [] => { results := [.lit (.bool true)], args := [] }
  | _ => none }
def trustRunsRow : OpenClaim := { program := "ytoiijpphfckdjaa", sum := "a24e40ef4c3835ca7d97f04fdc598e6cb109dd274832484c03b76756438ba679", func := "cascade/cascadelaw20.TrustRuns", spec := "trustRuns", apart := false }
def TrustRunsSaid : Prop := trustRunsRow.holds Try.pinned (OpenSpec.ofChange trustRunsSpec)

/-- ITS FALSE NEIGHBOUR: 'it returns false'. Refute it at one input. -/
def trustRunsWrong : ChangeSpec := { name := "trustRuns", fn := fun _ => fun
  | [] => { results := [.lit (.bool false)], args := [] }
  | _ => none }
def TrustRunsWrongFalsely : Prop := trustRunsRow.holds Try.pinned (OpenSpec.ofChange trustRunsWrong)

/-- 'cascadelaw20.TrustTotals': WHATEVER THE INPUT: true; the input reads as it did. -/
def trustTotalsSpec : ChangeSpec := { name := "trustTotals", fn := fun _ => fun
  | [d1, d2, d3, d4, d5] => { results := [.lit (.bool true)], args := [d1, d2, d3, d4, d5] }
  | _ => none }
def trustTotalsRow : OpenClaim := { program := "ytoiijpphfckdjaa", sum := "a24e40ef4c3835ca7d97f04fdc598e6cb109dd274832484c03b76756438ba679", func := "cascade/cascadelaw20.TrustTotals", spec := "trustTotals", apart := false }
def TrustTotalsSaid : Prop := trustTotalsRow.holds Try.pinned (OpenSpec.ofChange trustTotalsSpec)

/-- ITS FALSE NEIGHBOUR: 'it returns false'. Refute it at one input. -/
def trustTotalsWrong : ChangeSpec := { name := "trustTotals", fn := fun _ => fun
  | [d1, d2, d3, d4, d5] => { results := [.lit (.bool false)], args := [d1, d2, d3, d4, d5] }
  | _ => none }
def TrustTotalsWrongFalsely : Prop := trustTotalsRow.holds Try.pinned (OpenSpec.ofChange trustTotalsWrong)

/-- 'cascadelaw20.TrustPromoted': WHATEVER THE INPUT: true; the input reads as it did. -/
def trustPromotedSpec : ChangeSpec := { name := "trustPromoted", fn := fun _ => fun
  | [d1, d2, d3, d4, d5, d6, d7] => { results := [.lit (.bool true)], args := [d1, d2, d3, d4, d5, d6, d7] }
  | _ => none }
def trustPromotedRow : OpenClaim := { program := "ytoiijpphfckdjaa", sum := "a24e40ef4c3835ca7d97f04fdc598e6cb109dd274832484c03b76756438ba679", func := "cascade/cascadelaw20.TrustPromoted", spec := "trustPromoted", apart := false }
def TrustPromotedSaid : Prop := trustPromotedRow.holds Try.pinned (OpenSpec.ofChange trustPromotedSpec)

/-- ITS FALSE NEIGHBOUR: 'it returns false'. Refute it at one input. -/
def trustPromotedWrong : ChangeSpec := { name := "trustPromoted", fn := fun _ => fun
  | [d1, d2, d3, d4, d5, d6, d7] => { results := [.lit (.bool false)], args := [d1, d2, d3, d4, d5, d6, d7] }
  | _ => none }
def TrustPromotedWrongFalsely : Prop := trustPromotedRow.holds Try.pinned (OpenSpec.ofChange trustPromotedWrong)

/-- 'cascadelaw20.TrustBegins': WHATEVER THE INPUT: true; the input reads as it did. -/
def trustBeginsSpec : ChangeSpec := { name := "trustBegins", fn := fun _ => fun
  | [d1, d2, d3] => { results := [.lit (.bool true)], args := [d1, d2, d3] }
  | _ => none }
def trustBeginsRow : OpenClaim := { program := "ytoiijpphfckdjaa", sum := "a24e40ef4c3835ca7d97f04fdc598e6cb109dd274832484c03b76756438ba679", func := "cascade/cascadelaw20.TrustBegins", spec := "trustBegins", apart := false }
def TrustBeginsSaid : Prop := trustBeginsRow.holds Try.pinned (OpenSpec.ofChange trustBeginsSpec)

/-- ITS FALSE NEIGHBOUR: 'it returns false'. Refute it at one input. -/
def trustBeginsWrong : ChangeSpec := { name := "trustBegins", fn := fun _ => fun
  | [d1, d2, d3] => { results := [.lit (.bool false)], args := [d1, d2, d3] }
  | _ => none }
def TrustBeginsWrongFalsely : Prop := trustBeginsRow.holds Try.pinned (OpenSpec.ofChange trustBeginsWrong)

/-- 'cascadelaw20.TrustCopies': WHATEVER THE INPUT: true; the input reads as it did. -/
def trustCopiesSpec : ChangeSpec := { name := "trustCopies", fn := fun _ => fun
  | [d1, d2, d3, d4, d5, d6] => { results := [.lit (.bool true)], args := [d1, d2, d3, d4, d5, d6] }
  | _ => none }
def trustCopiesRow : OpenClaim := { program := "ytoiijpphfckdjaa", sum := "a24e40ef4c3835ca7d97f04fdc598e6cb109dd274832484c03b76756438ba679", func := "cascade/cascadelaw20.TrustCopies", spec := "trustCopies", unfollowed := true, recurses := true, apart := false }
def TrustCopiesSaid : Prop := trustCopiesRow.holds Try.pinned (OpenSpec.ofChange trustCopiesSpec)

/-- ITS FALSE NEIGHBOUR: 'it returns false'. Refute it at one input. -/
def trustCopiesWrong : ChangeSpec := { name := "trustCopies", fn := fun _ => fun
  | [d1, d2, d3, d4, d5, d6] => { results := [.lit (.bool false)], args := [d1, d2, d3, d4, d5, d6] }
  | _ => none }
def TrustCopiesWrongFalsely : Prop := trustCopiesRow.holds Try.pinned (OpenSpec.ofChange trustCopiesWrong)

/- THE SECOND FORM. 'bulk': how many values and letters a reading holds, each counted each time it is reached (what is shared counts as often as it is met; a slice's spare places count too). A statement '..UptoSaid' is the law's where the arguments, and the package variables that the reading takes, are together of bulk at most 1048576: NARROWER than '..Said'. Prove '..Said' where nothing that the law and all that it calls make is longer than what came in: it says more and counts as full. Else prove '..UptoSaid'. A law counts once. -/
mutual
def uptoBulk {H : Type} : DataW H → Nat
  | .lit (.string bytes) => bytes.length + 1
  | .lit _ => 1
  | .nil => 1
  | .ptr d => uptoBulk d + 1
  | .slice elems spare => uptoBulkAll elems + uptoBulkAll spare + 1
  | .agg parts => uptoBulkAll parts + 1
  | .iface _ d => uptoBulk d + 1
  | .map entries => uptoBulkEntries entries + 1
  | .held _ => 1
def uptoBulkAll {H : Type} : List (DataW H) → Nat
  | [] => 0
  | d :: r => uptoBulk d + uptoBulkAll r
def uptoBulkEntries {H : Type} : List (Lit × DataW H) → Nat
  | [] => 0
  | x :: r => uptoBulkEntry x + uptoBulkEntries r
def uptoBulkEntry {H : Type} : Lit × DataW H → Nat
  | (.string bytes, d) => bytes.length + uptoBulk d + 1
  | (_, d) => uptoBulk d + 1
 end
def uptoSmall : (H : Type) → List (DataW H) → Bool := fun _ ds => decide (uptoBulkAll ds ≤ 1048576)
def OpenSpec.upto (s : _root_.Go.ChangeSpec) : _root_.Go.OpenSpec := { _root_.Go.OpenSpec.ofChange s with cond := some uptoSmall }

/-- 'cascadelaw20.TrustRuns', WHERE WHAT IT READS IS OF BULK AT MOST 1048576: true; the input reads as it did. -/
def trustRunsUptoRow : OpenClaim := { program := "ytoiijpphfckdjaa", sum := "a24e40ef4c3835ca7d97f04fdc598e6cb109dd274832484c03b76756438ba679", func := "cascade/cascadelaw20.TrustRuns", spec := "trustRuns", apart := false, narrowed := true }
def TrustRunsUptoSaid : Prop := trustRunsUptoRow.holds Try.pinned (OpenSpec.upto trustRunsSpec)

/-- 'cascadelaw20.TrustTotals', WHERE WHAT IT READS IS OF BULK AT MOST 1048576: true; the input reads as it did. -/
def trustTotalsUptoRow : OpenClaim := { program := "ytoiijpphfckdjaa", sum := "a24e40ef4c3835ca7d97f04fdc598e6cb109dd274832484c03b76756438ba679", func := "cascade/cascadelaw20.TrustTotals", spec := "trustTotals", apart := false, narrowed := true }
def TrustTotalsUptoSaid : Prop := trustTotalsUptoRow.holds Try.pinned (OpenSpec.upto trustTotalsSpec)

/-- 'cascadelaw20.TrustPromoted', WHERE WHAT IT READS IS OF BULK AT MOST 1048576: true; the input reads as it did. -/
def trustPromotedUptoRow : OpenClaim := { program := "ytoiijpphfckdjaa", sum := "a24e40ef4c3835ca7d97f04fdc598e6cb109dd274832484c03b76756438ba679", func := "cascade/cascadelaw20.TrustPromoted", spec := "trustPromoted", apart := false, narrowed := true }
def TrustPromotedUptoSaid : Prop := trustPromotedUptoRow.holds Try.pinned (OpenSpec.upto trustPromotedSpec)

/-- 'cascadelaw20.TrustBegins', WHERE WHAT IT READS IS OF BULK AT MOST 1048576: true; the input reads as it did. -/
def trustBeginsUptoRow : OpenClaim := { program := "ytoiijpphfckdjaa", sum := "a24e40ef4c3835ca7d97f04fdc598e6cb109dd274832484c03b76756438ba679", func := "cascade/cascadelaw20.TrustBegins", spec := "trustBegins", apart := false, narrowed := true }
def TrustBeginsUptoSaid : Prop := trustBeginsUptoRow.holds Try.pinned (OpenSpec.upto trustBeginsSpec)

/-- 'cascadelaw20.TrustCopies', WHERE WHAT IT READS IS OF BULK AT MOST 1048576: true; the input reads as it did. -/
def trustCopiesUptoRow : OpenClaim := { program := "ytoiijpphfckdjaa", sum := "a24e40ef4c3835ca7d97f04fdc598e6cb109dd274832484c03b76756438ba679", func := "cascade/cascadelaw20.TrustCopies", spec := "trustCopies", unfollowed := true, recurses := true, apart := false, narrowed := true }
def TrustCopiesUptoSaid : Prop := trustCopiesUptoRow.holds Try.pinned (OpenSpec.upto trustCopiesSpec)

end Rows
end Go.Proofs.Ytoiijpphfckdjaa
