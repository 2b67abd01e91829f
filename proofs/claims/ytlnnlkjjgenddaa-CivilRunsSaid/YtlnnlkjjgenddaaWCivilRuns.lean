/- The closed sentence of chapter 2 answers true, whatever memory it is called in. -/
import Derived.Test.YtlnnlkjjgenddaaS
namespace Go.Proofs.Ytlnnlkjjgenddaa
open Go Go.RowKit Go.Proofs.Ytlnnlkjjgenddaa.Ev
theorem runCivilRuns : yes (callE Try.prog [] (fun _ => none) 100 3 [] nil) = true := by kernel_rfl
theorem toldCivilRuns : ToldOk Try.prog 3 (.bool true) := told Seat.mix Seat.names (fun _ _ h => by cases h) runCivilRuns
theorem walkCivilRuns (w : World) : Calls Try.prog 3 #[] w fun e w' => e = .returned (.bool true) ∧ Below w.heap.size w w' := toldCivilRuns.calls w
end Go.Proofs.Ytlnnlkjjgenddaa
