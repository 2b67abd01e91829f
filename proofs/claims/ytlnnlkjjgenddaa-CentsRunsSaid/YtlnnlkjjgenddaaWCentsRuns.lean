/- The closed sentence of chapter 1 answers true, whatever memory it is called in. -/
import Derived.Test.YtlnnlkjjgenddaaS
namespace Go.Proofs.Ytlnnlkjjgenddaa
open Go Go.RowKit Go.Proofs.Ytlnnlkjjgenddaa.Ev
theorem runCentsRuns : yes (callE Try.prog [] (fun _ => none) 100 8 [] nil) = true := by kernel_rfl
theorem toldCentsRuns : ToldOk Try.prog 8 (.bool true) := told Seat.mix Seat.names (fun _ _ h => by cases h) runCentsRuns
theorem walkCentsRuns (w : World) : Calls Try.prog 8 #[] w fun e w' => e = .returned (.bool true) ∧ Below w.heap.size w w' := toldCentsRuns.calls w
end Go.Proofs.Ytlnnlkjjgenddaa
