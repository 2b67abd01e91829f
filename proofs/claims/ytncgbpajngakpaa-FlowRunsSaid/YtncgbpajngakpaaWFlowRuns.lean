/- The closed sentence 'FlowRuns' answers true, whatever memory it is called in. Conditions: none. -/
import Derived.Test.YtncgbpajngakpaaS
namespace Go.Proofs.Ytncgbpajngakpaa
open Go Go.RowKit Go.Proofs.Ytncgbpajngakpaa.Ev
theorem runFlowRuns : yes (callE Try.prog [29] (fun _ _ => none) 100 3 [] nil) = true := by kernel_rfl
theorem toldFlowRuns : ToldOk Try.prog 3 [] (.bool true) := told_yes Seat.mix Seat.names (fun _ _ _ h => by cases h) runFlowRuns
theorem walkFlowRuns (w : World) : Calls Try.prog 3 #[] w fun e w' => e = .returned (.bool true) ∧ Below w.heap.size w w' := toldFlowRuns.walk w
end Go.Proofs.Ytncgbpajngakpaa
