/- The closed sentence 'AccrualRuns' answers true, whatever memory it is called in. Conditions: none. -/
import Derived.Test.YtibgpjahjdgepaaS
namespace Go.Proofs.Ytibgpjahjdgepaa
open Go Go.RowKit Go.Proofs.Ytibgpjahjdgepaa.Ev
theorem runAccrualRuns : yes (callE Try.prog [] (fun _ _ => none) 100 7 [] nil) = true := by kernel_rfl
theorem toldAccrualRuns : ToldOk Try.prog 7 [] (.bool true) := told_yes Seat.mix Seat.names (fun _ _ _ h => by cases h) runAccrualRuns
theorem walkAccrualRuns (w : World) : Calls Try.prog 7 #[] w fun e w' => e = .returned (.bool true) ∧ Below w.heap.size w w' := toldAccrualRuns.walk w
end Go.Proofs.Ytibgpjahjdgepaa
