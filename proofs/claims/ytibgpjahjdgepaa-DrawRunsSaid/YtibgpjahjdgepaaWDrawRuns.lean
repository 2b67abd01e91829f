/- The closed sentence 'DrawRuns' answers true, whatever memory it is called in. Conditions: none. -/
import Derived.Test.YtibgpjahjdgepaaS
namespace Go.Proofs.Ytibgpjahjdgepaa
open Go Go.RowKit Go.Proofs.Ytibgpjahjdgepaa.Ev
theorem runDrawRuns : yes (callE Try.prog [] (fun _ _ => none) 100 3 [] nil) = true := by kernel_rfl
theorem toldDrawRuns : ToldOk Try.prog 3 [] (.bool true) := told_yes Seat.mix Seat.names (fun _ _ _ h => by cases h) runDrawRuns
theorem walkDrawRuns (w : World) : Calls Try.prog 3 #[] w fun e w' => e = .returned (.bool true) ∧ Below w.heap.size w w' := toldDrawRuns.walk w
end Go.Proofs.Ytibgpjahjdgepaa
