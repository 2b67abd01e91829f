/- The closed sentence 'ClosingRuns' answers true, whatever memory it is called in. Conditions: none. -/
import Derived.Test.YtdbkoeefnodejaaGreatS
namespace Go.Proofs.YtdbkoeefnodejaaGreat
open Go Go.RowKit Go.Proofs.YtdbkoeefnodejaaGreat.Ev
theorem runClosingRuns : yes (callE Tryz.prog [44, 136, 106] (fun _ _ => none) 100 3 [] nil) = true := by kernel_rfl
theorem toldClosingRuns : ToldOk Tryz.prog 3 [] (.bool true) := told_yes Seat.mix Seat.names (fun _ _ _ h => by cases h) runClosingRuns
theorem walkClosingRuns (w : World) : Calls Tryz.prog 3 #[] w fun e w' => e = .returned (.bool true) ∧ Below w.heap.size w w' := toldClosingRuns.walk w
end Go.Proofs.YtdbkoeefnodejaaGreat
