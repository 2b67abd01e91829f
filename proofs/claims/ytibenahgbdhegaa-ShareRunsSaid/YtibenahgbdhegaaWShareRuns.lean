/- The closed sentence 'ShareRuns' answers true, whatever memory it is called in. Conditions: none. -/
import Derived.Test.YtibenahgbdhegaaS
namespace Go.Proofs.Ytibenahgbdhegaa
open Go Go.RowKit Go.Proofs.Ytibenahgbdhegaa.Ev
theorem runShareRuns : yes (callE Try.prog [] (fun _ _ => none) 100 3 [] nil) = true := by kernel_rfl
theorem toldShareRuns : ToldOk Try.prog 3 [] (.bool true) := told_yes Seat.mix Seat.names (fun _ _ _ h => by cases h) runShareRuns
theorem walkShareRuns (w : World) : Calls Try.prog 3 #[] w fun e w' => e = .returned (.bool true) ∧ Below w.heap.size w w' := toldShareRuns.walk w
end Go.Proofs.Ytibenahgbdhegaa
