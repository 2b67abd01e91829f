/- The closed sentence 'TrustRuns' answers true, whatever memory it is called in. Conditions: none. -/
import Derived.Test.YtoiijpphfckdjaaS
namespace Go.Proofs.Ytoiijpphfckdjaa
open Go Go.RowKit Go.Proofs.Ytoiijpphfckdjaa.Ev
theorem runTrustRuns : yes (callE Try.prog [] (fun _ _ => none) 100 3 [] nil) = true := by kernel_rfl
theorem toldTrustRuns : ToldOk Try.prog 3 [] (.bool true) := told_yes Seat.mix Seat.names (fun _ _ _ h => by cases h) runTrustRuns
theorem walkTrustRuns (w : World) : Calls Try.prog 3 #[] w fun e w' => e = .returned (.bool true) ∧ Below w.heap.size w w' := toldTrustRuns.walk w
end Go.Proofs.Ytoiijpphfckdjaa
