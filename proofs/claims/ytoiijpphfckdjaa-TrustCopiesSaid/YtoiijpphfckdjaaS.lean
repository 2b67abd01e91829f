/- What is looked at once of this seat's program. -/
import Derived.Test.YtoiijpphfckdjaaProg
import Derived.Test.YtoiijpphfckdjaaE19
namespace Go.Proofs.Ytoiijpphfckdjaa.Seat
open Go Go.Proofs.Ytoiijpphfckdjaa.Ev
theorem own : ownKnob Try.prog.godebug = none := by kernel_rfl
theorem mix : Try.prog.follows .mixedOrders = true := by kernel_rfl
theorem names : namesOk Try.prog = true := by kernel_rfl
theorem laid : laidOutB Try.prog = true := by kernel_rfl
end Go.Proofs.Ytoiijpphfckdjaa.Seat
