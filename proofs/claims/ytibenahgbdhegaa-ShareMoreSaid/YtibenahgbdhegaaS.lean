/- What is looked at once of this seat's program. -/
import Derived.Test.YtibenahgbdhegaaProg
import Derived.Test.YtibenahgbdhegaaE19
namespace Go.Proofs.Ytibenahgbdhegaa.Seat
open Go Go.Proofs.Ytibenahgbdhegaa.Ev
theorem own : ownKnob Try.prog.godebug = none := by kernel_rfl
theorem mix : Try.prog.follows .mixedOrders = true := by kernel_rfl
theorem names : namesOk Try.prog = true := by kernel_rfl
theorem laid : laidOutB Try.prog = true := by kernel_rfl
end Go.Proofs.Ytibenahgbdhegaa.Seat
