/- What is looked at once of this seat's program. -/
import Derived.Test.YtdbkoeefnodejaaGreatProg
import Derived.Test.YtdbkoeefnodejaaGreatE19
namespace Go.Proofs.YtdbkoeefnodejaaGreat.Seat
open Go Go.Proofs.YtdbkoeefnodejaaGreat.Ev
theorem own : ownKnob Tryz.prog.godebug = none := by kernel_rfl
theorem mix : Tryz.prog.follows .mixedOrders = true := by kernel_rfl
theorem names : namesOk Tryz.prog = true := by kernel_rfl
theorem laid : laidOutB Tryz.prog = true := by kernel_rfl
end Go.Proofs.YtdbkoeefnodejaaGreat.Seat
