/- What is looked at once of this seat's program. -/
import Derived.Test.YtncgbpajngakpaaProg
import Derived.Test.YtncgbpajngakpaaE19
namespace Go.Proofs.Ytncgbpajngakpaa.Seat
open Go Go.Proofs.Ytncgbpajngakpaa.Ev
theorem own : ownKnob Try.prog.godebug = none := by kernel_rfl
theorem mix : Try.prog.follows .mixedOrders = true := by kernel_rfl
theorem names : namesOk Try.prog = true := by kernel_rfl
theorem laid : laidOutB Try.prog = true := by kernel_rfl
end Go.Proofs.Ytncgbpajngakpaa.Seat
