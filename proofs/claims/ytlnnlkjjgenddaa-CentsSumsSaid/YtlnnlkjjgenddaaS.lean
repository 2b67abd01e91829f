/- What is looked at once of this seat's program. -/
import Derived.Test.YtlnnlkjjgenddaaProg
import Derived.Test.YtlnnlkjjgenddaaE19
namespace Go.Proofs.Ytlnnlkjjgenddaa.Seat
open Go Go.Proofs.Ytlnnlkjjgenddaa.Ev
theorem own : ownKnob Try.prog.godebug = none := by kernel_rfl
theorem mix : Try.prog.follows .mixedOrders = true := by kernel_rfl
theorem names : namesOk Try.prog = true := by kernel_rfl
theorem laid : laidOutB Try.prog = true := by kernel_rfl
end Go.Proofs.Ytlnnlkjjgenddaa.Seat
