/- The seat: closed facts of its program.
   Conditions: none. -/
import Derived.Test.YtnfmdpelafaoaaaEngAe
import Derived.Test.YtnfmdpelafaoaaaRows
set_option linter.unusedSimpArgs false
set_option linter.unusedVariables false
namespace Go.Proofs.Ytnfmdpelafaoaaa
open Go.Eng Go.RowKit
theorem Try.own : ownKnob Try.prog.godebug = none := by kernel_rfl
theorem Try.laidOut : laidOutB Try.prog = true := by kernel_rfl
theorem mixed : Try.prog.follows .mixedOrders = true := by kernel_rfl
end Go.Proofs.Ytnfmdpelafaoaaa
