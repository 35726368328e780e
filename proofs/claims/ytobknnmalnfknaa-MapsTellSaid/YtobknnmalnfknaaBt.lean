/- The seat: closed facts of its program.
   Conditions: none. -/
import Derived.Test.YtobknnmalnfknaaEngT
import Derived.Test.YtobknnmalnfknaaRows
set_option linter.unusedSimpArgs false
set_option linter.unusedVariables false
namespace Go.Proofs.Ytobknnmalnfknaa
open Go.Eng Go.RowKit
theorem Try.own : ownKnob Try.prog.godebug = none := by kernel_rfl
theorem Try.laidOut : laidOutB Try.prog = true := by kernel_rfl
theorem pk31 : pkT Try.prog 8 31 = some [.int .u8, .int .u8, .int .i64] := by kernel_rfl
theorem pk48 : pkT Try.prog 8 48 = some [.int .u8, .int .u8, .int .u8] := by kernel_rfl
theorem pk29 : pkT Try.prog 8 29 = some [.int .u32, .int .u8] := by kernel_rfl
theorem pk35 : pkT Try.prog 8 35 = some [.bool, .int .u32, .int .u8, .int .u8, .int .u8, .int .i64] := by kernel_rfl
end Go.Proofs.Ytobknnmalnfknaa
