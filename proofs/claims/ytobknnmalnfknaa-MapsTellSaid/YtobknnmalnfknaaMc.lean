/- Maps: a table of summaries, whole.
   Conditions: none. -/
import Derived.Test.YtobknnmalnfknaaMb
import Derived.Lib.SmallJoins
set_option linter.unusedSimpArgs false
set_option linter.unusedVariables false
namespace Go.Proofs.Ytobknnmalnfknaa
open Go.Eng Go.RowKit
set_option maxRecDepth 100000
theorem mknown_tree  : runV Try.prog mbT 300 25 [] =
  .leaf (.bool (.lit true)) := by kernel_rfl
def mcSm : List (FuncId × Summ) := (25, pureSumm (constB true)) :: mbSm
theorem mcSm_ok : AllOk Try.prog mcSm := ⟨constB_ok mbTab mknown_tree, mbSm_ok⟩
def mcT : Tab := smTab (tabOf mcSm)
theorem mcTab : TabAll Try.prog mcT := tab_ok mcSm_ok
theorem pk59 : pkT Try.prog 8 59 = some [.int .u32, .bool, .int .i64, .int .u8, .bool, .int .i64, .int .u8, .bool, .int .i64, .int .u8, .bool, .int .i64, .int .u8, .bool, .int .i64, .int .u8] := by kernel_rfl
end Go.Proofs.Ytobknnmalnfknaa
