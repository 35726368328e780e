/- What is known at the laws heads; Contains of numbers; tables.
   Conditions: none. -/
import Derived.Test.YtlcgnjcfihablaaSa
set_option linter.unusedSimpArgs false
set_option linter.unusedVariables false
namespace Go.Proofs.Ytlcgnjcfihablaa
open Go.Eng Go.RowKit Go.ChangeShapes Go.WideShapes
set_option maxRecDepth 100000
def T0 : TS := ⟨[], [], [], 0⟩
def tB0 : TS := ⟨[], [.one (.bl true)], [], 0⟩
def cTrue : EN → Tree (TS × EN) := fun _ => .leaf (tB0, ⟨[[.u]], []⟩)
def ixSm : List (FuncId × Summ) := [(58, ctrSumm ixT ixC), (57, ctrSumm jxT jxC)]
def ixTab : Tab := smTab (tabOf ixSm)
def tB1 : TS := ⟨[], [.one .b], [], 1⟩
def c56 : EN → Tree (TS × EN)
  | ⟨[_, [.i v]], [.lst len r]⟩ => .must (decide (len ≤ big)) (.leaf (tB1, ⟨[[.b (anyN (ixP v r) len.toNat)]], []⟩))
  | _ => .fail "Contains"
def c49 : EN → Tree (TS × EN)
  | ⟨[_, [.i v]], [.lst len r]⟩ => .must (decide (len ≤ big)) (.leaf (tB1, ⟨[[.b (anyN (jxP v r) len.toNat)]], []⟩))
  | _ => .fail "Contains"
theorem known12  : callW Try.prog (codeT Try.prog noTab 2000) 12 (T0.vals ⟨[], []⟩) (T0.heap ⟨[], []⟩) 0 (outV 0 tB0) =
  .leaf ⟨[[.u]], []⟩ := by kernel_rfl
theorem known23  : callW Try.prog (codeT Try.prog noTab 2000) 23 (T0.vals ⟨[], []⟩) (T0.heap ⟨[], []⟩) 0 (outV 0 tB0) =
  .leaf ⟨[[.u]], []⟩ := by kernel_rfl
theorem t56 (len v : Int) (r : Nat → List Num) : callW Try.prog (codeT Try.prog ixTab 300) 56 (ixT.vals ⟨[[], [.i v]], [.lst len r]⟩) (ixT.heap ⟨[[], [.i v]], [.lst len r]⟩) 1 (outV 1 tB1) =
  .must (rowsB [.i .u8] (instR [.i .u8] r) len.toNat) (.must (decide (len ≤ 1099511627776)) (.defI (fstN (ixP v (rowNums [.i .u8] (instR [.i .u8] r))) len.toNat) fun z0 => .leaf ⟨[[.b (decide (z0 ≥ 0))]], []⟩)) := by kernel_rfl
theorem t49 (len v : Int) (r : Nat → List Num) : callW Try.prog (codeT Try.prog ixTab 300) 49 (jxT.vals ⟨[[], [.i v]], [.lst len r]⟩) (jxT.heap ⟨[[], [.i v]], [.lst len r]⟩) 1 (outV 1 tB1) =
  .must (rowsB [.i .i64] (instR [.i .i64] r) len.toNat) (.must (decide (len ≤ 1099511627776)) (.defI (fstN (jxP v (rowNums [.i .i64] (instR [.i .i64] r))) len.toNat) fun z0 => .leaf ⟨[[.b (decide (z0 ≥ 0))]], []⟩)) := by kernel_rfl
theorem known12_ok : SummAll Try.prog 12 (ctrSumm T0 cTrue) := ctr_ok fun x r h => by
  cases h
  exact stdX_tree (noTab_all _) mixed (t := T0) (x := ⟨[], []⟩) rfl (holds_of_eq known12 (holds_leaf (tB0.eqv_refl _)))
theorem known23_ok : SummAll Try.prog 23 (ctrSumm T0 cTrue) := ctr_ok fun x r h => by
  cases h
  exact stdX_tree (noTab_all _) mixed (t := T0) (x := ⟨[], []⟩) rfl (holds_of_eq known23 (holds_leaf (tB0.eqv_refl _)))
theorem ixSm_ok : AllOk Try.prog ixSm := ⟨ixC_ok, jxC_ok, trivial⟩
theorem ixTab_ok : TabAll Try.prog ixTab := tab_ok ixSm_ok
theorem c56_ok : SummAll Try.prog 56 (ctrSumm ixT c56) := ctr_ok fun x r h => by
  unfold c56 at h
  split at h
  · rename_i a v len rr
    by_cases hl : len ≤ big
    · simp only [hl, decide_true, Tree.sel] at h
      cases h
      refine stdX_tree ixTab_ok mixed rfl (holds_of_eq (t56 len v rr) ?_)
      repeat' (first | refine holds_must (rowsB_instR rfl _ _) ?_ | refine holds_must (decide_eq_true hl) ?_ | refine holds_inI ?_ | refine holds_inB ?_)
      exact holds_leaf ⟨⟨fstN_ge, trivial⟩, trivial⟩
    · simp only [hl, decide_false, Tree.sel] at h
      cases h
  · cases h
theorem c49_ok : SummAll Try.prog 49 (ctrSumm jxT c49) := ctr_ok fun x r h => by
  unfold c49 at h
  split at h
  · rename_i a v len rr
    by_cases hl : len ≤ big
    · simp only [hl, decide_true, Tree.sel] at h
      cases h
      refine stdX_tree ixTab_ok mixed rfl (holds_of_eq (t49 len v rr) ?_)
      repeat' (first | refine holds_must (rowsB_instR rfl _ _) ?_ | refine holds_must (decide_eq_true hl) ?_ | refine holds_inI ?_ | refine holds_inB ?_)
      exact holds_leaf ⟨⟨fstN_ge, trivial⟩, trivial⟩
    · simp only [hl, decide_false, Tree.sel] at h
      cases h
  · cases h
def sbSm : List (FuncId × Summ) := [(12, ctrSumm T0 cTrue), (23, ctrSumm T0 cTrue), (56, ctrSumm ixT c56), (49, ctrSumm jxT c49)]
def sbT : Tab := smTab (tabOf sbSm)
theorem sbSm_ok : AllOk Try.prog sbSm := ⟨known12_ok, known23_ok, c56_ok, c49_ok, trivial⟩
theorem sbTab : TabAll Try.prog sbT := tab_ok sbSm_ok
end Go.Proofs.Ytlcgnjcfihablaa
