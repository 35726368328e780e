/- What is known at the laws heads; Contains of numbers; tables.
   Conditions: none. -/
import Derived.Test.YtlcgnjcfihablaaSa
set_option linter.unusedSimpArgs false
set_option linter.unusedVariables false
namespace Go.Proofs.Ytlcgnjcfihablaa
open Go.Eng Go.RowKit Go.ChangeShapes Go.WideShapes
set_option maxRecDepth 100000
def T0 : TS := ⟨[], [], [], 0⟩
def tB0 : TS := ⟨[], [.one (.bl true)], [], 0⟩
def cTrue : EN → Tree (TS × EN) := fun _ => .leaf (tB0, ⟨[[.u]], []⟩)
def ixSm : List (FuncId × Summ) := [(58, ctrSumm0 ixT ixC), (57, ctrSumm0 jxT jxC)]
def ixTab : Tab := smTab (tabOf ixSm)
def tB1 : TS := ⟨[], [.one .b], [], 1⟩
def c56 (e : EN) : Tree (TS × EN) := .must (decide ((e.ln 0 : Int) ≤ big)) (.leaf (tB1, ⟨[[.b (anyN (ixP (e.ai 1 0) (e.rw 0)) (e.ln 0))]], []⟩))
def c49 (e : EN) : Tree (TS × EN) := .must (decide ((e.ln 0 : Int) ≤ big)) (.leaf (tB1, ⟨[[.b (anyN (jxP (e.ai 1 0) (e.rw 0)) (e.ln 0))]], []⟩))
theorem known12  : callW Try.prog (codeT Try.prog noTab 2000) 12 (T0.vals ⟨[], []⟩) (T0.heap ⟨[], []⟩) 0 (outV 0 tB0) =
  .leaf ⟨[[.u]], []⟩ := by kernel_rfl
theorem known23  : callW Try.prog (codeT Try.prog noTab 2000) 23 (T0.vals ⟨[], []⟩) (T0.heap ⟨[], []⟩) 0 (outV 0 tB0) =
  .leaf ⟨[[.u]], []⟩ := by kernel_rfl
theorem t56 (len : Nat) (v : Int) (r : Nat → List Num) : callW Try.prog (codeT Try.prog ixTab 300) 56 (ixT.vals ⟨[[], [.i v]], [.lst len r]⟩) (ixT.heap ⟨[[], [.i v]], [.lst len r]⟩) 1 (outV 1 tB1) =
  .must (rowsB [.i .u8] (instR [.i .u8] r) len) (.must (decide ((len : Int) ≤ 1099511627776)) (.defI (fstN (ixP v (rowNums [.i .u8] (instR [.i .u8] r))) len) fun z0 => .leaf ⟨[[.b (decide (z0 ≥ 0))]], []⟩)) := by kernel_rfl
theorem t49 (len : Nat) (v : Int) (r : Nat → List Num) : callW Try.prog (codeT Try.prog ixTab 300) 49 (jxT.vals ⟨[[], [.i v]], [.lst len r]⟩) (jxT.heap ⟨[[], [.i v]], [.lst len r]⟩) 1 (outV 1 tB1) =
  .must (rowsB [.i .i64] (instR [.i .i64] r) len) (.must (decide ((len : Int) ≤ 1099511627776)) (.defI (fstN (jxP v (rowNums [.i .i64] (instR [.i .i64] r))) len) fun z0 => .leaf ⟨[[.b (decide (z0 ≥ 0))]], []⟩)) := by kernel_rfl
theorem known12_ok : SummAll Try.prog 12 (ctrSumm0 T0 cTrue) := ctr0_ok fun x r h => by
  cases h
  exact stdX_tree (noTab_all _) mixed (t := T0) (x := ⟨[], []⟩) rfl (holds_of_eq known12 (holds_leaf (tB0.eqv_refl _)))
theorem known23_ok : SummAll Try.prog 23 (ctrSumm0 T0 cTrue) := ctr0_ok fun x r h => by
  cases h
  exact stdX_tree (noTab_all _) mixed (t := T0) (x := ⟨[], []⟩) rfl (holds_of_eq known23 (holds_leaf (tB0.eqv_refl _)))
theorem ixSm_ok : AllOk Try.prog ixSm := ⟨ixC_ok, jxC_ok, trivial⟩
theorem ixTab_ok : TabAll Try.prog ixTab := tab_ok ixSm_ok
theorem c56_ok : SummAll Try.prog 56 (ctrSumm0 ixT c56) := ctr0_ok fun e r h => by
  unfold c56 at h
  obtain ⟨hl, h⟩ := must_sel h
  have hl := of_decide_eq_true hl
  cases h
  refine StdX.pre (x' := ⟨[[], [.i (e.ai 1 0)]], [.lst (e.ln 0) (e.rw 0)]⟩) ⟨?_, ?_⟩ (stdX_tree ixTab_ok mixed rfl (holds_of_eq (t56 (e.ln 0) (e.ai 1 0) (e.rw 0)) ?_))
  · (repeat' (first | exact trivial | exact rfl | exact fun _ _ => eqvL_refl _ _ | apply And.intro))
  · (repeat' (first | exact trivial | exact rfl | exact fun _ _ => eqvL_refl _ _ | apply And.intro))
  · refine holds_must (rowsB_i _ _ _) (holds_must (decide_eq_true hl) (holds_inI (holds_leaf ?_)))
    exact ⟨⟨fstN_ge, trivial⟩, trivial⟩
theorem c49_ok : SummAll Try.prog 49 (ctrSumm0 jxT c49) := ctr0_ok fun e r h => by
  unfold c49 at h
  obtain ⟨hl, h⟩ := must_sel h
  have hl := of_decide_eq_true hl
  cases h
  refine StdX.pre (x' := ⟨[[], [.i (e.ai 1 0)]], [.lst (e.ln 0) (e.rw 0)]⟩) ⟨?_, ?_⟩ (stdX_tree ixTab_ok mixed rfl (holds_of_eq (t49 (e.ln 0) (e.ai 1 0) (e.rw 0)) ?_))
  · (repeat' (first | exact trivial | exact rfl | exact fun _ _ => eqvL_refl _ _ | apply And.intro))
  · (repeat' (first | exact trivial | exact rfl | exact fun _ _ => eqvL_refl _ _ | apply And.intro))
  · refine holds_must (rowsB_i _ _ _) (holds_must (decide_eq_true hl) (holds_inI (holds_leaf ?_)))
    exact ⟨⟨fstN_ge, trivial⟩, trivial⟩
def cntT : TS := ⟨[0], [.agg [.b, .b, .b]], [], 0⟩
def cntR : TS := ⟨[], [.one (.i .i64)], [], 0⟩
def cntB (a b c : Bool) : Int := (bif a then 1 else 0) + (bif b then 1 else 0) + (bif c then 1 else 0)
def cntC (e : EN) : Tree (TS × EN) := .leaf (cntR, ⟨[[.i (cntB (e.ab 0 0) (e.ab 0 1) (e.ab 0 2))]], []⟩)
theorem t47 (a b c : Bool) : callW Try.prog (codeT Try.prog noTab 300) 47 (cntT.vals ⟨[[.b a, .b b, .b c]], []⟩) (cntT.heap ⟨[[.b a, .b b, .b c]], []⟩) 0 (outV 0 cntR) =
  .ite a (.ite b (.ite c (.leaf ⟨[[.i 3]], []⟩) (.leaf ⟨[[.i 2]], []⟩)) (.ite c (.leaf ⟨[[.i 2]], []⟩) (.leaf ⟨[[.i 1]], []⟩))) (.ite b (.ite c (.leaf ⟨[[.i 2]], []⟩) (.leaf ⟨[[.i 1]], []⟩)) (.ite c (.leaf ⟨[[.i 1]], []⟩)
  (.leaf ⟨[[.i 0]], []⟩))) := by kernel_rfl
theorem cntC_ok : SummAll Try.prog 47 (ctrSumm0 cntT cntC) := ctr0_ok fun e r h => by
  cases h
  refine StdX.pre (x' := ⟨[[.b (e.ab 0 0), .b (e.ab 0 1), .b (e.ab 0 2)]], []⟩) ⟨?_, trivial⟩ (stdX_tree (noTab_all _) mixed rfl (holds_of_eq (t47 (e.ab 0 0) (e.ab 0 1) (e.ab 0 2)) ?_))
  · (repeat' (first | exact trivial | exact rfl | apply And.intro))
  · generalize e.ab 0 0 = a, e.ab 0 1 = b, e.ab 0 2 = c
    cases a <;> cases b <;> cases c
    all_goals repeat' with_reducible (first | refine holds_inI ?_ | refine holds_ite (fun h => ?_) (fun h => ?_))
    all_goals first
      | contradiction
      | exact holds_leaf ⟨⟨rfl, trivial⟩, trivial⟩
      | cases (by assumption : true = false)
      | cases (by assumption : false = true)
def sbSm : List (FuncId × Summ) := [(12, ctrSumm0 T0 cTrue), (23, ctrSumm0 T0 cTrue), (56, ctrSumm0 ixT c56), (49, ctrSumm0 jxT c49), (47, ctrSumm0 cntT cntC)]
def sbT : Tab := smTab (tabOf sbSm)
theorem sbSm_ok : AllOk Try.prog sbSm := ⟨known12_ok, known23_ok, c56_ok, c49_ok, cntC_ok, trivial⟩
theorem sbTab : TabAll Try.prog sbT := tab_ok sbSm_ok
end Go.Proofs.Ytlcgnjcfihablaa
