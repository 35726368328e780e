/- A client: answers, another list of them; what is known.
   Conditions: none. -/
import Derived.Test.YtnfmdpelafaoaaaBt
set_option linter.unusedSimpArgs false
set_option linter.unusedVariables false
namespace Go.Proofs.Ytnfmdpelafaoaaa
open Go.Eng Go.RowKit Go.ChangeShapes Go.WideShapes
set_option maxRecDepth 100000
def T0 : TS := ⟨[], [], [], 0⟩
def tB0 : TS := ⟨[], [.one (.bl true)], [], 0⟩
def cTrue : EN → Tree (TS × EN) := fun _ => .leaf (tB0, ⟨[[.u]], []⟩)
def rOp : List TV := [.i .u8, .i .u32, .i .u8, .i .u8, .i .u8, .s]
def rAns : List TV := [.i .u8, .i .u32, .i .u8, .i .u8, .i .u8, .s, .i .u8, .s]
def clT : TS := ⟨[0], [.one (.sl 0)], [(0, .lst none rAns none)], 1⟩
def clR : TS := ⟨[], [.one (.sl 1)], [(1, .lst none rAns (some 2)), (2, .tok)], 3⟩
def big : Int := 100000000
theorem t25n (n : Nat) (r : Nat → List Num) : callW Try.prog (codeT Try.prog noTab 300) 25 [.nils] (clT.heap ⟨[[]], [.lst n r]⟩) 1 (outV 1 clR) =
  .leaf ⟨[[.u]], [.lst 0 fun (x : Nat) => [], .tok]⟩ := by kernel_rfl
theorem t25s (n : Nat) (r : Nat → List Num) : callW Try.prog (codeT Try.prog noTab 300) 25 [.slN 0] (clT.heap ⟨[[]], [.lst n r]⟩) 1 (outV 1 clR) =
  .must (decide ((0 + (n : Int)) * 56 ≤ 1099511627776 ∧ 0 + (n : Int) ≤ 1099511627776)) (.must (rowsB [.i .u8, .i .u32, .i .u8, .i .u8, .i .u8, .s, .i .u8, .s] (catRows (.lit 0) (chunk 8 []) (instR [.i .u8, .i .u32, .i
  .u8, .i .u8, .i .u8, .s, .i .u8, .s] r)) (0 + (n : Int)).toNat) (.leaf ⟨[[.u]], [.lst (0 + (n : Int)).toNat (rowNums [.i .u8, .i .u32, .i .u8, .i .u8, .i .u8, .s, .i .u8, .s] (catRows (.lit 0) (chunk 8 []) (instR [.i
  .u8, .i .u32, .i .u8, .i .u8, .i .u8, .s, .i .u8, .s] r))), .tok]⟩)) := by kernel_rfl
def c25 (e : EN) : Tree (TS × EN) := .must (decide ((e.ln 0 : Int) ≤ big)) (.leaf (clR, ⟨[[.u]], [.lst (e.ln 0) (e.rw 0), .tok]⟩))
def caSm : List (FuncId × Summ) := [(25, ctrSumm0 clT c25)]
def caT : Tab := smTab (tabOf caSm)
theorem rowNums_cat0 {row : List TV} (hk : row.all TV.keyless = true) (c : List AV) (r : Nat → List Num) (i : Nat) : eqvL row (rowNums row (catRows (.lit 0) (chunk row.length c) (instR row r)) i) (r i) := by
  rw [rowNums_cat, if_neg (by simp)]
  exact eqvL_rowNums hk r _
theorem rowsB_cat0 {row : List TV} (hk : row.all TV.keyless = true) (c : List AV) (k : Nat) (r : Nat → List Num) (n : Nat) : rowsB row (catRows (.lit 0) (chunk k c) (instR row r)) n = true :=
  rowsB_cat (fun i h => absurd h (by simp)) (fun i _ => rowOk_inst hk _)
theorem cl_std (n : Nat) (r : Nat → List Num) (h : (n : Int) ≤ big) : StdX Try.prog 25 clT ⟨[[]], [.lst n r]⟩ clR ⟨[[.u]], [.lst n r, .tok]⟩ := by
  unfold big at h
  refine StdN.nilOr (len := .sym n) (sz := 8) (rows := instR rAns r) (g := none) rfl (fun h0 => ?_) ?_
  · refine stdA_tree (t := clT) (t' := clR) (noTab_all _) mixed rfl (holds_of_eq (t25n n r) (holds_leaf ?_))
    have h0 : (n : Int) = 0 := h0
    have : n = 0 := by omega
    subst this
    (repeat' (first | exact trivial | exact rfl | exact TS.eqv_refl _ _ | exact len_app _ _ | exact rows_appI | exact fun _ _ => eqvL_refl _ _ | exact fun i _ => eqvL_rowNums rfl _ i | apply And.intro))
    all_goals exact fun i hi => absurd hi (by simp [lnS, ON.len, hdO, tlO])
  · refine stdA_tree (t := clT) (t' := clR) (noTab_all _) mixed rfl (holds_of_eq (t25s n r) (holds_must (decide_eq_true (by omega)) (holds_must (rowsB_cat0 rfl _ _ _ _) (holds_leaf ?_))))
    refine ⟨⟨trivial, trivial⟩, ⟨?_, fun i _ => rowNums_cat0 (row := rAns) rfl _ r i⟩, trivial, trivial⟩
    show (0 + (n : Int)).toNat = n
    omega
theorem c25_ok : SummAll Try.prog 25 (ctrSumm0 clT c25) := ctr0_ok fun e r h => by
  unfold c25 at h
  obtain ⟨hl, h⟩ := must_sel h
  cases h
  refine StdX.pre (x' := ⟨_, _⟩) ⟨?_, ?_⟩ (cl_std (e.ln 0) (e.rw 0) (of_decide_eq_true hl))
  all_goals (repeat' (first | exact trivial | exact rfl | exact TS.eqv_refl _ _ | exact len_app _ _ | exact rows_appI | exact fun _ _ => eqvL_refl _ _ | exact fun i _ => eqvL_rowNums rfl _ i | apply And.intro))
theorem caSm_ok : AllOk Try.prog caSm := ⟨c25_ok, trivial⟩
theorem caTab : TabAll Try.prog caT := tab_ok caSm_ok
theorem known6  : callW Try.prog (codeT Try.prog caT 2000) 6 (T0.vals ⟨[], []⟩) (T0.heap ⟨[], []⟩) 0 (outV 0 tB0) =
  .must true (.defI 1 fun z0 => .ite (z0 == 1) (.leaf ⟨[[.u]], []⟩) (.fail "the result is not of its template")) := by kernel_rfl
end Go.Proofs.Ytnfmdpelafaoaaa
