/- Messages: the table, the trees.
   Conditions: none. -/
import Derived.Test.YtnfmdpelafaoaaaEb
set_option linter.unusedSimpArgs false
set_option linter.unusedVariables false
namespace Go.Proofs.Ytnfmdpelafaoaaa
open Go.Eng Go.RowKit Go.ChangeShapes Go.WideShapes
set_option maxRecDepth 100000
def isOpR (o : OpS) : Bool := bif decide (o.c < 1) then false else bif decide (o.c > 3) then false else bif decide (o.q < 1) then false else bif decide (o.k < 1) then false else bif decide (o.k > 5) then false else bif decide (o.o ≥ 6) then false else bif decide ((o.d.size : Int) > 16) then false else
  bif o.k != 1 then bif o.k != 3 then bif !o.d == ByteArray.mk #[] then false else bif o.k != 4 then bif o.k != 5 then true else o.a == 0 else o.a == 0 else bif o.k != 4 then bif o.k != 5 then true else o.a == 0 else o.a == 0 else bif o.k != 4 then bif o.k != 5 then true else o.a == 0 else o.a == 0
def smT2 : TS := ⟨[0, 1], [.agg rSt0, .agg rSt], [(0, .lst none rEnt none)], 1⟩
def c26 (e : EN) : Tree (TS × EN) := .leaf (tBr, ⟨[[.b (isOpR (opE e 0 0))]], []⟩)
noncomputable def pgE (e : EN) : Bool := pgB (fun k => nthN k (nthL 0 e.a)) (e.ln 0) (e.rw 0)
noncomputable def rfE (e : EN) : Bool := rfB (fun k => nthN k (nthL 0 e.a)) (e.ln 0) (e.rw 0)
def smE (e : EN) : Bool := smB (fun k => nthN k (nthL 0 e.a)) (fun k => nthN k (nthL 1 e.a)) (e.ln 0)
noncomputable def c35 (e : EN) : Tree (TS × EN) := .leaf (isR, ⟨[[.b (pgE e)]], []⟩)
noncomputable def c46 (e : EN) : Tree (TS × EN) := .leaf (isR, ⟨[[.b (rfE e)]], []⟩)
def c53 (e : EN) : Tree (TS × EN) := .leaf (isR, ⟨[[.b (smE e)]], []⟩)
def c40 (e : EN) : Tree (TS × EN) := .leaf (isR, ⟨[[.b (smE e)]], []⟩)
noncomputable def ecSm : List (FuncId × Summ) := [(26, ctrSumm0 ioT c26), (35, ctrSumm isT c35), (46, ctrSumm isT c46), (53, ctrSumm smT c53), (40, orSumm (ctrSumm smT c40) (ctrSumm smT2 c40))] ++ ebSm
noncomputable def ecT : Tab := smTab (tabOf ecSm)
def rMsg : List TV := [.i .u8, .i .u8, .i .u32, .i .u32, .i .u8, .i .u32, .i .u8, .b, .i .u8, .i .u8, .i .i64, .i .u8, .i .u32, .b, .s, .s, .s, .s, .b, .s, .s, .s, .s, .b, .s, .s, .s, .s, .b, .s, .s, .s, .s, .b, .s, .s, .s, .s, .b, .s, .s, .s, .s, .i .u32, .i .u8, .s, .i .u32, .i .u8, .s, .i .u32, .i .u8, .s, .i .u32, .i .u32, .i .u8, .i .u32, .i .u8, .i .u8, .i .u8, .s, .sl 0, .i .i64, .i .u32, .sl 1, .i .u32, .b, .s, .s, .s, .s, .b, .s, .s, .s, .s, .b, .s, .s, .s, .s, .b, .s, .s, .s, .s, .b, .s, .s, .s, .s, .b, .s, .s, .s, .s, .i .u32, .i .u8, .s, .i .u32, .i .u8, .s, .i .u32, .i .u8, .s, .i .u32, .i .u32, .i .u8, .i .u32, .i .u8, .i .u8, .i .u8, .s, .sl 2, .i .u32, .i .u32, .i .u8, .i .u32, .i .u8, .i .u8, .i .u8, .s, .i .u32, .i .u8, .i .u32, .i .u8, .i .u8, .i .u8, .s, .i .u8, .s]
def mT (k : TV) : TS := ⟨[0], [.agg (k :: rMsg)], [(0, .lst none rEnt none), (1, .lst none rEnt none), (2, .lst none rEnt none)], 3⟩
def mR : TS := ⟨[3], [.one .b], [], 3⟩
structure Msg3 where
  c : Nat → Num
  n0 : Nat
  s0 : Nat → List Num
  n1 : Nat
  s1 : Nat → List Num
  n2 : Nat
  s2 : Nat → List Num
def mE (c : Nat → Num) (n0 : Nat) (s0 : Nat → List Num) (n1 : Nat) (s1 : Nat → List Num) (n2 : Nat) (s2 : Nat → List Num) : EN := ⟨[[c 0, c 1, c 2, c 3, c 4, c 5, c 6, c 7, c 8, c 9, c 10, c 11, c 12, c 13, c 14, c 15, c 16, c 17, c 18, c 19, c 20, c 21, c 22, c 23, c 24, c 25, c 26, c 27, c 28, c 29, c 30, c 31, c 32, c 33, c 34, c 35, c 36, c 37, c 38, c 39, c 40, c 41, c 42, c 43, c 44, c 45, c 46, c 47, c 48, c 49, c 50, c 51, c 52, c 53, c 54, c 55, c 56, c 57, c 58, c 59, c 60, c 61, c 62, c 63, c 64, c 65, c 66, c 67, c 68, c 69, c 70, c 71, c 72, c 73, c 74, c 75, c 76, c 77, c 78, c 79, c 80, c 81, c 82, c 83, c 84, c 85, c 86, c 87, c 88, c 89, c 90, c 91, c 92, c 93, c 94, c 95, c 96, c 97, c 98, c 99, c 100, c 101, c 102, c 103, c 104, c 105, c 106, c 107, c 108, c 109, c 110, c 111, c 112, c 113, c 114, c 115, c 116, c 117, c 118, c 119, c 120, c 121, c 122, c 123, c 124, c 125, c 126, c 127, c 128, c 129, c 130]], [.lst n0 s0, .lst n1 s1, .lst n2 s2]⟩
def rnE (s : Nat → List Num) : Nat → List Num := rowNums [.i .u32, .i .u32, .i .u8, .i .u32, .i .u8, .i .u8, .i .u8, .s] (instR [.i .u32, .i .u32, .i .u8, .i .u32, .i .u8, .i .u8, .i .u8, .s] s)
def rbE (s : Nat → List Num) (n : Nat) : Bool := rowsB [.i .u32, .i .u32, .i .u8, .i .u32, .i .u8, .i .u8, .i .u8, .s] (instR [.i .u32, .i .u32, .i .u8, .i .u32, .i .u8, .i .u8, .i .u8, .s] s) n
def zL : List Num := [.i 0, .b false, .s (ByteArray.mk #[]), .s (ByteArray.mk #[]), .s (ByteArray.mk #[]), .s (ByteArray.mk #[]), .b false, .s (ByteArray.mk #[]), .s (ByteArray.mk #[]), .s (ByteArray.mk #[]), .s (ByteArray.mk #[]), .b false, .s (ByteArray.mk #[]), .s (ByteArray.mk #[]), .s (ByteArray.mk #[]), .s (ByteArray.mk #[]), .b false, .s (ByteArray.mk #[]), .s (ByteArray.mk #[]), .s (ByteArray.mk #[]), .s (ByteArray.mk #[]), .b false, .s (ByteArray.mk #[]), .s (ByteArray.mk #[]), .s (ByteArray.mk #[]), .s (ByteArray.mk #[]), .b false, .s (ByteArray.mk #[]), .s (ByteArray.mk #[]), .s (ByteArray.mk #[]), .s (ByteArray.mk #[]), .i 0, .i 0, .s (ByteArray.mk #[]), .i 0, .i 0, .s (ByteArray.mk #[]), .i 0, .i 0, .s (ByteArray.mk #[]), .i 0, .i 0, .i 0, .i 0, .i 0, .i 0, .i 0, .s (ByteArray.mk #[]), .u]
def stL (c : Nat → Num) (o : Nat) : List Num := [.i (c (o + 0)).I, .b (c (o + 1)).B, .s (c (o + 2)).S, .s (c (o + 3)).S, .s (c (o + 4)).S, .s (c (o + 5)).S, .b (c (o + 6)).B, .s (c (o + 7)).S, .s (c (o + 8)).S, .s (c (o + 9)).S, .s (c (o + 10)).S, .b (c (o + 11)).B, .s (c (o + 12)).S, .s (c (o + 13)).S, .s (c (o + 14)).S, .s (c (o + 15)).S, .b (c (o + 16)).B, .s (c (o + 17)).S, .s (c (o + 18)).S, .s (c (o + 19)).S, .s (c (o + 20)).S, .b (c (o + 21)).B, .s (c (o + 22)).S, .s (c (o + 23)).S, .s (c (o + 24)).S, .s (c (o + 25)).S, .b (c (o + 26)).B, .s (c (o + 27)).S, .s (c (o + 28)).S, .s (c (o + 29)).S, .s (c (o + 30)).S, .i (c (o + 31)).I, .i (c (o + 32)).I, .s (c (o + 33)).S, .i (c (o + 34)).I, .i (c (o + 35)).I, .s (c (o + 36)).S, .i (c (o + 37)).I, .i (c (o + 38)).I, .s (c (o + 39)).S, .i (c (o + 40)).I, .i (c (o + 41)).I, .i (c (o + 42)).I, .i (c (o + 43)).I, .i (c (o + 44)).I, .i (c (o + 45)).I, .i (c (o + 46)).I, .s (c (o + 47)).S, .u]
theorem t26 (o : OpS) : callW Try.prog (codeT Try.prog noTab 300) 26 (ioT.vals ⟨[o.l], []⟩) (ioT.heap ⟨[o.l], []⟩) 0 (outV 0 tBr) =
  .ite (decide (o.c < 1)) (.leaf ⟨[[.b false]], []⟩) (.ite (decide (o.c > 3)) (.leaf ⟨[[.b false]], []⟩) (.ite (decide (o.q < 1)) (.leaf ⟨[[.b false]], []⟩) (.ite (decide (o.k < 1)) (.leaf ⟨[[.b false]], []⟩) (.ite (decide
  (o.k > 5)) (.leaf ⟨[[.b false]], []⟩) (.ite (decide (o.o ≥ 6)) (.leaf ⟨[[.b false]], []⟩) (.ite (decide ((o.d.size : Int) > 16)) (.leaf ⟨[[.b false]], []⟩) (.ite (o.k != 1) (.ite (o.k != 3) (.ite (!o.d == (ByteArray.mk
  #[])) (.leaf ⟨[[.b false]], []⟩) (.ite (o.k != 4) (.ite (o.k != 5) (.leaf ⟨[[.b true]], []⟩) (.leaf ⟨[[.b (o.a == 0)]], []⟩)) (.leaf ⟨[[.b (o.a == 0)]], []⟩))) (.ite (o.k != 4) (.ite (o.k != 5) (.leaf ⟨[[.b true]], []⟩)
  (.leaf ⟨[[.b (o.a == 0)]], []⟩)) (.leaf ⟨[[.b (o.a == 0)]], []⟩))) (.ite (o.k != 4) (.ite (o.k != 5) (.leaf ⟨[[.b true]], []⟩) (.leaf ⟨[[.b (o.a == 0)]], []⟩)) (.leaf ⟨[[.b (o.a == 0)]], []⟩))))))))) := by kernel_rfl
theorem t40b (c d : Nat → Num) (n : Nat) (s : Nat → List Num) : callW Try.prog (codeT Try.prog ebT 300) 40 (smT2.vals (smN c d n s)) (smT2.heap (smN c d n s)) 1 (outV 1 isR) =
  .ite ((c 0).I != (d 0).I) (.leaf ⟨[[.b false]], []⟩) (.ite (!(bE c d)) (.leaf ⟨[[.b false]], []⟩) (.ite (!(tE c d)) (.leaf ⟨[[.b false]], []⟩) (.ite (0 != (n : Int)) (.leaf ⟨[[.b false]], []⟩) (.leaf ⟨[[.b true]],
  []⟩)))) := by kernel_rfl
theorem rbE_ok (s : Nat → List Num) (n : Nat) : rbE s n = true := rowsB_en s n
theorem op26_std (o : OpS) : StdX Try.prog 26 ioT ⟨[o.l], []⟩ tBr ⟨[[.b (isOpR o)]], []⟩ := by
  refine stdX_tree (noTab_all _) mixed rfl (holds_of_eq (t26 o) ?_)
  repeat' with_reducible (first | refine holds_must (rowsB_i _ _ _) ?_ | refine holds_must (rowsB_app (by omega)) ?_ | refine holds_must (decide_eq_true (by omega)) ?_ | refine holds_inE ?_ | refine holds_ite (fun _ => ?_) (fun _ => ?_))
  all_goals refine holds_leaf ?_
  all_goals first
    | (simp only [isOpR, *, cond_true, cond_false, Bool.true_and, Bool.and_true, Bool.false_and, Bool.and_false, Bool.true_or, Bool.or_true, Bool.false_or, Bool.or_false]; (repeat' (first | exact trivial | exact rfl | exact TS.eqv_refl _ _ | exact len_app _ _ | exact rows_appI | exact fun _ _ => eqvL_refl _ _ | exact fun i _ => eqvL_rowNums rfl _ i | apply And.intro)); done)
    | (exfalso; simp_all; done)
theorem c26_ok : SummAll Try.prog 26 (ctrSumm0 ioT c26) := ctr0_ok fun e r h => by
  cases h
  refine StdX.pre (x' := ⟨[(opE e 0 0).l], []⟩) ⟨?_, trivial⟩ (op26_std (opE e 0 0))
  (repeat' (first | exact trivial | exact rfl | exact TS.eqv_refl _ _ | exact len_app _ _ | exact rows_appI | exact fun _ _ => eqvL_refl _ _ | exact fun i _ => eqvL_rowNums rfl _ i | apply And.intro))
theorem sm40b_std (c d : Nat → Num) (n : Nat) (s : Nat → List Num) : StdX Try.prog 40 smT2 (smN c d n s) isR ⟨[[.b (smB c d n)]], []⟩ := by
  refine stdX_tree ebTab mixed rfl (holds_of_eq (t40b c d n s) ?_)
  (repeat' with_reducible (first | refine holds_ite (fun _ => ?_) (fun _ => ?_)))
  all_goals try simp only [bne, Bool.not_eq_true', Bool.not_eq_false'] at *
  all_goals have hc : ((0 : Int) == (n : Int)) = ((n : Int) == 0) := Bool.eq_iff_iff.2 (by simp only [beq_iff_eq]; exact eq_comm)
  all_goals try simp only [hc] at *
  all_goals (refine holds_leaf ?_; simp only [smB, *, cond_true, cond_false, Bool.true_and, Bool.and_true, Bool.false_and, Bool.and_false, Bool.true_or, Bool.or_true, Bool.false_or, Bool.or_false]; (repeat' (first | exact trivial | exact rfl | exact TS.eqv_refl _ _ | exact len_app _ _ | exact rows_appI | exact fun _ _ => eqvL_refl _ _ | exact fun i _ => eqvL_rowNums rfl _ i | apply And.intro)); done)
theorem c35_ok : SummAll Try.prog 35 (ctrSumm isT c35) := ctr_ok fun e r h => by
  cases h
  exact StdX.pre (x' := stN (fun k => nthN k (nthL 0 e.a)) (e.ln 0) (e.rw 0)) ⟨by (repeat' (first | exact trivial | exact rfl | exact TS.eqv_refl _ _ | exact len_app _ _ | exact rows_appI | exact fun _ _ => eqvL_refl _ _ | exact fun i _ => eqvL_rowNums rfl _ i | apply And.intro)), by (repeat' (first | exact trivial | exact rfl | exact TS.eqv_refl _ _ | exact len_app _ _ | exact rows_appI | exact fun _ _ => eqvL_refl _ _ | exact fun i _ => eqvL_rowNums rfl _ i | apply And.intro))⟩ (is35_std _ _ _)
theorem c46_ok : SummAll Try.prog 46 (ctrSumm isT c46) := ctr_ok fun e r h => by
  cases h
  exact StdX.pre (x' := stN (fun k => nthN k (nthL 0 e.a)) (e.ln 0) (e.rw 0)) ⟨by (repeat' (first | exact trivial | exact rfl | exact TS.eqv_refl _ _ | exact len_app _ _ | exact rows_appI | exact fun _ _ => eqvL_refl _ _ | exact fun i _ => eqvL_rowNums rfl _ i | apply And.intro)), by (repeat' (first | exact trivial | exact rfl | exact TS.eqv_refl _ _ | exact len_app _ _ | exact rows_appI | exact fun _ _ => eqvL_refl _ _ | exact fun i _ => eqvL_rowNums rfl _ i | apply And.intro))⟩ (is46_std _ _ _)
theorem c53_ok : SummAll Try.prog 53 (ctrSumm smT c53) := ctr_ok fun e r h => by
  cases h
  exact StdX.pre (x' := smN (fun k => nthN k (nthL 0 e.a)) (fun k => nthN k (nthL 1 e.a)) (e.ln 0) (e.rw 0)) ⟨by (repeat' (first | exact trivial | exact rfl | exact TS.eqv_refl _ _ | exact len_app _ _ | exact rows_appI | exact fun _ _ => eqvL_refl _ _ | exact fun i _ => eqvL_rowNums rfl _ i | apply And.intro)), by (repeat' (first | exact trivial | exact rfl | exact TS.eqv_refl _ _ | exact len_app _ _ | exact rows_appI | exact fun _ _ => eqvL_refl _ _ | exact fun i _ => eqvL_rowNums rfl _ i | apply And.intro))⟩ (sm53_std _ _ _ _)
theorem c40_ok : SummAll Try.prog 40 (ctrSumm smT c40) := ctr_ok fun e r h => by
  cases h
  exact StdX.pre (x' := smN (fun k => nthN k (nthL 0 e.a)) (fun k => nthN k (nthL 1 e.a)) (e.ln 0) (e.rw 0)) ⟨by (repeat' (first | exact trivial | exact rfl | exact TS.eqv_refl _ _ | exact len_app _ _ | exact rows_appI | exact fun _ _ => eqvL_refl _ _ | exact fun i _ => eqvL_rowNums rfl _ i | apply And.intro)), by (repeat' (first | exact trivial | exact rfl | exact TS.eqv_refl _ _ | exact len_app _ _ | exact rows_appI | exact fun _ _ => eqvL_refl _ _ | exact fun i _ => eqvL_rowNums rfl _ i | apply And.intro))⟩ (sm40_std _ _ _ _)
theorem c40b_ok : SummAll Try.prog 40 (ctrSumm smT2 c40) := ctr_ok fun e r h => by
  cases h
  exact StdX.pre (x' := smN (fun k => nthN k (nthL 0 e.a)) (fun k => nthN k (nthL 1 e.a)) (e.ln 0) (e.rw 0)) ⟨by (repeat' (first | exact trivial | exact rfl | exact TS.eqv_refl _ _ | exact len_app _ _ | exact rows_appI | exact fun _ _ => eqvL_refl _ _ | exact fun i _ => eqvL_rowNums rfl _ i | apply And.intro)), by (repeat' (first | exact trivial | exact rfl | exact TS.eqv_refl _ _ | exact len_app _ _ | exact rows_appI | exact fun _ _ => eqvL_refl _ _ | exact fun i _ => eqvL_rowNums rfl _ i | apply And.intro))⟩ (sm40b_std _ _ _ _)
theorem ecSm_ok : AllOk Try.prog ecSm := ⟨c26_ok, c35_ok, c46_ok, c53_ok, orSumm_ok c40_ok c40b_ok, ebSm_ok⟩
theorem ecTab : TabAll Try.prog ecT := tab_ok ecSm_ok
end Go.Proofs.Ytnfmdpelafaoaaa
