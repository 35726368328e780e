/- Operations, replies: what makes them so.
   Conditions: none. -/
import Derived.Test.YtnfmdpelafaoaaaCc
set_option linter.unusedSimpArgs false
set_option linter.unusedVariables false
namespace Go.Proofs.Ytnfmdpelafaoaaa
open Go.Eng Go.RowKit Go.ChangeShapes Go.WideShapes
set_option maxRecDepth 100000
def E0 : ByteArray := ByteArray.mk #[]
def ioT : TS := ⟨[], [.agg rOp], [], 0⟩
def tBr : TS := ⟨[], [.one .b], [], 0⟩
def rRep : List TV := [.il .u8 16, .i .u8, .i .u8, .il .u32 0, .il .u32 0, .il .u8 0, .il .u32 0, .il .u8 0, .bl false, .il .u8 0, .il .u8 0, .il .i64 0, .il .u8 0, .il .u32 0, .bl false, .ls E0, .ls E0, .ls E0, .ls E0, .bl false, .ls E0, .ls E0, .ls E0, .ls E0, .bl false, .ls E0, .ls E0, .ls E0, .ls E0, .bl false, .ls E0, .ls E0, .ls E0, .ls E0, .bl false, .ls E0, .ls E0, .ls E0, .ls E0, .bl false, .ls E0, .ls E0, .ls E0, .ls E0, .il .u32 0, .il .u8 0, .ls E0, .il .u32 0, .il .u8 0, .ls E0, .il .u32 0, .il .u8 0, .ls E0, .il .u32 0, .il .u32 0, .il .u8 0, .il .u32 0, .il .u8 0, .il .u8 0, .il .u8 0, .ls E0, .nils, .il .i64 0, .il .u32 0, .nils, .il .u32 0, .bl false, .ls E0, .ls E0, .ls E0, .ls E0, .bl false, .ls E0, .ls E0, .ls E0, .ls E0, .bl false, .ls E0, .ls E0, .ls E0, .ls E0, .bl false, .ls E0, .ls E0, .ls E0, .ls E0, .bl false, .ls E0, .ls E0, .ls E0, .ls E0, .bl false, .ls E0, .ls E0, .ls E0, .ls E0, .il .u32 0, .il .u8 0, .ls E0, .il .u32 0, .il .u8 0, .ls E0, .il .u32 0, .il .u8 0, .ls E0, .il .u32 0, .il .u32 0, .il .u8 0, .il .u32 0, .il .u8 0, .il .u8 0, .il .u8 0, .ls E0, .nils, .il .u32 0, .il .u32 0, .il .u8 0, .il .u32 0, .il .u8 0, .il .u8 0, .il .u8 0, .ls E0, .il .u32 0, .i .u8, .i .u32, .i .u8, .i .u8, .i .u8, .s, .i .u8, .s]
def reT : TS := ⟨[], [.agg rRep], [], 0⟩
def reN (f t : Int) (o : OpS) (c : Int) (d : ByteArray) : List Num := .u :: .i f :: .i t :: (List.replicate 120 .u ++ (o.l ++ [.i c, .s d]))
theorem t23 (o : OpS) : callW Try.prog (codeT Try.prog noTab 300) 23 (ioT.vals ⟨[o.l], []⟩) (ioT.heap ⟨[o.l], []⟩) 0 (outV 0 tBr) =
  .ite (decide (o.c < 1)) (.leaf ⟨[[.b false]], []⟩) (.ite (decide (o.c > 3)) (.leaf ⟨[[.b false]], []⟩) (.ite (o.q == 0) (.leaf ⟨[[.b false]], []⟩) (.ite (decide (o.o ≥ 6)) (.leaf ⟨[[.b false]], []⟩) (.ite (decide
  ((o.d.size : Int) > 16)) (.leaf ⟨[[.b false]], []⟩) (.ite (o.k == 1) (.leaf ⟨[[.b true]], []⟩) (.ite (o.k == 3) (.leaf ⟨[[.b true]], []⟩) (.ite (o.k == 2) (.leaf ⟨[[.b (o.d == (ByteArray.mk #[]))]], []⟩) (.ite (o.k == 4)
  (.leaf ⟨[[.b (o.c == o.c && (o.q == o.q && (o.k == o.k && (o.o == o.o && (o.a == 0 && o.d == (ByteArray.mk #[]))))))]], []⟩) (.ite (o.k == 5) (.leaf ⟨[[.b (o.c == o.c && (o.q == o.q && (o.k == o.k && (o.o == o.o && (o.a
  == 0 && o.d == (ByteArray.mk #[]))))))]], []⟩) (.leaf ⟨[[.b false]], []⟩)))))))))) := by kernel_rfl
def isOpB (o : OpS) : Bool := bif decide (o.c < 1) then false else bif decide (o.c > 3) then false else bif o.q == 0 then false else bif decide (o.o ≥ 6) then false else bif decide ((o.d.size : Int) > 16) then false else
  bif o.k == 1 then true else bif o.k == 3 then true else bif o.k == 2 then o.d == ByteArray.mk #[] else bif o.k == 4 then (o.c == o.c && (o.q == o.q && (o.k == o.k && (o.o == o.o && (o.a == 0 && o.d == ByteArray.mk #[]))))) else
  bif o.k == 5 then (o.c == o.c && (o.q == o.q && (o.k == o.k && (o.o == o.o && (o.a == 0 && o.d == ByteArray.mk #[]))))) else false
def opE (e : EN) (j k : Nat) : OpS := ⟨e.ai j k, e.ai j (k + 1), e.ai j (k + 2), e.ai j (k + 3), e.ai j (k + 4), e.as j (k + 5)⟩
def c23 (e : EN) : Tree (TS × EN) := .leaf (tBr, ⟨[[.b (isOpB (opE e 0 0))]], []⟩)
def daSm : List (FuncId × Summ) := (23, ctrSumm0 ioT c23) :: cbSm
def daT : Tab := smTab (tabOf daSm)
theorem io_std (o : OpS) : StdX Try.prog 23 ioT ⟨[o.l], []⟩ tBr ⟨[[.b (isOpB o)]], []⟩ := by
  refine stdX_tree (noTab_all _) mixed rfl (holds_of_eq (t23 o) ?_)
  repeat' with_reducible (first | refine holds_must (rowsB_i _ _ _) ?_ | refine holds_must (rowsB_app (by omega)) ?_ | refine holds_must (decide_eq_true (by omega)) ?_ | refine holds_inE ?_ | refine holds_ite (fun _ => ?_) (fun _ => ?_))
  all_goals refine holds_leaf ?_
  all_goals first
    | (simp only [isOpB, *, cond_true, cond_false, Bool.true_and, Bool.and_true, Bool.false_and, Bool.and_false, Bool.true_or, Bool.or_true, Bool.false_or, Bool.or_false]; (repeat' (first | exact trivial | exact rfl | exact TS.eqv_refl _ _ | exact len_app _ _ | exact rows_appI | exact fun _ _ => eqvL_refl _ _ | exact fun i _ => eqvL_rowNums rfl _ i | apply And.intro)); done)
    | (exfalso; simp_all; done)
theorem c23_ok : SummAll Try.prog 23 (ctrSumm0 ioT c23) := ctr0_ok fun e r h => by
  cases h
  refine StdX.pre (x' := ⟨[(opE e 0 0).l], []⟩) ⟨?_, trivial⟩ (io_std (opE e 0 0))
  (repeat' (first | exact trivial | exact rfl | exact TS.eqv_refl _ _ | exact len_app _ _ | exact rows_appI | exact fun _ _ => eqvL_refl _ _ | exact fun i _ => eqvL_rowNums rfl _ i | apply And.intro))
theorem daSm_ok : AllOk Try.prog daSm := ⟨c23_ok, cbSm_ok⟩
theorem daTab : TabAll Try.prog daT := tab_ok daSm_ok
theorem t24 (f t : Int) (o : OpS) (c : Int) (d : ByteArray) : callW Try.prog (codeT Try.prog daT 300) 24 (reT.vals ⟨[reN f t o c d], []⟩) (reT.heap ⟨[reN f t o c d], []⟩) 0 (outV 0 tBr) =
  .ite (decide (f < 3)) (.ite (decide (f ≥ 10)) (.ite (decide (f < 15)) (.ite (decide (t ≥ 10)) (.ite (decide (f ≥ 10)) (.ite (decide (f < 15)) (.ite (decide (t ≥ 21)) (.ite (!decide (t < 24)) (.leaf ⟨[[.b false]], []⟩)
  (.ite (f == t) (.leaf ⟨[[.b false]], []⟩) (.ite (isOpB (opE ⟨[[.i o.c, .i o.q, .i o.k, .i o.o, .i o.a, .s o.d]], []⟩ 0 0)) (.defI (IntKind.u8.wrap (20 + o.c)) fun z0 => .ite (t == z0) (.ite (decide (c ≤ 3)) (.leaf ⟨[[.b
  (decide ((d.size : Int) ≤ 80))]], []⟩) (.leaf ⟨[[.b false]], []⟩)) (.leaf ⟨[[.b false]], []⟩)) (.leaf ⟨[[.b false]], []⟩)))) (.leaf ⟨[[.b false]], []⟩)) (.leaf ⟨[[.b false]], []⟩)) (.leaf ⟨[[.b false]], []⟩)) (.ite
  (decide (f ≥ 10)) (.ite (decide (f < 15)) (.ite (decide (t ≥ 21)) (.ite (!decide (t < 24)) (.leaf ⟨[[.b false]], []⟩) (.ite (f == t) (.leaf ⟨[[.b false]], []⟩) (.ite (isOpB (opE ⟨[[.i o.c, .i o.q, .i o.k, .i o.o, .i o.a,
  .s o.d]], []⟩ 0 0)) (.defI (IntKind.u8.wrap (20 + o.c)) fun z1 => .ite (t == z1) (.ite (decide (c ≤ 3)) (.leaf ⟨[[.b (decide ((d.size : Int) ≤ 80))]], []⟩) (.leaf ⟨[[.b false]], []⟩)) (.leaf ⟨[[.b false]], []⟩)) (.leaf
  ⟨[[.b false]], []⟩)))) (.leaf ⟨[[.b false]], []⟩)) (.leaf ⟨[[.b false]], []⟩)) (.leaf ⟨[[.b false]], []⟩))) (.ite (decide (f ≥ 10)) (.ite (decide (f < 15)) (.ite (decide (t ≥ 21)) (.ite (!decide (t < 24)) (.leaf ⟨[[.b
  false]], []⟩) (.ite (f == t) (.leaf ⟨[[.b false]], []⟩) (.ite (isOpB (opE ⟨[[.i o.c, .i o.q, .i o.k, .i o.o, .i o.a, .s o.d]], []⟩ 0 0)) (.defI (IntKind.u8.wrap (20 + o.c)) fun z2 => .ite (t == z2) (.ite (decide (c ≤ 3))
  (.leaf ⟨[[.b (decide ((d.size : Int) ≤ 80))]], []⟩) (.leaf ⟨[[.b false]], []⟩)) (.leaf ⟨[[.b false]], []⟩)) (.leaf ⟨[[.b false]], []⟩)))) (.leaf ⟨[[.b false]], []⟩)) (.leaf ⟨[[.b false]], []⟩)) (.leaf ⟨[[.b false]],
  []⟩))) (.ite (decide (f ≥ 10)) (.ite (decide (f < 15)) (.ite (decide (t ≥ 21)) (.ite (!decide (t < 24)) (.leaf ⟨[[.b false]], []⟩) (.ite (f == t) (.leaf ⟨[[.b false]], []⟩) (.ite (isOpB (opE ⟨[[.i o.c, .i o.q, .i o.k, .i
  o.o, .i o.a, .s o.d]], []⟩ 0 0)) (.defI (IntKind.u8.wrap (20 + o.c)) fun z3 => .ite (t == z3) (.ite (decide (c ≤ 3)) (.leaf ⟨[[.b (decide ((d.size : Int) ≤ 80))]], []⟩) (.leaf ⟨[[.b false]], []⟩)) (.leaf ⟨[[.b false]],
  []⟩)) (.leaf ⟨[[.b false]], []⟩)))) (.leaf ⟨[[.b false]], []⟩)) (.leaf ⟨[[.b false]], []⟩)) (.leaf ⟨[[.b false]], []⟩))) (.ite (decide (f ≥ 10)) (.ite (decide (f < 15)) (.ite (decide (t ≥ 10)) (.ite (decide (f ≥ 10))
  (.ite (decide (f < 15)) (.ite (decide (t ≥ 21)) (.ite (!decide (t < 24)) (.leaf ⟨[[.b false]], []⟩) (.ite (f == t) (.leaf ⟨[[.b false]], []⟩) (.ite (isOpB (opE ⟨[[.i o.c, .i o.q, .i o.k, .i o.o, .i o.a, .s o.d]], []⟩ 0
  0)) (.defI (IntKind.u8.wrap (20 + o.c)) fun z4 => .ite (t == z4) (.ite (decide (c ≤ 3)) (.leaf ⟨[[.b (decide ((d.size : Int) ≤ 80))]], []⟩) (.leaf ⟨[[.b false]], []⟩)) (.leaf ⟨[[.b false]], []⟩)) (.leaf ⟨[[.b false]],
  []⟩)))) (.leaf ⟨[[.b false]], []⟩)) (.leaf ⟨[[.b false]], []⟩)) (.leaf ⟨[[.b false]], []⟩)) (.ite (decide (f ≥ 10)) (.ite (decide (f < 15)) (.ite (decide (t ≥ 21)) (.ite (!decide (t < 24)) (.leaf ⟨[[.b false]], []⟩)
  (.ite (f == t) (.leaf ⟨[[.b false]], []⟩) (.ite (isOpB (opE ⟨[[.i o.c, .i o.q, .i o.k, .i o.o, .i o.a, .s o.d]], []⟩ 0 0)) (.defI (IntKind.u8.wrap (20 + o.c)) fun z5 => .ite (t == z5) (.ite (decide (c ≤ 3)) (.leaf ⟨[[.b
  (decide ((d.size : Int) ≤ 80))]], []⟩) (.leaf ⟨[[.b false]], []⟩)) (.leaf ⟨[[.b false]], []⟩)) (.leaf ⟨[[.b false]], []⟩)))) (.leaf ⟨[[.b false]], []⟩)) (.leaf ⟨[[.b false]], []⟩)) (.leaf ⟨[[.b false]], []⟩))) (.ite
  (decide (f ≥ 10)) (.ite (decide (f < 15)) (.ite (decide (t ≥ 21)) (.ite (!decide (t < 24)) (.leaf ⟨[[.b false]], []⟩) (.ite (f == t) (.leaf ⟨[[.b false]], []⟩) (.ite (isOpB (opE ⟨[[.i o.c, .i o.q, .i o.k, .i o.o, .i o.a,
  .s o.d]], []⟩ 0 0)) (.defI (IntKind.u8.wrap (20 + o.c)) fun z6 => .ite (t == z6) (.ite (decide (c ≤ 3)) (.leaf ⟨[[.b (decide ((d.size : Int) ≤ 80))]], []⟩) (.leaf ⟨[[.b false]], []⟩)) (.leaf ⟨[[.b false]], []⟩)) (.leaf
  ⟨[[.b false]], []⟩)))) (.leaf ⟨[[.b false]], []⟩)) (.leaf ⟨[[.b false]], []⟩)) (.leaf ⟨[[.b false]], []⟩))) (.ite (decide (f ≥ 10)) (.ite (decide (f < 15)) (.ite (decide (t ≥ 21)) (.ite (!decide (t < 24)) (.leaf ⟨[[.b
  false]], []⟩) (.ite (f == t) (.leaf ⟨[[.b false]], []⟩) (.ite (isOpB (opE ⟨[[.i o.c, .i o.q, .i o.k, .i o.o, .i o.a, .s o.d]], []⟩ 0 0)) (.defI (IntKind.u8.wrap (20 + o.c)) fun z7 => .ite (t == z7) (.ite (decide (c ≤ 3))
  (.leaf ⟨[[.b (decide ((d.size : Int) ≤ 80))]], []⟩) (.leaf ⟨[[.b false]], []⟩)) (.leaf ⟨[[.b false]], []⟩)) (.leaf ⟨[[.b false]], []⟩)))) (.leaf ⟨[[.b false]], []⟩)) (.leaf ⟨[[.b false]], []⟩)) (.leaf ⟨[[.b false]],
  []⟩))) := by kernel_rfl
def isReplyB (f t : Int) (o : OpS) (c : Int) (d : ByteArray) : Bool := bif decide (f ≥ 10) then bif decide (f < 15) then bif decide (t ≥ 21) then bif !decide (t < 24) then false else bif isOpB o then bif t == IntKind.u8.wrap (20 + o.c) then bif decide (c ≤ 3) then decide ((d.size : Int) ≤ 80) else false else false else false else false else false else false
def c24 (e : EN) : Tree (TS × EN) := .leaf (tBr, ⟨[[.b (isReplyB (e.ai 0 1) (e.ai 0 2) (opE e 0 123) (e.ai 0 129) (e.as 0 130))]], []⟩)
def dbSm : List (FuncId × Summ) := (24, ctrSumm0 reT c24) :: daSm
def dbT : Tab := smTab (tabOf dbSm)
theorem opE_mk (c q k o a : Int) (d : ByteArray) : opE ⟨[[.i c, .i q, .i k, .i o, .i a, .s d]], []⟩ 0 0 = ⟨c, q, k, o, a, d⟩ := rfl
theorem opS_eta (o : OpS) : (⟨o.c, o.q, o.k, o.o, o.a, o.d⟩ : OpS) = o := rfl
theorem re_std (f t : Int) (o : OpS) (c : Int) (d : ByteArray) : StdX Try.prog 24 reT ⟨[reN f t o c d], []⟩ tBr ⟨[[.b (isReplyB f t o c d)]], []⟩ := by
  refine stdX_tree daTab mixed rfl (holds_of_eq (t24 f t o c d) ?_)
  simp only [opE_mk, opS_eta]
  repeat' with_reducible (first | refine holds_inI ?_ | refine holds_ite (fun _ => ?_) (fun _ => ?_))
  all_goals refine holds_leaf ?_
  all_goals first
    | (simp only [isReplyB, *, cond_true, cond_false, Bool.true_and, Bool.and_true, Bool.false_and, Bool.and_false, Bool.true_or, Bool.or_true, Bool.false_or, Bool.or_false]; (repeat' (first | exact trivial | exact rfl | exact TS.eqv_refl _ _ | exact len_app _ _ | exact rows_appI | exact fun _ _ => eqvL_refl _ _ | exact fun i _ => eqvL_rowNums rfl _ i | apply And.intro)); done)
    | (exfalso; simp only [or_self, or_false, false_or, or_true, true_or, and_self, and_false, false_and, eq_self, Bool.false_eq_true, Bool.true_eq_false, decide_eq_true_eq, decide_eq_false_iff_not, beq_iff_eq, bne_iff_ne, beq_eq_false_iff_ne, bne_eq_false_iff_eq, Bool.not_eq_true', Bool.not_eq_false', Bool.and_eq_true, Bool.and_eq_false_iff, Bool.or_eq_true, Bool.or_eq_false_iff, ne_eq, not_true_eq_false, not_false_eq_true, true_and, and_true, not_true, Bool.not_true, Bool.not_false] at *; omega)
set_option maxHeartbeats 8000000 in
theorem c24_ok : SummAll Try.prog 24 (ctrSumm0 reT c24) := ctr0_ok fun e r h => by
  cases h
  refine StdX.pre (x' := ⟨[reN (e.ai 0 1) (e.ai 0 2) (opE e 0 123) (e.ai 0 129) (e.as 0 130)], []⟩) ⟨?_, trivial⟩ (re_std _ _ _ _ _)
  (repeat' (first | exact trivial | exact rfl | exact TS.eqv_refl _ _ | exact len_app _ _ | exact rows_appI | exact fun _ _ => eqvL_refl _ _ | exact fun i _ => eqvL_rowNums rfl _ i | apply And.intro))
theorem dbSm_ok : AllOk Try.prog dbSm := ⟨c24_ok, daSm_ok⟩
theorem dbTab : TabAll Try.prog dbT := tab_ok dbSm_ok
end Go.Proofs.Ytnfmdpelafaoaaa
