/- Proposers: the table of what their calls come to.
   Conditions: none. -/
import Derived.Test.YtlcgnjcfihablaaSc
set_option linter.unusedSimpArgs false
set_option linter.unusedVariables false
namespace Go.Proofs.Ytlcgnjcfihablaa
open Go.Eng Go.RowKit Go.ChangeShapes Go.WideShapes
set_option maxRecDepth 100000
def prOf (e : EN) : PrS := ⟨e.bi 0 0, (e.bi 0 1, e.bi 0 2, e.bi 0 3), (e.bi 0 4, e.bi 0 5, e.bi 0 6), (e.bi 0 7, e.bi 0 8, e.bi 0 9), (e.bi 0 10, e.bi 0 11), (e.bi 0 12, e.bi 0 13), lstI (e.ln 1) (e.rw 1), lstI (e.ln 3) (e.rw 3), e.bb 0 16, e.bb 0 17, (e.bi 0 18, e.bi 0 19, e.bi 0 20), e.bb 0 21, e.bb 0 22⟩
def rfOf (e : EN) : RfS := ⟨e.bi 0 0, (e.bi 0 1, e.bi 0 2, e.bi 0 3), (e.bi 0 4, e.bi 0 5), e.bb 0 6, e.bb 0 7, e.bb 0 8, (e.bi 0 9, e.bi 0 10), (e.bi 0 11, e.bi 0 12, e.bi 0 13), e.bb 0 14, (e.bi 0 15, e.bi 0 16, e.bi 0 17), e.bb 0 18, e.bb 0 19, e.bb 0 20, e.bb 0 21, e.bb 0 22, (e.bi 0 23, e.bi 0 24, e.bi 0 25), e.bb 0 26⟩

abbrev EN.a1 (e : EN) : B2 := (e.ai 1 0, e.ai 1 1)
abbrev EN.a2 (e : EN) : B2 := (e.ai 2 0, e.ai 2 1)
abbrev EN.a3 (e : EN) : B2 := (e.ai 3 0, e.ai 3 1)
abbrev EN.a4 (e : EN) : I3 := (e.ai 4 0, e.ai 4 1, e.ai 4 2)
def c14 (e : EN) : Tree (TS × EN) := .leaf (prStartR, ⟨[[.i (topN (e.ai 1 0) (prOf e).b.1), .i (prOf e).who]], ((prOf e).start (e.ai 1 0, e.ai 1 1)).on⟩)
def promE (e : EN) : Bool × PrS := (prOf e).promise (e.ai 1 0) (e.ai 2 0, e.ai 2 1) (e.ai 3 0, e.ai 3 1) (e.ai 4 0, e.ai 4 1, e.ai 4 2) (e.ab 5 0)
def c15 (e : EN) : Tree (TS × EN) := .must (decide ((prOf e).pl.length ≤ 1000)) (.leaf (prBoolR, ⟨[[.b (promE e).1]], (promE e).2.on⟩))
def accE (e : EN) : Bool × PrS := (prOf e).accept (e.ai 1 0) (e.ai 2 0, e.ai 2 1)
def c17 (e : EN) : Tree (TS × EN) := .must (decide ((prOf e).al.length ≤ 1000)) (.leaf (prBoolR, ⟨[[.b (accE e).1]], (accE e).2.on⟩))
def c19 (e : EN) : Tree (TS × EN) := .leaf (rfStartR, ⟨[[.i (topN (e.ai 1 0) (rfOf e).b.1), .i (rfOf e).who]], ((rfOf e).start (e.ai 1 0, e.ai 1 1)).on⟩)
def rpromE (e : EN) : Bool × RfS := (rfOf e).promise (e.ai 1 0) (e.ai 2 0, e.ai 2 1) (e.ai 3 0, e.ai 3 1) (e.ai 4 0, e.ai 4 1, e.ai 4 2) (e.ab 5 0)
def c20 (e : EN) : Tree (TS × EN) := .must (decide (0 ≤ e.ai 1 0)) (.leaf (rfBoolR, ⟨[[.b (rpromE e).1]], (rpromE e).2.on⟩))
def raccE (e : EN) : Bool × RfS := (rfOf e).accept (e.ai 1 0) (e.ai 2 0, e.ai 2 1)
def c21 (e : EN) : Tree (TS × EN) := .must (decide (0 ≤ e.ai 1 0)) (.leaf (rfBoolR, ⟨[[.b (raccE e).1]], (raccE e).2.on⟩))
def sdSm : List (FuncId × Summ) := [(14, ctrSumm prStartT c14), (15, ctrSumm prPromT c15), (17, ctrSumm prAccT c17), (19, ctrSumm rfStartT c19), (20, ctrSumm rfPromT c20), (21, ctrSumm rfAccT c21)] ++ sbSm
def sdT : Tab := smTab (tabOf sdSm)
theorem prOf_eqv (e : EN) : eqvH (prHp 1 3) e.o (prOf e).on := by
  refine ⟨?_, ⟨(lstI_length _ _).symm, fun i hi => rowI_eqv ?_⟩, trivial, ⟨(lstI_length _ _).symm, fun i hi => rowI_eqv ?_⟩, trivial, trivial⟩
  · (repeat' (first | exact trivial | exact rfl | exact TS.eqv_refl _ _ | exact len_app _ _ | exact rows_appI | exact fun _ _ => eqvL_refl _ _ | exact fun i _ => eqvL_rowNums rfl _ i | apply And.intro))
  all_goals (have hi : (i : Int) < ((lstI _ _).length : Int) := hi; rw [lstI_length] at hi; exact_mod_cast hi)
theorem rfOf_eqv (e : EN) : eqvH rfHp e.o (rfOf e).on := by
  (repeat' (first | exact trivial | exact rfl | exact TS.eqv_refl _ _ | exact len_app _ _ | exact rows_appI | exact fun _ _ => eqvL_refl _ _ | exact fun i _ => eqvL_rowNums rfl _ i | apply And.intro))
theorem prOf_on (a : List (List Num)) (p : PrS) : prOf ⟨a, p.on⟩ = p := by
  obtain ⟨who, ⟨w0, w1, w2⟩, ⟨v0, v1, v2⟩, ⟨t0, t1, t2⟩, ⟨b0, b1⟩, ⟨a0, a1⟩, pl, al, has, valued, ⟨d0, d1, d2⟩, done, ever⟩ := p
  show PrS.mk who (w0, w1, w2) (v0, v1, v2) (t0, t1, t2) (b0, b1) (a0, a1) (lstI pl.length (rowI pl)) (lstI al.length (rowI al)) has valued (d0, d1, d2) done ever = _
  rw [lstI_rowI, lstI_rowI]
theorem rfOf_on (a : List (List Num)) (p : RfS) : rfOf ⟨a, p.on⟩ = p := by
  obtain ⟨who, ⟨w0, w1, w2⟩, ⟨b0, b1⟩, h0, h1, h2, ⟨e0, e1⟩, ⟨x0, x1, x2⟩, has, ⟨v0, v1, v2⟩, valued, a0, a1, a2, told, ⟨d0, d1, d2⟩, ever⟩ := p
  rfl
theorem promE_on (p : PrS) (u : List Num) (f b0 b1 a0 a1 x0 x1 x2 : Int) (h : Bool) : promE ⟨[u, [.i f], [.i b0, .i b1], [.i a0, .i a1], [.i x0, .i x1, .i x2], [.b h]], p.on⟩ = p.promise f (b0, b1) (a0, a1) (x0, x1, x2) h := by
  show (prOf ⟨_, p.on⟩).promise f (b0, b1) (a0, a1) (x0, x1, x2) h = _
  rw [prOf_on]
theorem accE_on (p : PrS) (u : List Num) (f b0 b1 : Int) : accE ⟨[u, [.i f], [.i b0, .i b1]], p.on⟩ = p.accept f (b0, b1) := by
  show (prOf ⟨_, p.on⟩).accept f (b0, b1) = _
  rw [prOf_on]
theorem rpromE_on (p : RfS) (u : List Num) (f b0 b1 a0 a1 x0 x1 x2 : Int) (h : Bool) : rpromE ⟨[u, [.i f], [.i b0, .i b1], [.i a0, .i a1], [.i x0, .i x1, .i x2], [.b h]], p.on⟩ = p.promise f (b0, b1) (a0, a1) (x0, x1, x2) h := by
  show (rfOf ⟨_, p.on⟩).promise f (b0, b1) (a0, a1) (x0, x1, x2) h = _
  rw [rfOf_on]
theorem raccE_on (p : RfS) (u : List Num) (f b0 b1 : Int) : raccE ⟨[u, [.i f], [.i b0, .i b1]], p.on⟩ = p.accept f (b0, b1) := by
  show (rfOf ⟨_, p.on⟩).accept f (b0, b1) = _
  rw [rfOf_on]
theorem c14_ok : SummAll Try.prog 14 (ctrSumm prStartT c14) := ctr_ok fun e r h => by
  unfold c14 at h
  
  cases h
  refine StdX.pre (x' := ⟨_, (prOf e).on⟩) ⟨?_, prOf_eqv e⟩ (start_std (prOf e) (e.ai 1 0, e.ai 1 1))
  (repeat' (first | exact trivial | exact rfl | exact TS.eqv_refl _ _ | exact len_app _ _ | exact rows_appI | exact fun _ _ => eqvL_refl _ _ | exact fun i _ => eqvL_rowNums rfl _ i | apply And.intro))
theorem c15_ok : SummAll Try.prog 15 (ctrSumm prPromT c15) := ctr_ok fun e r h => by
  unfold c15 at h
  obtain ⟨hl, h⟩ := must_sel h
  cases h
  refine StdX.pre (x' := ⟨_, (prOf e).on⟩) ⟨?_, prOf_eqv e⟩ (prom_std (prOf e) _ (_, _) (_, _) (_, _, _) _ (of_decide_eq_true hl))
  (repeat' (first | exact trivial | exact rfl | exact TS.eqv_refl _ _ | exact len_app _ _ | exact rows_appI | exact fun _ _ => eqvL_refl _ _ | exact fun i _ => eqvL_rowNums rfl _ i | apply And.intro))
theorem c17_ok : SummAll Try.prog 17 (ctrSumm prAccT c17) := ctr_ok fun e r h => by
  unfold c17 at h
  obtain ⟨hl, h⟩ := must_sel h
  cases h
  refine StdX.pre (x' := ⟨_, (prOf e).on⟩) ⟨?_, prOf_eqv e⟩ (acc_std (prOf e) _ (_, _) (of_decide_eq_true hl))
  (repeat' (first | exact trivial | exact rfl | exact TS.eqv_refl _ _ | exact len_app _ _ | exact rows_appI | exact fun _ _ => eqvL_refl _ _ | exact fun i _ => eqvL_rowNums rfl _ i | apply And.intro))
theorem c19_ok : SummAll Try.prog 19 (ctrSumm rfStartT c19) := ctr_ok fun e r h => by
  unfold c19 at h
  
  cases h
  refine StdX.pre (x' := ⟨_, (rfOf e).on⟩) ⟨?_, rfOf_eqv e⟩ (rstart_std (rfOf e) (e.ai 1 0, e.ai 1 1))
  (repeat' (first | exact trivial | exact rfl | exact TS.eqv_refl _ _ | exact len_app _ _ | exact rows_appI | exact fun _ _ => eqvL_refl _ _ | exact fun i _ => eqvL_rowNums rfl _ i | apply And.intro))
theorem c20_ok : SummAll Try.prog 20 (ctrSumm rfPromT c20) := ctr_ok fun e r h => by
  unfold c20 at h
  obtain ⟨hl, h⟩ := must_sel h
  cases h
  refine StdX.pre (x' := ⟨_, (rfOf e).on⟩) ⟨?_, rfOf_eqv e⟩ (rprom_std (rfOf e) _ (_, _) (_, _) (_, _, _) _ (of_decide_eq_true hl))
  (repeat' (first | exact trivial | exact rfl | exact TS.eqv_refl _ _ | exact len_app _ _ | exact rows_appI | exact fun _ _ => eqvL_refl _ _ | exact fun i _ => eqvL_rowNums rfl _ i | apply And.intro))
theorem c21_ok : SummAll Try.prog 21 (ctrSumm rfAccT c21) := ctr_ok fun e r h => by
  unfold c21 at h
  obtain ⟨hl, h⟩ := must_sel h
  cases h
  refine StdX.pre (x' := ⟨_, (rfOf e).on⟩) ⟨?_, rfOf_eqv e⟩ (racc_std (rfOf e) _ (_, _) (of_decide_eq_true hl))
  (repeat' (first | exact trivial | exact rfl | exact TS.eqv_refl _ _ | exact len_app _ _ | exact rows_appI | exact fun _ _ => eqvL_refl _ _ | exact fun i _ => eqvL_rowNums rfl _ i | apply And.intro))
theorem sdSm_ok : AllOk Try.prog sdSm := ⟨c14_ok, c15_ok, c17_ok, c19_ok, c20_ok, c21_ok, sbSm_ok⟩
theorem sdTab : TabAll Try.prog sdT := tab_ok sdSm_ok
end Go.Proofs.Ytlcgnjcfihablaa
