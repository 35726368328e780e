/- The reference: is a number in a slice.
   Conditions: none. -/
import Derived.Test.YtlcgnjcfihablaaWf
set_option linter.unusedSimpArgs false
set_option linter.unusedVariables false
namespace Go.Proofs.Ytlcgnjcfihablaa
open Go.Eng Go.RowKit Go.ChangeShapes Go.WideShapes
set_option maxRecDepth 100000
noncomputable def body51 : Code := Try.f51.body.getD .skip
noncomputable def x51 : Code := lp ((flat body51).getD 2 .skip)
def riL : TS := ⟨[0, 1, 5], [.one (.sl 0), .one (.i .i64), .one (.i .i64)], [(0, .lst none [.i .i64] none)], 1⟩
def riR : TS := ⟨[4], [.one .b], [], 1⟩
def riE : TS := ⟨[], [], [], 1⟩
def whSm : List (FuncId × Summ) := (51, ctrSumm0 jxT c49) :: weSm
def whT : Tab := smTab (tabOf whSm)
theorem ri_pre (len : Nat) (v : Int) (r : Nat → List Num) (τ0 : Tm) : codeT Try.prog noTab 300 51 Try.f51.ntmps (Eng.ofL ((flat body51).take 2)) (jxT.tm ⟨[[], [.i v]], [.lst len r]⟩ ++ τ0) (jxT.heap ⟨[[], [.i v]], [.lst len r]⟩) 1 (outX 1 ⟨some riL, [], some riR⟩) =
  .must (rowsB [.i .i64] (instR [.i .i64] r) len) (.leaf (.normal, ⟨[[.u], [.i v], [.i 0]], [.lst len (rowNums [.i .i64] (instR [.i .i64] r))]⟩)) := by kernel_rfl
theorem ri_x (len : Nat) (v i : Int) (r : Nat → List Num) (τ0 : Tm) : codeT Try.prog noTab 300 51 Try.f51.ntmps x51 (riL.tm ⟨[[], [.i v], [.i i]], [.lst len r]⟩ ++ τ0) (riL.heap ⟨[[], [.i v], [.i i]], [.lst len r]⟩) 1 (outX 1 ⟨some riL, [(0, riE)], some riR⟩) =
  .ite (decide (i < (len : Int))) (.must (decide (0 ≤ i ∧ i < (len : Int))) (.must (decide (0 ≤ i ∧ i < (len : Int))) (.defI (hdN (r i.toNat)).I fun z0 => .ite (z0 == v) (.leaf (.ret, ⟨[[.b true]], []⟩)) (.defI
  (IntKind.i64.wrap (i + 1)) fun z1 => .must (rowsB [.i .i64] (instR [.i .i64] r) len) (.leaf (.normal, ⟨[[.u], [.i v], [.i z1]], [.lst len (rowNums [.i .i64] (instR [.i .i64] r))]⟩)))))) (.leaf (.exit 0, ⟨[], []⟩)) := by kernel_rfl
theorem ri_tail (τ0 : Tm) : codeT Try.prog noTab 300 51 Try.f51.ntmps (Eng.ofL ((flat body51).drop 3)) (riE.tm ⟨[], []⟩ ++ τ0) (riE.heap ⟨[], []⟩) 1 (outX 1 ⟨none, [], some riR⟩) =
  .leaf (.ret, ⟨[[.b false]], []⟩) := by kernel_rfl
theorem body51_eq : Try.f51.body = some body51 := by kernel_rfl
theorem in51 : Within Try.prog 51 Try.f51.ntmps body51 := within_body Try.func51 body51_eq
theorem lp51 : (flat body51).drop 2 = [.block 0 (.loop x51)] ++ (flat body51).drop 3 := by kernel_rfl
theorem in51x : Within Try.prog 51 Try.f51.ntmps x51 := by
  have h : (flat body51)[2]? = some (.block 0 (.loop x51)) := by kernel_rfl
  exact within_loop (within_block (within_at in51 2 h))
section
variable (len : Nat) (v : Int) (r : Nat → List Num)
def riN (i : Int) : EN := ⟨[[], [.i v], [.i i]], [.lst len r]⟩
def riQ : Ex → EN → Prop
  | .exit _, _ => anyN (jxP v r) len = false
  | .ret, e => riR.eqv e ⟨[[.b (anyN (jxP v r) len)]], []⟩
  | .normal, _ => True
theorem ri_loop (hl : (len : Int) ≤ big) (i : Int) (h : 0 ≤ i ∧ (i ≤ (len : Int) ∨ i = 0) ∧ anyN (jxP v r) i.toNat = false) : HT Try.prog Try.f51.ntmps 1 (.loop x51) 1 (riL.tm (riN len v r i)) (riL.heap (riN len v r i)) (QX ⟨none, [(0, riE)], some riR⟩ (riQ len v r)) := by
  refine HT.loopX (noTab_all _) mixed (n := 300) in51x riL _ _ (riN len v r) (fun i => 0 ≤ i ∧ (i ≤ (len : Int) ∨ i = 0) ∧ anyN (jxP v r) i.toNat = false) (fun i => ((len : Int) - i).toNat) (fun _ => riQ len v r) (Nat.le_refl _) ?_ i h
  rintro i ⟨h0, h1, h2⟩ τ0
  refine holds_of_eq (ri_x len v i r τ0) (holds_ite (fun hlt => ?_) fun hge => holds_leaf ?_)
  · have hlt : i < (len : Int) := of_decide_eq_true hlt
    have hm : decide (0 ≤ i ∧ i < (len : Int)) = true := decide_eq_true ⟨h0, hlt⟩
    refine holds_must hm (holds_must hm (holds_inI (holds_ite (fun hit => holds_leaf ?_) fun hno => holds_inI (holds_must (rowsB_instR rfl _ _) (holds_leaf ?_)))))
    · have e : anyN (jxP v r) len = true := anyN_iff.2 ⟨i.toNat, by omega, by have := eq_of_beq hit; show (v == _) = true; rw [this]; exact beq_self_eq_true _⟩
      show riR.eqv _ _
      rw [e]
      (repeat' (first | exact trivial | exact rfl | exact TS.eqv_refl _ _ | exact len_app _ _ | exact rows_appI | exact fun _ _ => eqvL_refl _ _ | exact fun i _ => eqvL_rowNums rfl _ i | apply And.intro))
    · unfold big at hl
      have e1 : IntKind.i64.wrap (i + 1) = i + 1 := IntWalk.i64_in _ (by omega)
      have e2 : (i + 1).toNat = i.toNat + 1 := by omega
      refine ⟨i + 1, ⟨by omega, by omega, ?_⟩, by omega, ⟨⟨trivial, rfl, e1, trivial⟩, ⟨rfl, fun j _ => ⟨rfl, trivial⟩⟩, trivial⟩, fun _ _ h => h⟩
      rw [e2]
      simp only [anyN, h2, Bool.false_or]
      show (v == _) = false
      have := beq_eq_false_iff_ne.1 hno
      exact beq_eq_false_iff_ne.2 fun h => this h.symm
  · have hge : ¬ i < (len : Int) := of_decide_eq_false hge
    show anyN (jxP v r) len = false
    rw [show len = i.toNat by omega]
    exact h2
theorem ri_std (hl : (len : Int) ≤ big) : StdX Try.prog 51 jxT ⟨[[], [.i v]], [.lst len r]⟩ riR ⟨[[.b (anyN (jxP v r) len)]], []⟩ := by
  refine stdX_htX Try.func51 body51_eq (by kernel_rfl) rfl (by kernel_rfl) rfl rfl ?_
  refine HT.cutX 2 (t1 := riL) (R1 := fun ex e => ex = .normal ∧ riL.eqv e (riN len v r 0)) (HTL.runX (noTab_all _) mixed (n := 300) (by decide) (within_take in51 2) (Nat.le_refl _) fun τ0 => holds_of_eq (ri_pre len v r τ0) (holds_must (rowsB_instR rfl _ _) (holds_leaf ⟨rfl, ⟨⟨trivial, rfl, rfl, trivial⟩, ⟨rfl, fun j _ => ⟨rfl, trivial⟩⟩, trivial⟩⟩))) ?_ ?_
  · rintro en ⟨_, he⟩
    refine HTg.pre (WP := wpL Try.prog _) (fun h hq => wpL_mono h hq) he (HTL.loopThen lp51 (ri_loop len v r hl 0 ⟨Int.le_refl _, .inr rfl, rfl⟩) ?_ ?_)
    · intro en hn
      have hn : anyN (jxP v r) len = false := hn
      refine HTL.runX (noTab_all _) mixed (n := 300) (by decide) (within_drop in51 3) (Nat.le_refl _) fun τ0 => holds_of_eq (ri_tail τ0) (holds_leaf fun _ => ?_)
      rw [hn]
      (repeat' (first | exact trivial | exact rfl | exact TS.eqv_refl _ _ | exact len_app _ _ | exact rows_appI | exact fun _ _ => eqvL_refl _ _ | exact fun i _ => eqvL_rowNums rfl _ i | apply And.intro))
    · exact fun en h _ => h
  · rintro en ⟨h, _⟩
    cases h
end
theorem c51_ok : SummAll Try.prog 51 (ctrSumm0 jxT c49) := ctr0_ok fun e r h => by
  unfold c49 at h
  obtain ⟨hl, h⟩ := must_sel h
  cases h
  refine StdX.pre (x' := ⟨_, _⟩) ⟨?_, ?_⟩ (ri_std (e.ln 0) (e.ai 1 0) (e.rw 0) (of_decide_eq_true hl))
  all_goals (repeat' (first | exact trivial | exact rfl | exact fun _ _ => eqvL_refl _ _ | apply And.intro))
theorem whSm_ok : AllOk Try.prog whSm := ⟨c51_ok, weSm_ok⟩
theorem whTab : TabAll Try.prog whT := tab_ok whSm_ok
end Go.Proofs.Ytlcgnjcfihablaa
