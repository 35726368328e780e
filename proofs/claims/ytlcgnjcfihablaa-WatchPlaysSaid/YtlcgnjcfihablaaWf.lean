/- Two slices of numbers, alike or not.
   Conditions: none. -/
import Derived.Test.YtlcgnjcfihablaaWe
set_option linter.unusedSimpArgs false
set_option linter.unusedVariables false
namespace Go.Proofs.Ytlcgnjcfihablaa
open Go.Eng Go.RowKit Go.ChangeShapes Go.WideShapes
set_option maxRecDepth 100000
noncomputable def body25 : Code := Try.f25.body.getD .skip
noncomputable def x25 : Code := lp ((flat body25).getD 4 .skip)
def iqH : List (Nat × TO) := [(0, .lst none [.i .i64] none), (1, .lst none [.i .i64] none)]
def iqT : TS := ⟨[0, 1], [.one (.sl 0), .one (.sl 1)], iqH, 2⟩
def iqL : TS := ⟨[0, 1, 5], [.one (.sl 0), .one (.sl 1), .one (.i .i64)], iqH, 2⟩
def iqE : TS := ⟨[], [], [], 2⟩
def iqR : TS := ⟨[4], [.one .b], [], 2⟩
def iqP (n k : Nat) (r s : Nat → List Num) : Prop := n = k ∧ ∀ i, i < n → (hdN (r i)).I = (hdN (s i)).I
instance (n k : Nat) (r s : Nat → List Num) : Decidable (iqP n k r s) := by unfold iqP; infer_instance
def iqO (n k : Nat) (r s : Nat → List Num) : List ON := [.lst n r, .lst k s]
def iqC (e : EN) : Tree (TS × EN) := .must (decide (e.ln 0 ≤ 5)) (.leaf (iqR, ⟨[[.b (decide (iqP (e.ln 0) (e.ln 1) (e.rw 0) (e.rw 1)))]], []⟩))
def weSm : List (FuncId × Summ) := (25, ctrSumm iqT iqC) :: wdSm
def weT : Tab := smTab (tabOf weSm)
theorem in_pre (n k : Nat) (r s : Nat → List Num) (τ0 : Tm) : codeT Try.prog noTab 300 25 Try.f25.ntmps (Eng.ofL ((flat body25).take 4)) (iqT.tm ⟨[[], []], iqO n k r s⟩ ++ τ0) (iqT.heap ⟨[[], []], iqO n k r s⟩) 2 (outX 2 ⟨some iqL, [], some iqR⟩) =
  .ite ((n : Int) != (k : Int)) (.leaf (.ret, ⟨[[.b false]], []⟩)) (.must (rowsB [.i .i64] (instR [.i .i64] r) n) (.must (rowsB [.i .i64] (instR [.i .i64] s) k) (.leaf (.normal, ⟨[[.u], [.u], [.i 0]], [.lst n (rowNums [.i
  .i64] (instR [.i .i64] r)), .lst k (rowNums [.i .i64] (instR [.i .i64] s))]⟩)))) := by kernel_rfl
theorem in_x (n k : Nat) (r s : Nat → List Num) (i : Int) (τ0 : Tm) : codeT Try.prog noTab 300 25 Try.f25.ntmps x25 (iqL.tm ⟨[[], [], [.i i]], iqO n k r s⟩ ++ τ0) (iqL.heap ⟨[[], [], [.i i]], iqO n k r s⟩) 2 (outX 2 ⟨some iqL, [(0, iqE)], some iqR⟩) =
  .ite (decide (i < (n : Int))) (.must (decide (0 ≤ i ∧ i < (n : Int))) (.must (decide (0 ≤ i ∧ i < (n : Int))) (.defI (hdN (r i.toNat)).I fun z0 => .must (decide (0 ≤ i ∧ i < (k : Int))) (.must (decide (0 ≤ i ∧ i < (k :
  Int))) (.defI (hdN (s i.toNat)).I fun z1 => .ite (z0 != z1) (.leaf (.ret, ⟨[[.b false]], []⟩)) (.defI (IntKind.i64.wrap (i + 1)) fun z2 => .must (rowsB [.i .i64] (instR [.i .i64] r) n) (.must (rowsB [.i .i64] (instR [.i
  .i64] s) k) (.leaf (.normal, ⟨[[.u], [.u], [.i z2]], [.lst n (rowNums [.i .i64] (instR [.i .i64] r)), .lst k (rowNums [.i .i64] (instR [.i .i64] s))]⟩))))))))) (.leaf (.exit 0, ⟨[], []⟩)) := by kernel_rfl
theorem in_tail (τ0 : Tm) : codeT Try.prog noTab 300 25 Try.f25.ntmps (Eng.ofL ((flat body25).drop 5)) (iqE.tm ⟨[], []⟩ ++ τ0) (iqE.heap ⟨[], []⟩) 2 (outX 2 ⟨none, [], some iqR⟩) =
  .leaf (.ret, ⟨[[.b true]], []⟩) := by kernel_rfl
theorem body25_eq : Try.f25.body = some body25 := by kernel_rfl
theorem in25 : Within Try.prog 25 Try.f25.ntmps body25 := within_body Try.func25 body25_eq
theorem lp25 : (flat body25).drop 4 = [.block 0 (.loop x25)] ++ (flat body25).drop 5 := by kernel_rfl
theorem in25x : Within Try.prog 25 Try.f25.ntmps x25 := by
  have h : (flat body25)[4]? = some (.block 0 (.loop x25)) := by kernel_rfl
  exact within_loop (within_block (within_at in25 4 h))
section
variable (n k : Nat) (r s : Nat → List Num) (hn : n ≤ 5)
def iqQ : Ex → EN → Prop
  | .exit _, e => (∀ i, i < n → (hdN (r i)).I = (hdN (s i)).I) ∧ iqE.eqv e ⟨[], []⟩
  | .ret, e => ¬ (∀ i, i < n → (hdN (r i)).I = (hdN (s i)).I) ∧ iqR.eqv e ⟨[[.b false]], []⟩
  | .normal, _ => True
def iqI (d : Int) : Prop := 0 ≤ d ∧ d ≤ n ∧ ∀ i, i < d.toNat → (hdN (r i)).I = (hdN (s i)).I
include hn in
theorem iq_loop (hk : k = n) (d : Int) (hd : iqI n r s d) : HT Try.prog Try.f25.ntmps 2 (.loop x25) 2 (iqL.tm ⟨[[], [], [.i d]], iqO n k r s⟩) (iqL.heap ⟨[[], [], [.i d]], iqO n k r s⟩) (QX ⟨none, [(0, iqE)], some iqR⟩ (iqQ n r s)) := by
  refine HT.loopX (noTab_all _) mixed (n := 300) in25x iqL _ _ (fun d : Int => ⟨[[], [], [.i d]], iqO n k r s⟩) (iqI n r s) (fun d => ((n : Int) - d).toNat) (fun _ => iqQ n r s) (Nat.le_refl _) ?_ d hd
  rintro d ⟨h0, h1, h2⟩ τ0
  have e1 : d < 5 → IntKind.i64.wrap (d + 1) = d + 1 := fun h => IntWalk.i64_in _ (by omega)
  refine holds_of_eq (in_x n k r s d τ0) (holds_ite (fun hlt => ?_) fun hge => holds_leaf ⟨fun i hi => h2 i ?_, ?_⟩)
  · have hlt := of_decide_eq_true hlt
    have hm : decide (0 ≤ d ∧ d < (n : Int)) = true := decide_eq_true ⟨h0, hlt⟩
    have hm2 : decide (0 ≤ d ∧ d < (k : Int)) = true := decide_eq_true ⟨h0, by omega⟩
    refine holds_must hm (holds_must hm (holds_inI (holds_must hm2 (holds_must hm2 (holds_inI (holds_ite (fun hne => ?_) fun heq => ?_))))))
    · refine holds_leaf ⟨fun h => ?_, ?_⟩
      · have := h d.toNat (by omega)
        rw [this] at hne
        simp at hne
      · (repeat' (first | exact trivial | exact rfl | exact TS.eqv_refl _ _ | exact len_app _ _ | exact rows_appI | exact fun _ _ => eqvL_refl _ _ | exact fun i _ => eqvL_rowNums rfl _ i | apply And.intro))
    · have heq : (hdN (r d.toNat)).I = (hdN (s d.toNat)).I := by simpa using heq
      refine holds_inI (holds_must (rowsB_i _ _ _) (holds_must (rowsB_i _ _ _) (holds_leaf ⟨d + 1, ⟨by omega, by omega, fun i hi => ?_⟩, by omega, ?_, fun _ _ h => h⟩)))
      · rcases Nat.lt_or_ge i d.toNat with h | h
        · exact h2 i h
        · have : i = d.toNat := by omega
          rw [this]; exact heq
      · rw [e1 (by omega)]
        (repeat' (first | exact trivial | exact rfl | exact TS.eqv_refl _ _ | exact len_app _ _ | exact rows_appI | exact fun _ _ => eqvL_refl _ _ | exact fun i _ => eqvL_rowNums rfl _ i | apply And.intro))
  · have := of_decide_eq_false hge
    omega
  · (repeat' (first | exact trivial | exact rfl | exact TS.eqv_refl _ _ | exact len_app _ _ | exact rows_appI | exact fun _ _ => eqvL_refl _ _ | exact fun i _ => eqvL_rowNums rfl _ i | apply And.intro))
def iqZ : Ex → EN → Prop
  | .normal, e => k = n ∧ iqL.eqv e ⟨[[], [], [.i 0]], iqO n k r s⟩
  | .ret, e => k ≠ n ∧ iqR.eqv e ⟨[[.b false]], []⟩
  | .exit _, _ => True
include hn in
theorem iq_std : StdX Try.prog 25 iqT ⟨[[], []], iqO n k r s⟩ iqR ⟨[[.b (decide (iqP n k r s))]], []⟩ := by
  refine stdX_htX Try.func25 body25_eq (by kernel_rfl) rfl (by kernel_rfl) rfl rfl ?_
  refine HT.cutX 4 (t1 := iqL) (R1 := iqZ n k r s) (HTL.runX (noTab_all _) mixed (n := 300) (by decide) (within_take in25 4) (Nat.le_refl _) fun τ0 => holds_of_eq (in_pre n k r s τ0) (holds_ite (fun hne => holds_leaf ⟨?_, ?_⟩) fun heq => holds_must (rowsB_i _ _ _) (holds_must (rowsB_i _ _ _) (holds_leaf ⟨?_, ?_⟩)))) ?_ ?_
  · intro h; subst h; simp at hne
  · (repeat' (first | exact trivial | exact rfl | exact TS.eqv_refl _ _ | exact len_app _ _ | exact rows_appI | exact fun _ _ => eqvL_refl _ _ | exact fun i _ => eqvL_rowNums rfl _ i | apply And.intro))
  · have : (n : Int) = k := by simpa using heq
    omega
  · (repeat' (first | exact trivial | exact rfl | exact TS.eqv_refl _ _ | exact len_app _ _ | exact rows_appI | exact fun _ _ => eqvL_refl _ _ | exact fun i _ => eqvL_rowNums rfl _ i | apply And.intro))
  · rintro en ⟨hk, he⟩
    refine HTg.pre (WP := wpL Try.prog _) (fun h hq => wpL_mono h hq) he (HTL.loopThen lp25 (iq_loop n k r s hn hk 0 ⟨Int.le_refl _, Int.natCast_nonneg _, fun i hi => absurd hi (Nat.not_lt_zero _)⟩) ?_ ?_)
    · rintro en ⟨hp, he⟩
      refine HTg.pre (WP := wpL Try.prog _) (fun h hq => wpL_mono h hq) he (HTL.runX (noTab_all _) mixed (n := 300) (by decide) (within_drop in25 5) (Nat.le_refl _) fun τ0 => holds_of_eq (in_tail τ0) (holds_leaf fun _ => ?_))
      rw [decide_eq_true (show iqP n k r s from ⟨hk.symm, hp⟩)]
      (repeat' (first | exact trivial | exact rfl | exact TS.eqv_refl _ _ | exact len_app _ _ | exact rows_appI | exact fun _ _ => eqvL_refl _ _ | exact fun i _ => eqvL_rowNums rfl _ i | apply And.intro))
    · rintro en ⟨hp, he⟩ _
      rw [decide_eq_false (show ¬ iqP n k r s from fun h => hp h.2)]
      exact he
  · rintro en ⟨hp, he⟩ _
    rw [decide_eq_false (show ¬ iqP n k r s from fun h => hp h.1.symm)]
    exact he
end
theorem c25_ok : SummAll Try.prog 25 (ctrSumm iqT iqC) := ctr_ok fun e r h => by
  unfold iqC at h
  obtain ⟨hl, h⟩ := must_sel h
  cases h
  refine StdX.pre (x' := ⟨_, _⟩) ⟨?_, ?_⟩ (iq_std (e.ln 0) (e.ln 1) (e.rw 0) (e.rw 1) (of_decide_eq_true hl))
  · (repeat' (first | exact trivial | exact rfl | exact TS.eqv_refl _ _ | exact len_app _ _ | exact rows_appI | exact fun _ _ => eqvL_refl _ _ | exact fun i _ => eqvL_rowNums rfl _ i | apply And.intro))
  · (repeat' (first | exact trivial | exact rfl | exact TS.eqv_refl _ _ | exact len_app _ _ | exact rows_appI | exact fun _ _ => eqvL_refl _ _ | exact fun i _ => eqvL_rowNums rfl _ i | apply And.intro))
theorem weSm_ok : AllOk Try.prog weSm := ⟨c25_ok, wdSm_ok⟩
theorem weTab : TabAll Try.prog weT := tab_ok weSm_ok
end Go.Proofs.Ytlcgnjcfihablaa
