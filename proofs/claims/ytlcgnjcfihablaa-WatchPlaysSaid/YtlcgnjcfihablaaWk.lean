/- Watch: Tick by contract.
   Conditions: none. -/
import Derived.Test.YtlcgnjcfihablaaWj
set_option linter.unusedSimpArgs false
set_option linter.unusedVariables false
namespace Go.Proofs.Ytlcgnjcfihablaa
open Go.Eng Go.RowKit Go.ChangeShapes Go.WideShapes
set_option maxRecDepth 100000
def ok5 (c : Nat → Int) : Prop := ∀ k, k < 5 → 0 ≤ c k ∧ c k ≤ 9
instance (c : Nat → Int) : Decidable (ok5 c) := by unfold ok5; infer_instance
def tkCs (e : EN) : Nat → Int := fun k => e.bi 0 k
def tkB (e : EN) : Nat → Bool := fun k => anyN (jxP (k : Int) (e.rw 1)) (e.ln 1)
def tkC (e : EN) : Tree (TS × EN) := .must (decide ((e.ln 1 : Int) ≤ big)) (.must (decide (ok5 (tkCs e))) (.leaf (tkR, ⟨[[]], tkP (wtC (tkB e) (tkCs e)) (wtL (tkB e) (tkCs e) 5)⟩)))
def wkSm : List (FuncId × Summ) := (26, ctrSumm tkT tkC) :: (27, ctrSumm tkT tkC) :: whSm
def wkT : Tab := smTab (tabOf wkSm)
section
variable (n : Nat) (s : Nat → List Num) (b : Nat → Bool) (c : Nat → Int)
theorem tk26_std (hB : ∀ k, b k = anyN (jxP (k : Int) s) n) (hn : (n : Int) ≤ big) (hc : ∀ k, k < 5 → 0 ≤ c k ∧ c k ≤ 9) : StdX Try.prog 26 tkT ⟨[[], []], [.box (on5 c), .lst n s]⟩ tkR ⟨[[]], tkP (wtC b c) (wtL b c 5)⟩ := by
  refine stdX_htX Try.func26 body26_eq (by kernel_rfl) rfl (by kernel_rfl) rfl rfl ?_
  refine HT.cutX 3 (t1 := tkL) (R1 := fun ex e => ex = .normal ∧ tkL.eqv e (tk26N n s b c 0)) (HTL.runX whTab mixed (n := 300) (by decide) (within_take in26 3) (Nat.le_refl _) fun τ0 => holds_of_eq (tk26_pre n s c τ0) (holds_must (rowsB_i _ _ _) (holds_leaf ⟨rfl, ?_⟩))) ?_ ?_
  · (repeat' (first | exact trivial | exact rfl | exact TS.eqv_refl _ _ | exact len_app _ _ | exact rows_appI | exact fun _ _ => eqvL_refl _ _ | exact fun i _ => eqvL_rowNums rfl _ i | apply And.intro))
    all_goals exact fun i hi => absurd hi (by simp [lnS, ON.len, hdO, tlO, tk26N, tkO, wtL])
  · rintro en ⟨_, he⟩
    refine HTg.pre (WP := wpL Try.prog _) (fun h hq => wpL_mono h hq) he (HTL.loopThen lp26 (tk26_loop n s b c hB hn hc 0 (by decide)) ?_ ?_)
    · intro en he
      have he : tkE.eqv en _ := he
      refine HTg.pre (WP := wpL Try.prog _) (fun h hq => wpL_mono h hq) he (HTL.runX whTab mixed (n := 300) (by decide) (within_drop in26 4) (by decide) fun τ0 => holds_of_eq (tk26_tail (wtD b c 5) (wtL b c 5) τ0) (holds_must (rowsB_i _ _ _) (holds_leaf fun _ => ?_)))
      (repeat' (first | exact trivial | exact rfl | exact TS.eqv_refl _ _ | exact len_app _ _ | exact rows_appI | exact fun _ _ => eqvL_refl _ _ | exact fun i _ => eqvL_rowNums rfl _ i | apply And.intro))
    · exact fun en h => h.elim
  · rintro en ⟨h, _⟩
    cases h
end
theorem c26_ok : SummAll Try.prog 26 (ctrSumm tkT tkC) := ctr_ok fun e r h => by
  unfold tkC at h
  obtain ⟨hl, h⟩ := must_sel h
  obtain ⟨hc, h⟩ := must_sel h
  cases h
  refine StdX.pre (x' := ⟨[[], []], [.box (on5 (tkCs e)), .lst (e.ln 1) (e.rw 1)]⟩) ⟨?_, ?_⟩ (tk26_std (e.ln 1) (e.rw 1) (tkB e) (tkCs e) (fun _ => rfl) (of_decide_eq_true hl) (of_decide_eq_true hc))
  · (repeat' (first | exact trivial | exact rfl | exact TS.eqv_refl _ _ | exact len_app _ _ | exact rows_appI | exact fun _ _ => eqvL_refl _ _ | exact fun i _ => eqvL_rowNums rfl _ i | apply And.intro))
  · (repeat' (first | exact trivial | exact rfl | exact TS.eqv_refl _ _ | exact len_app _ _ | exact rows_appI | exact fun _ _ => eqvL_refl _ _ | exact fun i _ => eqvL_rowNums rfl _ i | apply And.intro))
section
variable (n : Nat) (s : Nat → List Num) (b : Nat → Bool) (c : Nat → Int)
theorem tk27_std (hB : ∀ k, b k = anyN (jxP (k : Int) s) n) (hn : (n : Int) ≤ big) (hc : ∀ k, k < 5 → 0 ≤ c k ∧ c k ≤ 9) : StdX Try.prog 27 tkT ⟨[[], []], [.box (on5 c), .lst n s]⟩ tkR ⟨[[]], tkP (wtC b c) (wtL b c 5)⟩ := by
  refine stdX_htX Try.func27 body27_eq (by kernel_rfl) rfl (by kernel_rfl) rfl rfl ?_
  refine HT.cutX 3 (t1 := tkM) (R1 := fun ex e => ex = .normal ∧ tkM.eqv e (tk27N n s b c 0)) (HTL.runX whTab mixed (n := 300) (by decide) (within_take in27 3) (Nat.le_refl _) fun τ0 => holds_of_eq (tk27_pre n s c τ0) (holds_must (rowsB_i _ _ _) (holds_leaf ⟨rfl, ?_⟩))) ?_ ?_
  · (repeat' (first | exact trivial | exact rfl | exact TS.eqv_refl _ _ | exact len_app _ _ | exact rows_appI | exact fun _ _ => eqvL_refl _ _ | exact fun i _ => eqvL_rowNums rfl _ i | apply And.intro))
    all_goals exact fun i hi => absurd hi (by simp [lnS, ON.len, hdO, tlO, tk27N, tkO, wtL])
  · rintro en ⟨_, he⟩
    refine HTg.pre (WP := wpL Try.prog _) (fun h hq => wpL_mono h hq) he (HTL.loopThen lp27 (tk27_loop n s b c hB hn hc 0 (by decide)) ?_ ?_)
    · intro en he
      have he : tkE.eqv en _ := he
      refine HTg.pre (WP := wpL Try.prog _) (fun h hq => wpL_mono h hq) he (HTL.runX whTab mixed (n := 300) (by decide) (within_drop in27 4) (by decide) fun τ0 => holds_of_eq (tk27_tail (wtD b c 5) (wtL b c 5) τ0) (holds_must (rowsB_i _ _ _) (holds_leaf fun _ => ?_)))
      (repeat' (first | exact trivial | exact rfl | exact TS.eqv_refl _ _ | exact len_app _ _ | exact rows_appI | exact fun _ _ => eqvL_refl _ _ | exact fun i _ => eqvL_rowNums rfl _ i | apply And.intro))
    · exact fun en h => h.elim
  · rintro en ⟨h, _⟩
    cases h
end
theorem c27_ok : SummAll Try.prog 27 (ctrSumm tkT tkC) := ctr_ok fun e r h => by
  unfold tkC at h
  obtain ⟨hl, h⟩ := must_sel h
  obtain ⟨hc, h⟩ := must_sel h
  cases h
  refine StdX.pre (x' := ⟨[[], []], [.box (on5 (tkCs e)), .lst (e.ln 1) (e.rw 1)]⟩) ⟨?_, ?_⟩ (tk27_std (e.ln 1) (e.rw 1) (tkB e) (tkCs e) (fun _ => rfl) (of_decide_eq_true hl) (of_decide_eq_true hc))
  · (repeat' (first | exact trivial | exact rfl | exact TS.eqv_refl _ _ | exact len_app _ _ | exact rows_appI | exact fun _ _ => eqvL_refl _ _ | exact fun i _ => eqvL_rowNums rfl _ i | apply And.intro))
  · (repeat' (first | exact trivial | exact rfl | exact TS.eqv_refl _ _ | exact len_app _ _ | exact rows_appI | exact fun _ _ => eqvL_refl _ _ | exact fun i _ => eqvL_rowNums rfl _ i | apply And.intro))
theorem wkSm_ok : AllOk Try.prog wkSm := ⟨c26_ok, c27_ok, whSm_ok⟩
theorem wkTab : TabAll Try.prog wkT := tab_ok wkSm_ok
end Go.Proofs.Ytlcgnjcfihablaa
