/- Replies: both tell the same of them.
   Conditions: none. -/
import Derived.Test.YtnfmdpelafaoaaaFk
set_option linter.unusedSimpArgs false
set_option linter.unusedVariables false
namespace Go.Proofs.Ytnfmdpelafaoaaa
open Go.Eng Go.RowKit Go.ChangeShapes Go.WideShapes
set_option maxRecDepth 100000
theorem isOp_eq (o : OpS) (hq : 0 ≤ o.q) : isOpR o = isOpB o := by
  obtain ⟨c, q, k, ob, a, d⟩ := o
  have hq : 0 ≤ q := hq
  unfold isOpR isOpB
  dsimp only
  have e1 : decide (q < 1) = (q == 0) := by rw [Bool.eq_iff_iff]; simp only [decide_eq_true_eq, beq_iff_eq]; omega
  rw [e1]
  simp only [beq_self_eq_true, Bool.true_and]
  cases decide (c < 1)
  · cases decide (c > 3)
    · cases (q == 0)
      · simp only [cond_true, cond_false]
        by_cases hk : k = 1 ∨ k = 2 ∨ k = 3 ∨ k = 4 ∨ k = 5
        · rcases hk with rfl | rfl | rfl | rfl | rfl
          all_goals cases decide (ob ≥ 6) <;> cases decide ((d.size : Int) > 16) <;> cases (a == 0) <;> cases (d == ByteArray.mk #[]) <;> rfl
        · have k1 : (k == 1) = false := beq_eq_false_iff_ne.2 (by omega)
          have k2 : (k == 2) = false := beq_eq_false_iff_ne.2 (by omega)
          have k3 : (k == 3) = false := beq_eq_false_iff_ne.2 (by omega)
          have k4 : (k == 4) = false := beq_eq_false_iff_ne.2 (by omega)
          have k5 : (k == 5) = false := beq_eq_false_iff_ne.2 (by omega)
          rw [k1, k2, k3, k4, k5]
          simp only [cond_false]
          by_cases h1 : k < 1
          · rw [decide_eq_true h1]
            cases decide (ob ≥ 6) <;> cases decide ((d.size : Int) > 16) <;> rfl
          · rw [decide_eq_false h1, decide_eq_true (show k > 5 by omega)]
            cases decide (ob ≥ 6) <;> cases decide ((d.size : Int) > 16) <;> rfl
      · rfl
    · rfl
  · rfl
theorem isOpB_c {o : OpS} (h : isOpB o = true) : 1 ≤ o.c ∧ o.c ≤ 3 := by
  unfold isOpB at h
  cases h1 : decide (o.c < 1)
  · cases h2 : decide (o.c > 3)
    · exact ⟨by have := of_decide_eq_false h1; omega, by have := of_decide_eq_false h2; omega⟩
    · simp only [h1, h2, cond_true, cond_false] at h
      cases h
  · simp only [h1, cond_true] at h
    cases h
theorem b_eq (c : Nat → Num) (n0 : Nat) (s0 : Nat → List Num) (n1 : Nat) (s1 : Nat → List Num) (n2 : Nat) (s2 : Nat → List Num) (hq : 0 ≤ (c 124).I) : b24 c n0 s0 n1 s1 n2 s2 = b28 c n0 s0 n1 s1 n2 s2 := by
  unfold b24 b28
  refine congrArg (· && _) (congrArg (· && _) ?_)
  rw [isOp_eq (opE ⟨[[.i (c 123).I, .i (c 124).I, .i (c 125).I, .i (c 126).I, .i (c 127).I, .s (c 128).S]], []⟩ 0 0) hq]
  rw [Bool.eq_iff_iff]
  constructor
  · intro h
    obtain ⟨h1, h2⟩ := (Bool.and_eq_true _ _).mp h
    obtain ⟨h3, h4⟩ := (Bool.and_eq_true _ _).mp h1
    obtain ⟨h5, h6⟩ := (Bool.and_eq_true _ _).mp h3
    obtain ⟨h7, h8⟩ := (Bool.and_eq_true _ _).mp h5
    have c1 : 1 ≤ (c 123).I ∧ (c 123).I ≤ 3 := isOpB_c h4
    have h2 := beq_iff_eq.1 h2
    rw [IntWalk.u8_in _ (by omega)] at h2
    refine (Bool.and_eq_true _ _).mpr ⟨h1, beq_iff_eq.2 ?_⟩
    rw [IntWalk.u8_in _ (by omega)]
    omega
  · intro h
    obtain ⟨h1, h2⟩ := (Bool.and_eq_true _ _).mp h
    obtain ⟨h3, h4⟩ := (Bool.and_eq_true _ _).mp h1
    obtain ⟨h5, h6⟩ := (Bool.and_eq_true _ _).mp h3
    obtain ⟨h7, h8⟩ := (Bool.and_eq_true _ _).mp h5
    have h6 := of_decide_eq_true h6
    have h8 := of_decide_eq_true h8
    have c1 : 1 ≤ (c 123).I ∧ (c 123).I ≤ 3 := isOpB_c h4
    have h2 := beq_iff_eq.1 h2
    rw [IntWalk.u8_in _ (by omega)] at h2
    refine (Bool.and_eq_true _ _).mpr ⟨h1, beq_iff_eq.2 ?_⟩
    rw [IntWalk.u8_in _ (by omega)]
    omega
theorem is_eq (e : EN) (h16 : e.ai 0 0 = 16) (hq : 0 ≤ e.ai 0 124) : is28 e = is24 e := by
  rw [is24_Q e h16, is28_Q e h16]
  exact (b_eq (fun k => nthN k (nthL 0 e.a)) _ _ _ _ _ _ hq).symm
end Go.Proofs.Ytnfmdpelafaoaaa
