/- Answers: two lists of the same are the same.
   Conditions: none. -/
import Derived.Test.YtnfmdpelafaoaaaHa
set_option linter.unusedSimpArgs false
set_option linter.unusedVariables false
namespace Go.Proofs.Ytnfmdpelafaoaaa
open Go.Eng Go.RowKit Go.ChangeShapes Go.WideShapes
set_option maxRecDepth 100000
noncomputable def body21 : Code := Try.f21.body.getD .skip
noncomputable def x21 : Code := lp ((flat body21).getD 4 .skip)
def anL : TS := ⟨[0, 1, 5], [.one (.sl 0), .one (.sl 1), .one (.i .i64)], [(0, .lst none rAns none), (1, .lst none rAns none)], 2⟩
def anR : TS := ⟨[4], [.one (.bl true)], [], 2⟩
def anE : TS := ⟨[], [], [], 2⟩
def anN (n : Nat) (r : Nat → List Num) (i : Int) : EN := ⟨[[], [], [.i i]], [.lst n r, .lst n r]⟩
theorem an_pre (n : Nat) (r : Nat → List Num) (τ0 : Tm) : codeT Try.prog noTab 300 21 Try.f21.ntmps (Eng.ofL ((flat body21).take 4)) (argTm 0 (anT.vals ⟨[[], []], [.lst n r, .lst n r]⟩) ++ τ0) (anT.heap ⟨[[], []], [.lst n r, .lst n r]⟩) 2 (outX 2 ⟨some anL, [], some anR⟩) =
  .ite ((n : Int) != (n : Int)) (.fail "the state is not of its template") (.must (raB r n) (.must (raB r n) (.leaf (.normal, ⟨[[.u], [.u], [.i 0]], [.lst n (raN r), .lst n (raN r)]⟩)))) := by kernel_rfl
theorem an_x (n : Nat) (r : Nat → List Num) (i : Int) (τ0 : Tm) : codeT Try.prog noTab 300 21 Try.f21.ntmps x21 (anL.tm (anN n r i) ++ τ0) (anL.heap (anN n r i)) 2 (outX 2 ⟨some anL, [(0, anE)], some anR⟩) =
  .ite (decide (i < (n : Int))) (.must (decide (0 ≤ i ∧ i < (n : Int))) (.must (decide (0 ≤ i ∧ i < (n : Int))) (.defI (hdN (r i.toNat)).I fun z0 => .defI (hdN (tlN (r i.toNat))).I fun z1 => .defI (hdN (tlN (tlN (r
  i.toNat)))).I fun z2 => .defI (hdN (tlN (tlN (tlN (r i.toNat))))).I fun z3 => .defI (hdN (tlN (tlN (tlN (tlN (r i.toNat)))))).I fun z4 => .defI (hdN (tlN (tlN (tlN (tlN (tlN (tlN (r i.toNat)))))))).I fun z5 => .must
  (decide (0 ≤ i ∧ i < (n : Int))) (.must (decide (0 ≤ i ∧ i < (n : Int))) (.defI (hdN (r i.toNat)).I fun z6 => .defI (hdN (tlN (r i.toNat))).I fun z7 => .defI (hdN (tlN (tlN (r i.toNat)))).I fun z8 => .defI (hdN (tlN (tlN
  (tlN (r i.toNat))))).I fun z9 => .defI (hdN (tlN (tlN (tlN (tlN (r i.toNat)))))).I fun z10 => .defI (hdN (tlN (tlN (tlN (tlN (tlN (tlN (r i.toNat)))))))).I fun z11 => .ite (!(z0 == z6 && (z1 == z7 && (z2 == z8 && (z3 ==
  z9 && (z4 == z10 && (hdN (tlN (tlN (tlN (tlN (tlN (r i.toNat))))))).S == (hdN (tlN (tlN (tlN (tlN (tlN (r i.toNat))))))).S)))) && (z5 == z11 && (hdN (tlN (tlN (tlN (tlN (tlN (tlN (tlN (r i.toNat))))))))).S == (hdN (tlN
  (tlN (tlN (tlN (tlN (tlN (tlN (r i.toNat))))))))).S))) (.fail "the state is not of its template") (.defI (IntKind.i64.wrap (i + 1)) fun z12 => .must (raB r n) (.must (raB r n) (.leaf (.normal, ⟨[[.u], [.u], [.i z12]],
  [.lst n (raN r), .lst n (raN r)]⟩))))))))) (.leaf (.exit 0, ⟨[], []⟩)) := by kernel_rfl
theorem an_tail (τ0 : Tm) : codeT Try.prog noTab 300 21 Try.f21.ntmps (Eng.ofL ((flat body21).drop 5)) (anE.tm ⟨[], []⟩ ++ τ0) (anE.heap ⟨[], []⟩) 2 (outX 2 ⟨none, [], some anR⟩) =
  .leaf (.ret, ⟨[[.u]], []⟩) := by kernel_rfl
theorem raB_ok (r : Nat → List Num) (n : Nat) : raB r n = true := rowsB_instR (row := rAns) rfl r n
theorem body21_eq : Try.f21.body = some body21 := by kernel_rfl
theorem in21 : Within Try.prog 21 Try.f21.ntmps body21 := within_body Try.func21 body21_eq
theorem lp21 : (flat body21).drop 4 = [.block 0 (.loop x21)] ++ (flat body21).drop 5 := by kernel_rfl
theorem in21x : Within Try.prog 21 Try.f21.ntmps x21 := by
  have h : (flat body21)[4]? = some (.block 0 (.loop x21)) := by kernel_rfl
  exact within_loop (within_block (within_at in21 4 h))
def anQ : Ex → EN → Prop
  | .ret, _ => False
  | _, _ => True
theorem an_loop (n : Nat) (r : Nat → List Num) (hn : (n : Int) ≤ big) : HT Try.prog Try.f21.ntmps 2 (.loop x21) 2 (anL.tm (anN n r ((0 : Nat) : Int))) (anL.heap (anN n r ((0 : Nat) : Int))) (QX ⟨none, [(0, anE)], some anR⟩ anQ) := by
  unfold big at hn
  refine HT.loopX (noTab_all _) mixed (n := 300) in21x anL _ _ (fun i : Nat => anN n r (i : Int)) (fun i => i ≤ n) (fun i => n - i) (fun _ => anQ) (by decide) ?_ 0 (Nat.zero_le _)
  intro i hi τ0
  refine holds_of_eq (an_x n r (i : Int) τ0) ?_
  have ht : ((i : Nat) : Int).toNat = i := Int.toNat_natCast i
  have hw : IntKind.i64.wrap ((i : Int) + 1) = ((i + 1 : Nat) : Int) := IntWalk.i64_in _ (by omega)
  rw [ht]
  by_cases hin : i < n
  · refine holds_ite (fun _ => ?_) (fun h => absurd (by omega) (of_decide_eq_false h))
    (repeat' with_reducible (first | refine holds_must (decide_eq_true (by omega)) ?_ | refine holds_inI ?_ | refine holds_must (raB_ok _ _) ?_ | refine holds_ite (fun h => absurd h (by simp only [beq_self_eq_true, ba_self, Bool.and_self, Bool.not_true]; decide)) (fun _ => ?_) | (simp only [beq_self_eq_true, ba_self, Bool.and_self, Bool.not_true, bne_self_eq_false])))
    rw [hw]
    refine holds_leaf ⟨i + 1, hin, by show n - (i + 1) < n - i; omega, ?_, fun _ _ h => h⟩
    (repeat' (first | exact trivial | exact rfl | exact TS.eqv_refl _ _ | exact len_app _ _ | exact rows_appI | exact fun _ _ => eqvL_refl _ _ | exact fun i _ => eqvL_rowNums rfl _ i | apply And.intro))
  · exact holds_ite (fun h => absurd (of_decide_eq_true h) (by omega)) (fun _ => holds_leaf trivial)
theorem an_std (n : Nat) (r : Nat → List Num) (hn : (n : Int) ≤ big) : StdX Try.prog 21 anT ⟨[[], []], [.lst n r, .lst n r]⟩ anR ⟨[[.u]], []⟩ := by
  refine stdX_htX Try.func21 body21_eq (by kernel_rfl) rfl (by kernel_rfl) rfl rfl ?_
  refine HT.cutX 4 (t1 := anL) (R1 := fun ex e => ex = .normal ∧ anL.eqv e (anN n r ((0 : Nat) : Int))) (HTL.runX (noTab_all _) mixed (n := 300) (by decide) (within_take in21 4) (Nat.le_refl _) fun τ0 => holds_of_eq (an_pre n r τ0) ?_) ?_ ?_
  · refine holds_ite (fun h => absurd h (by simp only [bne_self_eq_false]; decide)) fun _ => ?_
    (repeat' with_reducible (first | refine holds_must (raB_ok _ _) ?_))
    refine holds_leaf ⟨rfl, ?_⟩
    (repeat' (first | exact trivial | exact rfl | exact TS.eqv_refl _ _ | exact len_app _ _ | exact rows_appI | exact fun _ _ => eqvL_refl _ _ | exact fun i _ => eqvL_rowNums rfl _ i | apply And.intro))
  · rintro en ⟨_, he⟩
    refine HTg.pre (WP := wpL Try.prog _) (fun h hq => wpL_mono h hq) he (HTL.loopThen lp21 (an_loop n r hn) ?_ ?_)
    · intro en _
      refine HTL.runX (noTab_all _) mixed (n := 300) (by decide) (within_drop in21 5) (by decide) fun τ0 => holds_of_eq (an_tail τ0) (holds_leaf fun _ => ?_)
      (repeat' (first | exact trivial | exact rfl | exact TS.eqv_refl _ _ | exact len_app _ _ | exact rows_appI | exact fun _ _ => eqvL_refl _ _ | exact fun i _ => eqvL_rowNums rfl _ i | apply And.intro))
    · exact fun en h => h.elim
  · rintro en ⟨h, _⟩
    cases h
theorem a21_ok : SummAll Try.prog 21 (ctrSumm anT a21) := ctr_ok fun e r h => by
  unfold a21 at h
  obtain ⟨hc, h⟩ := must_sel h
  obtain ⟨h1, h2, h3⟩ := of_decide_eq_true hc
  cases h
  refine StdX.pre (x' := ⟨[[], []], [.lst (e.ln 0) (e.rw 0), .lst (e.ln 0) (e.rw 0)]⟩) ⟨?_, ?_⟩ (an_std (e.ln 0) (e.rw 0) h2)
  · (repeat' (first | exact trivial | exact rfl | exact TS.eqv_refl _ _ | exact len_app _ _ | exact rows_appI | exact fun _ _ => eqvL_refl _ _ | exact fun i _ => eqvL_rowNums rfl _ i | apply And.intro))
  · refine ⟨⟨rfl, fun i _ => eqvL_refl _ _⟩, ⟨h1.symm, fun i hi => eqvL_nth _ _ _ fun k hk => (h3 i ?_ k hk).symm⟩, trivial⟩
    exact Int.ofNat_lt.1 hi
theorem eeSm_ok : AllOk Try.prog eeSm := ⟨a21_ok, edSm_ok⟩
theorem eeTab : TabAll Try.prog eeT := tab_ok eeSm_ok
end Go.Proofs.Ytnfmdpelafaoaaa
