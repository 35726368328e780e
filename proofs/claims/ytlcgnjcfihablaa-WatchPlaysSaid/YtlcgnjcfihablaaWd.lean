/- Reports: adding; the table.
   Conditions: none. -/
import Derived.Test.YtlcgnjcfihablaaWc
set_option linter.unusedSimpArgs false
set_option linter.unusedVariables false
namespace Go.Proofs.Ytlcgnjcfihablaa
open Go.Eng Go.RowKit Go.ChangeShapes Go.WideShapes
set_option maxRecDepth 100000
def adOk (f a : Int) : Prop := 0 ≤ f ∧ f < 5 ∧ 0 ≤ a ∧ a < 5 ∧ f ≠ a
instance (f a : Int) : Decidable (adOk f a) := by unfold adOk; infer_instance
def adM (m : Nat → Bool) (f a : Int) : Nat → Bool := setF m (5 * a.toNat + f.toNat)
def adS (m : Nat → Bool) (f a : Int) : Bool × (Nat → Bool) := if adOk f a then (if (ofS (adM m f a) a).length < 2 then (false, adM m f a) else (true, clrF (adM m f a) a)) else (false, m)
def adP : TS := ⟨[], [.one .b], [(0, .box b25)], 1⟩
def adC (e : EN) : Tree (TS × EN) := .leaf (adP, ⟨[[.b (adS (ofM e) (e.ai 1 0) (e.ai 2 0)).1]], [.box (on25 (adS (ofM e) (e.ai 1 0) (e.ai 2 0)).2)]⟩)
def wdSm : List (FuncId × Summ) := [(32, ctrSumm adT adC), (33, ctrSumm adT adC)] ++ wcSm ++ sbSm
def wdT : Tab := smTab (tabOf wdSm)
theorem ofM_lt (u : List (List Num)) (m : Nat → Bool) {k : Nat} (h : k < 25) : ofM ⟨u, [.box (on25 m)]⟩ k = m k := by
  match k, h with
  | 0, _ => exact rfl
  | 1, _ => exact rfl
  | 2, _ => exact rfl
  | 3, _ => exact rfl
  | 4, _ => exact rfl
  | 5, _ => exact rfl
  | 6, _ => exact rfl
  | 7, _ => exact rfl
  | 8, _ => exact rfl
  | 9, _ => exact rfl
  | 10, _ => exact rfl
  | 11, _ => exact rfl
  | 12, _ => exact rfl
  | 13, _ => exact rfl
  | 14, _ => exact rfl
  | 15, _ => exact rfl
  | 16, _ => exact rfl
  | 17, _ => exact rfl
  | 18, _ => exact rfl
  | 19, _ => exact rfl
  | 20, _ => exact rfl
  | 21, _ => exact rfl
  | 22, _ => exact rfl
  | 23, _ => exact rfl
  | 24, _ => exact rfl
  | n + 25, h => exact absurd h (by omega)

theorem ofN_congr {g g' : Nat → Bool} : ∀ {n : Nat}, (∀ i, i < n → g i = g' i) → ofN g n = ofN g' n
  | 0, _ => rfl
  | n + 1, h => by simp only [ofN, ofN_congr (n := n) (fun i hi => h i (by omega)), h n (by omega)]
theorem ofS_congr {m m' : Nat → Bool} (a : Int) (h : ∀ k, k < 25 → m k = m' k) : ofS m a = ofS m' a := by
  unfold ofS
  split
  · exact ofN_congr fun i hi => h _ (by omega)
  · rfl
theorem clrF_congr {m m' : Nat → Bool} (a : Int) (h : ∀ k, k < 25 → m k = m' k) (k : Nat) (hk : k < 25) : clrF m a k = clrF m' a k := by
  unfold clrF
  rw [h k hk]
theorem on25_congr {m m' : Nat → Bool} (h : ∀ k, k < 25 → m k = m' k) : on25 m = on25 m' := by
  simp only [on25, h 0 (by decide), h 1 (by decide), h 2 (by decide), h 3 (by decide), h 4 (by decide), h 5 (by decide), h 6 (by decide), h 7 (by decide), h 8 (by decide), h 9 (by decide), h 10 (by decide), h 11 (by decide), h 12 (by decide), h 13 (by decide), h 14 (by decide), h 15 (by decide), h 16 (by decide), h 17 (by decide), h 18 (by decide), h 19 (by decide), h 20 (by decide), h 21 (by decide), h 22 (by decide), h 23 (by decide), h 24 (by decide)]
def ad1 (m : Nat → Bool) (f a : Int) : Ex → EN → Prop
  | .normal, e => adOk f a ∧ adL.eqv e ⟨[[], [.i a]], [.box (on25 (adM m f a))]⟩
  | .ret, e => ¬ adOk f a ∧ adR.eqv e ⟨[[.b false]], [.box (on25 m)]⟩
  | .exit _, _ => True
theorem body32_eq : Try.f32.body = some body32 := by kernel_rfl
theorem in32 : Within Try.prog 32 Try.f32.ntmps body32 := within_body Try.func32 body32_eq
set_option maxHeartbeats 40000000 in
theorem ad32_std (m : Nat → Bool) (f a : Int) : StdX Try.prog 32 adT ⟨[[], [.i f], [.i a]], [.box (on25 m)]⟩ adR ⟨[[.b (adS m f a).1]], [.box (on25 (adS m f a).2)]⟩ := by
  refine stdX_htX Try.func32 body32_eq (by kernel_rfl) rfl (by kernel_rfl) rfl rfl ?_
  refine HT.cutX 4 (t1 := adL) (R1 := ad1 m f a) (HTL.runX (noTab_all _) mixed (n := 300) (by decide) (within_take in32 4) (Nat.le_refl _) fun τ0 => holds_of_eq (ad32_a m f a τ0) ?_) ?_ ?_
  · by_cases hf : 0 ≤ f ∧ f < 5
    · by_cases ha : 0 ≤ a ∧ a < 5
      · have hf' : f = 0 ∨ f = 1 ∨ f = 2 ∨ f = 3 ∨ f = 4 := by omega
        have ha' : a = 0 ∨ a = 1 ∨ a = 2 ∨ a = 3 ∨ a = 4 := by omega
        rcases hf' with rfl | rfl | rfl | rfl | rfl <;> rcases ha' with rfl | rfl | rfl | rfl | rfl
        all_goals repeat' with_reducible (first | refine holds_ite (fun h => absurd h (by decide)) (fun _ => ?_) | refine holds_ite (fun _ => ?_) (fun h => absurd h (by decide)) | refine holds_must (rowsB_i _ _ _) ?_ | refine holds_must (rowsB_app (by omega)) ?_ | refine holds_must (decide_eq_true (by omega)) ?_ | refine holds_inI ?_ | refine holds_ite (fun hg => ?_) (fun hg => ?_))
        all_goals first
          | exact holds_leaf ⟨by decide, adL.eqv_refl _⟩
          | exact holds_leaf ⟨by decide, adR.eqv_refl _⟩
          | (refine holds_leaf ⟨by decide, ?_⟩; (repeat' (first | exact trivial | exact rfl | exact TS.eqv_refl _ _ | exact len_app _ _ | exact rows_appI | exact fun _ _ => eqvL_refl _ _ | exact fun i _ => eqvL_rowNums rfl _ i | apply And.intro)); done)
      · have no : ¬ adOk f a := fun h => ha ⟨h.2.2.1, h.2.2.2.1⟩
        refine holds_ite (fun _ => holds_ite (fun _ => holds_leaf ⟨no, adR.eqv_refl _⟩) fun _ => holds_ite (fun h1 => holds_ite (fun _ => holds_leaf ⟨no, adR.eqv_refl _⟩) fun h2 => ?_) fun _ => holds_leaf ⟨no, adR.eqv_refl _⟩) fun _ => holds_leaf ⟨no, adR.eqv_refl _⟩
        exact absurd ⟨of_decide_eq_true h1, by simpa using h2⟩ ha
    · have no : ¬ adOk f a := fun h => hf ⟨h.1, h.2.1⟩
      refine holds_ite (fun h1 => holds_ite (fun _ => holds_leaf ⟨no, adR.eqv_refl _⟩) fun h2 => ?_) fun _ => holds_leaf ⟨no, adR.eqv_refl _⟩
      exact absurd ⟨of_decide_eq_true h1, by simpa using h2⟩ hf
  · rintro en ⟨hok, he⟩
    refine HTg.pre (WP := wpL Try.prog _) (fun h hq => wpL_mono h hq) he (HTL.runX wcTab mixed (n := 300) (by decide) (within_drop in32 4) (Nat.le_refl _) fun τ0 => holds_of_eq (ad32_b (adM m f a) a τ0) (holds_defE fun e he => ?_))
    have h1 : ofS (ofM e) (e.ai 1 0) = ofS (adM m f a) a := by rw [he]; exact ofS_congr a fun k hk => ofM_lt _ _ hk
    simp only [h1]
    (repeat' with_reducible (first | refine holds_inI ?_ | refine holds_inB ?_))
    refine holds_ite (fun hlt => holds_leaf fun _ => ?_) fun hge => holds_defE fun e2 he2 => ?_
    · have hlt : (ofS (adM m f a) a).length < 2 := by have := of_decide_eq_true hlt; omega
      have e1 : adS m f a = (false, adM m f a) := by simp only [adS, if_pos hok, if_pos hlt]
      rw [e1]
      subst he
      (repeat' (first | exact trivial | exact rfl | exact TS.eqv_refl _ _ | exact len_app _ _ | exact rows_appI | exact fun _ _ => eqvL_refl _ _ | exact fun i _ => eqvL_rowNums rfl _ i | apply And.intro))
    · have hge : ¬ (ofS (adM m f a) a).length < 2 := by have := of_decide_eq_false hge; omega
      have e1 : adS m f a = (true, clrF (adM m f a) a) := by simp only [adS, if_pos hok, if_neg hge]
      (repeat' with_reducible (first | refine holds_inI ?_ | refine holds_inB ?_))
      refine holds_leaf fun _ => ?_
      rw [e1]
      subst he2 he
      (repeat' (first | exact trivial | exact rfl | exact TS.eqv_refl _ _ | exact len_app _ _ | exact rows_appI | exact fun _ _ => eqvL_refl _ _ | exact fun i _ => eqvL_rowNums rfl _ i | apply And.intro))
  · rintro en ⟨hno, he⟩ _
    have e1 : adS m f a = (false, m) := by simp only [adS, if_neg hno]
    rw [e1]
    exact he
theorem c32_ok : SummAll Try.prog 32 (ctrSumm adT adC) := ctr_ok fun e r h => by
  cases h
  refine StdX.pre (x' := ⟨_, [.box (on25 (ofM e))]⟩) ⟨?_, ofM_eqv e⟩ (ad32_std (ofM e) (e.ai 1 0) (e.ai 2 0))
  (repeat' (first | exact trivial | exact rfl | exact TS.eqv_refl _ _ | exact len_app _ _ | exact rows_appI | exact fun _ _ => eqvL_refl _ _ | exact fun i _ => eqvL_rowNums rfl _ i | apply And.intro))
theorem body33_eq : Try.f33.body = some body33 := by kernel_rfl
theorem in33 : Within Try.prog 33 Try.f33.ntmps body33 := within_body Try.func33 body33_eq
set_option maxHeartbeats 40000000 in
theorem ad33_std (m : Nat → Bool) (f a : Int) : StdX Try.prog 33 adT ⟨[[], [.i f], [.i a]], [.box (on25 m)]⟩ adR ⟨[[.b (adS m f a).1]], [.box (on25 (adS m f a).2)]⟩ := by
  refine stdX_htX Try.func33 body33_eq (by kernel_rfl) rfl (by kernel_rfl) rfl rfl ?_
  refine HT.cutX 4 (t1 := adL) (R1 := ad1 m f a) (HTL.runX (noTab_all _) mixed (n := 300) (by decide) (within_take in33 4) (Nat.le_refl _) fun τ0 => holds_of_eq (ad33_a m f a τ0) ?_) ?_ ?_
  · by_cases hf : 0 ≤ f ∧ f < 5
    · by_cases ha : 0 ≤ a ∧ a < 5
      · have hf' : f = 0 ∨ f = 1 ∨ f = 2 ∨ f = 3 ∨ f = 4 := by omega
        have ha' : a = 0 ∨ a = 1 ∨ a = 2 ∨ a = 3 ∨ a = 4 := by omega
        rcases hf' with rfl | rfl | rfl | rfl | rfl <;> rcases ha' with rfl | rfl | rfl | rfl | rfl
        all_goals repeat' with_reducible (first | refine holds_ite (fun h => absurd h (by decide)) (fun _ => ?_) | refine holds_ite (fun _ => ?_) (fun h => absurd h (by decide)) | refine holds_must (rowsB_i _ _ _) ?_ | refine holds_must (rowsB_app (by omega)) ?_ | refine holds_must (decide_eq_true (by omega)) ?_ | refine holds_inI ?_ | refine holds_ite (fun hg => ?_) (fun hg => ?_))
        all_goals first
          | exact holds_leaf ⟨by decide, adL.eqv_refl _⟩
          | exact holds_leaf ⟨by decide, adR.eqv_refl _⟩
          | (refine holds_leaf ⟨by decide, ?_⟩; (repeat' (first | exact trivial | exact rfl | exact TS.eqv_refl _ _ | exact len_app _ _ | exact rows_appI | exact fun _ _ => eqvL_refl _ _ | exact fun i _ => eqvL_rowNums rfl _ i | apply And.intro)); done)
      · have no : ¬ adOk f a := fun h => ha ⟨h.2.2.1, h.2.2.2.1⟩
        refine holds_ite (fun _ => holds_ite (fun _ => holds_leaf ⟨no, adR.eqv_refl _⟩) fun _ => holds_ite (fun h1 => holds_ite (fun _ => holds_leaf ⟨no, adR.eqv_refl _⟩) fun h2 => ?_) fun _ => holds_leaf ⟨no, adR.eqv_refl _⟩) fun _ => holds_leaf ⟨no, adR.eqv_refl _⟩
        exact absurd ⟨of_decide_eq_true h1, by simpa using h2⟩ ha
    · have no : ¬ adOk f a := fun h => hf ⟨h.1, h.2.1⟩
      refine holds_ite (fun h1 => holds_ite (fun _ => holds_leaf ⟨no, adR.eqv_refl _⟩) fun h2 => ?_) fun _ => holds_leaf ⟨no, adR.eqv_refl _⟩
      exact absurd ⟨of_decide_eq_true h1, by simpa using h2⟩ hf
  · rintro en ⟨hok, he⟩
    refine HTg.pre (WP := wpL Try.prog _) (fun h hq => wpL_mono h hq) he (HTL.runX wcTab mixed (n := 300) (by decide) (within_drop in33 4) (Nat.le_refl _) fun τ0 => holds_of_eq (ad33_b (adM m f a) a τ0) (holds_defE fun e he => ?_))
    have h1 : ofS (ofM e) (e.ai 1 0) = ofS (adM m f a) a := by rw [he]; exact ofS_congr a fun k hk => ofM_lt _ _ hk
    simp only [h1]
    (repeat' with_reducible (first | refine holds_inI ?_ | refine holds_inB ?_))
    refine holds_ite (fun hlt => holds_leaf fun _ => ?_) fun hge => holds_defE fun e2 he2 => ?_
    · have hlt : (ofS (adM m f a) a).length < 2 := by have := of_decide_eq_true hlt; omega
      have e1 : adS m f a = (false, adM m f a) := by simp only [adS, if_pos hok, if_pos hlt]
      rw [e1]
      subst he
      (repeat' (first | exact trivial | exact rfl | exact TS.eqv_refl _ _ | exact len_app _ _ | exact rows_appI | exact fun _ _ => eqvL_refl _ _ | exact fun i _ => eqvL_rowNums rfl _ i | apply And.intro))
    · have hge : ¬ (ofS (adM m f a) a).length < 2 := by have := of_decide_eq_false hge; omega
      have e1 : adS m f a = (true, clrF (adM m f a) a) := by simp only [adS, if_pos hok, if_neg hge]
      (repeat' with_reducible (first | refine holds_inI ?_ | refine holds_inB ?_))
      refine holds_leaf fun _ => ?_
      rw [e1]
      subst he2 he
      (repeat' (first | exact trivial | exact rfl | exact TS.eqv_refl _ _ | exact len_app _ _ | exact rows_appI | exact fun _ _ => eqvL_refl _ _ | exact fun i _ => eqvL_rowNums rfl _ i | apply And.intro))
  · rintro en ⟨hno, he⟩ _
    have e1 : adS m f a = (false, m) := by simp only [adS, if_neg hno]
    rw [e1]
    exact he
theorem c33_ok : SummAll Try.prog 33 (ctrSumm adT adC) := ctr_ok fun e r h => by
  cases h
  refine StdX.pre (x' := ⟨_, [.box (on25 (ofM e))]⟩) ⟨?_, ofM_eqv e⟩ (ad33_std (ofM e) (e.ai 1 0) (e.ai 2 0))
  (repeat' (first | exact trivial | exact rfl | exact TS.eqv_refl _ _ | exact len_app _ _ | exact rows_appI | exact fun _ _ => eqvL_refl _ _ | exact fun i _ => eqvL_rowNums rfl _ i | apply And.intro))
theorem all_app {l l' : List (FuncId × Summ)} (h : AllOk Try.prog l) (h' : AllOk Try.prog l') : AllOk Try.prog (l ++ l') := by
  induction l with
  | nil => exact h'
  | cons p l ih => exact ⟨h.1, ih h.2⟩
theorem wdSm_ok : AllOk Try.prog wdSm := all_app (l := [(32, ctrSumm adT adC), (33, ctrSumm adT adC)] ++ wcSm) ⟨c32_ok, c33_ok, wcSm_ok⟩ sbSm_ok
theorem wdTab : TabAll Try.prog wdT := tab_ok wdSm_ok
end Go.Proofs.Ytlcgnjcfihablaa
