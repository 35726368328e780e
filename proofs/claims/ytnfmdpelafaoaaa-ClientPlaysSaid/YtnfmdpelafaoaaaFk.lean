/- Messages: is one a message? An answer comes; of replies it is told.
   Conditions: none. -/
import Derived.Test.YtnfmdpelafaoaaaFa
import Derived.Test.YtnfmdpelafaoaaaFb
import Derived.Test.YtnfmdpelafaoaaaFc
import Derived.Test.YtnfmdpelafaoaaaFz
import Derived.Test.YtnfmdpelafaoaaaFe
import Derived.Test.YtnfmdpelafaoaaaGz
import Derived.Test.YtnfmdpelafaoaaaFy
set_option linter.unusedSimpArgs false
set_option linter.unusedVariables false
namespace Go.Proofs.Ytnfmdpelafaoaaa
open Go.Eng Go.RowKit Go.ChangeShapes Go.WideShapes
set_option maxRecDepth 100000
def Q24 (e : EN) (b : Bool) : Prop := e.ai 0 0 = 16 → b = b24 (fun k => nthN k (nthL 0 e.a)) (e.ln 0) (e.rw 0) (e.ln 1) (e.rw 1) (e.ln 2) (e.rw 2)
def Q28 (e : EN) (b : Bool) : Prop := e.ai 0 0 = 16 → b = b28 (fun k => nthN k (nthL 0 e.a)) (e.ln 0) (e.rw 0) (e.ln 1) (e.rw 1) (e.ln 2) (e.rw 2)
noncomputable def is24 (e : EN) : Bool := anyQ Try.prog 24 (mT (.i .u8)) Q24 e
noncomputable def is28 (e : EN) : Bool := anyQ Try.prog 28 (mT (.i .u8)) Q28 e
noncomputable def a24 (e : EN) : Tree (TS × EN) := .leaf (tYN 3, ⟨[[.b (is24 e)]], []⟩)
noncomputable def a28 (e : EN) : Tree (TS × EN) := .leaf (tYN 3, ⟨[[.b (is28 e)]], []⟩)
noncomputable def edSm : List (FuncId × Summ) := [(24, ctrSumm (mT (.i .u8)) a24), (28, ctrSumm (mT (.i .u8)) a28)] ++ ecSm
noncomputable def edT : Tab := smTab (tabOf edSm)
theorem lit16 {f : FuncId} {k : Int} (c : Nat → Num) (n0 : Nat) (s0 : Nat → List Num) (n1 : Nat) (s1 : Nat → List Num) (n2 : Nat) (s2 : Nat → List Num) {y : EN} (hk : (c 0).I = k) (H : StdX Try.prog f (mT (.il .u8 k)) (mE c n0 s0 n1 s1 n2 s2) (tYN 3) y) : StdX Try.prog f (mT (.i .u8)) (mE c n0 s0 n1 s1 n2 s2) (tYN 3) y := by
  subst hk
  exact StdN.args (fun E => rfl) H
set_option maxHeartbeats 0 in
theorem mE_pre (e : EN) : (mT (.i .u8)).eqv e (mE (fun k => nthN k (nthL 0 e.a)) (e.ln 0) (e.rw 0) (e.ln 1) (e.rw 1) (e.ln 2) (e.rw 2)) := by
  refine ⟨⟨eqvL_nth _ _ _ ?_, trivial⟩, ?_⟩
  · intro i hi
    have hi : i < 131 := hi
    match i, hi with
    | 0, _ => exact rfl
    | 1, _ => exact rfl
    | 2, _ => exact rfl
    | 3, _ => exact rfl
    | 4, _ => exact rfl
    | 5, _ => exact rfl
    | 6, _ => exact rfl
    | 7, _ => exact rfl
    | 8, _ => exact rfl
    | 9, _ => exact rfl
    | 10, _ => exact rfl
    | 11, _ => exact rfl
    | 12, _ => exact rfl
    | 13, _ => exact rfl
    | 14, _ => exact rfl
    | 15, _ => exact rfl
    | 16, _ => exact rfl
    | 17, _ => exact rfl
    | 18, _ => exact rfl
    | 19, _ => exact rfl
    | 20, _ => exact rfl
    | 21, _ => exact rfl
    | 22, _ => exact rfl
    | 23, _ => exact rfl
    | 24, _ => exact rfl
    | 25, _ => exact rfl
    | 26, _ => exact rfl
    | 27, _ => exact rfl
    | 28, _ => exact rfl
    | 29, _ => exact rfl
    | 30, _ => exact rfl
    | 31, _ => exact rfl
    | 32, _ => exact rfl
    | 33, _ => exact rfl
    | 34, _ => exact rfl
    | 35, _ => exact rfl
    | 36, _ => exact rfl
    | 37, _ => exact rfl
    | 38, _ => exact rfl
    | 39, _ => exact rfl
    | 40, _ => exact rfl
    | 41, _ => exact rfl
    | 42, _ => exact rfl
    | 43, _ => exact rfl
    | 44, _ => exact rfl
    | 45, _ => exact rfl
    | 46, _ => exact rfl
    | 47, _ => exact rfl
    | 48, _ => exact rfl
    | 49, _ => exact rfl
    | 50, _ => exact rfl
    | 51, _ => exact rfl
    | 52, _ => exact rfl
    | 53, _ => exact rfl
    | 54, _ => exact rfl
    | 55, _ => exact rfl
    | 56, _ => exact rfl
    | 57, _ => exact rfl
    | 58, _ => exact rfl
    | 59, _ => exact rfl
    | 60, _ => exact rfl
    | 61, _ => exact rfl
    | 62, _ => exact rfl
    | 63, _ => exact rfl
    | 64, _ => exact rfl
    | 65, _ => exact rfl
    | 66, _ => exact rfl
    | 67, _ => exact rfl
    | 68, _ => exact rfl
    | 69, _ => exact rfl
    | 70, _ => exact rfl
    | 71, _ => exact rfl
    | 72, _ => exact rfl
    | 73, _ => exact rfl
    | 74, _ => exact rfl
    | 75, _ => exact rfl
    | 76, _ => exact rfl
    | 77, _ => exact rfl
    | 78, _ => exact rfl
    | 79, _ => exact rfl
    | 80, _ => exact rfl
    | 81, _ => exact rfl
    | 82, _ => exact rfl
    | 83, _ => exact rfl
    | 84, _ => exact rfl
    | 85, _ => exact rfl
    | 86, _ => exact rfl
    | 87, _ => exact rfl
    | 88, _ => exact rfl
    | 89, _ => exact rfl
    | 90, _ => exact rfl
    | 91, _ => exact rfl
    | 92, _ => exact rfl
    | 93, _ => exact rfl
    | 94, _ => exact rfl
    | 95, _ => exact rfl
    | 96, _ => exact rfl
    | 97, _ => exact rfl
    | 98, _ => exact rfl
    | 99, _ => exact rfl
    | 100, _ => exact rfl
    | 101, _ => exact rfl
    | 102, _ => exact rfl
    | 103, _ => exact rfl
    | 104, _ => exact rfl
    | 105, _ => exact rfl
    | 106, _ => exact rfl
    | 107, _ => exact rfl
    | 108, _ => exact rfl
    | 109, _ => exact rfl
    | 110, _ => exact rfl
    | 111, _ => exact rfl
    | 112, _ => exact rfl
    | 113, _ => exact rfl
    | 114, _ => exact rfl
    | 115, _ => exact rfl
    | 116, _ => exact rfl
    | 117, _ => exact rfl
    | 118, _ => exact rfl
    | 119, _ => exact rfl
    | 120, _ => exact rfl
    | 121, _ => exact rfl
    | 122, _ => exact rfl
    | 123, _ => exact rfl
    | 124, _ => exact rfl
    | 125, _ => exact rfl
    | 126, _ => exact rfl
    | 127, _ => exact rfl
    | 128, _ => exact rfl
    | 129, _ => exact rfl
    | 130, _ => exact rfl
    | n + 131, h => exact absurd h (by omega)
  · (repeat' (first | exact trivial | exact rfl | exact TS.eqv_refl _ _ | exact len_app _ _ | exact rows_appI | exact fun _ _ => eqvL_refl _ _ | exact fun i _ => eqvL_rowNums rfl _ i | apply And.intro))
theorem any24 (e : EN) : ∃ b, Q24 e b ∧ StdX Try.prog 24 (mT (.i .u8)) e (tYN (mT (.i .u8)).m) ⟨[[.b b]], []⟩ := by
  refine any_pre (Q := Q24 e) (mE_pre e) ?_
  have hk : (nthN 0 (nthL 0 e.a)).I < 1 ∨ (nthN 0 (nthL 0 e.a)).I > 18 ∨ (nthN 0 (nthL 0 e.a)).I = 1 ∨ (nthN 0 (nthL 0 e.a)).I = 2 ∨ (nthN 0 (nthL 0 e.a)).I = 3 ∨ (nthN 0 (nthL 0 e.a)).I = 4 ∨ (nthN 0 (nthL 0 e.a)).I = 5 ∨ (nthN 0 (nthL 0 e.a)).I = 6 ∨ (nthN 0 (nthL 0 e.a)).I = 7 ∨ (nthN 0 (nthL 0 e.a)).I = 8 ∨ (nthN 0 (nthL 0 e.a)).I = 9 ∨ (nthN 0 (nthL 0 e.a)).I = 10 ∨ (nthN 0 (nthL 0 e.a)).I = 11 ∨ (nthN 0 (nthL 0 e.a)).I = 12 ∨ (nthN 0 (nthL 0 e.a)).I = 13 ∨ (nthN 0 (nthL 0 e.a)).I = 14 ∨ (nthN 0 (nthL 0 e.a)).I = 15 ∨ (nthN 0 (nthL 0 e.a)).I = 16 ∨ (nthN 0 (nthL 0 e.a)).I = 17 ∨ (nthN 0 (nthL 0 e.a)).I = 18 := by omega
  rcases hk with h | h | h | h | h | h | h | h | h | h | h | h | h | h | h | h | h | h | h | h
  · exact ⟨false, fun h6 => by have h7 : (nthN 0 (nthL 0 e.a)).I = 16 := h6; omega, k24_no (fun k => nthN k (nthL 0 e.a)) (e.ln 0) (e.rw 0) (e.ln 1) (e.rw 1) (e.ln 2) (e.rw 2) (.inl h)⟩
  · exact ⟨false, fun h6 => by have h7 : (nthN 0 (nthL 0 e.a)).I = 16 := h6; omega, k24_no (fun k => nthN k (nthL 0 e.a)) (e.ln 0) (e.rw 0) (e.ln 1) (e.rw 1) (e.ln 2) (e.rw 2) (.inr h)⟩
  · obtain ⟨b, _, hs⟩ := k24_1 (fun k => nthN k (nthL 0 e.a)) (e.ln 0) (e.rw 0) (e.ln 1) (e.rw 1) (e.ln 2) (e.rw 2)
    exact ⟨b, fun h6 => absurd (h.symm.trans h6) (by decide), lit16 (fun k => nthN k (nthL 0 e.a)) (e.ln 0) (e.rw 0) (e.ln 1) (e.rw 1) (e.ln 2) (e.rw 2) h hs⟩
  · obtain ⟨b, _, hs⟩ := k24_2 (fun k => nthN k (nthL 0 e.a)) (e.ln 0) (e.rw 0) (e.ln 1) (e.rw 1) (e.ln 2) (e.rw 2)
    exact ⟨b, fun h6 => absurd (h.symm.trans h6) (by decide), lit16 (fun k => nthN k (nthL 0 e.a)) (e.ln 0) (e.rw 0) (e.ln 1) (e.rw 1) (e.ln 2) (e.rw 2) h hs⟩
  · obtain ⟨b, _, hs⟩ := k24_3 (fun k => nthN k (nthL 0 e.a)) (e.ln 0) (e.rw 0) (e.ln 1) (e.rw 1) (e.ln 2) (e.rw 2)
    exact ⟨b, fun h6 => absurd (h.symm.trans h6) (by decide), lit16 (fun k => nthN k (nthL 0 e.a)) (e.ln 0) (e.rw 0) (e.ln 1) (e.rw 1) (e.ln 2) (e.rw 2) h hs⟩
  · obtain ⟨b, _, hs⟩ := k24_4 (fun k => nthN k (nthL 0 e.a)) (e.ln 0) (e.rw 0) (e.ln 1) (e.rw 1) (e.ln 2) (e.rw 2)
    exact ⟨b, fun h6 => absurd (h.symm.trans h6) (by decide), lit16 (fun k => nthN k (nthL 0 e.a)) (e.ln 0) (e.rw 0) (e.ln 1) (e.rw 1) (e.ln 2) (e.rw 2) h hs⟩
  · obtain ⟨b, _, hs⟩ := k24_5 (fun k => nthN k (nthL 0 e.a)) (e.ln 0) (e.rw 0) (e.ln 1) (e.rw 1) (e.ln 2) (e.rw 2)
    exact ⟨b, fun h6 => absurd (h.symm.trans h6) (by decide), lit16 (fun k => nthN k (nthL 0 e.a)) (e.ln 0) (e.rw 0) (e.ln 1) (e.rw 1) (e.ln 2) (e.rw 2) h hs⟩
  · obtain ⟨b, _, hs⟩ := k24_6 (fun k => nthN k (nthL 0 e.a)) (e.ln 0) (e.rw 0) (e.ln 1) (e.rw 1) (e.ln 2) (e.rw 2)
    exact ⟨b, fun h6 => absurd (h.symm.trans h6) (by decide), lit16 (fun k => nthN k (nthL 0 e.a)) (e.ln 0) (e.rw 0) (e.ln 1) (e.rw 1) (e.ln 2) (e.rw 2) h hs⟩
  · obtain ⟨b, _, hs⟩ := k24_7 (fun k => nthN k (nthL 0 e.a)) (e.ln 0) (e.rw 0) (e.ln 1) (e.rw 1) (e.ln 2) (e.rw 2)
    exact ⟨b, fun h6 => absurd (h.symm.trans h6) (by decide), lit16 (fun k => nthN k (nthL 0 e.a)) (e.ln 0) (e.rw 0) (e.ln 1) (e.rw 1) (e.ln 2) (e.rw 2) h hs⟩
  · obtain ⟨b, _, hs⟩ := k24_8 (fun k => nthN k (nthL 0 e.a)) (e.ln 0) (e.rw 0) (e.ln 1) (e.rw 1) (e.ln 2) (e.rw 2)
    exact ⟨b, fun h6 => absurd (h.symm.trans h6) (by decide), lit16 (fun k => nthN k (nthL 0 e.a)) (e.ln 0) (e.rw 0) (e.ln 1) (e.rw 1) (e.ln 2) (e.rw 2) h hs⟩
  · obtain ⟨b, _, hs⟩ := k24_9 (fun k => nthN k (nthL 0 e.a)) (e.ln 0) (e.rw 0) (e.ln 1) (e.rw 1) (e.ln 2) (e.rw 2)
    exact ⟨b, fun h6 => absurd (h.symm.trans h6) (by decide), lit16 (fun k => nthN k (nthL 0 e.a)) (e.ln 0) (e.rw 0) (e.ln 1) (e.rw 1) (e.ln 2) (e.rw 2) h hs⟩
  · obtain ⟨b, _, hs⟩ := k24_10 (fun k => nthN k (nthL 0 e.a)) (e.ln 0) (e.rw 0) (e.ln 1) (e.rw 1) (e.ln 2) (e.rw 2)
    exact ⟨b, fun h6 => absurd (h.symm.trans h6) (by decide), lit16 (fun k => nthN k (nthL 0 e.a)) (e.ln 0) (e.rw 0) (e.ln 1) (e.rw 1) (e.ln 2) (e.rw 2) h hs⟩
  · obtain ⟨b, _, hs⟩ := k24_11 (fun k => nthN k (nthL 0 e.a)) (e.ln 0) (e.rw 0) (e.ln 1) (e.rw 1) (e.ln 2) (e.rw 2)
    exact ⟨b, fun h6 => absurd (h.symm.trans h6) (by decide), lit16 (fun k => nthN k (nthL 0 e.a)) (e.ln 0) (e.rw 0) (e.ln 1) (e.rw 1) (e.ln 2) (e.rw 2) h hs⟩
  · obtain ⟨b, _, hs⟩ := k24_12 (fun k => nthN k (nthL 0 e.a)) (e.ln 0) (e.rw 0) (e.ln 1) (e.rw 1) (e.ln 2) (e.rw 2)
    exact ⟨b, fun h6 => absurd (h.symm.trans h6) (by decide), lit16 (fun k => nthN k (nthL 0 e.a)) (e.ln 0) (e.rw 0) (e.ln 1) (e.rw 1) (e.ln 2) (e.rw 2) h hs⟩
  · obtain ⟨b, _, hs⟩ := k24_13 (fun k => nthN k (nthL 0 e.a)) (e.ln 0) (e.rw 0) (e.ln 1) (e.rw 1) (e.ln 2) (e.rw 2)
    exact ⟨b, fun h6 => absurd (h.symm.trans h6) (by decide), lit16 (fun k => nthN k (nthL 0 e.a)) (e.ln 0) (e.rw 0) (e.ln 1) (e.rw 1) (e.ln 2) (e.rw 2) h hs⟩
  · obtain ⟨b, _, hs⟩ := k24_14 (fun k => nthN k (nthL 0 e.a)) (e.ln 0) (e.rw 0) (e.ln 1) (e.rw 1) (e.ln 2) (e.rw 2)
    exact ⟨b, fun h6 => absurd (h.symm.trans h6) (by decide), lit16 (fun k => nthN k (nthL 0 e.a)) (e.ln 0) (e.rw 0) (e.ln 1) (e.rw 1) (e.ln 2) (e.rw 2) h hs⟩
  · obtain ⟨b, _, hs⟩ := k24_15 (fun k => nthN k (nthL 0 e.a)) (e.ln 0) (e.rw 0) (e.ln 1) (e.rw 1) (e.ln 2) (e.rw 2)
    exact ⟨b, fun h6 => absurd (h.symm.trans h6) (by decide), lit16 (fun k => nthN k (nthL 0 e.a)) (e.ln 0) (e.rw 0) (e.ln 1) (e.rw 1) (e.ln 2) (e.rw 2) h hs⟩
  · obtain ⟨b, hb, hs⟩ := k24_16 (fun k => nthN k (nthL 0 e.a)) (e.ln 0) (e.rw 0) (e.ln 1) (e.rw 1) (e.ln 2) (e.rw 2)
    exact ⟨b, fun _ => hb, lit16 (fun k => nthN k (nthL 0 e.a)) (e.ln 0) (e.rw 0) (e.ln 1) (e.rw 1) (e.ln 2) (e.rw 2) h hs⟩
  · obtain ⟨b, _, hs⟩ := k24_17 (fun k => nthN k (nthL 0 e.a)) (e.ln 0) (e.rw 0) (e.ln 1) (e.rw 1) (e.ln 2) (e.rw 2)
    exact ⟨b, fun h6 => absurd (h.symm.trans h6) (by decide), lit16 (fun k => nthN k (nthL 0 e.a)) (e.ln 0) (e.rw 0) (e.ln 1) (e.rw 1) (e.ln 2) (e.rw 2) h hs⟩
  · obtain ⟨b, _, hs⟩ := k24_18 (fun k => nthN k (nthL 0 e.a)) (e.ln 0) (e.rw 0) (e.ln 1) (e.rw 1) (e.ln 2) (e.rw 2)
    exact ⟨b, fun h6 => absurd (h.symm.trans h6) (by decide), lit16 (fun k => nthN k (nthL 0 e.a)) (e.ln 0) (e.rw 0) (e.ln 1) (e.rw 1) (e.ln 2) (e.rw 2) h hs⟩

theorem a24_ok : SummAll Try.prog 24 (ctrSumm (mT (.i .u8)) a24) := any_ok any24
theorem is24_Q (e : EN) : Q24 e (is24 e) := (anyQ_spec (any24 e)).1
theorem any28 (e : EN) : ∃ b, Q28 e b ∧ StdX Try.prog 28 (mT (.i .u8)) e (tYN (mT (.i .u8)).m) ⟨[[.b b]], []⟩ := by
  refine any_pre (Q := Q28 e) (mE_pre e) ?_
  have hk : (nthN 0 (nthL 0 e.a)).I < 1 ∨ (nthN 0 (nthL 0 e.a)).I > 18 ∨ (nthN 0 (nthL 0 e.a)).I = 1 ∨ (nthN 0 (nthL 0 e.a)).I = 2 ∨ (nthN 0 (nthL 0 e.a)).I = 3 ∨ (nthN 0 (nthL 0 e.a)).I = 4 ∨ (nthN 0 (nthL 0 e.a)).I = 5 ∨ (nthN 0 (nthL 0 e.a)).I = 6 ∨ (nthN 0 (nthL 0 e.a)).I = 7 ∨ (nthN 0 (nthL 0 e.a)).I = 8 ∨ (nthN 0 (nthL 0 e.a)).I = 9 ∨ (nthN 0 (nthL 0 e.a)).I = 10 ∨ (nthN 0 (nthL 0 e.a)).I = 11 ∨ (nthN 0 (nthL 0 e.a)).I = 12 ∨ (nthN 0 (nthL 0 e.a)).I = 13 ∨ (nthN 0 (nthL 0 e.a)).I = 14 ∨ (nthN 0 (nthL 0 e.a)).I = 15 ∨ (nthN 0 (nthL 0 e.a)).I = 16 ∨ (nthN 0 (nthL 0 e.a)).I = 17 ∨ (nthN 0 (nthL 0 e.a)).I = 18 := by omega
  rcases hk with h | h | h | h | h | h | h | h | h | h | h | h | h | h | h | h | h | h | h | h
  · obtain ⟨b, _, hs⟩ := k28_no (fun k => nthN k (nthL 0 e.a)) (e.ln 0) (e.rw 0) (e.ln 1) (e.rw 1) (e.ln 2) (e.rw 2) (.inl h); exact ⟨b, fun h6 => by have h7 : (nthN 0 (nthL 0 e.a)).I = 16 := h6; omega, hs⟩
  · obtain ⟨b, _, hs⟩ := k28_no (fun k => nthN k (nthL 0 e.a)) (e.ln 0) (e.rw 0) (e.ln 1) (e.rw 1) (e.ln 2) (e.rw 2) (.inr h); exact ⟨b, fun h6 => by have h7 : (nthN 0 (nthL 0 e.a)).I = 16 := h6; omega, hs⟩
  · obtain ⟨b, _, hs⟩ := k28_1 (fun k => nthN k (nthL 0 e.a)) (e.ln 0) (e.rw 0) (e.ln 1) (e.rw 1) (e.ln 2) (e.rw 2)
    exact ⟨b, fun h6 => absurd (h.symm.trans h6) (by decide), lit16 (fun k => nthN k (nthL 0 e.a)) (e.ln 0) (e.rw 0) (e.ln 1) (e.rw 1) (e.ln 2) (e.rw 2) h hs⟩
  · obtain ⟨b, _, hs⟩ := k28_2 (fun k => nthN k (nthL 0 e.a)) (e.ln 0) (e.rw 0) (e.ln 1) (e.rw 1) (e.ln 2) (e.rw 2)
    exact ⟨b, fun h6 => absurd (h.symm.trans h6) (by decide), lit16 (fun k => nthN k (nthL 0 e.a)) (e.ln 0) (e.rw 0) (e.ln 1) (e.rw 1) (e.ln 2) (e.rw 2) h hs⟩
  · obtain ⟨b, _, hs⟩ := k28_3 (fun k => nthN k (nthL 0 e.a)) (e.ln 0) (e.rw 0) (e.ln 1) (e.rw 1) (e.ln 2) (e.rw 2)
    exact ⟨b, fun h6 => absurd (h.symm.trans h6) (by decide), lit16 (fun k => nthN k (nthL 0 e.a)) (e.ln 0) (e.rw 0) (e.ln 1) (e.rw 1) (e.ln 2) (e.rw 2) h hs⟩
  · obtain ⟨b, _, hs⟩ := k28_4 (fun k => nthN k (nthL 0 e.a)) (e.ln 0) (e.rw 0) (e.ln 1) (e.rw 1) (e.ln 2) (e.rw 2)
    exact ⟨b, fun h6 => absurd (h.symm.trans h6) (by decide), lit16 (fun k => nthN k (nthL 0 e.a)) (e.ln 0) (e.rw 0) (e.ln 1) (e.rw 1) (e.ln 2) (e.rw 2) h hs⟩
  · obtain ⟨b, _, hs⟩ := k28_5 (fun k => nthN k (nthL 0 e.a)) (e.ln 0) (e.rw 0) (e.ln 1) (e.rw 1) (e.ln 2) (e.rw 2)
    exact ⟨b, fun h6 => absurd (h.symm.trans h6) (by decide), lit16 (fun k => nthN k (nthL 0 e.a)) (e.ln 0) (e.rw 0) (e.ln 1) (e.rw 1) (e.ln 2) (e.rw 2) h hs⟩
  · obtain ⟨b, _, hs⟩ := k28_6 (fun k => nthN k (nthL 0 e.a)) (e.ln 0) (e.rw 0) (e.ln 1) (e.rw 1) (e.ln 2) (e.rw 2)
    exact ⟨b, fun h6 => absurd (h.symm.trans h6) (by decide), lit16 (fun k => nthN k (nthL 0 e.a)) (e.ln 0) (e.rw 0) (e.ln 1) (e.rw 1) (e.ln 2) (e.rw 2) h hs⟩
  · obtain ⟨b, _, hs⟩ := k28_7 (fun k => nthN k (nthL 0 e.a)) (e.ln 0) (e.rw 0) (e.ln 1) (e.rw 1) (e.ln 2) (e.rw 2)
    exact ⟨b, fun h6 => absurd (h.symm.trans h6) (by decide), lit16 (fun k => nthN k (nthL 0 e.a)) (e.ln 0) (e.rw 0) (e.ln 1) (e.rw 1) (e.ln 2) (e.rw 2) h hs⟩
  · obtain ⟨b, _, hs⟩ := k28_8 (fun k => nthN k (nthL 0 e.a)) (e.ln 0) (e.rw 0) (e.ln 1) (e.rw 1) (e.ln 2) (e.rw 2)
    exact ⟨b, fun h6 => absurd (h.symm.trans h6) (by decide), lit16 (fun k => nthN k (nthL 0 e.a)) (e.ln 0) (e.rw 0) (e.ln 1) (e.rw 1) (e.ln 2) (e.rw 2) h hs⟩
  · obtain ⟨b, _, hs⟩ := k28_9 (fun k => nthN k (nthL 0 e.a)) (e.ln 0) (e.rw 0) (e.ln 1) (e.rw 1) (e.ln 2) (e.rw 2)
    exact ⟨b, fun h6 => absurd (h.symm.trans h6) (by decide), lit16 (fun k => nthN k (nthL 0 e.a)) (e.ln 0) (e.rw 0) (e.ln 1) (e.rw 1) (e.ln 2) (e.rw 2) h hs⟩
  · obtain ⟨b, _, hs⟩ := k28_10 (fun k => nthN k (nthL 0 e.a)) (e.ln 0) (e.rw 0) (e.ln 1) (e.rw 1) (e.ln 2) (e.rw 2)
    exact ⟨b, fun h6 => absurd (h.symm.trans h6) (by decide), lit16 (fun k => nthN k (nthL 0 e.a)) (e.ln 0) (e.rw 0) (e.ln 1) (e.rw 1) (e.ln 2) (e.rw 2) h hs⟩
  · obtain ⟨b, _, hs⟩ := k28_11 (fun k => nthN k (nthL 0 e.a)) (e.ln 0) (e.rw 0) (e.ln 1) (e.rw 1) (e.ln 2) (e.rw 2)
    exact ⟨b, fun h6 => absurd (h.symm.trans h6) (by decide), lit16 (fun k => nthN k (nthL 0 e.a)) (e.ln 0) (e.rw 0) (e.ln 1) (e.rw 1) (e.ln 2) (e.rw 2) h hs⟩
  · obtain ⟨b, _, hs⟩ := k28_12 (fun k => nthN k (nthL 0 e.a)) (e.ln 0) (e.rw 0) (e.ln 1) (e.rw 1) (e.ln 2) (e.rw 2)
    exact ⟨b, fun h6 => absurd (h.symm.trans h6) (by decide), lit16 (fun k => nthN k (nthL 0 e.a)) (e.ln 0) (e.rw 0) (e.ln 1) (e.rw 1) (e.ln 2) (e.rw 2) h hs⟩
  · obtain ⟨b, _, hs⟩ := k28_13 (fun k => nthN k (nthL 0 e.a)) (e.ln 0) (e.rw 0) (e.ln 1) (e.rw 1) (e.ln 2) (e.rw 2)
    exact ⟨b, fun h6 => absurd (h.symm.trans h6) (by decide), lit16 (fun k => nthN k (nthL 0 e.a)) (e.ln 0) (e.rw 0) (e.ln 1) (e.rw 1) (e.ln 2) (e.rw 2) h hs⟩
  · obtain ⟨b, _, hs⟩ := k28_14 (fun k => nthN k (nthL 0 e.a)) (e.ln 0) (e.rw 0) (e.ln 1) (e.rw 1) (e.ln 2) (e.rw 2)
    exact ⟨b, fun h6 => absurd (h.symm.trans h6) (by decide), lit16 (fun k => nthN k (nthL 0 e.a)) (e.ln 0) (e.rw 0) (e.ln 1) (e.rw 1) (e.ln 2) (e.rw 2) h hs⟩
  · obtain ⟨b, _, hs⟩ := k28_15 (fun k => nthN k (nthL 0 e.a)) (e.ln 0) (e.rw 0) (e.ln 1) (e.rw 1) (e.ln 2) (e.rw 2)
    exact ⟨b, fun h6 => absurd (h.symm.trans h6) (by decide), lit16 (fun k => nthN k (nthL 0 e.a)) (e.ln 0) (e.rw 0) (e.ln 1) (e.rw 1) (e.ln 2) (e.rw 2) h hs⟩
  · obtain ⟨b, hb, hs⟩ := k28_16 (fun k => nthN k (nthL 0 e.a)) (e.ln 0) (e.rw 0) (e.ln 1) (e.rw 1) (e.ln 2) (e.rw 2)
    exact ⟨b, fun _ => hb, lit16 (fun k => nthN k (nthL 0 e.a)) (e.ln 0) (e.rw 0) (e.ln 1) (e.rw 1) (e.ln 2) (e.rw 2) h hs⟩
  · obtain ⟨b, _, hs⟩ := k28_17 (fun k => nthN k (nthL 0 e.a)) (e.ln 0) (e.rw 0) (e.ln 1) (e.rw 1) (e.ln 2) (e.rw 2)
    exact ⟨b, fun h6 => absurd (h.symm.trans h6) (by decide), lit16 (fun k => nthN k (nthL 0 e.a)) (e.ln 0) (e.rw 0) (e.ln 1) (e.rw 1) (e.ln 2) (e.rw 2) h hs⟩
  · obtain ⟨b, _, hs⟩ := k28_18 (fun k => nthN k (nthL 0 e.a)) (e.ln 0) (e.rw 0) (e.ln 1) (e.rw 1) (e.ln 2) (e.rw 2)
    exact ⟨b, fun h6 => absurd (h.symm.trans h6) (by decide), lit16 (fun k => nthN k (nthL 0 e.a)) (e.ln 0) (e.rw 0) (e.ln 1) (e.rw 1) (e.ln 2) (e.rw 2) h hs⟩

theorem a28_ok : SummAll Try.prog 28 (ctrSumm (mT (.i .u8)) a28) := any_ok any28
theorem is28_Q (e : EN) : Q28 e (is28 e) := (anyQ_spec (any28 e)).1
theorem edSm_ok : AllOk Try.prog edSm := ⟨a24_ok, a28_ok, ecSm_ok⟩
theorem edTab : TabAll Try.prog edT := tab_ok edSm_ok
end Go.Proofs.Ytnfmdpelafaoaaa
