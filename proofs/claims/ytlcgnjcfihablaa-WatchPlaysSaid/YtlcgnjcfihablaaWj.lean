/- Watch: what Tick comes to.
   Conditions: none. -/
import Derived.Test.YtlcgnjcfihablaaWi
set_option linter.unusedSimpArgs false
set_option linter.unusedVariables false
namespace Go.Proofs.Ytlcgnjcfihablaa
open Go.Eng Go.RowKit Go.ChangeShapes Go.WideShapes
set_option maxRecDepth 100000
def wtC (b : Nat → Bool) (c : Nat → Int) (k : Nat) : Int := bif b k then (if c k + 1 < 10 then c k + 1 else 0) else 0
def wtD (b : Nat → Bool) (c : Nat → Int) (d k : Nat) : Int := if k < d then wtC b c k else c k
def wtL (b : Nat → Bool) (c : Nat → Int) : Nat → List Int
  | 0 => []
  | d + 1 => bif b d then (if c d + 1 < 10 then wtL b c d else wtL b c d ++ [(d : Int)]) else wtL b c d
theorem wtL_len (b : Nat → Bool) (c : Nat → Int) : ∀ d, (wtL b c d).length ≤ d
  | 0 => Nat.le_refl _
  | d + 1 => by
    have := wtL_len b c d
    simp only [wtL]
    cases b d
    · simp only [cond_false]; omega
    · simp only [cond_true]
      split
      · omega
      · rw [List.length_append, List.length_singleton]; omega
theorem wt_n {b : Nat → Bool} {c : Nat → Int} {d : Nat} (h : b d = false) : wtC b c d = 0 ∧ wtL b c (d + 1) = wtL b c d := by
  simp only [wtC, wtL, h, cond_false, and_self]
theorem wt_l {b : Nat → Bool} {c : Nat → Int} {d : Nat} (h : b d = true) (h2 : c d + 1 < 10) : wtC b c d = c d + 1 ∧ wtL b c (d + 1) = wtL b c d := by
  simp only [wtC, wtL, h, cond_true, if_pos h2, and_self]
theorem wt_g {b : Nat → Bool} {c : Nat → Int} {d : Nat} (h : b d = true) (h2 : ¬ c d + 1 < 10) : wtC b c d = 0 ∧ wtL b c (d + 1) = wtL b c d ++ [(d : Int)] := by
  simp only [wtC, wtL, h, cond_true, if_neg h2, and_self]
theorem len_app1 {l : List Int} {v : Int} : ((l.length : Int) + 1).toNat = (l ++ [v]).length := by
  rw [List.length_append, List.length_singleton]; omega
theorem body26_eq : Try.f26.body = some body26 := by kernel_rfl
theorem in26 : Within Try.prog 26 Try.f26.ntmps body26 := within_body Try.func26 body26_eq
theorem lp26 : (flat body26).drop 3 = [.block 0 (.loop x26)] ++ (flat body26).drop 4 := by kernel_rfl
theorem in26x : Within Try.prog 26 Try.f26.ntmps x26 := by
  have h : (flat body26)[3]? = some (.block 0 (.loop x26)) := by kernel_rfl
  exact within_loop (within_block (within_at in26 3 h))
section
variable (n : Nat) (s : Nat → List Num) (b : Nat → Bool) (c : Nat → Int)
def tk26N (d : Nat) : EN := ⟨[[], [], [], [.i (d : Int)]], tkO n s (wtD b c d) (wtL b c d)⟩
def tk26Q : Ex → EN → Prop
  | .exit _, e => tkE.eqv e ⟨[[]], tkP (wtD b c 5) (wtL b c 5)⟩
  | _, _ => False
set_option maxHeartbeats 40000000 in
theorem tk26_loop (hB : ∀ k, b k = anyN (jxP (k : Int) (tkS s)) n) (hn : (n : Int) ≤ big) (hc : ∀ k, k < 5 → 0 ≤ c k ∧ c k ≤ 9) (d : Nat) (hd : d ≤ 5) : HT Try.prog Try.f26.ntmps 2 (.loop x26) 4 (tkL.tm (tk26N n s b c d)) (tkL.heap (tk26N n s b c d)) (QX ⟨none, [(0, tkE)], some tkR⟩ (tk26Q b c)) := by
  refine HT.loopX whTab mixed (n := 300) in26x tkL _ _ (tk26N n s b c) (fun d => d ≤ 5) (fun d => 5 - d) (fun _ => tk26Q b c) (by decide) ?_ d hd
  intro d hd τ0
  have hm : decide ((n : Int) ≤ 1099511627776) = true := decide_eq_true hn
  have hcw : ∀ k, k < 5 → IntKind.i64.wrap (c k + 1) = c k + 1 := fun k hk => by have := hc k hk; exact IntWalk.i64_in _ (by omega)
  have nx : ∀ d, d < 5 → ∀ e, tkL.eqv e (tk26N n s b c (d + 1)) → ∃ d' : Nat, d' ≤ 5 ∧ 5 - d' < 5 - d ∧ tkL.eqv e (tk26N n s b c d') ∧ ∀ ex e, tk26Q b c ex e → tk26Q b c ex e :=
    fun d h e he => ⟨d + 1, by omega, by omega, he, fun _ _ h => h⟩
  have hl := wtL_len b c d
  rcases six hd with rfl | rfl | rfl | rfl | rfl | rfl
  · rcases Bool.eq_false_or_eq_true (b 0) with h0 | h0
    · by_cases h1 : c 0 + 1 < 10
      · have hq := wt_l (b := b) (c := c) (d := 0) h0 h1
        have hb : (anyN (jxP ((0 : Nat) : Int) (tkS s)) n) = true := by rw [← hB 0, h0]
        have ew : IntKind.i64.wrap (wtD b c 0 0 + 1) = c 0 + 1 := hcw 0 (by decide)
        have hw : decide (IntKind.i64.wrap (wtD b c 0 0 + 1) < 10) = true := by rw [ew]; exact decide_eq_true h1
        have hv : IntKind.i64.wrap (wtD b c 0 0 + 1) = wtD b c (0 + 1) 0 := ew.trans hq.1.symm
        refine holds_of_eq (tk26_x n s (wtD b c 0) (wtL b c 0) ((0 : Nat) : Int) τ0) ?_
        (repeat' with_reducible (first | refine holds_ite (fun h => absurd h (by decide)) (fun _ => ?_) | refine holds_ite (fun _ => ?_) (fun h => absurd h (by decide)) | refine holds_ite (fun h => absurd (hb.symm.trans h) (by decide)) (fun _ => ?_) | refine holds_ite (fun _ => ?_) (fun h => absurd (hb.symm.trans h) (by decide)) | refine holds_ite (fun h => absurd (hw.symm.trans h) (by decide)) (fun _ => ?_) | refine holds_ite (fun _ => ?_) (fun h => absurd (hw.symm.trans h) (by decide)) | refine holds_must (rowsB_i _ _ _) ?_ | refine holds_must (rowsB_app (by omega)) ?_ | refine holds_must hm ?_ | refine holds_must (decide_eq_true (by omega)) ?_ | refine holds_inI ?_))
        refine holds_leaf (nx 0 (by decide) _ ?_)
        show tkL.eqv _ ⟨[[], [], [], [.i ((0 + 1 : Nat) : Int)]], tkO n s (wtD b c (0 + 1)) (wtL b c (0 + 1))⟩
        rw [hq.2]
        (repeat' (first | exact trivial | exact rfl | exact TS.eqv_refl _ _ | exact len_app _ _ | exact rows_appI | exact fun _ _ => eqvL_refl _ _ | exact fun i _ => eqvL_rowNums rfl _ i | exact hv | exact hv.trans hq.1.symm | apply And.intro))
      · have hq := wt_g (b := b) (c := c) (d := 0) h0 h1
        have hb : (anyN (jxP ((0 : Nat) : Int) (tkS s)) n) = true := by rw [← hB 0, h0]
        have ew : IntKind.i64.wrap (wtD b c 0 0 + 1) = c 0 + 1 := hcw 0 (by decide)
        have hw : decide (IntKind.i64.wrap (wtD b c 0 0 + 1) < 10) = false := by rw [ew]; exact decide_eq_false h1
        have hv : (0 : Int) = wtD b c (0 + 1) 0 := hq.1.symm
        refine holds_of_eq (tk26_x n s (wtD b c 0) (wtL b c 0) ((0 : Nat) : Int) τ0) ?_
        (repeat' with_reducible (first | refine holds_ite (fun h => absurd h (by decide)) (fun _ => ?_) | refine holds_ite (fun _ => ?_) (fun h => absurd h (by decide)) | refine holds_ite (fun h => absurd (hb.symm.trans h) (by decide)) (fun _ => ?_) | refine holds_ite (fun _ => ?_) (fun h => absurd (hb.symm.trans h) (by decide)) | refine holds_ite (fun h => absurd (hw.symm.trans h) (by decide)) (fun _ => ?_) | refine holds_ite (fun _ => ?_) (fun h => absurd (hw.symm.trans h) (by decide)) | refine holds_must (rowsB_i _ _ _) ?_ | refine holds_must (rowsB_app (by omega)) ?_ | refine holds_must hm ?_ | refine holds_must (decide_eq_true (by omega)) ?_ | refine holds_inI ?_))
        refine holds_leaf (nx 0 (by decide) _ ?_)
        show tkL.eqv _ ⟨[[], [], [], [.i ((0 + 1 : Nat) : Int)]], tkO n s (wtD b c (0 + 1)) (wtL b c (0 + 1))⟩
        rw [hq.2]
        (repeat' (first | exact trivial | exact rfl | exact TS.eqv_refl _ _ | exact len_app _ _ | exact rows_appI | exact fun _ _ => eqvL_refl _ _ | exact fun i _ => eqvL_rowNums rfl _ i | exact hv | exact hv.trans hq.1.symm | apply And.intro))
    · have hq := wt_n (b := b) (c := c) (d := 0) h0 
      have hb : (anyN (jxP ((0 : Nat) : Int) (tkS s)) n) = false := by rw [← hB 0, h0]
      have hw : true = true := rfl
      have hv : (0 : Int) = wtD b c (0 + 1) 0 := hq.1.symm
      refine holds_of_eq (tk26_x n s (wtD b c 0) (wtL b c 0) ((0 : Nat) : Int) τ0) ?_
      (repeat' with_reducible (first | refine holds_ite (fun h => absurd h (by decide)) (fun _ => ?_) | refine holds_ite (fun _ => ?_) (fun h => absurd h (by decide)) | refine holds_ite (fun h => absurd (hb.symm.trans h) (by decide)) (fun _ => ?_) | refine holds_ite (fun _ => ?_) (fun h => absurd (hb.symm.trans h) (by decide)) | refine holds_ite (fun h => absurd (hw.symm.trans h) (by decide)) (fun _ => ?_) | refine holds_ite (fun _ => ?_) (fun h => absurd (hw.symm.trans h) (by decide)) | refine holds_must (rowsB_i _ _ _) ?_ | refine holds_must (rowsB_app (by omega)) ?_ | refine holds_must hm ?_ | refine holds_must (decide_eq_true (by omega)) ?_ | refine holds_inI ?_))
      refine holds_leaf (nx 0 (by decide) _ ?_)
      show tkL.eqv _ ⟨[[], [], [], [.i ((0 + 1 : Nat) : Int)]], tkO n s (wtD b c (0 + 1)) (wtL b c (0 + 1))⟩
      rw [hq.2]
      (repeat' (first | exact trivial | exact rfl | exact TS.eqv_refl _ _ | exact len_app _ _ | exact rows_appI | exact fun _ _ => eqvL_refl _ _ | exact fun i _ => eqvL_rowNums rfl _ i | exact hv | exact hv.trans hq.1.symm | apply And.intro))
  · rcases Bool.eq_false_or_eq_true (b 1) with h0 | h0
    · by_cases h1 : c 1 + 1 < 10
      · have hq := wt_l (b := b) (c := c) (d := 1) h0 h1
        have hb : (anyN (jxP ((1 : Nat) : Int) (tkS s)) n) = true := by rw [← hB 1, h0]
        have ew : IntKind.i64.wrap (wtD b c 1 1 + 1) = c 1 + 1 := hcw 1 (by decide)
        have hw : decide (IntKind.i64.wrap (wtD b c 1 1 + 1) < 10) = true := by rw [ew]; exact decide_eq_true h1
        have hv : IntKind.i64.wrap (wtD b c 1 1 + 1) = wtD b c (1 + 1) 1 := ew.trans hq.1.symm
        refine holds_of_eq (tk26_x n s (wtD b c 1) (wtL b c 1) ((1 : Nat) : Int) τ0) ?_
        (repeat' with_reducible (first | refine holds_ite (fun h => absurd h (by decide)) (fun _ => ?_) | refine holds_ite (fun _ => ?_) (fun h => absurd h (by decide)) | refine holds_ite (fun h => absurd (hb.symm.trans h) (by decide)) (fun _ => ?_) | refine holds_ite (fun _ => ?_) (fun h => absurd (hb.symm.trans h) (by decide)) | refine holds_ite (fun h => absurd (hw.symm.trans h) (by decide)) (fun _ => ?_) | refine holds_ite (fun _ => ?_) (fun h => absurd (hw.symm.trans h) (by decide)) | refine holds_must (rowsB_i _ _ _) ?_ | refine holds_must (rowsB_app (by omega)) ?_ | refine holds_must hm ?_ | refine holds_must (decide_eq_true (by omega)) ?_ | refine holds_inI ?_))
        refine holds_leaf (nx 1 (by decide) _ ?_)
        show tkL.eqv _ ⟨[[], [], [], [.i ((1 + 1 : Nat) : Int)]], tkO n s (wtD b c (1 + 1)) (wtL b c (1 + 1))⟩
        rw [hq.2]
        (repeat' (first | exact trivial | exact rfl | exact TS.eqv_refl _ _ | exact len_app _ _ | exact rows_appI | exact fun _ _ => eqvL_refl _ _ | exact fun i _ => eqvL_rowNums rfl _ i | exact hv | exact hv.trans hq.1.symm | apply And.intro))
      · have hq := wt_g (b := b) (c := c) (d := 1) h0 h1
        have hb : (anyN (jxP ((1 : Nat) : Int) (tkS s)) n) = true := by rw [← hB 1, h0]
        have ew : IntKind.i64.wrap (wtD b c 1 1 + 1) = c 1 + 1 := hcw 1 (by decide)
        have hw : decide (IntKind.i64.wrap (wtD b c 1 1 + 1) < 10) = false := by rw [ew]; exact decide_eq_false h1
        have hv : (0 : Int) = wtD b c (1 + 1) 1 := hq.1.symm
        refine holds_of_eq (tk26_x n s (wtD b c 1) (wtL b c 1) ((1 : Nat) : Int) τ0) ?_
        (repeat' with_reducible (first | refine holds_ite (fun h => absurd h (by decide)) (fun _ => ?_) | refine holds_ite (fun _ => ?_) (fun h => absurd h (by decide)) | refine holds_ite (fun h => absurd (hb.symm.trans h) (by decide)) (fun _ => ?_) | refine holds_ite (fun _ => ?_) (fun h => absurd (hb.symm.trans h) (by decide)) | refine holds_ite (fun h => absurd (hw.symm.trans h) (by decide)) (fun _ => ?_) | refine holds_ite (fun _ => ?_) (fun h => absurd (hw.symm.trans h) (by decide)) | refine holds_must (rowsB_i _ _ _) ?_ | refine holds_must (rowsB_app (by omega)) ?_ | refine holds_must hm ?_ | refine holds_must (decide_eq_true (by omega)) ?_ | refine holds_inI ?_))
        refine holds_leaf (nx 1 (by decide) _ ?_)
        show tkL.eqv _ ⟨[[], [], [], [.i ((1 + 1 : Nat) : Int)]], tkO n s (wtD b c (1 + 1)) (wtL b c (1 + 1))⟩
        rw [hq.2]
        (repeat' (first | exact trivial | exact rfl | exact TS.eqv_refl _ _ | exact len_app _ _ | exact rows_appI | exact fun _ _ => eqvL_refl _ _ | exact fun i _ => eqvL_rowNums rfl _ i | exact hv | exact hv.trans hq.1.symm | apply And.intro))
    · have hq := wt_n (b := b) (c := c) (d := 1) h0 
      have hb : (anyN (jxP ((1 : Nat) : Int) (tkS s)) n) = false := by rw [← hB 1, h0]
      have hw : true = true := rfl
      have hv : (0 : Int) = wtD b c (1 + 1) 1 := hq.1.symm
      refine holds_of_eq (tk26_x n s (wtD b c 1) (wtL b c 1) ((1 : Nat) : Int) τ0) ?_
      (repeat' with_reducible (first | refine holds_ite (fun h => absurd h (by decide)) (fun _ => ?_) | refine holds_ite (fun _ => ?_) (fun h => absurd h (by decide)) | refine holds_ite (fun h => absurd (hb.symm.trans h) (by decide)) (fun _ => ?_) | refine holds_ite (fun _ => ?_) (fun h => absurd (hb.symm.trans h) (by decide)) | refine holds_ite (fun h => absurd (hw.symm.trans h) (by decide)) (fun _ => ?_) | refine holds_ite (fun _ => ?_) (fun h => absurd (hw.symm.trans h) (by decide)) | refine holds_must (rowsB_i _ _ _) ?_ | refine holds_must (rowsB_app (by omega)) ?_ | refine holds_must hm ?_ | refine holds_must (decide_eq_true (by omega)) ?_ | refine holds_inI ?_))
      refine holds_leaf (nx 1 (by decide) _ ?_)
      show tkL.eqv _ ⟨[[], [], [], [.i ((1 + 1 : Nat) : Int)]], tkO n s (wtD b c (1 + 1)) (wtL b c (1 + 1))⟩
      rw [hq.2]
      (repeat' (first | exact trivial | exact rfl | exact TS.eqv_refl _ _ | exact len_app _ _ | exact rows_appI | exact fun _ _ => eqvL_refl _ _ | exact fun i _ => eqvL_rowNums rfl _ i | exact hv | exact hv.trans hq.1.symm | apply And.intro))
  · rcases Bool.eq_false_or_eq_true (b 2) with h0 | h0
    · by_cases h1 : c 2 + 1 < 10
      · have hq := wt_l (b := b) (c := c) (d := 2) h0 h1
        have hb : (anyN (jxP ((2 : Nat) : Int) (tkS s)) n) = true := by rw [← hB 2, h0]
        have ew : IntKind.i64.wrap (wtD b c 2 2 + 1) = c 2 + 1 := hcw 2 (by decide)
        have hw : decide (IntKind.i64.wrap (wtD b c 2 2 + 1) < 10) = true := by rw [ew]; exact decide_eq_true h1
        have hv : IntKind.i64.wrap (wtD b c 2 2 + 1) = wtD b c (2 + 1) 2 := ew.trans hq.1.symm
        refine holds_of_eq (tk26_x n s (wtD b c 2) (wtL b c 2) ((2 : Nat) : Int) τ0) ?_
        (repeat' with_reducible (first | refine holds_ite (fun h => absurd h (by decide)) (fun _ => ?_) | refine holds_ite (fun _ => ?_) (fun h => absurd h (by decide)) | refine holds_ite (fun h => absurd (hb.symm.trans h) (by decide)) (fun _ => ?_) | refine holds_ite (fun _ => ?_) (fun h => absurd (hb.symm.trans h) (by decide)) | refine holds_ite (fun h => absurd (hw.symm.trans h) (by decide)) (fun _ => ?_) | refine holds_ite (fun _ => ?_) (fun h => absurd (hw.symm.trans h) (by decide)) | refine holds_must (rowsB_i _ _ _) ?_ | refine holds_must (rowsB_app (by omega)) ?_ | refine holds_must hm ?_ | refine holds_must (decide_eq_true (by omega)) ?_ | refine holds_inI ?_))
        refine holds_leaf (nx 2 (by decide) _ ?_)
        show tkL.eqv _ ⟨[[], [], [], [.i ((2 + 1 : Nat) : Int)]], tkO n s (wtD b c (2 + 1)) (wtL b c (2 + 1))⟩
        rw [hq.2]
        (repeat' (first | exact trivial | exact rfl | exact TS.eqv_refl _ _ | exact len_app _ _ | exact rows_appI | exact fun _ _ => eqvL_refl _ _ | exact fun i _ => eqvL_rowNums rfl _ i | exact hv | exact hv.trans hq.1.symm | apply And.intro))
      · have hq := wt_g (b := b) (c := c) (d := 2) h0 h1
        have hb : (anyN (jxP ((2 : Nat) : Int) (tkS s)) n) = true := by rw [← hB 2, h0]
        have ew : IntKind.i64.wrap (wtD b c 2 2 + 1) = c 2 + 1 := hcw 2 (by decide)
        have hw : decide (IntKind.i64.wrap (wtD b c 2 2 + 1) < 10) = false := by rw [ew]; exact decide_eq_false h1
        have hv : (0 : Int) = wtD b c (2 + 1) 2 := hq.1.symm
        refine holds_of_eq (tk26_x n s (wtD b c 2) (wtL b c 2) ((2 : Nat) : Int) τ0) ?_
        (repeat' with_reducible (first | refine holds_ite (fun h => absurd h (by decide)) (fun _ => ?_) | refine holds_ite (fun _ => ?_) (fun h => absurd h (by decide)) | refine holds_ite (fun h => absurd (hb.symm.trans h) (by decide)) (fun _ => ?_) | refine holds_ite (fun _ => ?_) (fun h => absurd (hb.symm.trans h) (by decide)) | refine holds_ite (fun h => absurd (hw.symm.trans h) (by decide)) (fun _ => ?_) | refine holds_ite (fun _ => ?_) (fun h => absurd (hw.symm.trans h) (by decide)) | refine holds_must (rowsB_i _ _ _) ?_ | refine holds_must (rowsB_app (by omega)) ?_ | refine holds_must hm ?_ | refine holds_must (decide_eq_true (by omega)) ?_ | refine holds_inI ?_))
        refine holds_leaf (nx 2 (by decide) _ ?_)
        show tkL.eqv _ ⟨[[], [], [], [.i ((2 + 1 : Nat) : Int)]], tkO n s (wtD b c (2 + 1)) (wtL b c (2 + 1))⟩
        rw [hq.2]
        (repeat' (first | exact trivial | exact rfl | exact TS.eqv_refl _ _ | exact len_app _ _ | exact rows_appI | exact fun _ _ => eqvL_refl _ _ | exact fun i _ => eqvL_rowNums rfl _ i | exact hv | exact hv.trans hq.1.symm | apply And.intro))
    · have hq := wt_n (b := b) (c := c) (d := 2) h0 
      have hb : (anyN (jxP ((2 : Nat) : Int) (tkS s)) n) = false := by rw [← hB 2, h0]
      have hw : true = true := rfl
      have hv : (0 : Int) = wtD b c (2 + 1) 2 := hq.1.symm
      refine holds_of_eq (tk26_x n s (wtD b c 2) (wtL b c 2) ((2 : Nat) : Int) τ0) ?_
      (repeat' with_reducible (first | refine holds_ite (fun h => absurd h (by decide)) (fun _ => ?_) | refine holds_ite (fun _ => ?_) (fun h => absurd h (by decide)) | refine holds_ite (fun h => absurd (hb.symm.trans h) (by decide)) (fun _ => ?_) | refine holds_ite (fun _ => ?_) (fun h => absurd (hb.symm.trans h) (by decide)) | refine holds_ite (fun h => absurd (hw.symm.trans h) (by decide)) (fun _ => ?_) | refine holds_ite (fun _ => ?_) (fun h => absurd (hw.symm.trans h) (by decide)) | refine holds_must (rowsB_i _ _ _) ?_ | refine holds_must (rowsB_app (by omega)) ?_ | refine holds_must hm ?_ | refine holds_must (decide_eq_true (by omega)) ?_ | refine holds_inI ?_))
      refine holds_leaf (nx 2 (by decide) _ ?_)
      show tkL.eqv _ ⟨[[], [], [], [.i ((2 + 1 : Nat) : Int)]], tkO n s (wtD b c (2 + 1)) (wtL b c (2 + 1))⟩
      rw [hq.2]
      (repeat' (first | exact trivial | exact rfl | exact TS.eqv_refl _ _ | exact len_app _ _ | exact rows_appI | exact fun _ _ => eqvL_refl _ _ | exact fun i _ => eqvL_rowNums rfl _ i | exact hv | exact hv.trans hq.1.symm | apply And.intro))
  · rcases Bool.eq_false_or_eq_true (b 3) with h0 | h0
    · by_cases h1 : c 3 + 1 < 10
      · have hq := wt_l (b := b) (c := c) (d := 3) h0 h1
        have hb : (anyN (jxP ((3 : Nat) : Int) (tkS s)) n) = true := by rw [← hB 3, h0]
        have ew : IntKind.i64.wrap (wtD b c 3 3 + 1) = c 3 + 1 := hcw 3 (by decide)
        have hw : decide (IntKind.i64.wrap (wtD b c 3 3 + 1) < 10) = true := by rw [ew]; exact decide_eq_true h1
        have hv : IntKind.i64.wrap (wtD b c 3 3 + 1) = wtD b c (3 + 1) 3 := ew.trans hq.1.symm
        refine holds_of_eq (tk26_x n s (wtD b c 3) (wtL b c 3) ((3 : Nat) : Int) τ0) ?_
        (repeat' with_reducible (first | refine holds_ite (fun h => absurd h (by decide)) (fun _ => ?_) | refine holds_ite (fun _ => ?_) (fun h => absurd h (by decide)) | refine holds_ite (fun h => absurd (hb.symm.trans h) (by decide)) (fun _ => ?_) | refine holds_ite (fun _ => ?_) (fun h => absurd (hb.symm.trans h) (by decide)) | refine holds_ite (fun h => absurd (hw.symm.trans h) (by decide)) (fun _ => ?_) | refine holds_ite (fun _ => ?_) (fun h => absurd (hw.symm.trans h) (by decide)) | refine holds_must (rowsB_i _ _ _) ?_ | refine holds_must (rowsB_app (by omega)) ?_ | refine holds_must hm ?_ | refine holds_must (decide_eq_true (by omega)) ?_ | refine holds_inI ?_))
        refine holds_leaf (nx 3 (by decide) _ ?_)
        show tkL.eqv _ ⟨[[], [], [], [.i ((3 + 1 : Nat) : Int)]], tkO n s (wtD b c (3 + 1)) (wtL b c (3 + 1))⟩
        rw [hq.2]
        (repeat' (first | exact trivial | exact rfl | exact TS.eqv_refl _ _ | exact len_app _ _ | exact rows_appI | exact fun _ _ => eqvL_refl _ _ | exact fun i _ => eqvL_rowNums rfl _ i | exact hv | exact hv.trans hq.1.symm | apply And.intro))
      · have hq := wt_g (b := b) (c := c) (d := 3) h0 h1
        have hb : (anyN (jxP ((3 : Nat) : Int) (tkS s)) n) = true := by rw [← hB 3, h0]
        have ew : IntKind.i64.wrap (wtD b c 3 3 + 1) = c 3 + 1 := hcw 3 (by decide)
        have hw : decide (IntKind.i64.wrap (wtD b c 3 3 + 1) < 10) = false := by rw [ew]; exact decide_eq_false h1
        have hv : (0 : Int) = wtD b c (3 + 1) 3 := hq.1.symm
        refine holds_of_eq (tk26_x n s (wtD b c 3) (wtL b c 3) ((3 : Nat) : Int) τ0) ?_
        (repeat' with_reducible (first | refine holds_ite (fun h => absurd h (by decide)) (fun _ => ?_) | refine holds_ite (fun _ => ?_) (fun h => absurd h (by decide)) | refine holds_ite (fun h => absurd (hb.symm.trans h) (by decide)) (fun _ => ?_) | refine holds_ite (fun _ => ?_) (fun h => absurd (hb.symm.trans h) (by decide)) | refine holds_ite (fun h => absurd (hw.symm.trans h) (by decide)) (fun _ => ?_) | refine holds_ite (fun _ => ?_) (fun h => absurd (hw.symm.trans h) (by decide)) | refine holds_must (rowsB_i _ _ _) ?_ | refine holds_must (rowsB_app (by omega)) ?_ | refine holds_must hm ?_ | refine holds_must (decide_eq_true (by omega)) ?_ | refine holds_inI ?_))
        refine holds_leaf (nx 3 (by decide) _ ?_)
        show tkL.eqv _ ⟨[[], [], [], [.i ((3 + 1 : Nat) : Int)]], tkO n s (wtD b c (3 + 1)) (wtL b c (3 + 1))⟩
        rw [hq.2]
        (repeat' (first | exact trivial | exact rfl | exact TS.eqv_refl _ _ | exact len_app _ _ | exact rows_appI | exact fun _ _ => eqvL_refl _ _ | exact fun i _ => eqvL_rowNums rfl _ i | exact hv | exact hv.trans hq.1.symm | apply And.intro))
    · have hq := wt_n (b := b) (c := c) (d := 3) h0 
      have hb : (anyN (jxP ((3 : Nat) : Int) (tkS s)) n) = false := by rw [← hB 3, h0]
      have hw : true = true := rfl
      have hv : (0 : Int) = wtD b c (3 + 1) 3 := hq.1.symm
      refine holds_of_eq (tk26_x n s (wtD b c 3) (wtL b c 3) ((3 : Nat) : Int) τ0) ?_
      (repeat' with_reducible (first | refine holds_ite (fun h => absurd h (by decide)) (fun _ => ?_) | refine holds_ite (fun _ => ?_) (fun h => absurd h (by decide)) | refine holds_ite (fun h => absurd (hb.symm.trans h) (by decide)) (fun _ => ?_) | refine holds_ite (fun _ => ?_) (fun h => absurd (hb.symm.trans h) (by decide)) | refine holds_ite (fun h => absurd (hw.symm.trans h) (by decide)) (fun _ => ?_) | refine holds_ite (fun _ => ?_) (fun h => absurd (hw.symm.trans h) (by decide)) | refine holds_must (rowsB_i _ _ _) ?_ | refine holds_must (rowsB_app (by omega)) ?_ | refine holds_must hm ?_ | refine holds_must (decide_eq_true (by omega)) ?_ | refine holds_inI ?_))
      refine holds_leaf (nx 3 (by decide) _ ?_)
      show tkL.eqv _ ⟨[[], [], [], [.i ((3 + 1 : Nat) : Int)]], tkO n s (wtD b c (3 + 1)) (wtL b c (3 + 1))⟩
      rw [hq.2]
      (repeat' (first | exact trivial | exact rfl | exact TS.eqv_refl _ _ | exact len_app _ _ | exact rows_appI | exact fun _ _ => eqvL_refl _ _ | exact fun i _ => eqvL_rowNums rfl _ i | exact hv | exact hv.trans hq.1.symm | apply And.intro))
  · rcases Bool.eq_false_or_eq_true (b 4) with h0 | h0
    · by_cases h1 : c 4 + 1 < 10
      · have hq := wt_l (b := b) (c := c) (d := 4) h0 h1
        have hb : (anyN (jxP ((4 : Nat) : Int) (tkS s)) n) = true := by rw [← hB 4, h0]
        have ew : IntKind.i64.wrap (wtD b c 4 4 + 1) = c 4 + 1 := hcw 4 (by decide)
        have hw : decide (IntKind.i64.wrap (wtD b c 4 4 + 1) < 10) = true := by rw [ew]; exact decide_eq_true h1
        have hv : IntKind.i64.wrap (wtD b c 4 4 + 1) = wtD b c (4 + 1) 4 := ew.trans hq.1.symm
        refine holds_of_eq (tk26_x n s (wtD b c 4) (wtL b c 4) ((4 : Nat) : Int) τ0) ?_
        (repeat' with_reducible (first | refine holds_ite (fun h => absurd h (by decide)) (fun _ => ?_) | refine holds_ite (fun _ => ?_) (fun h => absurd h (by decide)) | refine holds_ite (fun h => absurd (hb.symm.trans h) (by decide)) (fun _ => ?_) | refine holds_ite (fun _ => ?_) (fun h => absurd (hb.symm.trans h) (by decide)) | refine holds_ite (fun h => absurd (hw.symm.trans h) (by decide)) (fun _ => ?_) | refine holds_ite (fun _ => ?_) (fun h => absurd (hw.symm.trans h) (by decide)) | refine holds_must (rowsB_i _ _ _) ?_ | refine holds_must (rowsB_app (by omega)) ?_ | refine holds_must hm ?_ | refine holds_must (decide_eq_true (by omega)) ?_ | refine holds_inI ?_))
        refine holds_leaf (nx 4 (by decide) _ ?_)
        show tkL.eqv _ ⟨[[], [], [], [.i ((4 + 1 : Nat) : Int)]], tkO n s (wtD b c (4 + 1)) (wtL b c (4 + 1))⟩
        rw [hq.2]
        (repeat' (first | exact trivial | exact rfl | exact TS.eqv_refl _ _ | exact len_app _ _ | exact rows_appI | exact fun _ _ => eqvL_refl _ _ | exact fun i _ => eqvL_rowNums rfl _ i | exact hv | exact hv.trans hq.1.symm | apply And.intro))
      · have hq := wt_g (b := b) (c := c) (d := 4) h0 h1
        have hb : (anyN (jxP ((4 : Nat) : Int) (tkS s)) n) = true := by rw [← hB 4, h0]
        have ew : IntKind.i64.wrap (wtD b c 4 4 + 1) = c 4 + 1 := hcw 4 (by decide)
        have hw : decide (IntKind.i64.wrap (wtD b c 4 4 + 1) < 10) = false := by rw [ew]; exact decide_eq_false h1
        have hv : (0 : Int) = wtD b c (4 + 1) 4 := hq.1.symm
        refine holds_of_eq (tk26_x n s (wtD b c 4) (wtL b c 4) ((4 : Nat) : Int) τ0) ?_
        (repeat' with_reducible (first | refine holds_ite (fun h => absurd h (by decide)) (fun _ => ?_) | refine holds_ite (fun _ => ?_) (fun h => absurd h (by decide)) | refine holds_ite (fun h => absurd (hb.symm.trans h) (by decide)) (fun _ => ?_) | refine holds_ite (fun _ => ?_) (fun h => absurd (hb.symm.trans h) (by decide)) | refine holds_ite (fun h => absurd (hw.symm.trans h) (by decide)) (fun _ => ?_) | refine holds_ite (fun _ => ?_) (fun h => absurd (hw.symm.trans h) (by decide)) | refine holds_must (rowsB_i _ _ _) ?_ | refine holds_must (rowsB_app (by omega)) ?_ | refine holds_must hm ?_ | refine holds_must (decide_eq_true (by omega)) ?_ | refine holds_inI ?_))
        refine holds_leaf (nx 4 (by decide) _ ?_)
        show tkL.eqv _ ⟨[[], [], [], [.i ((4 + 1 : Nat) : Int)]], tkO n s (wtD b c (4 + 1)) (wtL b c (4 + 1))⟩
        rw [hq.2]
        (repeat' (first | exact trivial | exact rfl | exact TS.eqv_refl _ _ | exact len_app _ _ | exact rows_appI | exact fun _ _ => eqvL_refl _ _ | exact fun i _ => eqvL_rowNums rfl _ i | exact hv | exact hv.trans hq.1.symm | apply And.intro))
    · have hq := wt_n (b := b) (c := c) (d := 4) h0 
      have hb : (anyN (jxP ((4 : Nat) : Int) (tkS s)) n) = false := by rw [← hB 4, h0]
      have hw : true = true := rfl
      have hv : (0 : Int) = wtD b c (4 + 1) 4 := hq.1.symm
      refine holds_of_eq (tk26_x n s (wtD b c 4) (wtL b c 4) ((4 : Nat) : Int) τ0) ?_
      (repeat' with_reducible (first | refine holds_ite (fun h => absurd h (by decide)) (fun _ => ?_) | refine holds_ite (fun _ => ?_) (fun h => absurd h (by decide)) | refine holds_ite (fun h => absurd (hb.symm.trans h) (by decide)) (fun _ => ?_) | refine holds_ite (fun _ => ?_) (fun h => absurd (hb.symm.trans h) (by decide)) | refine holds_ite (fun h => absurd (hw.symm.trans h) (by decide)) (fun _ => ?_) | refine holds_ite (fun _ => ?_) (fun h => absurd (hw.symm.trans h) (by decide)) | refine holds_must (rowsB_i _ _ _) ?_ | refine holds_must (rowsB_app (by omega)) ?_ | refine holds_must hm ?_ | refine holds_must (decide_eq_true (by omega)) ?_ | refine holds_inI ?_))
      refine holds_leaf (nx 4 (by decide) _ ?_)
      show tkL.eqv _ ⟨[[], [], [], [.i ((4 + 1 : Nat) : Int)]], tkO n s (wtD b c (4 + 1)) (wtL b c (4 + 1))⟩
      rw [hq.2]
      (repeat' (first | exact trivial | exact rfl | exact TS.eqv_refl _ _ | exact len_app _ _ | exact rows_appI | exact fun _ _ => eqvL_refl _ _ | exact fun i _ => eqvL_rowNums rfl _ i | exact hv | exact hv.trans hq.1.symm | apply And.intro))
  · refine holds_of_eq (tk26_x n s (wtD b c 5) (wtL b c 5) ((5 : Nat) : Int) τ0) ?_
    have hb : true = true := rfl
    have hw : true = true := rfl
    (repeat' with_reducible (first | refine holds_ite (fun h => absurd h (by decide)) (fun _ => ?_) | refine holds_ite (fun _ => ?_) (fun h => absurd h (by decide)) | refine holds_ite (fun h => absurd (hb.symm.trans h) (by decide)) (fun _ => ?_) | refine holds_ite (fun _ => ?_) (fun h => absurd (hb.symm.trans h) (by decide)) | refine holds_ite (fun h => absurd (hw.symm.trans h) (by decide)) (fun _ => ?_) | refine holds_ite (fun _ => ?_) (fun h => absurd (hw.symm.trans h) (by decide)) | refine holds_must (rowsB_i _ _ _) ?_ | refine holds_must (rowsB_app (by omega)) ?_ | refine holds_must hm ?_ | refine holds_must (decide_eq_true (by omega)) ?_ | refine holds_inI ?_))
    refine holds_leaf ?_
    show tkE.eqv _ _
    (repeat' (first | exact trivial | exact rfl | exact TS.eqv_refl _ _ | exact len_app _ _ | exact rows_appI | exact fun _ _ => eqvL_refl _ _ | exact fun i _ => eqvL_rowNums rfl _ i | apply And.intro))
end
theorem body27_eq : Try.f27.body = some body27 := by kernel_rfl
theorem in27 : Within Try.prog 27 Try.f27.ntmps body27 := within_body Try.func27 body27_eq
theorem lp27 : (flat body27).drop 3 = [.block 0 (.loop x27)] ++ (flat body27).drop 4 := by kernel_rfl
theorem in27x : Within Try.prog 27 Try.f27.ntmps x27 := by
  have h : (flat body27)[3]? = some (.block 0 (.loop x27)) := by kernel_rfl
  exact within_loop (within_block (within_at in27 3 h))
section
variable (n : Nat) (s : Nat → List Num) (b : Nat → Bool) (c : Nat → Int)
def tk27N (d : Nat) : EN := ⟨[[], [], [], [.i (d : Int)]], tkO n s (wtD b c d) (wtL b c d)⟩
def tk27Q : Ex → EN → Prop
  | .exit _, e => tkE.eqv e ⟨[[]], tkP (wtD b c 5) (wtL b c 5)⟩
  | _, _ => False
set_option maxHeartbeats 40000000 in
theorem tk27_loop (hB : ∀ k, b k = anyN (jxP (k : Int) (tkS s)) n) (hn : (n : Int) ≤ big) (hc : ∀ k, k < 5 → 0 ≤ c k ∧ c k ≤ 9) (d : Nat) (hd : d ≤ 5) : HT Try.prog Try.f27.ntmps 2 (.loop x27) 4 (tkM.tm (tk27N n s b c d)) (tkM.heap (tk27N n s b c d)) (QX ⟨none, [(0, tkE)], some tkR⟩ (tk27Q b c)) := by
  refine HT.loopX whTab mixed (n := 300) in27x tkM _ _ (tk27N n s b c) (fun d => d ≤ 5) (fun d => 5 - d) (fun _ => tk27Q b c) (by decide) ?_ d hd
  intro d hd τ0
  have hm : decide ((n : Int) ≤ 1099511627776) = true := decide_eq_true hn
  have hcw : ∀ k, k < 5 → IntKind.i64.wrap (c k + 1) = c k + 1 := fun k hk => by have := hc k hk; exact IntWalk.i64_in _ (by omega)
  have nx : ∀ d, d < 5 → ∀ e, tkM.eqv e (tk27N n s b c (d + 1)) → ∃ d' : Nat, d' ≤ 5 ∧ 5 - d' < 5 - d ∧ tkM.eqv e (tk27N n s b c d') ∧ ∀ ex e, tk27Q b c ex e → tk27Q b c ex e :=
    fun d h e he => ⟨d + 1, by omega, by omega, he, fun _ _ h => h⟩
  have hl := wtL_len b c d
  rcases six hd with rfl | rfl | rfl | rfl | rfl | rfl
  · rcases Bool.eq_false_or_eq_true (b 0) with h0 | h0
    · by_cases h1 : c 0 + 1 < 10
      · have hq := wt_l (b := b) (c := c) (d := 0) h0 h1
        have hb : (!anyN (jxP ((0 : Nat) : Int) (tkS s)) n) = false := by rw [← hB 0, h0]; rfl
        have ew : IntKind.i64.wrap (wtD b c 0 0 + 1) = c 0 + 1 := hcw 0 (by decide)
        have hw : (IntKind.i64.wrap (wtD b c 0 0 + 1) == 10) = false := by have := hc 0 (by decide); rw [ew]; exact beq_eq_false_iff_ne.2 (by omega)
        have hv : IntKind.i64.wrap (wtD b c 0 0 + 1) = wtD b c (0 + 1) 0 := ew.trans hq.1.symm
        refine holds_of_eq (tk27_x n s (wtD b c 0) (wtL b c 0) ((0 : Nat) : Int) τ0) ?_
        (repeat' with_reducible (first | refine holds_ite (fun h => absurd h (by decide)) (fun _ => ?_) | refine holds_ite (fun _ => ?_) (fun h => absurd h (by decide)) | refine holds_ite (fun h => absurd (hb.symm.trans h) (by decide)) (fun _ => ?_) | refine holds_ite (fun _ => ?_) (fun h => absurd (hb.symm.trans h) (by decide)) | refine holds_ite (fun h => absurd (hw.symm.trans h) (by decide)) (fun _ => ?_) | refine holds_ite (fun _ => ?_) (fun h => absurd (hw.symm.trans h) (by decide)) | refine holds_must (rowsB_i _ _ _) ?_ | refine holds_must (rowsB_app (by omega)) ?_ | refine holds_must hm ?_ | refine holds_must (decide_eq_true (by omega)) ?_ | refine holds_inI ?_))
        refine holds_leaf (nx 0 (by decide) _ ?_)
        show tkM.eqv _ ⟨[[], [], [], [.i ((0 + 1 : Nat) : Int)]], tkO n s (wtD b c (0 + 1)) (wtL b c (0 + 1))⟩
        rw [hq.2]
        (repeat' (first | exact trivial | exact rfl | exact TS.eqv_refl _ _ | exact len_app _ _ | exact rows_appI | exact fun _ _ => eqvL_refl _ _ | exact fun i _ => eqvL_rowNums rfl _ i | exact hv | exact hv.trans hq.1.symm | apply And.intro))
      · have hq := wt_g (b := b) (c := c) (d := 0) h0 h1
        have hb : (!anyN (jxP ((0 : Nat) : Int) (tkS s)) n) = false := by rw [← hB 0, h0]; rfl
        have ew : IntKind.i64.wrap (wtD b c 0 0 + 1) = c 0 + 1 := hcw 0 (by decide)
        have hw : (IntKind.i64.wrap (wtD b c 0 0 + 1) == 10) = true := by have := hc 0 (by decide); rw [ew]; exact beq_iff_eq.2 (by omega)
        have hv : (0 : Int) = wtD b c (0 + 1) 0 := hq.1.symm
        refine holds_of_eq (tk27_x n s (wtD b c 0) (wtL b c 0) ((0 : Nat) : Int) τ0) ?_
        (repeat' with_reducible (first | refine holds_ite (fun h => absurd h (by decide)) (fun _ => ?_) | refine holds_ite (fun _ => ?_) (fun h => absurd h (by decide)) | refine holds_ite (fun h => absurd (hb.symm.trans h) (by decide)) (fun _ => ?_) | refine holds_ite (fun _ => ?_) (fun h => absurd (hb.symm.trans h) (by decide)) | refine holds_ite (fun h => absurd (hw.symm.trans h) (by decide)) (fun _ => ?_) | refine holds_ite (fun _ => ?_) (fun h => absurd (hw.symm.trans h) (by decide)) | refine holds_must (rowsB_i _ _ _) ?_ | refine holds_must (rowsB_app (by omega)) ?_ | refine holds_must hm ?_ | refine holds_must (decide_eq_true (by omega)) ?_ | refine holds_inI ?_))
        refine holds_leaf (nx 0 (by decide) _ ?_)
        show tkM.eqv _ ⟨[[], [], [], [.i ((0 + 1 : Nat) : Int)]], tkO n s (wtD b c (0 + 1)) (wtL b c (0 + 1))⟩
        rw [hq.2]
        (repeat' (first | exact trivial | exact rfl | exact TS.eqv_refl _ _ | exact len_app _ _ | exact rows_appI | exact fun _ _ => eqvL_refl _ _ | exact fun i _ => eqvL_rowNums rfl _ i | exact hv | exact hv.trans hq.1.symm | apply And.intro))
    · have hq := wt_n (b := b) (c := c) (d := 0) h0 
      have hb : (!anyN (jxP ((0 : Nat) : Int) (tkS s)) n) = true := by rw [← hB 0, h0]; rfl
      have hw : true = true := rfl
      have hv : (0 : Int) = wtD b c (0 + 1) 0 := hq.1.symm
      refine holds_of_eq (tk27_x n s (wtD b c 0) (wtL b c 0) ((0 : Nat) : Int) τ0) ?_
      (repeat' with_reducible (first | refine holds_ite (fun h => absurd h (by decide)) (fun _ => ?_) | refine holds_ite (fun _ => ?_) (fun h => absurd h (by decide)) | refine holds_ite (fun h => absurd (hb.symm.trans h) (by decide)) (fun _ => ?_) | refine holds_ite (fun _ => ?_) (fun h => absurd (hb.symm.trans h) (by decide)) | refine holds_ite (fun h => absurd (hw.symm.trans h) (by decide)) (fun _ => ?_) | refine holds_ite (fun _ => ?_) (fun h => absurd (hw.symm.trans h) (by decide)) | refine holds_must (rowsB_i _ _ _) ?_ | refine holds_must (rowsB_app (by omega)) ?_ | refine holds_must hm ?_ | refine holds_must (decide_eq_true (by omega)) ?_ | refine holds_inI ?_))
      refine holds_leaf (nx 0 (by decide) _ ?_)
      show tkM.eqv _ ⟨[[], [], [], [.i ((0 + 1 : Nat) : Int)]], tkO n s (wtD b c (0 + 1)) (wtL b c (0 + 1))⟩
      rw [hq.2]
      (repeat' (first | exact trivial | exact rfl | exact TS.eqv_refl _ _ | exact len_app _ _ | exact rows_appI | exact fun _ _ => eqvL_refl _ _ | exact fun i _ => eqvL_rowNums rfl _ i | exact hv | exact hv.trans hq.1.symm | apply And.intro))
  · rcases Bool.eq_false_or_eq_true (b 1) with h0 | h0
    · by_cases h1 : c 1 + 1 < 10
      · have hq := wt_l (b := b) (c := c) (d := 1) h0 h1
        have hb : (!anyN (jxP ((1 : Nat) : Int) (tkS s)) n) = false := by rw [← hB 1, h0]; rfl
        have ew : IntKind.i64.wrap (wtD b c 1 1 + 1) = c 1 + 1 := hcw 1 (by decide)
        have hw : (IntKind.i64.wrap (wtD b c 1 1 + 1) == 10) = false := by have := hc 1 (by decide); rw [ew]; exact beq_eq_false_iff_ne.2 (by omega)
        have hv : IntKind.i64.wrap (wtD b c 1 1 + 1) = wtD b c (1 + 1) 1 := ew.trans hq.1.symm
        refine holds_of_eq (tk27_x n s (wtD b c 1) (wtL b c 1) ((1 : Nat) : Int) τ0) ?_
        (repeat' with_reducible (first | refine holds_ite (fun h => absurd h (by decide)) (fun _ => ?_) | refine holds_ite (fun _ => ?_) (fun h => absurd h (by decide)) | refine holds_ite (fun h => absurd (hb.symm.trans h) (by decide)) (fun _ => ?_) | refine holds_ite (fun _ => ?_) (fun h => absurd (hb.symm.trans h) (by decide)) | refine holds_ite (fun h => absurd (hw.symm.trans h) (by decide)) (fun _ => ?_) | refine holds_ite (fun _ => ?_) (fun h => absurd (hw.symm.trans h) (by decide)) | refine holds_must (rowsB_i _ _ _) ?_ | refine holds_must (rowsB_app (by omega)) ?_ | refine holds_must hm ?_ | refine holds_must (decide_eq_true (by omega)) ?_ | refine holds_inI ?_))
        refine holds_leaf (nx 1 (by decide) _ ?_)
        show tkM.eqv _ ⟨[[], [], [], [.i ((1 + 1 : Nat) : Int)]], tkO n s (wtD b c (1 + 1)) (wtL b c (1 + 1))⟩
        rw [hq.2]
        (repeat' (first | exact trivial | exact rfl | exact TS.eqv_refl _ _ | exact len_app _ _ | exact rows_appI | exact fun _ _ => eqvL_refl _ _ | exact fun i _ => eqvL_rowNums rfl _ i | exact hv | exact hv.trans hq.1.symm | apply And.intro))
      · have hq := wt_g (b := b) (c := c) (d := 1) h0 h1
        have hb : (!anyN (jxP ((1 : Nat) : Int) (tkS s)) n) = false := by rw [← hB 1, h0]; rfl
        have ew : IntKind.i64.wrap (wtD b c 1 1 + 1) = c 1 + 1 := hcw 1 (by decide)
        have hw : (IntKind.i64.wrap (wtD b c 1 1 + 1) == 10) = true := by have := hc 1 (by decide); rw [ew]; exact beq_iff_eq.2 (by omega)
        have hv : (0 : Int) = wtD b c (1 + 1) 1 := hq.1.symm
        refine holds_of_eq (tk27_x n s (wtD b c 1) (wtL b c 1) ((1 : Nat) : Int) τ0) ?_
        (repeat' with_reducible (first | refine holds_ite (fun h => absurd h (by decide)) (fun _ => ?_) | refine holds_ite (fun _ => ?_) (fun h => absurd h (by decide)) | refine holds_ite (fun h => absurd (hb.symm.trans h) (by decide)) (fun _ => ?_) | refine holds_ite (fun _ => ?_) (fun h => absurd (hb.symm.trans h) (by decide)) | refine holds_ite (fun h => absurd (hw.symm.trans h) (by decide)) (fun _ => ?_) | refine holds_ite (fun _ => ?_) (fun h => absurd (hw.symm.trans h) (by decide)) | refine holds_must (rowsB_i _ _ _) ?_ | refine holds_must (rowsB_app (by omega)) ?_ | refine holds_must hm ?_ | refine holds_must (decide_eq_true (by omega)) ?_ | refine holds_inI ?_))
        refine holds_leaf (nx 1 (by decide) _ ?_)
        show tkM.eqv _ ⟨[[], [], [], [.i ((1 + 1 : Nat) : Int)]], tkO n s (wtD b c (1 + 1)) (wtL b c (1 + 1))⟩
        rw [hq.2]
        (repeat' (first | exact trivial | exact rfl | exact TS.eqv_refl _ _ | exact len_app _ _ | exact rows_appI | exact fun _ _ => eqvL_refl _ _ | exact fun i _ => eqvL_rowNums rfl _ i | exact hv | exact hv.trans hq.1.symm | apply And.intro))
    · have hq := wt_n (b := b) (c := c) (d := 1) h0 
      have hb : (!anyN (jxP ((1 : Nat) : Int) (tkS s)) n) = true := by rw [← hB 1, h0]; rfl
      have hw : true = true := rfl
      have hv : (0 : Int) = wtD b c (1 + 1) 1 := hq.1.symm
      refine holds_of_eq (tk27_x n s (wtD b c 1) (wtL b c 1) ((1 : Nat) : Int) τ0) ?_
      (repeat' with_reducible (first | refine holds_ite (fun h => absurd h (by decide)) (fun _ => ?_) | refine holds_ite (fun _ => ?_) (fun h => absurd h (by decide)) | refine holds_ite (fun h => absurd (hb.symm.trans h) (by decide)) (fun _ => ?_) | refine holds_ite (fun _ => ?_) (fun h => absurd (hb.symm.trans h) (by decide)) | refine holds_ite (fun h => absurd (hw.symm.trans h) (by decide)) (fun _ => ?_) | refine holds_ite (fun _ => ?_) (fun h => absurd (hw.symm.trans h) (by decide)) | refine holds_must (rowsB_i _ _ _) ?_ | refine holds_must (rowsB_app (by omega)) ?_ | refine holds_must hm ?_ | refine holds_must (decide_eq_true (by omega)) ?_ | refine holds_inI ?_))
      refine holds_leaf (nx 1 (by decide) _ ?_)
      show tkM.eqv _ ⟨[[], [], [], [.i ((1 + 1 : Nat) : Int)]], tkO n s (wtD b c (1 + 1)) (wtL b c (1 + 1))⟩
      rw [hq.2]
      (repeat' (first | exact trivial | exact rfl | exact TS.eqv_refl _ _ | exact len_app _ _ | exact rows_appI | exact fun _ _ => eqvL_refl _ _ | exact fun i _ => eqvL_rowNums rfl _ i | exact hv | exact hv.trans hq.1.symm | apply And.intro))
  · rcases Bool.eq_false_or_eq_true (b 2) with h0 | h0
    · by_cases h1 : c 2 + 1 < 10
      · have hq := wt_l (b := b) (c := c) (d := 2) h0 h1
        have hb : (!anyN (jxP ((2 : Nat) : Int) (tkS s)) n) = false := by rw [← hB 2, h0]; rfl
        have ew : IntKind.i64.wrap (wtD b c 2 2 + 1) = c 2 + 1 := hcw 2 (by decide)
        have hw : (IntKind.i64.wrap (wtD b c 2 2 + 1) == 10) = false := by have := hc 2 (by decide); rw [ew]; exact beq_eq_false_iff_ne.2 (by omega)
        have hv : IntKind.i64.wrap (wtD b c 2 2 + 1) = wtD b c (2 + 1) 2 := ew.trans hq.1.symm
        refine holds_of_eq (tk27_x n s (wtD b c 2) (wtL b c 2) ((2 : Nat) : Int) τ0) ?_
        (repeat' with_reducible (first | refine holds_ite (fun h => absurd h (by decide)) (fun _ => ?_) | refine holds_ite (fun _ => ?_) (fun h => absurd h (by decide)) | refine holds_ite (fun h => absurd (hb.symm.trans h) (by decide)) (fun _ => ?_) | refine holds_ite (fun _ => ?_) (fun h => absurd (hb.symm.trans h) (by decide)) | refine holds_ite (fun h => absurd (hw.symm.trans h) (by decide)) (fun _ => ?_) | refine holds_ite (fun _ => ?_) (fun h => absurd (hw.symm.trans h) (by decide)) | refine holds_must (rowsB_i _ _ _) ?_ | refine holds_must (rowsB_app (by omega)) ?_ | refine holds_must hm ?_ | refine holds_must (decide_eq_true (by omega)) ?_ | refine holds_inI ?_))
        refine holds_leaf (nx 2 (by decide) _ ?_)
        show tkM.eqv _ ⟨[[], [], [], [.i ((2 + 1 : Nat) : Int)]], tkO n s (wtD b c (2 + 1)) (wtL b c (2 + 1))⟩
        rw [hq.2]
        (repeat' (first | exact trivial | exact rfl | exact TS.eqv_refl _ _ | exact len_app _ _ | exact rows_appI | exact fun _ _ => eqvL_refl _ _ | exact fun i _ => eqvL_rowNums rfl _ i | exact hv | exact hv.trans hq.1.symm | apply And.intro))
      · have hq := wt_g (b := b) (c := c) (d := 2) h0 h1
        have hb : (!anyN (jxP ((2 : Nat) : Int) (tkS s)) n) = false := by rw [← hB 2, h0]; rfl
        have ew : IntKind.i64.wrap (wtD b c 2 2 + 1) = c 2 + 1 := hcw 2 (by decide)
        have hw : (IntKind.i64.wrap (wtD b c 2 2 + 1) == 10) = true := by have := hc 2 (by decide); rw [ew]; exact beq_iff_eq.2 (by omega)
        have hv : (0 : Int) = wtD b c (2 + 1) 2 := hq.1.symm
        refine holds_of_eq (tk27_x n s (wtD b c 2) (wtL b c 2) ((2 : Nat) : Int) τ0) ?_
        (repeat' with_reducible (first | refine holds_ite (fun h => absurd h (by decide)) (fun _ => ?_) | refine holds_ite (fun _ => ?_) (fun h => absurd h (by decide)) | refine holds_ite (fun h => absurd (hb.symm.trans h) (by decide)) (fun _ => ?_) | refine holds_ite (fun _ => ?_) (fun h => absurd (hb.symm.trans h) (by decide)) | refine holds_ite (fun h => absurd (hw.symm.trans h) (by decide)) (fun _ => ?_) | refine holds_ite (fun _ => ?_) (fun h => absurd (hw.symm.trans h) (by decide)) | refine holds_must (rowsB_i _ _ _) ?_ | refine holds_must (rowsB_app (by omega)) ?_ | refine holds_must hm ?_ | refine holds_must (decide_eq_true (by omega)) ?_ | refine holds_inI ?_))
        refine holds_leaf (nx 2 (by decide) _ ?_)
        show tkM.eqv _ ⟨[[], [], [], [.i ((2 + 1 : Nat) : Int)]], tkO n s (wtD b c (2 + 1)) (wtL b c (2 + 1))⟩
        rw [hq.2]
        (repeat' (first | exact trivial | exact rfl | exact TS.eqv_refl _ _ | exact len_app _ _ | exact rows_appI | exact fun _ _ => eqvL_refl _ _ | exact fun i _ => eqvL_rowNums rfl _ i | exact hv | exact hv.trans hq.1.symm | apply And.intro))
    · have hq := wt_n (b := b) (c := c) (d := 2) h0 
      have hb : (!anyN (jxP ((2 : Nat) : Int) (tkS s)) n) = true := by rw [← hB 2, h0]; rfl
      have hw : true = true := rfl
      have hv : (0 : Int) = wtD b c (2 + 1) 2 := hq.1.symm
      refine holds_of_eq (tk27_x n s (wtD b c 2) (wtL b c 2) ((2 : Nat) : Int) τ0) ?_
      (repeat' with_reducible (first | refine holds_ite (fun h => absurd h (by decide)) (fun _ => ?_) | refine holds_ite (fun _ => ?_) (fun h => absurd h (by decide)) | refine holds_ite (fun h => absurd (hb.symm.trans h) (by decide)) (fun _ => ?_) | refine holds_ite (fun _ => ?_) (fun h => absurd (hb.symm.trans h) (by decide)) | refine holds_ite (fun h => absurd (hw.symm.trans h) (by decide)) (fun _ => ?_) | refine holds_ite (fun _ => ?_) (fun h => absurd (hw.symm.trans h) (by decide)) | refine holds_must (rowsB_i _ _ _) ?_ | refine holds_must (rowsB_app (by omega)) ?_ | refine holds_must hm ?_ | refine holds_must (decide_eq_true (by omega)) ?_ | refine holds_inI ?_))
      refine holds_leaf (nx 2 (by decide) _ ?_)
      show tkM.eqv _ ⟨[[], [], [], [.i ((2 + 1 : Nat) : Int)]], tkO n s (wtD b c (2 + 1)) (wtL b c (2 + 1))⟩
      rw [hq.2]
      (repeat' (first | exact trivial | exact rfl | exact TS.eqv_refl _ _ | exact len_app _ _ | exact rows_appI | exact fun _ _ => eqvL_refl _ _ | exact fun i _ => eqvL_rowNums rfl _ i | exact hv | exact hv.trans hq.1.symm | apply And.intro))
  · rcases Bool.eq_false_or_eq_true (b 3) with h0 | h0
    · by_cases h1 : c 3 + 1 < 10
      · have hq := wt_l (b := b) (c := c) (d := 3) h0 h1
        have hb : (!anyN (jxP ((3 : Nat) : Int) (tkS s)) n) = false := by rw [← hB 3, h0]; rfl
        have ew : IntKind.i64.wrap (wtD b c 3 3 + 1) = c 3 + 1 := hcw 3 (by decide)
        have hw : (IntKind.i64.wrap (wtD b c 3 3 + 1) == 10) = false := by have := hc 3 (by decide); rw [ew]; exact beq_eq_false_iff_ne.2 (by omega)
        have hv : IntKind.i64.wrap (wtD b c 3 3 + 1) = wtD b c (3 + 1) 3 := ew.trans hq.1.symm
        refine holds_of_eq (tk27_x n s (wtD b c 3) (wtL b c 3) ((3 : Nat) : Int) τ0) ?_
        (repeat' with_reducible (first | refine holds_ite (fun h => absurd h (by decide)) (fun _ => ?_) | refine holds_ite (fun _ => ?_) (fun h => absurd h (by decide)) | refine holds_ite (fun h => absurd (hb.symm.trans h) (by decide)) (fun _ => ?_) | refine holds_ite (fun _ => ?_) (fun h => absurd (hb.symm.trans h) (by decide)) | refine holds_ite (fun h => absurd (hw.symm.trans h) (by decide)) (fun _ => ?_) | refine holds_ite (fun _ => ?_) (fun h => absurd (hw.symm.trans h) (by decide)) | refine holds_must (rowsB_i _ _ _) ?_ | refine holds_must (rowsB_app (by omega)) ?_ | refine holds_must hm ?_ | refine holds_must (decide_eq_true (by omega)) ?_ | refine holds_inI ?_))
        refine holds_leaf (nx 3 (by decide) _ ?_)
        show tkM.eqv _ ⟨[[], [], [], [.i ((3 + 1 : Nat) : Int)]], tkO n s (wtD b c (3 + 1)) (wtL b c (3 + 1))⟩
        rw [hq.2]
        (repeat' (first | exact trivial | exact rfl | exact TS.eqv_refl _ _ | exact len_app _ _ | exact rows_appI | exact fun _ _ => eqvL_refl _ _ | exact fun i _ => eqvL_rowNums rfl _ i | exact hv | exact hv.trans hq.1.symm | apply And.intro))
      · have hq := wt_g (b := b) (c := c) (d := 3) h0 h1
        have hb : (!anyN (jxP ((3 : Nat) : Int) (tkS s)) n) = false := by rw [← hB 3, h0]; rfl
        have ew : IntKind.i64.wrap (wtD b c 3 3 + 1) = c 3 + 1 := hcw 3 (by decide)
        have hw : (IntKind.i64.wrap (wtD b c 3 3 + 1) == 10) = true := by have := hc 3 (by decide); rw [ew]; exact beq_iff_eq.2 (by omega)
        have hv : (0 : Int) = wtD b c (3 + 1) 3 := hq.1.symm
        refine holds_of_eq (tk27_x n s (wtD b c 3) (wtL b c 3) ((3 : Nat) : Int) τ0) ?_
        (repeat' with_reducible (first | refine holds_ite (fun h => absurd h (by decide)) (fun _ => ?_) | refine holds_ite (fun _ => ?_) (fun h => absurd h (by decide)) | refine holds_ite (fun h => absurd (hb.symm.trans h) (by decide)) (fun _ => ?_) | refine holds_ite (fun _ => ?_) (fun h => absurd (hb.symm.trans h) (by decide)) | refine holds_ite (fun h => absurd (hw.symm.trans h) (by decide)) (fun _ => ?_) | refine holds_ite (fun _ => ?_) (fun h => absurd (hw.symm.trans h) (by decide)) | refine holds_must (rowsB_i _ _ _) ?_ | refine holds_must (rowsB_app (by omega)) ?_ | refine holds_must hm ?_ | refine holds_must (decide_eq_true (by omega)) ?_ | refine holds_inI ?_))
        refine holds_leaf (nx 3 (by decide) _ ?_)
        show tkM.eqv _ ⟨[[], [], [], [.i ((3 + 1 : Nat) : Int)]], tkO n s (wtD b c (3 + 1)) (wtL b c (3 + 1))⟩
        rw [hq.2]
        (repeat' (first | exact trivial | exact rfl | exact TS.eqv_refl _ _ | exact len_app _ _ | exact rows_appI | exact fun _ _ => eqvL_refl _ _ | exact fun i _ => eqvL_rowNums rfl _ i | exact hv | exact hv.trans hq.1.symm | apply And.intro))
    · have hq := wt_n (b := b) (c := c) (d := 3) h0 
      have hb : (!anyN (jxP ((3 : Nat) : Int) (tkS s)) n) = true := by rw [← hB 3, h0]; rfl
      have hw : true = true := rfl
      have hv : (0 : Int) = wtD b c (3 + 1) 3 := hq.1.symm
      refine holds_of_eq (tk27_x n s (wtD b c 3) (wtL b c 3) ((3 : Nat) : Int) τ0) ?_
      (repeat' with_reducible (first | refine holds_ite (fun h => absurd h (by decide)) (fun _ => ?_) | refine holds_ite (fun _ => ?_) (fun h => absurd h (by decide)) | refine holds_ite (fun h => absurd (hb.symm.trans h) (by decide)) (fun _ => ?_) | refine holds_ite (fun _ => ?_) (fun h => absurd (hb.symm.trans h) (by decide)) | refine holds_ite (fun h => absurd (hw.symm.trans h) (by decide)) (fun _ => ?_) | refine holds_ite (fun _ => ?_) (fun h => absurd (hw.symm.trans h) (by decide)) | refine holds_must (rowsB_i _ _ _) ?_ | refine holds_must (rowsB_app (by omega)) ?_ | refine holds_must hm ?_ | refine holds_must (decide_eq_true (by omega)) ?_ | refine holds_inI ?_))
      refine holds_leaf (nx 3 (by decide) _ ?_)
      show tkM.eqv _ ⟨[[], [], [], [.i ((3 + 1 : Nat) : Int)]], tkO n s (wtD b c (3 + 1)) (wtL b c (3 + 1))⟩
      rw [hq.2]
      (repeat' (first | exact trivial | exact rfl | exact TS.eqv_refl _ _ | exact len_app _ _ | exact rows_appI | exact fun _ _ => eqvL_refl _ _ | exact fun i _ => eqvL_rowNums rfl _ i | exact hv | exact hv.trans hq.1.symm | apply And.intro))
  · rcases Bool.eq_false_or_eq_true (b 4) with h0 | h0
    · by_cases h1 : c 4 + 1 < 10
      · have hq := wt_l (b := b) (c := c) (d := 4) h0 h1
        have hb : (!anyN (jxP ((4 : Nat) : Int) (tkS s)) n) = false := by rw [← hB 4, h0]; rfl
        have ew : IntKind.i64.wrap (wtD b c 4 4 + 1) = c 4 + 1 := hcw 4 (by decide)
        have hw : (IntKind.i64.wrap (wtD b c 4 4 + 1) == 10) = false := by have := hc 4 (by decide); rw [ew]; exact beq_eq_false_iff_ne.2 (by omega)
        have hv : IntKind.i64.wrap (wtD b c 4 4 + 1) = wtD b c (4 + 1) 4 := ew.trans hq.1.symm
        refine holds_of_eq (tk27_x n s (wtD b c 4) (wtL b c 4) ((4 : Nat) : Int) τ0) ?_
        (repeat' with_reducible (first | refine holds_ite (fun h => absurd h (by decide)) (fun _ => ?_) | refine holds_ite (fun _ => ?_) (fun h => absurd h (by decide)) | refine holds_ite (fun h => absurd (hb.symm.trans h) (by decide)) (fun _ => ?_) | refine holds_ite (fun _ => ?_) (fun h => absurd (hb.symm.trans h) (by decide)) | refine holds_ite (fun h => absurd (hw.symm.trans h) (by decide)) (fun _ => ?_) | refine holds_ite (fun _ => ?_) (fun h => absurd (hw.symm.trans h) (by decide)) | refine holds_must (rowsB_i _ _ _) ?_ | refine holds_must (rowsB_app (by omega)) ?_ | refine holds_must hm ?_ | refine holds_must (decide_eq_true (by omega)) ?_ | refine holds_inI ?_))
        refine holds_leaf (nx 4 (by decide) _ ?_)
        show tkM.eqv _ ⟨[[], [], [], [.i ((4 + 1 : Nat) : Int)]], tkO n s (wtD b c (4 + 1)) (wtL b c (4 + 1))⟩
        rw [hq.2]
        (repeat' (first | exact trivial | exact rfl | exact TS.eqv_refl _ _ | exact len_app _ _ | exact rows_appI | exact fun _ _ => eqvL_refl _ _ | exact fun i _ => eqvL_rowNums rfl _ i | exact hv | exact hv.trans hq.1.symm | apply And.intro))
      · have hq := wt_g (b := b) (c := c) (d := 4) h0 h1
        have hb : (!anyN (jxP ((4 : Nat) : Int) (tkS s)) n) = false := by rw [← hB 4, h0]; rfl
        have ew : IntKind.i64.wrap (wtD b c 4 4 + 1) = c 4 + 1 := hcw 4 (by decide)
        have hw : (IntKind.i64.wrap (wtD b c 4 4 + 1) == 10) = true := by have := hc 4 (by decide); rw [ew]; exact beq_iff_eq.2 (by omega)
        have hv : (0 : Int) = wtD b c (4 + 1) 4 := hq.1.symm
        refine holds_of_eq (tk27_x n s (wtD b c 4) (wtL b c 4) ((4 : Nat) : Int) τ0) ?_
        (repeat' with_reducible (first | refine holds_ite (fun h => absurd h (by decide)) (fun _ => ?_) | refine holds_ite (fun _ => ?_) (fun h => absurd h (by decide)) | refine holds_ite (fun h => absurd (hb.symm.trans h) (by decide)) (fun _ => ?_) | refine holds_ite (fun _ => ?_) (fun h => absurd (hb.symm.trans h) (by decide)) | refine holds_ite (fun h => absurd (hw.symm.trans h) (by decide)) (fun _ => ?_) | refine holds_ite (fun _ => ?_) (fun h => absurd (hw.symm.trans h) (by decide)) | refine holds_must (rowsB_i _ _ _) ?_ | refine holds_must (rowsB_app (by omega)) ?_ | refine holds_must hm ?_ | refine holds_must (decide_eq_true (by omega)) ?_ | refine holds_inI ?_))
        refine holds_leaf (nx 4 (by decide) _ ?_)
        show tkM.eqv _ ⟨[[], [], [], [.i ((4 + 1 : Nat) : Int)]], tkO n s (wtD b c (4 + 1)) (wtL b c (4 + 1))⟩
        rw [hq.2]
        (repeat' (first | exact trivial | exact rfl | exact TS.eqv_refl _ _ | exact len_app _ _ | exact rows_appI | exact fun _ _ => eqvL_refl _ _ | exact fun i _ => eqvL_rowNums rfl _ i | exact hv | exact hv.trans hq.1.symm | apply And.intro))
    · have hq := wt_n (b := b) (c := c) (d := 4) h0 
      have hb : (!anyN (jxP ((4 : Nat) : Int) (tkS s)) n) = true := by rw [← hB 4, h0]; rfl
      have hw : true = true := rfl
      have hv : (0 : Int) = wtD b c (4 + 1) 4 := hq.1.symm
      refine holds_of_eq (tk27_x n s (wtD b c 4) (wtL b c 4) ((4 : Nat) : Int) τ0) ?_
      (repeat' with_reducible (first | refine holds_ite (fun h => absurd h (by decide)) (fun _ => ?_) | refine holds_ite (fun _ => ?_) (fun h => absurd h (by decide)) | refine holds_ite (fun h => absurd (hb.symm.trans h) (by decide)) (fun _ => ?_) | refine holds_ite (fun _ => ?_) (fun h => absurd (hb.symm.trans h) (by decide)) | refine holds_ite (fun h => absurd (hw.symm.trans h) (by decide)) (fun _ => ?_) | refine holds_ite (fun _ => ?_) (fun h => absurd (hw.symm.trans h) (by decide)) | refine holds_must (rowsB_i _ _ _) ?_ | refine holds_must (rowsB_app (by omega)) ?_ | refine holds_must hm ?_ | refine holds_must (decide_eq_true (by omega)) ?_ | refine holds_inI ?_))
      refine holds_leaf (nx 4 (by decide) _ ?_)
      show tkM.eqv _ ⟨[[], [], [], [.i ((4 + 1 : Nat) : Int)]], tkO n s (wtD b c (4 + 1)) (wtL b c (4 + 1))⟩
      rw [hq.2]
      (repeat' (first | exact trivial | exact rfl | exact TS.eqv_refl _ _ | exact len_app _ _ | exact rows_appI | exact fun _ _ => eqvL_refl _ _ | exact fun i _ => eqvL_rowNums rfl _ i | exact hv | exact hv.trans hq.1.symm | apply And.intro))
  · refine holds_of_eq (tk27_x n s (wtD b c 5) (wtL b c 5) ((5 : Nat) : Int) τ0) ?_
    have hb : true = true := rfl
    have hw : true = true := rfl
    (repeat' with_reducible (first | refine holds_ite (fun h => absurd h (by decide)) (fun _ => ?_) | refine holds_ite (fun _ => ?_) (fun h => absurd h (by decide)) | refine holds_ite (fun h => absurd (hb.symm.trans h) (by decide)) (fun _ => ?_) | refine holds_ite (fun _ => ?_) (fun h => absurd (hb.symm.trans h) (by decide)) | refine holds_ite (fun h => absurd (hw.symm.trans h) (by decide)) (fun _ => ?_) | refine holds_ite (fun _ => ?_) (fun h => absurd (hw.symm.trans h) (by decide)) | refine holds_must (rowsB_i _ _ _) ?_ | refine holds_must (rowsB_app (by omega)) ?_ | refine holds_must hm ?_ | refine holds_must (decide_eq_true (by omega)) ?_ | refine holds_inI ?_))
    refine holds_leaf ?_
    show tkE.eqv _ _
    (repeat' (first | exact trivial | exact rfl | exact TS.eqv_refl _ _ | exact len_app _ _ | exact rows_appI | exact fun _ _ => eqvL_refl _ _ | exact fun i _ => eqvL_rowNums rfl _ i | apply And.intro))
end
end Go.Proofs.Ytlcgnjcfihablaa
