/- SynodAgrees: one turn.
   Conditions: none. -/
import Derived.Test.YtlcgnjcfihablaaGt
set_option linter.unusedSimpArgs false
set_option linter.unusedVariables false
namespace Go.Proofs.Ytlcgnjcfihablaa
open Go.Eng Go.RowKit Go.ChangeShapes Go.WideShapes
set_option maxRecDepth 100000
theorem in11 : Within Try.prog 11 Try.f11.ntmps body11 := within_body Try.func11 (by kernel_rfl)
theorem in11x : Within Try.prog 11 Try.f11.ntmps x11 := by
  have h : (flat body11)[10]? = some (.block 2 (.loop x11)) := by kernel_rfl
  exact within_loop (within_block (within_at in11 10 h))
theorem in11b : Within Try.prog 11 Try.f11.ntmps b11 := by
  have h : (flat x11)[2]? = some (.block 3 b11) := by kernel_rfl
  exact within_block (within_at in11x 2 h)
theorem rowsB_tu (r : Nat → List Num) (n : Nat) : rowsB [.i .u8, .i .u8, .i .u8] (instR [.i .u8, .i .u8, .i .u8] r) n = true := rowsB_instR rfl r n
def saR (len : Nat) (s : Nat → List Num) (x y z : I3) (t i : Int) : Ex → EN → Prop
  | .normal, e => ∃ P A, SIf (tri x y z) (t + 1) P A ∧ saL.eqv e (saN len s x y z (P 0) (P 1) (P 2) (A 0) (A 1) (A 2) i)
  | _, _ => False
set_option maxHeartbeats 4000000 in
theorem mid_00 (len : Nat) (s : Nat → List Num) (x y z : I3) (p q r : PrS) (a b c : AcS) (i : Int) (t : Int) (hI : SIf (tri x y z) t (tri p q r) (tri a b c)) (ht : t < 4294967295) (h0 : 0 ≤ i) (h1 : i < (len : Int)) : HTL Try.prog Try.f11.ntmps 0 (((flat b11).drop 1).take 2) 22 (saK.tm (saM len s x y z p q r a b c i 0 0)) (saK.heap (saM len s x y z p q r a b c i 0 0)) (QX ⟨some saL, [], none⟩ (saR len s x y z t i)) := by
  refine HTg.lits (t := saK) (vs := saKL 0 0) ⟨.inl rfl, .inl rfl, .inl rfl, .inl rfl, .inl rfl, .inr rfl, .inr rfl, trivial⟩ (HTL.runX gaTab mixed (n := 300) (by decide) (within_flat in11b fun x hx => List.mem_of_mem_drop (List.mem_of_mem_take hx)) (Nat.zero_le _) fun τ0 => holds_of_eq (sa_00 len s x y z p q r a b c i τ0) ?_)
  have hm : decide (0 ≤ i ∧ i < (len : Int)) = true := decide_eq_true ⟨h0, h1⟩
  have hk : 0 < 3 := by decide
  have hj : 0 < 3 := by decide
  have hl := hI.lens hk
  refine holds_must hm (holds_must hm (holds_inI (holds_inI (holds_ite (fun _ => ?_) fun _ => holds_must hm (holds_must hm (holds_inI (holds_inI (holds_ite (fun _ => ?_) fun _ => holds_ite (fun hv => ?_) fun hv => ?_))))))))
  · refine holds_must (rowsB_i _ _ _) (holds_must (rowsB_i _ _ _) (holds_defE fun e he => ?_))
    have hp : prOf e = p := by rw [he]; exact prOf_on _ p
    have ha : e.ai 1 0 = a.prom.1 := by rw [he]; rfl
    have hb : e.ai 1 1 = a.prom.2 := by rw [he]; rfl
    simp only [hp, ha, hb]
    clear he hp ha hb e
    (repeat' with_reducible (first | refine holds_must hm ?_ | refine holds_must (rowsB_i _ _ _) ?_ | refine holds_must (rowsB_tu _ _) ?_ | refine holds_inI ?_ | refine holds_inB ?_))
    refine holds_leaf ⟨_, _, hI.start ht hk hj, ?_⟩
    (repeat' (first | exact trivial | exact rfl | exact TS.eqv_refl _ _ | exact len_app _ _ | exact rows_appI | exact fun _ _ => eqvL_refl _ _ | exact fun i _ => eqvL_rowNums rfl _ i | apply And.intro))
  · refine holds_defE fun e he => ?_
    have hq : prepE e = a.prepE p.b := by rw [he]; rfl
    simp only [hq]
    clear he hq e
    (repeat' with_reducible (first | refine holds_inI ?_ | refine holds_inB ?_))
    refine holds_ite (fun he => ?_) fun _ => ?_
    · have he : (a.prepE p.b).1.2.2.2 = 0 := by simpa using he
      refine holds_must hm (holds_must hm (holds_inI (holds_inI (holds_ite (fun _ => ?_) fun _ => ?_))))
      · refine holds_must (rowsB_i _ _ _) (holds_must (rowsB_i _ _ _) (holds_defE fun e2 he2 => ?_))
        have hq : promE e2 = p.promise (0 : Nat) p.b (a.prepE p.b).1.1 (a.prepE p.b).1.2.1 (a.prepE p.b).1.2.2.1 := by rw [he2]; exact promE_on p _ _ _ _ _ _ _ _ _ _
        refine holds_must (decide_eq_true (by rw [he2]; exact Nat.le_trans (Nat.le_of_eq (congrArg (fun p : PrS => p.pl.length) (prOf_on _ p))) (Nat.le_trans hl.1 (by decide)))) ?_
        simp only [hq]
        clear he2 hq e2
        (repeat' with_reducible (first | refine holds_must hm ?_ | refine holds_must (rowsB_i _ _ _) ?_ | refine holds_must (rowsB_tu _ _) ?_ | refine holds_inI ?_ | refine holds_inB ?_))
        refine holds_leaf ⟨_, _, (hI.prom hk hj he).mono, ?_⟩
        (repeat' (first | exact trivial | exact rfl | exact TS.eqv_refl _ _ | exact len_app _ _ | exact rows_appI | exact fun _ _ => eqvL_refl _ _ | exact fun i _ => eqvL_rowNums rfl _ i | apply And.intro))
      · (repeat' with_reducible (first | refine holds_must hm ?_ | refine holds_must (rowsB_i _ _ _) ?_ | refine holds_must (rowsB_tu _ _) ?_ | refine holds_inI ?_ | refine holds_inB ?_))
        refine holds_leaf ⟨_, _, (hI.prep hk hj).mono, ?_⟩
        (repeat' (first | exact trivial | exact rfl | exact TS.eqv_refl _ _ | exact len_app _ _ | exact rows_appI | exact fun _ _ => eqvL_refl _ _ | exact fun i _ => eqvL_rowNums rfl _ i | apply And.intro))
    · (repeat' with_reducible (first | refine holds_must hm ?_ | refine holds_must (rowsB_i _ _ _) ?_ | refine holds_must (rowsB_tu _ _) ?_ | refine holds_inI ?_ | refine holds_inB ?_))
      refine holds_leaf ⟨_, _, (hI.prep hk hj).mono, ?_⟩
      (repeat' (first | exact trivial | exact rfl | exact TS.eqv_refl _ _ | exact len_app _ _ | exact rows_appI | exact fun _ _ => eqvL_refl _ _ | exact fun i _ => eqvL_rowNums rfl _ i | apply And.intro))
  · refine holds_defE fun e he => ?_
    have hq : accAE e = a.accE p.b p.value := by rw [he]; rfl
    simp only [hq]
    clear he hq e
    (repeat' with_reducible (first | refine holds_inI ?_ | refine holds_inB ?_))
    refine holds_ite (fun he => ?_) fun _ => ?_
    · have he : (a.accE p.b p.value).1 = 0 := by simpa using he
      refine holds_must hm (holds_must hm (holds_inI (holds_inI (holds_ite (fun _ => ?_) fun _ => ?_))))
      · refine holds_must (rowsB_i _ _ _) (holds_must (rowsB_i _ _ _) (holds_defE fun e2 he2 => ?_))
        have hq : accE e2 = p.accept (0 : Nat) p.b := by rw [he2]; exact accE_on p _ _ _ _
        refine holds_must (decide_eq_true (by rw [he2]; exact Nat.le_trans (Nat.le_of_eq (congrArg (fun p : PrS => p.al.length) (prOf_on _ p))) (Nat.le_trans hl.2 (by decide)))) ?_
        simp only [hq]
        clear he2 hq e2
        (repeat' with_reducible (first | refine holds_must hm ?_ | refine holds_must (rowsB_i _ _ _) ?_ | refine holds_must (rowsB_tu _ _) ?_ | refine holds_inI ?_ | refine holds_inB ?_))
        refine holds_leaf ⟨_, _, (hI.accd hk hj hv he).mono, ?_⟩
        (repeat' (first | exact trivial | exact rfl | exact TS.eqv_refl _ _ | exact len_app _ _ | exact rows_appI | exact fun _ _ => eqvL_refl _ _ | exact fun i _ => eqvL_rowNums rfl _ i | apply And.intro))
      · (repeat' with_reducible (first | refine holds_must hm ?_ | refine holds_must (rowsB_i _ _ _) ?_ | refine holds_must (rowsB_tu _ _) ?_ | refine holds_inI ?_ | refine holds_inB ?_))
        refine holds_leaf ⟨_, _, (hI.acc hk hj hv).mono, ?_⟩
        (repeat' (first | exact trivial | exact rfl | exact TS.eqv_refl _ _ | exact len_app _ _ | exact rows_appI | exact fun _ _ => eqvL_refl _ _ | exact fun i _ => eqvL_rowNums rfl _ i | apply And.intro))
    · (repeat' with_reducible (first | refine holds_must hm ?_ | refine holds_must (rowsB_i _ _ _) ?_ | refine holds_must (rowsB_tu _ _) ?_ | refine holds_inI ?_ | refine holds_inB ?_))
      refine holds_leaf ⟨_, _, (hI.acc hk hj hv).mono, ?_⟩
      (repeat' (first | exact trivial | exact rfl | exact TS.eqv_refl _ _ | exact len_app _ _ | exact rows_appI | exact fun _ _ => eqvL_refl _ _ | exact fun i _ => eqvL_rowNums rfl _ i | apply And.intro))
  · (repeat' with_reducible (first | refine holds_must hm ?_ | refine holds_must (rowsB_i _ _ _) ?_ | refine holds_must (rowsB_tu _ _) ?_ | refine holds_inI ?_ | refine holds_inB ?_))
    refine holds_leaf ⟨_, _, hI.mono, ?_⟩
    (repeat' (first | exact trivial | exact rfl | exact TS.eqv_refl _ _ | exact len_app _ _ | exact rows_appI | exact fun _ _ => eqvL_refl _ _ | exact fun i _ => eqvL_rowNums rfl _ i | apply And.intro))
set_option maxHeartbeats 4000000 in
theorem mid_01 (len : Nat) (s : Nat → List Num) (x y z : I3) (p q r : PrS) (a b c : AcS) (i : Int) (t : Int) (hI : SIf (tri x y z) t (tri p q r) (tri a b c)) (ht : t < 4294967295) (h0 : 0 ≤ i) (h1 : i < (len : Int)) : HTL Try.prog Try.f11.ntmps 0 (((flat b11).drop 1).take 2) 22 (saK.tm (saM len s x y z p q r a b c i 0 1)) (saK.heap (saM len s x y z p q r a b c i 0 1)) (QX ⟨some saL, [], none⟩ (saR len s x y z t i)) := by
  refine HTg.lits (t := saK) (vs := saKL 0 1) ⟨.inl rfl, .inl rfl, .inl rfl, .inl rfl, .inl rfl, .inr rfl, .inr rfl, trivial⟩ (HTL.runX gaTab mixed (n := 300) (by decide) (within_flat in11b fun x hx => List.mem_of_mem_drop (List.mem_of_mem_take hx)) (Nat.zero_le _) fun τ0 => holds_of_eq (sa_01 len s x y z p q r a b c i τ0) ?_)
  have hm : decide (0 ≤ i ∧ i < (len : Int)) = true := decide_eq_true ⟨h0, h1⟩
  have hk : 0 < 3 := by decide
  have hj : 1 < 3 := by decide
  have hl := hI.lens hk
  refine holds_must hm (holds_must hm (holds_inI (holds_inI (holds_ite (fun _ => ?_) fun _ => holds_must hm (holds_must hm (holds_inI (holds_inI (holds_ite (fun _ => ?_) fun _ => holds_ite (fun hv => ?_) fun hv => ?_))))))))
  · refine holds_must (rowsB_i _ _ _) (holds_must (rowsB_i _ _ _) (holds_defE fun e he => ?_))
    have hp : prOf e = p := by rw [he]; exact prOf_on _ p
    have ha : e.ai 1 0 = b.prom.1 := by rw [he]; rfl
    have hb : e.ai 1 1 = b.prom.2 := by rw [he]; rfl
    simp only [hp, ha, hb]
    clear he hp ha hb e
    (repeat' with_reducible (first | refine holds_must hm ?_ | refine holds_must (rowsB_i _ _ _) ?_ | refine holds_must (rowsB_tu _ _) ?_ | refine holds_inI ?_ | refine holds_inB ?_))
    refine holds_leaf ⟨_, _, hI.start ht hk hj, ?_⟩
    (repeat' (first | exact trivial | exact rfl | exact TS.eqv_refl _ _ | exact len_app _ _ | exact rows_appI | exact fun _ _ => eqvL_refl _ _ | exact fun i _ => eqvL_rowNums rfl _ i | apply And.intro))
  · refine holds_defE fun e he => ?_
    have hq : prepE e = b.prepE p.b := by rw [he]; rfl
    simp only [hq]
    clear he hq e
    (repeat' with_reducible (first | refine holds_inI ?_ | refine holds_inB ?_))
    refine holds_ite (fun he => ?_) fun _ => ?_
    · have he : (b.prepE p.b).1.2.2.2 = 0 := by simpa using he
      refine holds_must hm (holds_must hm (holds_inI (holds_inI (holds_ite (fun _ => ?_) fun _ => ?_))))
      · refine holds_must (rowsB_i _ _ _) (holds_must (rowsB_i _ _ _) (holds_defE fun e2 he2 => ?_))
        have hq : promE e2 = p.promise (1 : Nat) p.b (b.prepE p.b).1.1 (b.prepE p.b).1.2.1 (b.prepE p.b).1.2.2.1 := by rw [he2]; exact promE_on p _ _ _ _ _ _ _ _ _ _
        refine holds_must (decide_eq_true (by rw [he2]; exact Nat.le_trans (Nat.le_of_eq (congrArg (fun p : PrS => p.pl.length) (prOf_on _ p))) (Nat.le_trans hl.1 (by decide)))) ?_
        simp only [hq]
        clear he2 hq e2
        (repeat' with_reducible (first | refine holds_must hm ?_ | refine holds_must (rowsB_i _ _ _) ?_ | refine holds_must (rowsB_tu _ _) ?_ | refine holds_inI ?_ | refine holds_inB ?_))
        refine holds_leaf ⟨_, _, (hI.prom hk hj he).mono, ?_⟩
        (repeat' (first | exact trivial | exact rfl | exact TS.eqv_refl _ _ | exact len_app _ _ | exact rows_appI | exact fun _ _ => eqvL_refl _ _ | exact fun i _ => eqvL_rowNums rfl _ i | apply And.intro))
      · (repeat' with_reducible (first | refine holds_must hm ?_ | refine holds_must (rowsB_i _ _ _) ?_ | refine holds_must (rowsB_tu _ _) ?_ | refine holds_inI ?_ | refine holds_inB ?_))
        refine holds_leaf ⟨_, _, (hI.prep hk hj).mono, ?_⟩
        (repeat' (first | exact trivial | exact rfl | exact TS.eqv_refl _ _ | exact len_app _ _ | exact rows_appI | exact fun _ _ => eqvL_refl _ _ | exact fun i _ => eqvL_rowNums rfl _ i | apply And.intro))
    · (repeat' with_reducible (first | refine holds_must hm ?_ | refine holds_must (rowsB_i _ _ _) ?_ | refine holds_must (rowsB_tu _ _) ?_ | refine holds_inI ?_ | refine holds_inB ?_))
      refine holds_leaf ⟨_, _, (hI.prep hk hj).mono, ?_⟩
      (repeat' (first | exact trivial | exact rfl | exact TS.eqv_refl _ _ | exact len_app _ _ | exact rows_appI | exact fun _ _ => eqvL_refl _ _ | exact fun i _ => eqvL_rowNums rfl _ i | apply And.intro))
  · refine holds_defE fun e he => ?_
    have hq : accAE e = b.accE p.b p.value := by rw [he]; rfl
    simp only [hq]
    clear he hq e
    (repeat' with_reducible (first | refine holds_inI ?_ | refine holds_inB ?_))
    refine holds_ite (fun he => ?_) fun _ => ?_
    · have he : (b.accE p.b p.value).1 = 0 := by simpa using he
      refine holds_must hm (holds_must hm (holds_inI (holds_inI (holds_ite (fun _ => ?_) fun _ => ?_))))
      · refine holds_must (rowsB_i _ _ _) (holds_must (rowsB_i _ _ _) (holds_defE fun e2 he2 => ?_))
        have hq : accE e2 = p.accept (1 : Nat) p.b := by rw [he2]; exact accE_on p _ _ _ _
        refine holds_must (decide_eq_true (by rw [he2]; exact Nat.le_trans (Nat.le_of_eq (congrArg (fun p : PrS => p.al.length) (prOf_on _ p))) (Nat.le_trans hl.2 (by decide)))) ?_
        simp only [hq]
        clear he2 hq e2
        (repeat' with_reducible (first | refine holds_must hm ?_ | refine holds_must (rowsB_i _ _ _) ?_ | refine holds_must (rowsB_tu _ _) ?_ | refine holds_inI ?_ | refine holds_inB ?_))
        refine holds_leaf ⟨_, _, (hI.accd hk hj hv he).mono, ?_⟩
        (repeat' (first | exact trivial | exact rfl | exact TS.eqv_refl _ _ | exact len_app _ _ | exact rows_appI | exact fun _ _ => eqvL_refl _ _ | exact fun i _ => eqvL_rowNums rfl _ i | apply And.intro))
      · (repeat' with_reducible (first | refine holds_must hm ?_ | refine holds_must (rowsB_i _ _ _) ?_ | refine holds_must (rowsB_tu _ _) ?_ | refine holds_inI ?_ | refine holds_inB ?_))
        refine holds_leaf ⟨_, _, (hI.acc hk hj hv).mono, ?_⟩
        (repeat' (first | exact trivial | exact rfl | exact TS.eqv_refl _ _ | exact len_app _ _ | exact rows_appI | exact fun _ _ => eqvL_refl _ _ | exact fun i _ => eqvL_rowNums rfl _ i | apply And.intro))
    · (repeat' with_reducible (first | refine holds_must hm ?_ | refine holds_must (rowsB_i _ _ _) ?_ | refine holds_must (rowsB_tu _ _) ?_ | refine holds_inI ?_ | refine holds_inB ?_))
      refine holds_leaf ⟨_, _, (hI.acc hk hj hv).mono, ?_⟩
      (repeat' (first | exact trivial | exact rfl | exact TS.eqv_refl _ _ | exact len_app _ _ | exact rows_appI | exact fun _ _ => eqvL_refl _ _ | exact fun i _ => eqvL_rowNums rfl _ i | apply And.intro))
  · (repeat' with_reducible (first | refine holds_must hm ?_ | refine holds_must (rowsB_i _ _ _) ?_ | refine holds_must (rowsB_tu _ _) ?_ | refine holds_inI ?_ | refine holds_inB ?_))
    refine holds_leaf ⟨_, _, hI.mono, ?_⟩
    (repeat' (first | exact trivial | exact rfl | exact TS.eqv_refl _ _ | exact len_app _ _ | exact rows_appI | exact fun _ _ => eqvL_refl _ _ | exact fun i _ => eqvL_rowNums rfl _ i | apply And.intro))
set_option maxHeartbeats 4000000 in
theorem mid_02 (len : Nat) (s : Nat → List Num) (x y z : I3) (p q r : PrS) (a b c : AcS) (i : Int) (t : Int) (hI : SIf (tri x y z) t (tri p q r) (tri a b c)) (ht : t < 4294967295) (h0 : 0 ≤ i) (h1 : i < (len : Int)) : HTL Try.prog Try.f11.ntmps 0 (((flat b11).drop 1).take 2) 22 (saK.tm (saM len s x y z p q r a b c i 0 2)) (saK.heap (saM len s x y z p q r a b c i 0 2)) (QX ⟨some saL, [], none⟩ (saR len s x y z t i)) := by
  refine HTg.lits (t := saK) (vs := saKL 0 2) ⟨.inl rfl, .inl rfl, .inl rfl, .inl rfl, .inl rfl, .inr rfl, .inr rfl, trivial⟩ (HTL.runX gaTab mixed (n := 300) (by decide) (within_flat in11b fun x hx => List.mem_of_mem_drop (List.mem_of_mem_take hx)) (Nat.zero_le _) fun τ0 => holds_of_eq (sa_02 len s x y z p q r a b c i τ0) ?_)
  have hm : decide (0 ≤ i ∧ i < (len : Int)) = true := decide_eq_true ⟨h0, h1⟩
  have hk : 0 < 3 := by decide
  have hj : 2 < 3 := by decide
  have hl := hI.lens hk
  refine holds_must hm (holds_must hm (holds_inI (holds_inI (holds_ite (fun _ => ?_) fun _ => holds_must hm (holds_must hm (holds_inI (holds_inI (holds_ite (fun _ => ?_) fun _ => holds_ite (fun hv => ?_) fun hv => ?_))))))))
  · refine holds_must (rowsB_i _ _ _) (holds_must (rowsB_i _ _ _) (holds_defE fun e he => ?_))
    have hp : prOf e = p := by rw [he]; exact prOf_on _ p
    have ha : e.ai 1 0 = c.prom.1 := by rw [he]; rfl
    have hb : e.ai 1 1 = c.prom.2 := by rw [he]; rfl
    simp only [hp, ha, hb]
    clear he hp ha hb e
    (repeat' with_reducible (first | refine holds_must hm ?_ | refine holds_must (rowsB_i _ _ _) ?_ | refine holds_must (rowsB_tu _ _) ?_ | refine holds_inI ?_ | refine holds_inB ?_))
    refine holds_leaf ⟨_, _, hI.start ht hk hj, ?_⟩
    (repeat' (first | exact trivial | exact rfl | exact TS.eqv_refl _ _ | exact len_app _ _ | exact rows_appI | exact fun _ _ => eqvL_refl _ _ | exact fun i _ => eqvL_rowNums rfl _ i | apply And.intro))
  · refine holds_defE fun e he => ?_
    have hq : prepE e = c.prepE p.b := by rw [he]; rfl
    simp only [hq]
    clear he hq e
    (repeat' with_reducible (first | refine holds_inI ?_ | refine holds_inB ?_))
    refine holds_ite (fun he => ?_) fun _ => ?_
    · have he : (c.prepE p.b).1.2.2.2 = 0 := by simpa using he
      refine holds_must hm (holds_must hm (holds_inI (holds_inI (holds_ite (fun _ => ?_) fun _ => ?_))))
      · refine holds_must (rowsB_i _ _ _) (holds_must (rowsB_i _ _ _) (holds_defE fun e2 he2 => ?_))
        have hq : promE e2 = p.promise (2 : Nat) p.b (c.prepE p.b).1.1 (c.prepE p.b).1.2.1 (c.prepE p.b).1.2.2.1 := by rw [he2]; exact promE_on p _ _ _ _ _ _ _ _ _ _
        refine holds_must (decide_eq_true (by rw [he2]; exact Nat.le_trans (Nat.le_of_eq (congrArg (fun p : PrS => p.pl.length) (prOf_on _ p))) (Nat.le_trans hl.1 (by decide)))) ?_
        simp only [hq]
        clear he2 hq e2
        (repeat' with_reducible (first | refine holds_must hm ?_ | refine holds_must (rowsB_i _ _ _) ?_ | refine holds_must (rowsB_tu _ _) ?_ | refine holds_inI ?_ | refine holds_inB ?_))
        refine holds_leaf ⟨_, _, (hI.prom hk hj he).mono, ?_⟩
        (repeat' (first | exact trivial | exact rfl | exact TS.eqv_refl _ _ | exact len_app _ _ | exact rows_appI | exact fun _ _ => eqvL_refl _ _ | exact fun i _ => eqvL_rowNums rfl _ i | apply And.intro))
      · (repeat' with_reducible (first | refine holds_must hm ?_ | refine holds_must (rowsB_i _ _ _) ?_ | refine holds_must (rowsB_tu _ _) ?_ | refine holds_inI ?_ | refine holds_inB ?_))
        refine holds_leaf ⟨_, _, (hI.prep hk hj).mono, ?_⟩
        (repeat' (first | exact trivial | exact rfl | exact TS.eqv_refl _ _ | exact len_app _ _ | exact rows_appI | exact fun _ _ => eqvL_refl _ _ | exact fun i _ => eqvL_rowNums rfl _ i | apply And.intro))
    · (repeat' with_reducible (first | refine holds_must hm ?_ | refine holds_must (rowsB_i _ _ _) ?_ | refine holds_must (rowsB_tu _ _) ?_ | refine holds_inI ?_ | refine holds_inB ?_))
      refine holds_leaf ⟨_, _, (hI.prep hk hj).mono, ?_⟩
      (repeat' (first | exact trivial | exact rfl | exact TS.eqv_refl _ _ | exact len_app _ _ | exact rows_appI | exact fun _ _ => eqvL_refl _ _ | exact fun i _ => eqvL_rowNums rfl _ i | apply And.intro))
  · refine holds_defE fun e he => ?_
    have hq : accAE e = c.accE p.b p.value := by rw [he]; rfl
    simp only [hq]
    clear he hq e
    (repeat' with_reducible (first | refine holds_inI ?_ | refine holds_inB ?_))
    refine holds_ite (fun he => ?_) fun _ => ?_
    · have he : (c.accE p.b p.value).1 = 0 := by simpa using he
      refine holds_must hm (holds_must hm (holds_inI (holds_inI (holds_ite (fun _ => ?_) fun _ => ?_))))
      · refine holds_must (rowsB_i _ _ _) (holds_must (rowsB_i _ _ _) (holds_defE fun e2 he2 => ?_))
        have hq : accE e2 = p.accept (2 : Nat) p.b := by rw [he2]; exact accE_on p _ _ _ _
        refine holds_must (decide_eq_true (by rw [he2]; exact Nat.le_trans (Nat.le_of_eq (congrArg (fun p : PrS => p.al.length) (prOf_on _ p))) (Nat.le_trans hl.2 (by decide)))) ?_
        simp only [hq]
        clear he2 hq e2
        (repeat' with_reducible (first | refine holds_must hm ?_ | refine holds_must (rowsB_i _ _ _) ?_ | refine holds_must (rowsB_tu _ _) ?_ | refine holds_inI ?_ | refine holds_inB ?_))
        refine holds_leaf ⟨_, _, (hI.accd hk hj hv he).mono, ?_⟩
        (repeat' (first | exact trivial | exact rfl | exact TS.eqv_refl _ _ | exact len_app _ _ | exact rows_appI | exact fun _ _ => eqvL_refl _ _ | exact fun i _ => eqvL_rowNums rfl _ i | apply And.intro))
      · (repeat' with_reducible (first | refine holds_must hm ?_ | refine holds_must (rowsB_i _ _ _) ?_ | refine holds_must (rowsB_tu _ _) ?_ | refine holds_inI ?_ | refine holds_inB ?_))
        refine holds_leaf ⟨_, _, (hI.acc hk hj hv).mono, ?_⟩
        (repeat' (first | exact trivial | exact rfl | exact TS.eqv_refl _ _ | exact len_app _ _ | exact rows_appI | exact fun _ _ => eqvL_refl _ _ | exact fun i _ => eqvL_rowNums rfl _ i | apply And.intro))
    · (repeat' with_reducible (first | refine holds_must hm ?_ | refine holds_must (rowsB_i _ _ _) ?_ | refine holds_must (rowsB_tu _ _) ?_ | refine holds_inI ?_ | refine holds_inB ?_))
      refine holds_leaf ⟨_, _, (hI.acc hk hj hv).mono, ?_⟩
      (repeat' (first | exact trivial | exact rfl | exact TS.eqv_refl _ _ | exact len_app _ _ | exact rows_appI | exact fun _ _ => eqvL_refl _ _ | exact fun i _ => eqvL_rowNums rfl _ i | apply And.intro))
  · (repeat' with_reducible (first | refine holds_must hm ?_ | refine holds_must (rowsB_i _ _ _) ?_ | refine holds_must (rowsB_tu _ _) ?_ | refine holds_inI ?_ | refine holds_inB ?_))
    refine holds_leaf ⟨_, _, hI.mono, ?_⟩
    (repeat' (first | exact trivial | exact rfl | exact TS.eqv_refl _ _ | exact len_app _ _ | exact rows_appI | exact fun _ _ => eqvL_refl _ _ | exact fun i _ => eqvL_rowNums rfl _ i | apply And.intro))
set_option maxHeartbeats 4000000 in
theorem mid_10 (len : Nat) (s : Nat → List Num) (x y z : I3) (p q r : PrS) (a b c : AcS) (i : Int) (t : Int) (hI : SIf (tri x y z) t (tri p q r) (tri a b c)) (ht : t < 4294967295) (h0 : 0 ≤ i) (h1 : i < (len : Int)) : HTL Try.prog Try.f11.ntmps 0 (((flat b11).drop 1).take 2) 22 (saK.tm (saM len s x y z p q r a b c i 1 0)) (saK.heap (saM len s x y z p q r a b c i 1 0)) (QX ⟨some saL, [], none⟩ (saR len s x y z t i)) := by
  refine HTg.lits (t := saK) (vs := saKL 1 0) ⟨.inl rfl, .inl rfl, .inl rfl, .inl rfl, .inl rfl, .inr rfl, .inr rfl, trivial⟩ (HTL.runX gaTab mixed (n := 300) (by decide) (within_flat in11b fun x hx => List.mem_of_mem_drop (List.mem_of_mem_take hx)) (Nat.zero_le _) fun τ0 => holds_of_eq (sa_10 len s x y z p q r a b c i τ0) ?_)
  have hm : decide (0 ≤ i ∧ i < (len : Int)) = true := decide_eq_true ⟨h0, h1⟩
  have hk : 1 < 3 := by decide
  have hj : 0 < 3 := by decide
  have hl := hI.lens hk
  refine holds_must hm (holds_must hm (holds_inI (holds_inI (holds_ite (fun _ => ?_) fun _ => holds_must hm (holds_must hm (holds_inI (holds_inI (holds_ite (fun _ => ?_) fun _ => holds_ite (fun hv => ?_) fun hv => ?_))))))))
  · refine holds_must (rowsB_i _ _ _) (holds_must (rowsB_i _ _ _) (holds_defE fun e he => ?_))
    have hp : prOf e = q := by rw [he]; exact prOf_on _ q
    have ha : e.ai 1 0 = a.prom.1 := by rw [he]; rfl
    have hb : e.ai 1 1 = a.prom.2 := by rw [he]; rfl
    simp only [hp, ha, hb]
    clear he hp ha hb e
    (repeat' with_reducible (first | refine holds_must hm ?_ | refine holds_must (rowsB_i _ _ _) ?_ | refine holds_must (rowsB_tu _ _) ?_ | refine holds_inI ?_ | refine holds_inB ?_))
    refine holds_leaf ⟨_, _, hI.start ht hk hj, ?_⟩
    (repeat' (first | exact trivial | exact rfl | exact TS.eqv_refl _ _ | exact len_app _ _ | exact rows_appI | exact fun _ _ => eqvL_refl _ _ | exact fun i _ => eqvL_rowNums rfl _ i | apply And.intro))
  · refine holds_defE fun e he => ?_
    have hq : prepE e = a.prepE q.b := by rw [he]; rfl
    simp only [hq]
    clear he hq e
    (repeat' with_reducible (first | refine holds_inI ?_ | refine holds_inB ?_))
    refine holds_ite (fun he => ?_) fun _ => ?_
    · have he : (a.prepE q.b).1.2.2.2 = 0 := by simpa using he
      refine holds_must hm (holds_must hm (holds_inI (holds_inI (holds_ite (fun _ => ?_) fun _ => ?_))))
      · refine holds_must (rowsB_i _ _ _) (holds_must (rowsB_i _ _ _) (holds_defE fun e2 he2 => ?_))
        have hq : promE e2 = q.promise (0 : Nat) q.b (a.prepE q.b).1.1 (a.prepE q.b).1.2.1 (a.prepE q.b).1.2.2.1 := by rw [he2]; exact promE_on q _ _ _ _ _ _ _ _ _ _
        refine holds_must (decide_eq_true (by rw [he2]; exact Nat.le_trans (Nat.le_of_eq (congrArg (fun p : PrS => p.pl.length) (prOf_on _ q))) (Nat.le_trans hl.1 (by decide)))) ?_
        simp only [hq]
        clear he2 hq e2
        (repeat' with_reducible (first | refine holds_must hm ?_ | refine holds_must (rowsB_i _ _ _) ?_ | refine holds_must (rowsB_tu _ _) ?_ | refine holds_inI ?_ | refine holds_inB ?_))
        refine holds_leaf ⟨_, _, (hI.prom hk hj he).mono, ?_⟩
        (repeat' (first | exact trivial | exact rfl | exact TS.eqv_refl _ _ | exact len_app _ _ | exact rows_appI | exact fun _ _ => eqvL_refl _ _ | exact fun i _ => eqvL_rowNums rfl _ i | apply And.intro))
      · (repeat' with_reducible (first | refine holds_must hm ?_ | refine holds_must (rowsB_i _ _ _) ?_ | refine holds_must (rowsB_tu _ _) ?_ | refine holds_inI ?_ | refine holds_inB ?_))
        refine holds_leaf ⟨_, _, (hI.prep hk hj).mono, ?_⟩
        (repeat' (first | exact trivial | exact rfl | exact TS.eqv_refl _ _ | exact len_app _ _ | exact rows_appI | exact fun _ _ => eqvL_refl _ _ | exact fun i _ => eqvL_rowNums rfl _ i | apply And.intro))
    · (repeat' with_reducible (first | refine holds_must hm ?_ | refine holds_must (rowsB_i _ _ _) ?_ | refine holds_must (rowsB_tu _ _) ?_ | refine holds_inI ?_ | refine holds_inB ?_))
      refine holds_leaf ⟨_, _, (hI.prep hk hj).mono, ?_⟩
      (repeat' (first | exact trivial | exact rfl | exact TS.eqv_refl _ _ | exact len_app _ _ | exact rows_appI | exact fun _ _ => eqvL_refl _ _ | exact fun i _ => eqvL_rowNums rfl _ i | apply And.intro))
  · refine holds_defE fun e he => ?_
    have hq : accAE e = a.accE q.b q.value := by rw [he]; rfl
    simp only [hq]
    clear he hq e
    (repeat' with_reducible (first | refine holds_inI ?_ | refine holds_inB ?_))
    refine holds_ite (fun he => ?_) fun _ => ?_
    · have he : (a.accE q.b q.value).1 = 0 := by simpa using he
      refine holds_must hm (holds_must hm (holds_inI (holds_inI (holds_ite (fun _ => ?_) fun _ => ?_))))
      · refine holds_must (rowsB_i _ _ _) (holds_must (rowsB_i _ _ _) (holds_defE fun e2 he2 => ?_))
        have hq : accE e2 = q.accept (0 : Nat) q.b := by rw [he2]; exact accE_on q _ _ _ _
        refine holds_must (decide_eq_true (by rw [he2]; exact Nat.le_trans (Nat.le_of_eq (congrArg (fun p : PrS => p.al.length) (prOf_on _ q))) (Nat.le_trans hl.2 (by decide)))) ?_
        simp only [hq]
        clear he2 hq e2
        (repeat' with_reducible (first | refine holds_must hm ?_ | refine holds_must (rowsB_i _ _ _) ?_ | refine holds_must (rowsB_tu _ _) ?_ | refine holds_inI ?_ | refine holds_inB ?_))
        refine holds_leaf ⟨_, _, (hI.accd hk hj hv he).mono, ?_⟩
        (repeat' (first | exact trivial | exact rfl | exact TS.eqv_refl _ _ | exact len_app _ _ | exact rows_appI | exact fun _ _ => eqvL_refl _ _ | exact fun i _ => eqvL_rowNums rfl _ i | apply And.intro))
      · (repeat' with_reducible (first | refine holds_must hm ?_ | refine holds_must (rowsB_i _ _ _) ?_ | refine holds_must (rowsB_tu _ _) ?_ | refine holds_inI ?_ | refine holds_inB ?_))
        refine holds_leaf ⟨_, _, (hI.acc hk hj hv).mono, ?_⟩
        (repeat' (first | exact trivial | exact rfl | exact TS.eqv_refl _ _ | exact len_app _ _ | exact rows_appI | exact fun _ _ => eqvL_refl _ _ | exact fun i _ => eqvL_rowNums rfl _ i | apply And.intro))
    · (repeat' with_reducible (first | refine holds_must hm ?_ | refine holds_must (rowsB_i _ _ _) ?_ | refine holds_must (rowsB_tu _ _) ?_ | refine holds_inI ?_ | refine holds_inB ?_))
      refine holds_leaf ⟨_, _, (hI.acc hk hj hv).mono, ?_⟩
      (repeat' (first | exact trivial | exact rfl | exact TS.eqv_refl _ _ | exact len_app _ _ | exact rows_appI | exact fun _ _ => eqvL_refl _ _ | exact fun i _ => eqvL_rowNums rfl _ i | apply And.intro))
  · (repeat' with_reducible (first | refine holds_must hm ?_ | refine holds_must (rowsB_i _ _ _) ?_ | refine holds_must (rowsB_tu _ _) ?_ | refine holds_inI ?_ | refine holds_inB ?_))
    refine holds_leaf ⟨_, _, hI.mono, ?_⟩
    (repeat' (first | exact trivial | exact rfl | exact TS.eqv_refl _ _ | exact len_app _ _ | exact rows_appI | exact fun _ _ => eqvL_refl _ _ | exact fun i _ => eqvL_rowNums rfl _ i | apply And.intro))
set_option maxHeartbeats 4000000 in
theorem mid_11 (len : Nat) (s : Nat → List Num) (x y z : I3) (p q r : PrS) (a b c : AcS) (i : Int) (t : Int) (hI : SIf (tri x y z) t (tri p q r) (tri a b c)) (ht : t < 4294967295) (h0 : 0 ≤ i) (h1 : i < (len : Int)) : HTL Try.prog Try.f11.ntmps 0 (((flat b11).drop 1).take 2) 22 (saK.tm (saM len s x y z p q r a b c i 1 1)) (saK.heap (saM len s x y z p q r a b c i 1 1)) (QX ⟨some saL, [], none⟩ (saR len s x y z t i)) := by
  refine HTg.lits (t := saK) (vs := saKL 1 1) ⟨.inl rfl, .inl rfl, .inl rfl, .inl rfl, .inl rfl, .inr rfl, .inr rfl, trivial⟩ (HTL.runX gaTab mixed (n := 300) (by decide) (within_flat in11b fun x hx => List.mem_of_mem_drop (List.mem_of_mem_take hx)) (Nat.zero_le _) fun τ0 => holds_of_eq (sa_11 len s x y z p q r a b c i τ0) ?_)
  have hm : decide (0 ≤ i ∧ i < (len : Int)) = true := decide_eq_true ⟨h0, h1⟩
  have hk : 1 < 3 := by decide
  have hj : 1 < 3 := by decide
  have hl := hI.lens hk
  refine holds_must hm (holds_must hm (holds_inI (holds_inI (holds_ite (fun _ => ?_) fun _ => holds_must hm (holds_must hm (holds_inI (holds_inI (holds_ite (fun _ => ?_) fun _ => holds_ite (fun hv => ?_) fun hv => ?_))))))))
  · refine holds_must (rowsB_i _ _ _) (holds_must (rowsB_i _ _ _) (holds_defE fun e he => ?_))
    have hp : prOf e = q := by rw [he]; exact prOf_on _ q
    have ha : e.ai 1 0 = b.prom.1 := by rw [he]; rfl
    have hb : e.ai 1 1 = b.prom.2 := by rw [he]; rfl
    simp only [hp, ha, hb]
    clear he hp ha hb e
    (repeat' with_reducible (first | refine holds_must hm ?_ | refine holds_must (rowsB_i _ _ _) ?_ | refine holds_must (rowsB_tu _ _) ?_ | refine holds_inI ?_ | refine holds_inB ?_))
    refine holds_leaf ⟨_, _, hI.start ht hk hj, ?_⟩
    (repeat' (first | exact trivial | exact rfl | exact TS.eqv_refl _ _ | exact len_app _ _ | exact rows_appI | exact fun _ _ => eqvL_refl _ _ | exact fun i _ => eqvL_rowNums rfl _ i | apply And.intro))
  · refine holds_defE fun e he => ?_
    have hq : prepE e = b.prepE q.b := by rw [he]; rfl
    simp only [hq]
    clear he hq e
    (repeat' with_reducible (first | refine holds_inI ?_ | refine holds_inB ?_))
    refine holds_ite (fun he => ?_) fun _ => ?_
    · have he : (b.prepE q.b).1.2.2.2 = 0 := by simpa using he
      refine holds_must hm (holds_must hm (holds_inI (holds_inI (holds_ite (fun _ => ?_) fun _ => ?_))))
      · refine holds_must (rowsB_i _ _ _) (holds_must (rowsB_i _ _ _) (holds_defE fun e2 he2 => ?_))
        have hq : promE e2 = q.promise (1 : Nat) q.b (b.prepE q.b).1.1 (b.prepE q.b).1.2.1 (b.prepE q.b).1.2.2.1 := by rw [he2]; exact promE_on q _ _ _ _ _ _ _ _ _ _
        refine holds_must (decide_eq_true (by rw [he2]; exact Nat.le_trans (Nat.le_of_eq (congrArg (fun p : PrS => p.pl.length) (prOf_on _ q))) (Nat.le_trans hl.1 (by decide)))) ?_
        simp only [hq]
        clear he2 hq e2
        (repeat' with_reducible (first | refine holds_must hm ?_ | refine holds_must (rowsB_i _ _ _) ?_ | refine holds_must (rowsB_tu _ _) ?_ | refine holds_inI ?_ | refine holds_inB ?_))
        refine holds_leaf ⟨_, _, (hI.prom hk hj he).mono, ?_⟩
        (repeat' (first | exact trivial | exact rfl | exact TS.eqv_refl _ _ | exact len_app _ _ | exact rows_appI | exact fun _ _ => eqvL_refl _ _ | exact fun i _ => eqvL_rowNums rfl _ i | apply And.intro))
      · (repeat' with_reducible (first | refine holds_must hm ?_ | refine holds_must (rowsB_i _ _ _) ?_ | refine holds_must (rowsB_tu _ _) ?_ | refine holds_inI ?_ | refine holds_inB ?_))
        refine holds_leaf ⟨_, _, (hI.prep hk hj).mono, ?_⟩
        (repeat' (first | exact trivial | exact rfl | exact TS.eqv_refl _ _ | exact len_app _ _ | exact rows_appI | exact fun _ _ => eqvL_refl _ _ | exact fun i _ => eqvL_rowNums rfl _ i | apply And.intro))
    · (repeat' with_reducible (first | refine holds_must hm ?_ | refine holds_must (rowsB_i _ _ _) ?_ | refine holds_must (rowsB_tu _ _) ?_ | refine holds_inI ?_ | refine holds_inB ?_))
      refine holds_leaf ⟨_, _, (hI.prep hk hj).mono, ?_⟩
      (repeat' (first | exact trivial | exact rfl | exact TS.eqv_refl _ _ | exact len_app _ _ | exact rows_appI | exact fun _ _ => eqvL_refl _ _ | exact fun i _ => eqvL_rowNums rfl _ i | apply And.intro))
  · refine holds_defE fun e he => ?_
    have hq : accAE e = b.accE q.b q.value := by rw [he]; rfl
    simp only [hq]
    clear he hq e
    (repeat' with_reducible (first | refine holds_inI ?_ | refine holds_inB ?_))
    refine holds_ite (fun he => ?_) fun _ => ?_
    · have he : (b.accE q.b q.value).1 = 0 := by simpa using he
      refine holds_must hm (holds_must hm (holds_inI (holds_inI (holds_ite (fun _ => ?_) fun _ => ?_))))
      · refine holds_must (rowsB_i _ _ _) (holds_must (rowsB_i _ _ _) (holds_defE fun e2 he2 => ?_))
        have hq : accE e2 = q.accept (1 : Nat) q.b := by rw [he2]; exact accE_on q _ _ _ _
        refine holds_must (decide_eq_true (by rw [he2]; exact Nat.le_trans (Nat.le_of_eq (congrArg (fun p : PrS => p.al.length) (prOf_on _ q))) (Nat.le_trans hl.2 (by decide)))) ?_
        simp only [hq]
        clear he2 hq e2
        (repeat' with_reducible (first | refine holds_must hm ?_ | refine holds_must (rowsB_i _ _ _) ?_ | refine holds_must (rowsB_tu _ _) ?_ | refine holds_inI ?_ | refine holds_inB ?_))
        refine holds_leaf ⟨_, _, (hI.accd hk hj hv he).mono, ?_⟩
        (repeat' (first | exact trivial | exact rfl | exact TS.eqv_refl _ _ | exact len_app _ _ | exact rows_appI | exact fun _ _ => eqvL_refl _ _ | exact fun i _ => eqvL_rowNums rfl _ i | apply And.intro))
      · (repeat' with_reducible (first | refine holds_must hm ?_ | refine holds_must (rowsB_i _ _ _) ?_ | refine holds_must (rowsB_tu _ _) ?_ | refine holds_inI ?_ | refine holds_inB ?_))
        refine holds_leaf ⟨_, _, (hI.acc hk hj hv).mono, ?_⟩
        (repeat' (first | exact trivial | exact rfl | exact TS.eqv_refl _ _ | exact len_app _ _ | exact rows_appI | exact fun _ _ => eqvL_refl _ _ | exact fun i _ => eqvL_rowNums rfl _ i | apply And.intro))
    · (repeat' with_reducible (first | refine holds_must hm ?_ | refine holds_must (rowsB_i _ _ _) ?_ | refine holds_must (rowsB_tu _ _) ?_ | refine holds_inI ?_ | refine holds_inB ?_))
      refine holds_leaf ⟨_, _, (hI.acc hk hj hv).mono, ?_⟩
      (repeat' (first | exact trivial | exact rfl | exact TS.eqv_refl _ _ | exact len_app _ _ | exact rows_appI | exact fun _ _ => eqvL_refl _ _ | exact fun i _ => eqvL_rowNums rfl _ i | apply And.intro))
  · (repeat' with_reducible (first | refine holds_must hm ?_ | refine holds_must (rowsB_i _ _ _) ?_ | refine holds_must (rowsB_tu _ _) ?_ | refine holds_inI ?_ | refine holds_inB ?_))
    refine holds_leaf ⟨_, _, hI.mono, ?_⟩
    (repeat' (first | exact trivial | exact rfl | exact TS.eqv_refl _ _ | exact len_app _ _ | exact rows_appI | exact fun _ _ => eqvL_refl _ _ | exact fun i _ => eqvL_rowNums rfl _ i | apply And.intro))
set_option maxHeartbeats 4000000 in
theorem mid_12 (len : Nat) (s : Nat → List Num) (x y z : I3) (p q r : PrS) (a b c : AcS) (i : Int) (t : Int) (hI : SIf (tri x y z) t (tri p q r) (tri a b c)) (ht : t < 4294967295) (h0 : 0 ≤ i) (h1 : i < (len : Int)) : HTL Try.prog Try.f11.ntmps 0 (((flat b11).drop 1).take 2) 22 (saK.tm (saM len s x y z p q r a b c i 1 2)) (saK.heap (saM len s x y z p q r a b c i 1 2)) (QX ⟨some saL, [], none⟩ (saR len s x y z t i)) := by
  refine HTg.lits (t := saK) (vs := saKL 1 2) ⟨.inl rfl, .inl rfl, .inl rfl, .inl rfl, .inl rfl, .inr rfl, .inr rfl, trivial⟩ (HTL.runX gaTab mixed (n := 300) (by decide) (within_flat in11b fun x hx => List.mem_of_mem_drop (List.mem_of_mem_take hx)) (Nat.zero_le _) fun τ0 => holds_of_eq (sa_12 len s x y z p q r a b c i τ0) ?_)
  have hm : decide (0 ≤ i ∧ i < (len : Int)) = true := decide_eq_true ⟨h0, h1⟩
  have hk : 1 < 3 := by decide
  have hj : 2 < 3 := by decide
  have hl := hI.lens hk
  refine holds_must hm (holds_must hm (holds_inI (holds_inI (holds_ite (fun _ => ?_) fun _ => holds_must hm (holds_must hm (holds_inI (holds_inI (holds_ite (fun _ => ?_) fun _ => holds_ite (fun hv => ?_) fun hv => ?_))))))))
  · refine holds_must (rowsB_i _ _ _) (holds_must (rowsB_i _ _ _) (holds_defE fun e he => ?_))
    have hp : prOf e = q := by rw [he]; exact prOf_on _ q
    have ha : e.ai 1 0 = c.prom.1 := by rw [he]; rfl
    have hb : e.ai 1 1 = c.prom.2 := by rw [he]; rfl
    simp only [hp, ha, hb]
    clear he hp ha hb e
    (repeat' with_reducible (first | refine holds_must hm ?_ | refine holds_must (rowsB_i _ _ _) ?_ | refine holds_must (rowsB_tu _ _) ?_ | refine holds_inI ?_ | refine holds_inB ?_))
    refine holds_leaf ⟨_, _, hI.start ht hk hj, ?_⟩
    (repeat' (first | exact trivial | exact rfl | exact TS.eqv_refl _ _ | exact len_app _ _ | exact rows_appI | exact fun _ _ => eqvL_refl _ _ | exact fun i _ => eqvL_rowNums rfl _ i | apply And.intro))
  · refine holds_defE fun e he => ?_
    have hq : prepE e = c.prepE q.b := by rw [he]; rfl
    simp only [hq]
    clear he hq e
    (repeat' with_reducible (first | refine holds_inI ?_ | refine holds_inB ?_))
    refine holds_ite (fun he => ?_) fun _ => ?_
    · have he : (c.prepE q.b).1.2.2.2 = 0 := by simpa using he
      refine holds_must hm (holds_must hm (holds_inI (holds_inI (holds_ite (fun _ => ?_) fun _ => ?_))))
      · refine holds_must (rowsB_i _ _ _) (holds_must (rowsB_i _ _ _) (holds_defE fun e2 he2 => ?_))
        have hq : promE e2 = q.promise (2 : Nat) q.b (c.prepE q.b).1.1 (c.prepE q.b).1.2.1 (c.prepE q.b).1.2.2.1 := by rw [he2]; exact promE_on q _ _ _ _ _ _ _ _ _ _
        refine holds_must (decide_eq_true (by rw [he2]; exact Nat.le_trans (Nat.le_of_eq (congrArg (fun p : PrS => p.pl.length) (prOf_on _ q))) (Nat.le_trans hl.1 (by decide)))) ?_
        simp only [hq]
        clear he2 hq e2
        (repeat' with_reducible (first | refine holds_must hm ?_ | refine holds_must (rowsB_i _ _ _) ?_ | refine holds_must (rowsB_tu _ _) ?_ | refine holds_inI ?_ | refine holds_inB ?_))
        refine holds_leaf ⟨_, _, (hI.prom hk hj he).mono, ?_⟩
        (repeat' (first | exact trivial | exact rfl | exact TS.eqv_refl _ _ | exact len_app _ _ | exact rows_appI | exact fun _ _ => eqvL_refl _ _ | exact fun i _ => eqvL_rowNums rfl _ i | apply And.intro))
      · (repeat' with_reducible (first | refine holds_must hm ?_ | refine holds_must (rowsB_i _ _ _) ?_ | refine holds_must (rowsB_tu _ _) ?_ | refine holds_inI ?_ | refine holds_inB ?_))
        refine holds_leaf ⟨_, _, (hI.prep hk hj).mono, ?_⟩
        (repeat' (first | exact trivial | exact rfl | exact TS.eqv_refl _ _ | exact len_app _ _ | exact rows_appI | exact fun _ _ => eqvL_refl _ _ | exact fun i _ => eqvL_rowNums rfl _ i | apply And.intro))
    · (repeat' with_reducible (first | refine holds_must hm ?_ | refine holds_must (rowsB_i _ _ _) ?_ | refine holds_must (rowsB_tu _ _) ?_ | refine holds_inI ?_ | refine holds_inB ?_))
      refine holds_leaf ⟨_, _, (hI.prep hk hj).mono, ?_⟩
      (repeat' (first | exact trivial | exact rfl | exact TS.eqv_refl _ _ | exact len_app _ _ | exact rows_appI | exact fun _ _ => eqvL_refl _ _ | exact fun i _ => eqvL_rowNums rfl _ i | apply And.intro))
  · refine holds_defE fun e he => ?_
    have hq : accAE e = c.accE q.b q.value := by rw [he]; rfl
    simp only [hq]
    clear he hq e
    (repeat' with_reducible (first | refine holds_inI ?_ | refine holds_inB ?_))
    refine holds_ite (fun he => ?_) fun _ => ?_
    · have he : (c.accE q.b q.value).1 = 0 := by simpa using he
      refine holds_must hm (holds_must hm (holds_inI (holds_inI (holds_ite (fun _ => ?_) fun _ => ?_))))
      · refine holds_must (rowsB_i _ _ _) (holds_must (rowsB_i _ _ _) (holds_defE fun e2 he2 => ?_))
        have hq : accE e2 = q.accept (2 : Nat) q.b := by rw [he2]; exact accE_on q _ _ _ _
        refine holds_must (decide_eq_true (by rw [he2]; exact Nat.le_trans (Nat.le_of_eq (congrArg (fun p : PrS => p.al.length) (prOf_on _ q))) (Nat.le_trans hl.2 (by decide)))) ?_
        simp only [hq]
        clear he2 hq e2
        (repeat' with_reducible (first | refine holds_must hm ?_ | refine holds_must (rowsB_i _ _ _) ?_ | refine holds_must (rowsB_tu _ _) ?_ | refine holds_inI ?_ | refine holds_inB ?_))
        refine holds_leaf ⟨_, _, (hI.accd hk hj hv he).mono, ?_⟩
        (repeat' (first | exact trivial | exact rfl | exact TS.eqv_refl _ _ | exact len_app _ _ | exact rows_appI | exact fun _ _ => eqvL_refl _ _ | exact fun i _ => eqvL_rowNums rfl _ i | apply And.intro))
      · (repeat' with_reducible (first | refine holds_must hm ?_ | refine holds_must (rowsB_i _ _ _) ?_ | refine holds_must (rowsB_tu _ _) ?_ | refine holds_inI ?_ | refine holds_inB ?_))
        refine holds_leaf ⟨_, _, (hI.acc hk hj hv).mono, ?_⟩
        (repeat' (first | exact trivial | exact rfl | exact TS.eqv_refl _ _ | exact len_app _ _ | exact rows_appI | exact fun _ _ => eqvL_refl _ _ | exact fun i _ => eqvL_rowNums rfl _ i | apply And.intro))
    · (repeat' with_reducible (first | refine holds_must hm ?_ | refine holds_must (rowsB_i _ _ _) ?_ | refine holds_must (rowsB_tu _ _) ?_ | refine holds_inI ?_ | refine holds_inB ?_))
      refine holds_leaf ⟨_, _, (hI.acc hk hj hv).mono, ?_⟩
      (repeat' (first | exact trivial | exact rfl | exact TS.eqv_refl _ _ | exact len_app _ _ | exact rows_appI | exact fun _ _ => eqvL_refl _ _ | exact fun i _ => eqvL_rowNums rfl _ i | apply And.intro))
  · (repeat' with_reducible (first | refine holds_must hm ?_ | refine holds_must (rowsB_i _ _ _) ?_ | refine holds_must (rowsB_tu _ _) ?_ | refine holds_inI ?_ | refine holds_inB ?_))
    refine holds_leaf ⟨_, _, hI.mono, ?_⟩
    (repeat' (first | exact trivial | exact rfl | exact TS.eqv_refl _ _ | exact len_app _ _ | exact rows_appI | exact fun _ _ => eqvL_refl _ _ | exact fun i _ => eqvL_rowNums rfl _ i | apply And.intro))
set_option maxHeartbeats 4000000 in
theorem mid_20 (len : Nat) (s : Nat → List Num) (x y z : I3) (p q r : PrS) (a b c : AcS) (i : Int) (t : Int) (hI : SIf (tri x y z) t (tri p q r) (tri a b c)) (ht : t < 4294967295) (h0 : 0 ≤ i) (h1 : i < (len : Int)) : HTL Try.prog Try.f11.ntmps 0 (((flat b11).drop 1).take 2) 22 (saK.tm (saM len s x y z p q r a b c i 2 0)) (saK.heap (saM len s x y z p q r a b c i 2 0)) (QX ⟨some saL, [], none⟩ (saR len s x y z t i)) := by
  refine HTg.lits (t := saK) (vs := saKL 2 0) ⟨.inl rfl, .inl rfl, .inl rfl, .inl rfl, .inl rfl, .inr rfl, .inr rfl, trivial⟩ (HTL.runX gaTab mixed (n := 300) (by decide) (within_flat in11b fun x hx => List.mem_of_mem_drop (List.mem_of_mem_take hx)) (Nat.zero_le _) fun τ0 => holds_of_eq (sa_20 len s x y z p q r a b c i τ0) ?_)
  have hm : decide (0 ≤ i ∧ i < (len : Int)) = true := decide_eq_true ⟨h0, h1⟩
  have hk : 2 < 3 := by decide
  have hj : 0 < 3 := by decide
  have hl := hI.lens hk
  refine holds_must hm (holds_must hm (holds_inI (holds_inI (holds_ite (fun _ => ?_) fun _ => holds_must hm (holds_must hm (holds_inI (holds_inI (holds_ite (fun _ => ?_) fun _ => holds_ite (fun hv => ?_) fun hv => ?_))))))))
  · refine holds_must (rowsB_i _ _ _) (holds_must (rowsB_i _ _ _) (holds_defE fun e he => ?_))
    have hp : prOf e = r := by rw [he]; exact prOf_on _ r
    have ha : e.ai 1 0 = a.prom.1 := by rw [he]; rfl
    have hb : e.ai 1 1 = a.prom.2 := by rw [he]; rfl
    simp only [hp, ha, hb]
    clear he hp ha hb e
    (repeat' with_reducible (first | refine holds_must hm ?_ | refine holds_must (rowsB_i _ _ _) ?_ | refine holds_must (rowsB_tu _ _) ?_ | refine holds_inI ?_ | refine holds_inB ?_))
    refine holds_leaf ⟨_, _, hI.start ht hk hj, ?_⟩
    (repeat' (first | exact trivial | exact rfl | exact TS.eqv_refl _ _ | exact len_app _ _ | exact rows_appI | exact fun _ _ => eqvL_refl _ _ | exact fun i _ => eqvL_rowNums rfl _ i | apply And.intro))
  · refine holds_defE fun e he => ?_
    have hq : prepE e = a.prepE r.b := by rw [he]; rfl
    simp only [hq]
    clear he hq e
    (repeat' with_reducible (first | refine holds_inI ?_ | refine holds_inB ?_))
    refine holds_ite (fun he => ?_) fun _ => ?_
    · have he : (a.prepE r.b).1.2.2.2 = 0 := by simpa using he
      refine holds_must hm (holds_must hm (holds_inI (holds_inI (holds_ite (fun _ => ?_) fun _ => ?_))))
      · refine holds_must (rowsB_i _ _ _) (holds_must (rowsB_i _ _ _) (holds_defE fun e2 he2 => ?_))
        have hq : promE e2 = r.promise (0 : Nat) r.b (a.prepE r.b).1.1 (a.prepE r.b).1.2.1 (a.prepE r.b).1.2.2.1 := by rw [he2]; exact promE_on r _ _ _ _ _ _ _ _ _ _
        refine holds_must (decide_eq_true (by rw [he2]; exact Nat.le_trans (Nat.le_of_eq (congrArg (fun p : PrS => p.pl.length) (prOf_on _ r))) (Nat.le_trans hl.1 (by decide)))) ?_
        simp only [hq]
        clear he2 hq e2
        (repeat' with_reducible (first | refine holds_must hm ?_ | refine holds_must (rowsB_i _ _ _) ?_ | refine holds_must (rowsB_tu _ _) ?_ | refine holds_inI ?_ | refine holds_inB ?_))
        refine holds_leaf ⟨_, _, (hI.prom hk hj he).mono, ?_⟩
        (repeat' (first | exact trivial | exact rfl | exact TS.eqv_refl _ _ | exact len_app _ _ | exact rows_appI | exact fun _ _ => eqvL_refl _ _ | exact fun i _ => eqvL_rowNums rfl _ i | apply And.intro))
      · (repeat' with_reducible (first | refine holds_must hm ?_ | refine holds_must (rowsB_i _ _ _) ?_ | refine holds_must (rowsB_tu _ _) ?_ | refine holds_inI ?_ | refine holds_inB ?_))
        refine holds_leaf ⟨_, _, (hI.prep hk hj).mono, ?_⟩
        (repeat' (first | exact trivial | exact rfl | exact TS.eqv_refl _ _ | exact len_app _ _ | exact rows_appI | exact fun _ _ => eqvL_refl _ _ | exact fun i _ => eqvL_rowNums rfl _ i | apply And.intro))
    · (repeat' with_reducible (first | refine holds_must hm ?_ | refine holds_must (rowsB_i _ _ _) ?_ | refine holds_must (rowsB_tu _ _) ?_ | refine holds_inI ?_ | refine holds_inB ?_))
      refine holds_leaf ⟨_, _, (hI.prep hk hj).mono, ?_⟩
      (repeat' (first | exact trivial | exact rfl | exact TS.eqv_refl _ _ | exact len_app _ _ | exact rows_appI | exact fun _ _ => eqvL_refl _ _ | exact fun i _ => eqvL_rowNums rfl _ i | apply And.intro))
  · refine holds_defE fun e he => ?_
    have hq : accAE e = a.accE r.b r.value := by rw [he]; rfl
    simp only [hq]
    clear he hq e
    (repeat' with_reducible (first | refine holds_inI ?_ | refine holds_inB ?_))
    refine holds_ite (fun he => ?_) fun _ => ?_
    · have he : (a.accE r.b r.value).1 = 0 := by simpa using he
      refine holds_must hm (holds_must hm (holds_inI (holds_inI (holds_ite (fun _ => ?_) fun _ => ?_))))
      · refine holds_must (rowsB_i _ _ _) (holds_must (rowsB_i _ _ _) (holds_defE fun e2 he2 => ?_))
        have hq : accE e2 = r.accept (0 : Nat) r.b := by rw [he2]; exact accE_on r _ _ _ _
        refine holds_must (decide_eq_true (by rw [he2]; exact Nat.le_trans (Nat.le_of_eq (congrArg (fun p : PrS => p.al.length) (prOf_on _ r))) (Nat.le_trans hl.2 (by decide)))) ?_
        simp only [hq]
        clear he2 hq e2
        (repeat' with_reducible (first | refine holds_must hm ?_ | refine holds_must (rowsB_i _ _ _) ?_ | refine holds_must (rowsB_tu _ _) ?_ | refine holds_inI ?_ | refine holds_inB ?_))
        refine holds_leaf ⟨_, _, (hI.accd hk hj hv he).mono, ?_⟩
        (repeat' (first | exact trivial | exact rfl | exact TS.eqv_refl _ _ | exact len_app _ _ | exact rows_appI | exact fun _ _ => eqvL_refl _ _ | exact fun i _ => eqvL_rowNums rfl _ i | apply And.intro))
      · (repeat' with_reducible (first | refine holds_must hm ?_ | refine holds_must (rowsB_i _ _ _) ?_ | refine holds_must (rowsB_tu _ _) ?_ | refine holds_inI ?_ | refine holds_inB ?_))
        refine holds_leaf ⟨_, _, (hI.acc hk hj hv).mono, ?_⟩
        (repeat' (first | exact trivial | exact rfl | exact TS.eqv_refl _ _ | exact len_app _ _ | exact rows_appI | exact fun _ _ => eqvL_refl _ _ | exact fun i _ => eqvL_rowNums rfl _ i | apply And.intro))
    · (repeat' with_reducible (first | refine holds_must hm ?_ | refine holds_must (rowsB_i _ _ _) ?_ | refine holds_must (rowsB_tu _ _) ?_ | refine holds_inI ?_ | refine holds_inB ?_))
      refine holds_leaf ⟨_, _, (hI.acc hk hj hv).mono, ?_⟩
      (repeat' (first | exact trivial | exact rfl | exact TS.eqv_refl _ _ | exact len_app _ _ | exact rows_appI | exact fun _ _ => eqvL_refl _ _ | exact fun i _ => eqvL_rowNums rfl _ i | apply And.intro))
  · (repeat' with_reducible (first | refine holds_must hm ?_ | refine holds_must (rowsB_i _ _ _) ?_ | refine holds_must (rowsB_tu _ _) ?_ | refine holds_inI ?_ | refine holds_inB ?_))
    refine holds_leaf ⟨_, _, hI.mono, ?_⟩
    (repeat' (first | exact trivial | exact rfl | exact TS.eqv_refl _ _ | exact len_app _ _ | exact rows_appI | exact fun _ _ => eqvL_refl _ _ | exact fun i _ => eqvL_rowNums rfl _ i | apply And.intro))
set_option maxHeartbeats 4000000 in
theorem mid_21 (len : Nat) (s : Nat → List Num) (x y z : I3) (p q r : PrS) (a b c : AcS) (i : Int) (t : Int) (hI : SIf (tri x y z) t (tri p q r) (tri a b c)) (ht : t < 4294967295) (h0 : 0 ≤ i) (h1 : i < (len : Int)) : HTL Try.prog Try.f11.ntmps 0 (((flat b11).drop 1).take 2) 22 (saK.tm (saM len s x y z p q r a b c i 2 1)) (saK.heap (saM len s x y z p q r a b c i 2 1)) (QX ⟨some saL, [], none⟩ (saR len s x y z t i)) := by
  refine HTg.lits (t := saK) (vs := saKL 2 1) ⟨.inl rfl, .inl rfl, .inl rfl, .inl rfl, .inl rfl, .inr rfl, .inr rfl, trivial⟩ (HTL.runX gaTab mixed (n := 300) (by decide) (within_flat in11b fun x hx => List.mem_of_mem_drop (List.mem_of_mem_take hx)) (Nat.zero_le _) fun τ0 => holds_of_eq (sa_21 len s x y z p q r a b c i τ0) ?_)
  have hm : decide (0 ≤ i ∧ i < (len : Int)) = true := decide_eq_true ⟨h0, h1⟩
  have hk : 2 < 3 := by decide
  have hj : 1 < 3 := by decide
  have hl := hI.lens hk
  refine holds_must hm (holds_must hm (holds_inI (holds_inI (holds_ite (fun _ => ?_) fun _ => holds_must hm (holds_must hm (holds_inI (holds_inI (holds_ite (fun _ => ?_) fun _ => holds_ite (fun hv => ?_) fun hv => ?_))))))))
  · refine holds_must (rowsB_i _ _ _) (holds_must (rowsB_i _ _ _) (holds_defE fun e he => ?_))
    have hp : prOf e = r := by rw [he]; exact prOf_on _ r
    have ha : e.ai 1 0 = b.prom.1 := by rw [he]; rfl
    have hb : e.ai 1 1 = b.prom.2 := by rw [he]; rfl
    simp only [hp, ha, hb]
    clear he hp ha hb e
    (repeat' with_reducible (first | refine holds_must hm ?_ | refine holds_must (rowsB_i _ _ _) ?_ | refine holds_must (rowsB_tu _ _) ?_ | refine holds_inI ?_ | refine holds_inB ?_))
    refine holds_leaf ⟨_, _, hI.start ht hk hj, ?_⟩
    (repeat' (first | exact trivial | exact rfl | exact TS.eqv_refl _ _ | exact len_app _ _ | exact rows_appI | exact fun _ _ => eqvL_refl _ _ | exact fun i _ => eqvL_rowNums rfl _ i | apply And.intro))
  · refine holds_defE fun e he => ?_
    have hq : prepE e = b.prepE r.b := by rw [he]; rfl
    simp only [hq]
    clear he hq e
    (repeat' with_reducible (first | refine holds_inI ?_ | refine holds_inB ?_))
    refine holds_ite (fun he => ?_) fun _ => ?_
    · have he : (b.prepE r.b).1.2.2.2 = 0 := by simpa using he
      refine holds_must hm (holds_must hm (holds_inI (holds_inI (holds_ite (fun _ => ?_) fun _ => ?_))))
      · refine holds_must (rowsB_i _ _ _) (holds_must (rowsB_i _ _ _) (holds_defE fun e2 he2 => ?_))
        have hq : promE e2 = r.promise (1 : Nat) r.b (b.prepE r.b).1.1 (b.prepE r.b).1.2.1 (b.prepE r.b).1.2.2.1 := by rw [he2]; exact promE_on r _ _ _ _ _ _ _ _ _ _
        refine holds_must (decide_eq_true (by rw [he2]; exact Nat.le_trans (Nat.le_of_eq (congrArg (fun p : PrS => p.pl.length) (prOf_on _ r))) (Nat.le_trans hl.1 (by decide)))) ?_
        simp only [hq]
        clear he2 hq e2
        (repeat' with_reducible (first | refine holds_must hm ?_ | refine holds_must (rowsB_i _ _ _) ?_ | refine holds_must (rowsB_tu _ _) ?_ | refine holds_inI ?_ | refine holds_inB ?_))
        refine holds_leaf ⟨_, _, (hI.prom hk hj he).mono, ?_⟩
        (repeat' (first | exact trivial | exact rfl | exact TS.eqv_refl _ _ | exact len_app _ _ | exact rows_appI | exact fun _ _ => eqvL_refl _ _ | exact fun i _ => eqvL_rowNums rfl _ i | apply And.intro))
      · (repeat' with_reducible (first | refine holds_must hm ?_ | refine holds_must (rowsB_i _ _ _) ?_ | refine holds_must (rowsB_tu _ _) ?_ | refine holds_inI ?_ | refine holds_inB ?_))
        refine holds_leaf ⟨_, _, (hI.prep hk hj).mono, ?_⟩
        (repeat' (first | exact trivial | exact rfl | exact TS.eqv_refl _ _ | exact len_app _ _ | exact rows_appI | exact fun _ _ => eqvL_refl _ _ | exact fun i _ => eqvL_rowNums rfl _ i | apply And.intro))
    · (repeat' with_reducible (first | refine holds_must hm ?_ | refine holds_must (rowsB_i _ _ _) ?_ | refine holds_must (rowsB_tu _ _) ?_ | refine holds_inI ?_ | refine holds_inB ?_))
      refine holds_leaf ⟨_, _, (hI.prep hk hj).mono, ?_⟩
      (repeat' (first | exact trivial | exact rfl | exact TS.eqv_refl _ _ | exact len_app _ _ | exact rows_appI | exact fun _ _ => eqvL_refl _ _ | exact fun i _ => eqvL_rowNums rfl _ i | apply And.intro))
  · refine holds_defE fun e he => ?_
    have hq : accAE e = b.accE r.b r.value := by rw [he]; rfl
    simp only [hq]
    clear he hq e
    (repeat' with_reducible (first | refine holds_inI ?_ | refine holds_inB ?_))
    refine holds_ite (fun he => ?_) fun _ => ?_
    · have he : (b.accE r.b r.value).1 = 0 := by simpa using he
      refine holds_must hm (holds_must hm (holds_inI (holds_inI (holds_ite (fun _ => ?_) fun _ => ?_))))
      · refine holds_must (rowsB_i _ _ _) (holds_must (rowsB_i _ _ _) (holds_defE fun e2 he2 => ?_))
        have hq : accE e2 = r.accept (1 : Nat) r.b := by rw [he2]; exact accE_on r _ _ _ _
        refine holds_must (decide_eq_true (by rw [he2]; exact Nat.le_trans (Nat.le_of_eq (congrArg (fun p : PrS => p.al.length) (prOf_on _ r))) (Nat.le_trans hl.2 (by decide)))) ?_
        simp only [hq]
        clear he2 hq e2
        (repeat' with_reducible (first | refine holds_must hm ?_ | refine holds_must (rowsB_i _ _ _) ?_ | refine holds_must (rowsB_tu _ _) ?_ | refine holds_inI ?_ | refine holds_inB ?_))
        refine holds_leaf ⟨_, _, (hI.accd hk hj hv he).mono, ?_⟩
        (repeat' (first | exact trivial | exact rfl | exact TS.eqv_refl _ _ | exact len_app _ _ | exact rows_appI | exact fun _ _ => eqvL_refl _ _ | exact fun i _ => eqvL_rowNums rfl _ i | apply And.intro))
      · (repeat' with_reducible (first | refine holds_must hm ?_ | refine holds_must (rowsB_i _ _ _) ?_ | refine holds_must (rowsB_tu _ _) ?_ | refine holds_inI ?_ | refine holds_inB ?_))
        refine holds_leaf ⟨_, _, (hI.acc hk hj hv).mono, ?_⟩
        (repeat' (first | exact trivial | exact rfl | exact TS.eqv_refl _ _ | exact len_app _ _ | exact rows_appI | exact fun _ _ => eqvL_refl _ _ | exact fun i _ => eqvL_rowNums rfl _ i | apply And.intro))
    · (repeat' with_reducible (first | refine holds_must hm ?_ | refine holds_must (rowsB_i _ _ _) ?_ | refine holds_must (rowsB_tu _ _) ?_ | refine holds_inI ?_ | refine holds_inB ?_))
      refine holds_leaf ⟨_, _, (hI.acc hk hj hv).mono, ?_⟩
      (repeat' (first | exact trivial | exact rfl | exact TS.eqv_refl _ _ | exact len_app _ _ | exact rows_appI | exact fun _ _ => eqvL_refl _ _ | exact fun i _ => eqvL_rowNums rfl _ i | apply And.intro))
  · (repeat' with_reducible (first | refine holds_must hm ?_ | refine holds_must (rowsB_i _ _ _) ?_ | refine holds_must (rowsB_tu _ _) ?_ | refine holds_inI ?_ | refine holds_inB ?_))
    refine holds_leaf ⟨_, _, hI.mono, ?_⟩
    (repeat' (first | exact trivial | exact rfl | exact TS.eqv_refl _ _ | exact len_app _ _ | exact rows_appI | exact fun _ _ => eqvL_refl _ _ | exact fun i _ => eqvL_rowNums rfl _ i | apply And.intro))
set_option maxHeartbeats 4000000 in
theorem mid_22 (len : Nat) (s : Nat → List Num) (x y z : I3) (p q r : PrS) (a b c : AcS) (i : Int) (t : Int) (hI : SIf (tri x y z) t (tri p q r) (tri a b c)) (ht : t < 4294967295) (h0 : 0 ≤ i) (h1 : i < (len : Int)) : HTL Try.prog Try.f11.ntmps 0 (((flat b11).drop 1).take 2) 22 (saK.tm (saM len s x y z p q r a b c i 2 2)) (saK.heap (saM len s x y z p q r a b c i 2 2)) (QX ⟨some saL, [], none⟩ (saR len s x y z t i)) := by
  refine HTg.lits (t := saK) (vs := saKL 2 2) ⟨.inl rfl, .inl rfl, .inl rfl, .inl rfl, .inl rfl, .inr rfl, .inr rfl, trivial⟩ (HTL.runX gaTab mixed (n := 300) (by decide) (within_flat in11b fun x hx => List.mem_of_mem_drop (List.mem_of_mem_take hx)) (Nat.zero_le _) fun τ0 => holds_of_eq (sa_22 len s x y z p q r a b c i τ0) ?_)
  have hm : decide (0 ≤ i ∧ i < (len : Int)) = true := decide_eq_true ⟨h0, h1⟩
  have hk : 2 < 3 := by decide
  have hj : 2 < 3 := by decide
  have hl := hI.lens hk
  refine holds_must hm (holds_must hm (holds_inI (holds_inI (holds_ite (fun _ => ?_) fun _ => holds_must hm (holds_must hm (holds_inI (holds_inI (holds_ite (fun _ => ?_) fun _ => holds_ite (fun hv => ?_) fun hv => ?_))))))))
  · refine holds_must (rowsB_i _ _ _) (holds_must (rowsB_i _ _ _) (holds_defE fun e he => ?_))
    have hp : prOf e = r := by rw [he]; exact prOf_on _ r
    have ha : e.ai 1 0 = c.prom.1 := by rw [he]; rfl
    have hb : e.ai 1 1 = c.prom.2 := by rw [he]; rfl
    simp only [hp, ha, hb]
    clear he hp ha hb e
    (repeat' with_reducible (first | refine holds_must hm ?_ | refine holds_must (rowsB_i _ _ _) ?_ | refine holds_must (rowsB_tu _ _) ?_ | refine holds_inI ?_ | refine holds_inB ?_))
    refine holds_leaf ⟨_, _, hI.start ht hk hj, ?_⟩
    (repeat' (first | exact trivial | exact rfl | exact TS.eqv_refl _ _ | exact len_app _ _ | exact rows_appI | exact fun _ _ => eqvL_refl _ _ | exact fun i _ => eqvL_rowNums rfl _ i | apply And.intro))
  · refine holds_defE fun e he => ?_
    have hq : prepE e = c.prepE r.b := by rw [he]; rfl
    simp only [hq]
    clear he hq e
    (repeat' with_reducible (first | refine holds_inI ?_ | refine holds_inB ?_))
    refine holds_ite (fun he => ?_) fun _ => ?_
    · have he : (c.prepE r.b).1.2.2.2 = 0 := by simpa using he
      refine holds_must hm (holds_must hm (holds_inI (holds_inI (holds_ite (fun _ => ?_) fun _ => ?_))))
      · refine holds_must (rowsB_i _ _ _) (holds_must (rowsB_i _ _ _) (holds_defE fun e2 he2 => ?_))
        have hq : promE e2 = r.promise (2 : Nat) r.b (c.prepE r.b).1.1 (c.prepE r.b).1.2.1 (c.prepE r.b).1.2.2.1 := by rw [he2]; exact promE_on r _ _ _ _ _ _ _ _ _ _
        refine holds_must (decide_eq_true (by rw [he2]; exact Nat.le_trans (Nat.le_of_eq (congrArg (fun p : PrS => p.pl.length) (prOf_on _ r))) (Nat.le_trans hl.1 (by decide)))) ?_
        simp only [hq]
        clear he2 hq e2
        (repeat' with_reducible (first | refine holds_must hm ?_ | refine holds_must (rowsB_i _ _ _) ?_ | refine holds_must (rowsB_tu _ _) ?_ | refine holds_inI ?_ | refine holds_inB ?_))
        refine holds_leaf ⟨_, _, (hI.prom hk hj he).mono, ?_⟩
        (repeat' (first | exact trivial | exact rfl | exact TS.eqv_refl _ _ | exact len_app _ _ | exact rows_appI | exact fun _ _ => eqvL_refl _ _ | exact fun i _ => eqvL_rowNums rfl _ i | apply And.intro))
      · (repeat' with_reducible (first | refine holds_must hm ?_ | refine holds_must (rowsB_i _ _ _) ?_ | refine holds_must (rowsB_tu _ _) ?_ | refine holds_inI ?_ | refine holds_inB ?_))
        refine holds_leaf ⟨_, _, (hI.prep hk hj).mono, ?_⟩
        (repeat' (first | exact trivial | exact rfl | exact TS.eqv_refl _ _ | exact len_app _ _ | exact rows_appI | exact fun _ _ => eqvL_refl _ _ | exact fun i _ => eqvL_rowNums rfl _ i | apply And.intro))
    · (repeat' with_reducible (first | refine holds_must hm ?_ | refine holds_must (rowsB_i _ _ _) ?_ | refine holds_must (rowsB_tu _ _) ?_ | refine holds_inI ?_ | refine holds_inB ?_))
      refine holds_leaf ⟨_, _, (hI.prep hk hj).mono, ?_⟩
      (repeat' (first | exact trivial | exact rfl | exact TS.eqv_refl _ _ | exact len_app _ _ | exact rows_appI | exact fun _ _ => eqvL_refl _ _ | exact fun i _ => eqvL_rowNums rfl _ i | apply And.intro))
  · refine holds_defE fun e he => ?_
    have hq : accAE e = c.accE r.b r.value := by rw [he]; rfl
    simp only [hq]
    clear he hq e
    (repeat' with_reducible (first | refine holds_inI ?_ | refine holds_inB ?_))
    refine holds_ite (fun he => ?_) fun _ => ?_
    · have he : (c.accE r.b r.value).1 = 0 := by simpa using he
      refine holds_must hm (holds_must hm (holds_inI (holds_inI (holds_ite (fun _ => ?_) fun _ => ?_))))
      · refine holds_must (rowsB_i _ _ _) (holds_must (rowsB_i _ _ _) (holds_defE fun e2 he2 => ?_))
        have hq : accE e2 = r.accept (2 : Nat) r.b := by rw [he2]; exact accE_on r _ _ _ _
        refine holds_must (decide_eq_true (by rw [he2]; exact Nat.le_trans (Nat.le_of_eq (congrArg (fun p : PrS => p.al.length) (prOf_on _ r))) (Nat.le_trans hl.2 (by decide)))) ?_
        simp only [hq]
        clear he2 hq e2
        (repeat' with_reducible (first | refine holds_must hm ?_ | refine holds_must (rowsB_i _ _ _) ?_ | refine holds_must (rowsB_tu _ _) ?_ | refine holds_inI ?_ | refine holds_inB ?_))
        refine holds_leaf ⟨_, _, (hI.accd hk hj hv he).mono, ?_⟩
        (repeat' (first | exact trivial | exact rfl | exact TS.eqv_refl _ _ | exact len_app _ _ | exact rows_appI | exact fun _ _ => eqvL_refl _ _ | exact fun i _ => eqvL_rowNums rfl _ i | apply And.intro))
      · (repeat' with_reducible (first | refine holds_must hm ?_ | refine holds_must (rowsB_i _ _ _) ?_ | refine holds_must (rowsB_tu _ _) ?_ | refine holds_inI ?_ | refine holds_inB ?_))
        refine holds_leaf ⟨_, _, (hI.acc hk hj hv).mono, ?_⟩
        (repeat' (first | exact trivial | exact rfl | exact TS.eqv_refl _ _ | exact len_app _ _ | exact rows_appI | exact fun _ _ => eqvL_refl _ _ | exact fun i _ => eqvL_rowNums rfl _ i | apply And.intro))
    · (repeat' with_reducible (first | refine holds_must hm ?_ | refine holds_must (rowsB_i _ _ _) ?_ | refine holds_must (rowsB_tu _ _) ?_ | refine holds_inI ?_ | refine holds_inB ?_))
      refine holds_leaf ⟨_, _, (hI.acc hk hj hv).mono, ?_⟩
      (repeat' (first | exact trivial | exact rfl | exact TS.eqv_refl _ _ | exact len_app _ _ | exact rows_appI | exact fun _ _ => eqvL_refl _ _ | exact fun i _ => eqvL_rowNums rfl _ i | apply And.intro))
  · (repeat' with_reducible (first | refine holds_must hm ?_ | refine holds_must (rowsB_i _ _ _) ?_ | refine holds_must (rowsB_tu _ _) ?_ | refine holds_inI ?_ | refine holds_inB ?_))
    refine holds_leaf ⟨_, _, hI.mono, ?_⟩
    (repeat' (first | exact trivial | exact rfl | exact TS.eqv_refl _ _ | exact len_app _ _ | exact rows_appI | exact fun _ _ => eqvL_refl _ _ | exact fun i _ => eqvL_rowNums rfl _ i | apply And.intro))
end Go.Proofs.Ytlcgnjcfihablaa
