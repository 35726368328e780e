/- ClientPlays: a step.
   Conditions: none. -/
import Derived.Test.YtnfmdpelafaoaaaHc
import Derived.Test.YtnfmdpelafaoaaaHb
set_option linter.unusedSimpArgs false
set_option linter.unusedVariables false
namespace Go.Proofs.Ytnfmdpelafaoaaa
open Go.Eng Go.RowKit Go.ChangeShapes Go.WideShapes
set_option maxRecDepth 100000
def cpNs (d : CpS) (i : Int) : EN := cpN d.id d.sq d.o d.bz d.ct d.rt d.an d.r i
def cpK (d : CpS) (k : Int) : Prop := 1 ≤ d.id ∧ d.id ≤ 3 ∧ 0 ≤ d.sq ∧ d.sq ≤ k ∧ 0 ≤ d.o.q ∧ (d.bz = false → d.o = oZ) ∧ 0 ≤ d.rt ∧ d.rt ≤ k ∧ d.ct = d.rt % 3 ∧ (d.an : Int) ≤ k
def cpG (i : Int) : Ex → EN → Prop
  | .normal, e => ∃ d, cpK d (i + 1) ∧ cpL.eqv e (cpNs d i)
  | .ret, e => lawR .ret e
  | .exit _, _ => False
theorem smzz {f : Nat → List Num} : smE ⟨[zL, zL], [.lst 0 f]⟩ = true := by
  unfold smE smB
  rfl
theorem rowsB_ap8 (an : Nat) (r : Nat → List Num) (a b c d e : Int) (s : ByteArray) (f : Int) (t : ByteArray) (z : Nat) (h : z = an + 1 := by simp) : rowsB [.i .u8, .i .u32, .i .u8, .i .u8, .i .u8, .s, .i .u8, .s] (catRows (.sym (an : Int)) (instR [.i .u8, .i .u32, .i .u8, .i .u8, .i .u8, .s, .i .u8, .s] r) (chunk 8 [.int .u8 (.sym a), .int .u32 (.sym b), .int .u8 (.sym c), .int .u8 (.sym d), .int .u8 (.sym e), .str (.sym s), .int .u8 (.sym f), .str (.sym t)])) z = true := by
  subst h
  refine rowsB_cat (fun i _ => rowOk_inst rfl _) fun i hi => ?_
  have hi : i < an + 1 - an := by simpa using hi
  have : i = 0 := by omega
  subst this
  simp [rowOk, chunk, getL, TV.get]
section
variable (id sq : Int) (o : OpS) (ct rt : Int) (an : Nat) (r : Nat → List Num) (i : Int) (c : Nat → Num) (n0 : Nat) (s0 : Nat → List Num) (n1 : Nat) (s1 : Nat → List Num) (n2 : Nat) (s2 : Nat → List Num)
set_option maxHeartbeats 8000000 in
theorem cp_f (h0 : 0 ≤ i) (h60 : i ≤ 60) (hK : cpK ⟨id, sq, o, false, ct, rt, an, r⟩ i) (τ0 : Tm) :
    (codeT Try.prog eeT 300 5 Try.f5.ntmps (Eng.ofL [(flat y5).getD 3 .skip]) ((cpSL false).tm (cpM id sq o false ct rt an r i c n0 s0 n1 s1 n2 s2) ++ τ0) ((cpSL false).heap (cpM id sq o false ct rt an r i c n0 s0 n1 s1 n2 s2)) 11 (outX 1 ⟨some cpL, [], some (lawT 4)⟩)).Holds fun r => cpG i r.1 r.2 := by
  obtain ⟨k1, k2, k3, k4, k5, k6, k7, k8, k9, k10⟩ := hK
  dsimp only at k1 k2 k3 k4 k5 k6 k7 k8 k9 k10
  have S0 : ∀ e, cpL.eqv e (cpN id sq o false ct rt an r i) → cpG i .normal e := fun e he => ⟨⟨id, sq, o, false, ct, rt, an, r⟩, ⟨k1, k2, k3, by show sq ≤ i + 1; omega, k5, k6, k7, by show rt ≤ i + 1; omega, k9, by show (an : Int) ≤ i + 1; omega⟩, he⟩
  have wct : IntKind.i64.wrap (ct + 1) = ct + 1 := IntWalk.i64_in _ (by omega)
  have wrt : IntKind.i64.wrap (rt + 1) = rt + 1 := IntWalk.i64_in _ (by omega)
  have tct : (ct + 1).tmod 3 = (rt + 1) % 3 := by rw [Int.tmod_eq_emod_of_nonneg (by omega)]; omega
  have trt : (rt + 1).tmod 3 = (rt + 1) % 3 := Int.tmod_eq_emod_of_nonneg (by omega)
  have S1 : ∀ e, cpL.eqv e (cpN id sq o false ((rt + 1) % 3) (rt + 1) an r i) → cpG i .normal e := fun e he => ⟨⟨id, sq, o, false, (rt + 1) % 3, rt + 1, an, r⟩, ⟨k1, k2, k3, by show sq ≤ i + 1; omega, k5, k6, by show 0 ≤ rt + 1; omega, by show rt + 1 ≤ i + 1; omega, rfl, by show (an : Int) ≤ i + 1; omega⟩, he⟩
  have wsq : IntKind.u32.wrap (sq + 1) = sq + 1 := IntWalk.u32_in _ (by omega)
  have S2 : ∀ e, cpL.eqv e (cpN id (sq + 1) ⟨id, sq + 1, (c 3).I, (c 4).I, (c 5).I, (c 6).S⟩ true ct rt an r i) → cpG i .normal e := fun e he => ⟨⟨id, sq + 1, ⟨id, sq + 1, (c 3).I, (c 4).I, (c 5).I, (c 6).S⟩, true, ct, rt, an, r⟩, ⟨k1, k2, by show 0 ≤ sq + 1; omega, by show sq + 1 ≤ i + 1; omega, by show 0 ≤ sq + 1; omega, (fun h => by cases h), k7, by show rt ≤ i + 1; omega, k9, by show (an : Int) ≤ i + 1; omega⟩, he⟩
  have hcap : decide (((an : Int) + 1) * 56 ≤ 1099511627776 ∧ (an : Int) + 1 ≤ 1099511627776) = true := decide_eq_true (by omega)
  have hop := isOp_eq (opE ⟨[[.i id, .i (sq + 1), .i (c 3).I, .i (c 4).I, .i (c 5).I, .s (c 6).S]], []⟩ 0 0) (by show 0 ≤ sq + 1; omega)
  refine holds_of_eq (cp_b2f id sq o ct rt an r i c n0 s0 n1 s1 n2 s2 τ0) (holds_ite (fun hA => ?_) fun hA => holds_ite (fun hB => ?_) fun hB => holds_ite (fun hC => ?_) fun hC => ?_)
  · rcases Bool.eq_false_or_eq_true (isOpB (opE ⟨[[.i id, .i (sq + 1), .i (c 3).I, .i (c 4).I, .i (c 5).I, .s (c 6).S]], []⟩ 0 0)) with hb | hb
    · (repeat' with_reducible (first | refine holds_inI ?_ | refine holds_inE ?_ | refine holds_must hcap ?_ | refine holds_must (raB_ok _ _) ?_ | refine holds_must (rbE_ok _ _) ?_ | refine holds_must (rowsB_ap8 _ _ _ _ _ _ _ _ _ _ _) ?_ | refine holds_ite (fun h => absurd h (by decide)) (fun _ => ?_) | refine holds_ite (fun _ => ?_) (fun h => absurd h (by decide)) | (simp only [wsq, hop, hb, ba_self, beq_self_eq_true, bne_self_eq_false, Bool.and_self, Bool.and_true, Bool.true_and, Bool.and_false, Bool.false_and, Bool.not_true, Bool.not_false, smzz])))
      refine holds_leaf (S2 _ ?_)
      (repeat' (first | exact trivial | exact rfl | exact TS.eqv_refl _ _ | exact len_app _ _ | exact rows_appI | exact fun _ _ => eqvL_refl _ _ | exact fun i _ => eqvL_rowNums rfl _ i | apply And.intro))
    · (repeat' with_reducible (first | refine holds_inI ?_ | refine holds_inE ?_ | refine holds_must hcap ?_ | refine holds_must (raB_ok _ _) ?_ | refine holds_must (rbE_ok _ _) ?_ | refine holds_must (rowsB_ap8 _ _ _ _ _ _ _ _ _ _ _) ?_ | refine holds_ite (fun h => absurd h (by decide)) (fun _ => ?_) | refine holds_ite (fun _ => ?_) (fun h => absurd h (by decide)) | (simp only [wsq, hop, hb, ba_self, beq_self_eq_true, bne_self_eq_false, Bool.and_self, Bool.and_true, Bool.true_and, Bool.and_false, Bool.false_and, Bool.not_true, Bool.not_false, smzz])))
      refine holds_leaf (S0 _ ?_)
      (repeat' (first | exact trivial | exact rfl | exact TS.eqv_refl _ _ | exact len_app _ _ | exact rows_appI | exact fun _ _ => eqvL_refl _ _ | exact fun i _ => eqvL_rowNums rfl _ i | apply And.intro))
  · (repeat' with_reducible (first | refine holds_must (raB_ok _ _) ?_))
    refine holds_leaf (S0 _ ?_)
    (repeat' (first | exact trivial | exact rfl | exact TS.eqv_refl _ _ | exact len_app _ _ | exact rows_appI | exact fun _ _ => eqvL_refl _ _ | exact fun i _ => eqvL_rowNums rfl _ i | apply And.intro))
  · (repeat' with_reducible (first | refine holds_inI ?_ | refine holds_must (raB_ok _ _) ?_ | refine holds_ite (fun _ => ?_) (fun _ => ?_)))
    all_goals rw [wct, tct, wrt]
    all_goals refine holds_leaf (S1 _ ?_)
    all_goals (repeat' (first | exact trivial | exact rfl | exact TS.eqv_refl _ _ | exact len_app _ _ | exact rows_appI | exact fun _ _ => eqvL_refl _ _ | exact fun i _ => eqvL_rowNums rfl _ i | apply And.intro))
  · (repeat' with_reducible (first | refine holds_inI ?_ | refine holds_inE ?_ | refine holds_must (raB_ok _ _) ?_ | refine holds_must (rbE_ok _ _) ?_ | refine holds_ite (fun _ => ?_) (fun _ => ?_)))
    all_goals refine holds_leaf (S0 _ ?_)
    all_goals (repeat' (first | exact trivial | exact rfl | exact TS.eqv_refl _ _ | exact len_app _ _ | exact rows_appI | exact fun _ _ => eqvL_refl _ _ | exact fun i _ => eqvL_rowNums rfl _ i | apply And.intro))
set_option maxHeartbeats 16000000 in
theorem cp_t (h0 : 0 ≤ i) (h60 : i ≤ 60) (hq : 0 ≤ (c 131).I) (hK : cpK ⟨id, sq, o, true, ct, rt, an, r⟩ i) (τ0 : Tm) :
    (codeT Try.prog eeT 300 5 Try.f5.ntmps (Eng.ofL [(flat y5).getD 3 .skip]) ((cpSL true).tm (cpM id sq o true ct rt an r i c n0 s0 n1 s1 n2 s2) ++ τ0) ((cpSL true).heap (cpM id sq o true ct rt an r i c n0 s0 n1 s1 n2 s2)) 11 (outX 1 ⟨some cpL, [], some (lawT 4)⟩)).Holds fun r => cpG i r.1 r.2 := by
  obtain ⟨k1, k2, k3, k4, k5, k6, k7, k8, k9, k10⟩ := hK
  dsimp only at k1 k2 k3 k4 k5 k6 k7 k8 k9 k10
  have S0 : ∀ e, cpL.eqv e (cpN id sq o true ct rt an r i) → cpG i .normal e := fun e he => ⟨⟨id, sq, o, true, ct, rt, an, r⟩, ⟨k1, k2, k3, by show sq ≤ i + 1; omega, k5, k6, k7, by show rt ≤ i + 1; omega, k9, by show (an : Int) ≤ i + 1; omega⟩, he⟩
  have wct : IntKind.i64.wrap (ct + 1) = ct + 1 := IntWalk.i64_in _ (by omega)
  have wrt : IntKind.i64.wrap (rt + 1) = rt + 1 := IntWalk.i64_in _ (by omega)
  have tct : (ct + 1).tmod 3 = (rt + 1) % 3 := by rw [Int.tmod_eq_emod_of_nonneg (by omega)]; omega
  have trt : (rt + 1).tmod 3 = (rt + 1) % 3 := Int.tmod_eq_emod_of_nonneg (by omega)
  have S1 : ∀ e, cpL.eqv e (cpN id sq o true ((rt + 1) % 3) (rt + 1) an r i) → cpG i .normal e := fun e he => ⟨⟨id, sq, o, true, (rt + 1) % 3, rt + 1, an, r⟩, ⟨k1, k2, k3, by show sq ≤ i + 1; omega, k5, k6, by show 0 ≤ rt + 1; omega, by show rt + 1 ≤ i + 1; omega, rfl, by show (an : Int) ≤ i + 1; omega⟩, he⟩
  have S3 : ∀ r' e, cpL.eqv e (cpN id sq oZ false ct rt (an + 1) r' i) → cpG i .normal e := fun r' e he => ⟨⟨id, sq, oZ, false, ct, rt, an + 1, r'⟩, ⟨k1, k2, k3, by show sq ≤ i + 1; omega, Int.le_refl _, fun _ => rfl, k7, by show rt ≤ i + 1; omega, k9, by show ((an + 1 : Nat) : Int) ≤ i + 1; omega⟩, he⟩
  have hcap : decide (((an : Int) + 1) * 56 ≤ 1099511627776 ∧ (an : Int) + 1 ≤ 1099511627776) = true := decide_eq_true (by omega)
  have hcan : ((an : Int) + 1).toNat = an + 1 := by omega
  refine holds_of_eq (cp_b2t id sq o ct rt an r i c n0 s0 n1 s1 n2 s2 τ0) (holds_ite (fun hA => ?_) fun hA => holds_ite (fun hB => ?_) fun hB => holds_ite (fun hC => ?_) fun hC => holds_ite (fun hD => ?_) fun hD => ?_)
  · (repeat' with_reducible (first | refine holds_must (raB_ok _ _) ?_))
    refine holds_leaf (S0 _ ?_)
    (repeat' (first | exact trivial | exact rfl | exact TS.eqv_refl _ _ | exact len_app _ _ | exact rows_appI | exact fun _ _ => eqvL_refl _ _ | exact fun i _ => eqvL_rowNums rfl _ i | apply And.intro))
  · (repeat' with_reducible (first | refine holds_inI ?_ | refine holds_inE ?_ | refine holds_must hcap ?_ | refine holds_must (raB_ok _ _) ?_ | refine holds_must (rbE_ok _ _) ?_ | refine holds_must (rowsB_ap8 _ _ _ _ _ _ _ _ _ _ _) ?_ | refine holds_ite (fun h => absurd h (by decide)) (fun _ => ?_) | refine holds_ite (fun _ => ?_) (fun h => absurd h (by decide)) | (simp only [ba_self, beq_self_eq_true, bne_self_eq_false, Bool.and_self, Bool.and_true, Bool.true_and, Bool.and_false, Bool.false_and, Bool.not_true, Bool.not_false, smzz])))
    refine holds_leaf (S0 _ ?_)
    (repeat' (first | exact trivial | exact rfl | exact TS.eqv_refl _ _ | exact len_app _ _ | exact rows_appI | exact fun _ _ => eqvL_refl _ _ | exact fun i _ => eqvL_rowNums rfl _ i | apply And.intro))
  · by_cases h3 : (rt + 1) % 3 = 0
    · have hd1 : decide ((rt + 1) % 3 > 0) = false := decide_eq_false (by omega)
      have hd2 : ((rt + 1) % 3 == 0) = true := beq_iff_eq.2 h3
      (repeat' with_reducible (first | refine holds_inI ?_ | refine holds_inE ?_ | refine holds_must hcap ?_ | refine holds_must (raB_ok _ _) ?_ | refine holds_must (rbE_ok _ _) ?_ | refine holds_must (rowsB_ap8 _ _ _ _ _ _ _ _ _ _ _) ?_ | refine holds_ite (fun h => absurd h (by decide)) (fun _ => ?_) | refine holds_ite (fun _ => ?_) (fun h => absurd h (by decide)) | (simp only [wct, wrt, tct, trt, hd1, hd2, ba_self, beq_self_eq_true, bne_self_eq_false, Bool.and_self, Bool.and_true, Bool.true_and, Bool.and_false, Bool.false_and, Bool.not_true, Bool.not_false, smzz])))
      refine holds_leaf (S1 _ ?_)
      (repeat' (first | exact trivial | exact rfl | exact TS.eqv_refl _ _ | exact len_app _ _ | exact rows_appI | exact fun _ _ => eqvL_refl _ _ | exact fun i _ => eqvL_rowNums rfl _ i | apply And.intro))
    · have hd1 : decide ((rt + 1) % 3 > 0) = true := decide_eq_true (by omega)
      have hd2 : ((rt + 1) % 3 == 0) = false := beq_eq_false_iff_ne.2 h3
      (repeat' with_reducible (first | refine holds_inI ?_ | refine holds_inE ?_ | refine holds_must hcap ?_ | refine holds_must (raB_ok _ _) ?_ | refine holds_must (rbE_ok _ _) ?_ | refine holds_must (rowsB_ap8 _ _ _ _ _ _ _ _ _ _ _) ?_ | refine holds_ite (fun h => absurd h (by decide)) (fun _ => ?_) | refine holds_ite (fun _ => ?_) (fun h => absurd h (by decide)) | (simp only [wct, wrt, tct, trt, hd1, hd2, ba_self, beq_self_eq_true, bne_self_eq_false, Bool.and_self, Bool.and_true, Bool.true_and, Bool.and_false, Bool.false_and, Bool.not_true, Bool.not_false, smzz])))
      refine holds_leaf (S1 _ ?_)
      (repeat' (first | exact trivial | exact rfl | exact TS.eqv_refl _ _ | exact len_app _ _ | exact rows_appI | exact fun _ _ => eqvL_refl _ _ | exact fun i _ => eqvL_rowNums rfl _ i | apply And.intro))
  · have hop := is_eq (rpE (IntKind.u8.wrap (20 + id)) o c) rfl k5
    rcases Bool.eq_false_or_eq_true (is24 (rpE (IntKind.u8.wrap (20 + id)) o c)) with hb | hb
    · (repeat' with_reducible (first | refine holds_inI ?_ | refine holds_inE ?_ | refine holds_must hcap ?_ | refine holds_must (raB_ok _ _) ?_ | refine holds_must (rbE_ok _ _) ?_ | refine holds_must (rowsB_ap8 _ _ _ _ _ _ _ _ _ _ _) ?_ | refine holds_ite (fun h => absurd h (by decide)) (fun _ => ?_) | refine holds_ite (fun _ => ?_) (fun h => absurd h (by decide)) | (simp only [hop, hb, ba_self, beq_self_eq_true, bne_self_eq_false, Bool.and_self, Bool.and_true, Bool.true_and, Bool.and_false, Bool.false_and, Bool.not_true, Bool.not_false, smzz])))
      rw [hcan]
      refine holds_leaf (S3 (rowNums [.i .u8, .i .u32, .i .u8, .i .u8, .i .u8, .s, .i .u8, .s] (catRows (.sym (an : Int)) (instR [.i .u8, .i .u32, .i .u8, .i .u8, .i .u8, .s, .i .u8, .s] r) (chunk 8 [.int .u8 (.sym o.c), .int .u32 (.sym o.q), .int .u8 (.sym o.k), .int .u8 (.sym o.o), .int .u8 (.sym o.a), .str (SS.sym o.d), .int .u8 (.sym (c 138).I), .str (SS.sym (c 139).S)]))) _ ?_)
      (repeat' (first | exact trivial | exact rfl | exact TS.eqv_refl _ _ | exact len_app _ _ | exact rows_appI | exact fun _ _ => eqvL_refl _ _ | exact fun i _ => eqvL_rowNums rfl _ i | apply And.intro))
    · (repeat' with_reducible (first | refine holds_inI ?_ | refine holds_inE ?_ | refine holds_must hcap ?_ | refine holds_must (raB_ok _ _) ?_ | refine holds_must (rbE_ok _ _) ?_ | refine holds_must (rowsB_ap8 _ _ _ _ _ _ _ _ _ _ _) ?_ | refine holds_ite (fun h => absurd h (by decide)) (fun _ => ?_) | refine holds_ite (fun _ => ?_) (fun h => absurd h (by decide)) | (simp only [hop, hb, ba_self, beq_self_eq_true, bne_self_eq_false, Bool.and_self, Bool.and_true, Bool.true_and, Bool.and_false, Bool.false_and, Bool.not_true, Bool.not_false, smzz])))
      refine holds_leaf (S0 _ ?_)
      (repeat' (first | exact trivial | exact rfl | exact TS.eqv_refl _ _ | exact len_app _ _ | exact rows_appI | exact fun _ _ => eqvL_refl _ _ | exact fun i _ => eqvL_rowNums rfl _ i | apply And.intro))
  · by_cases hk : (c 7).I = 16
    · have hk2 : ((c 7).I != 16) = false := by rw [hk]; rfl
      have hop := is_eq (meE c n0 s0 n1 s1 n2 s2) hk hq
      rcases Bool.eq_false_or_eq_true (is24 (meE c n0 s0 n1 s1 n2 s2)) with hb | hb
      · rcases Bool.eq_false_or_eq_true ((c 9).I != IntKind.u8.wrap (20 + id)) with hto | hto
        · (repeat' with_reducible (first | refine holds_inI ?_ | refine holds_inE ?_ | refine holds_must hcap ?_ | refine holds_must (raB_ok _ _) ?_ | refine holds_must (rbE_ok _ _) ?_ | refine holds_must (rowsB_ap8 _ _ _ _ _ _ _ _ _ _ _) ?_ | refine holds_ite (fun h => absurd h (by decide)) (fun _ => ?_) | refine holds_ite (fun _ => ?_) (fun h => absurd h (by decide)) | (simp only [hk2, hto, hop, hb, ba_self, beq_self_eq_true, bne_self_eq_false, Bool.and_self, Bool.and_true, Bool.true_and, Bool.and_false, Bool.false_and, Bool.not_true, Bool.not_false, smzz])))
          refine holds_leaf (S0 _ ?_)
          (repeat' (first | exact trivial | exact rfl | exact TS.eqv_refl _ _ | exact len_app _ _ | exact rows_appI | exact fun _ _ => eqvL_refl _ _ | exact fun i _ => eqvL_rowNums rfl _ i | apply And.intro))
        · rcases Bool.eq_false_or_eq_true ((c 130).I == o.c && ((c 131).I == o.q && ((c 132).I == o.k && ((c 133).I == o.o && ((c 134).I == o.a && (c 135).S == o.d))))) with ho | ho
          · (repeat' with_reducible (first | refine holds_inI ?_ | refine holds_inE ?_ | refine holds_must hcap ?_ | refine holds_must (raB_ok _ _) ?_ | refine holds_must (rbE_ok _ _) ?_ | refine holds_must (rowsB_ap8 _ _ _ _ _ _ _ _ _ _ _) ?_ | refine holds_ite (fun h => absurd h (by decide)) (fun _ => ?_) | refine holds_ite (fun _ => ?_) (fun h => absurd h (by decide)) | (simp only [hk2, hto, ho, hop, hb, ba_self, beq_self_eq_true, bne_self_eq_false, Bool.and_self, Bool.and_true, Bool.true_and, Bool.and_false, Bool.false_and, Bool.not_true, Bool.not_false, smzz])))
            rw [hcan]
            refine holds_leaf (S3 (rowNums [.i .u8, .i .u32, .i .u8, .i .u8, .i .u8, .s, .i .u8, .s] (catRows (.sym (an : Int)) (instR [.i .u8, .i .u32, .i .u8, .i .u8, .i .u8, .s, .i .u8, .s] r) (chunk 8 [.int .u8 (.sym (c 130).I), .int .u32 (.sym (c 131).I), .int .u8 (.sym (c 132).I), .int .u8 (.sym (c 133).I), .int .u8 (.sym (c 134).I), .str (SS.sym (c 135).S), .int .u8 (.sym (c 136).I), .str (SS.sym (c 137).S)]))) _ ?_)
            (repeat' (first | exact trivial | exact rfl | exact TS.eqv_refl _ _ | exact len_app _ _ | exact rows_appI | exact fun _ _ => eqvL_refl _ _ | exact fun i _ => eqvL_rowNums rfl _ i | apply And.intro))
          · (repeat' with_reducible (first | refine holds_inI ?_ | refine holds_inE ?_ | refine holds_must hcap ?_ | refine holds_must (raB_ok _ _) ?_ | refine holds_must (rbE_ok _ _) ?_ | refine holds_must (rowsB_ap8 _ _ _ _ _ _ _ _ _ _ _) ?_ | refine holds_ite (fun h => absurd h (by decide)) (fun _ => ?_) | refine holds_ite (fun _ => ?_) (fun h => absurd h (by decide)) | (simp only [hk2, hto, ho, hop, hb, ba_self, beq_self_eq_true, bne_self_eq_false, Bool.and_self, Bool.and_true, Bool.true_and, Bool.and_false, Bool.false_and, Bool.not_true, Bool.not_false, smzz])))
            refine holds_leaf (S0 _ ?_)
            (repeat' (first | exact trivial | exact rfl | exact TS.eqv_refl _ _ | exact len_app _ _ | exact rows_appI | exact fun _ _ => eqvL_refl _ _ | exact fun i _ => eqvL_rowNums rfl _ i | apply And.intro))
      · (repeat' with_reducible (first | refine holds_inI ?_ | refine holds_inE ?_ | refine holds_must hcap ?_ | refine holds_must (raB_ok _ _) ?_ | refine holds_must (rbE_ok _ _) ?_ | refine holds_must (rowsB_ap8 _ _ _ _ _ _ _ _ _ _ _) ?_ | refine holds_ite (fun h => absurd h (by decide)) (fun _ => ?_) | refine holds_ite (fun _ => ?_) (fun h => absurd h (by decide)) | (simp only [hk2, hop, hb, ba_self, beq_self_eq_true, bne_self_eq_false, Bool.and_self, Bool.and_true, Bool.true_and, Bool.and_false, Bool.false_and, Bool.not_true, Bool.not_false, smzz])))
        refine holds_leaf (S0 _ ?_)
        (repeat' (first | exact trivial | exact rfl | exact TS.eqv_refl _ _ | exact len_app _ _ | exact rows_appI | exact fun _ _ => eqvL_refl _ _ | exact fun i _ => eqvL_rowNums rfl _ i | apply And.intro))
    · have hk2 : ((c 7).I != 16) = true := bne_iff_ne.2 hk
      rcases Bool.eq_false_or_eq_true (is24 (meE c n0 s0 n1 s1 n2 s2)) with hb | hb <;> rcases Bool.eq_false_or_eq_true (is28 (meE c n0 s0 n1 s1 n2 s2)) with hop | hop
      all_goals (repeat' with_reducible (first | refine holds_inI ?_ | refine holds_inE ?_ | refine holds_must hcap ?_ | refine holds_must (raB_ok _ _) ?_ | refine holds_must (rbE_ok _ _) ?_ | refine holds_must (rowsB_ap8 _ _ _ _ _ _ _ _ _ _ _) ?_ | refine holds_ite (fun h => absurd h (by decide)) (fun _ => ?_) | refine holds_ite (fun _ => ?_) (fun h => absurd h (by decide)) | (simp only [hk2, hop, hb, ba_self, beq_self_eq_true, bne_self_eq_false, Bool.and_self, Bool.and_true, Bool.true_and, Bool.and_false, Bool.false_and, Bool.not_true, Bool.not_false, smzz])))
      all_goals refine holds_leaf (S0 _ ?_)
      all_goals (repeat' (first | exact trivial | exact rfl | exact TS.eqv_refl _ _ | exact len_app _ _ | exact rows_appI | exact fun _ _ => eqvL_refl _ _ | exact fun i _ => eqvL_rowNums rfl _ i | apply And.intro))
end
end Go.Proofs.Ytnfmdpelafaoaaa
