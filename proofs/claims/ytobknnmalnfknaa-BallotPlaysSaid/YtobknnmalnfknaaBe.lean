/- BallotNone: what is no ballot, no increment changes nothing.
   Conditions: none. -/
import Derived.Test.YtobknnmalnfknaaBd
import Derived.Lib.SmallJoins
set_option linter.unusedSimpArgs false
set_option linter.unusedVariables false
namespace Go.Proofs.Ytobknnmalnfknaa
open Go.Eng Go.RowKit Go.Joins Go.ChangeShapes Go.WideShapes
set_option maxRecDepth 100000

theorem Try.own : ownKnob Try.prog.godebug = none := by kernel_rfl
theorem Try.laidOut : laidOutB Try.prog = true := by kernel_rfl
def Good (v : AV) : Prop := ∃ b : SB, v = .bool b ∧ b.v = true
theorem Good.den {v : AV} (h : Good v) (E : Env) : Eng.den E v = .bool true := by
  obtain ⟨b, rfl, hb⟩ := h
  simp [Eng.den, hb]

theorem none_tree (who n k o v : Int) : runV Try.prog bdT 300 7 [.int .u8 (.sym who), .int .u32 (.sym n), .agg [.int .u8 (.sym k), .int .u8 (.sym o), .int .i64 (.sym v)]] =
  Tree.ite (decide (n.tmod 3 > 0))
    (Tree.ite (!(prCode 0 0 (n.tmod 3) who == 0) == decide (who < 3)) (Tree.leaf (AV.bool (SB.lit false)))
      (Tree.ite (prOk 0 0 (n.tmod 3) who && false) (Tree.leaf (AV.bool (SB.lit false)))
        (Tree.ite
          ((bif prOk 0 0 (n.tmod 3) who then n.tmod 3 else 0) == n.tmod 3 &&
            (bif prOk 0 0 (n.tmod 3) who then who else 0) == who)
          (Tree.ite (!decide (who < 3) == decide (n.tmod 3 > 0)) (Tree.leaf (AV.bool (SB.lit false)))
            (Tree.ite
              (acCode (bif prOk 0 0 (n.tmod 3) who then n.tmod 3 else 0) (bif prOk 0 0 (n.tmod 3) who then who else 0) 5
                  0 77 o 0 ==
                10)
              (Tree.leaf
                (AV.bool
                  (SB.sym
                    !!((bif
                                acOk (bif prOk 0 0 (n.tmod 3) who then n.tmod 3 else 0)
                                  (bif prOk 0 0 (n.tmod 3) who then who else 0) 5 0 77 o 0 then
                              5
                            else 0) ==
                            0 &&
                          (bif
                                acOk (bif prOk 0 0 (n.tmod 3) who then n.tmod 3 else 0)
                                  (bif prOk 0 0 (n.tmod 3) who then who else 0) 5 0 77 o 0 then
                              0
                            else 0) ==
                            0))))
              (Tree.leaf (AV.bool (SB.lit false)))))
          (Tree.ite (!decide (who < 3) == false) (Tree.leaf (AV.bool (SB.lit false)))
            (Tree.ite
              (acCode (bif prOk 0 0 (n.tmod 3) who then n.tmod 3 else 0) (bif prOk 0 0 (n.tmod 3) who then who else 0) 5
                  0 77 o 0 ==
                10)
              (Tree.leaf
                (AV.bool
                  (SB.sym
                    !!((bif
                                acOk (bif prOk 0 0 (n.tmod 3) who then n.tmod 3 else 0)
                                  (bif prOk 0 0 (n.tmod 3) who then who else 0) 5 0 77 o 0 then
                              5
                            else 0) ==
                            0 &&
                          (bif
                                acOk (bif prOk 0 0 (n.tmod 3) who then n.tmod 3 else 0)
                                  (bif prOk 0 0 (n.tmod 3) who then who else 0) 5 0 77 o 0 then
                              0
                            else 0) ==
                            0))))
              (Tree.leaf (AV.bool (SB.lit false))))))))
    (Tree.ite (!(prCode 0 0 (n.tmod 3) who == 0) == false) (Tree.leaf (AV.bool (SB.lit false)))
      (Tree.ite (prOk 0 0 (n.tmod 3) who && false) (Tree.leaf (AV.bool (SB.lit false)))
        (Tree.ite
          ((bif prOk 0 0 (n.tmod 3) who then n.tmod 3 else 0) == n.tmod 3 &&
            (bif prOk 0 0 (n.tmod 3) who then who else 0) == who)
          (Tree.ite (!false == decide (n.tmod 3 > 0)) (Tree.leaf (AV.bool (SB.lit false)))
            (Tree.ite
              (acCode (bif prOk 0 0 (n.tmod 3) who then n.tmod 3 else 0) (bif prOk 0 0 (n.tmod 3) who then who else 0) 5
                  0 77 o 0 ==
                10)
              (Tree.leaf
                (AV.bool
                  (SB.sym
                    !!((bif
                                acOk (bif prOk 0 0 (n.tmod 3) who then n.tmod 3 else 0)
                                  (bif prOk 0 0 (n.tmod 3) who then who else 0) 5 0 77 o 0 then
                              5
                            else 0) ==
                            0 &&
                          (bif
                                acOk (bif prOk 0 0 (n.tmod 3) who then n.tmod 3 else 0)
                                  (bif prOk 0 0 (n.tmod 3) who then who else 0) 5 0 77 o 0 then
                              0
                            else 0) ==
                            0))))
              (Tree.leaf (AV.bool (SB.lit false)))))
          (Tree.ite
            (acCode (bif prOk 0 0 (n.tmod 3) who then n.tmod 3 else 0) (bif prOk 0 0 (n.tmod 3) who then who else 0) 5 0
                77 o 0 ==
              10)
            (Tree.leaf
              (AV.bool
                (SB.sym
                  !!((bif
                              acOk (bif prOk 0 0 (n.tmod 3) who then n.tmod 3 else 0)
                                (bif prOk 0 0 (n.tmod 3) who then who else 0) 5 0 77 o 0 then
                            5
                          else 0) ==
                          0 &&
                        (bif
                              acOk (bif prOk 0 0 (n.tmod 3) who then n.tmod 3 else 0)
                                (bif prOk 0 0 (n.tmod 3) who then who else 0) 5 0 77 o 0 then
                            0
                          else 0) ==
                          0))))
            (Tree.leaf (AV.bool (SB.lit false))))))) := by kernel_rfl


theorem none_good (who n k o v : Int) (hw : 0 ≤ who) (hn : 0 ≤ n) : (runV Try.prog bdT 300 7 [.int .u8 (.sym who), .int .u32 (.sym n), .agg [.int .u8 (.sym k), .int .u8 (.sym o), .int .i64 (.sym v)]]).Holds Good := by
  rw [none_tree]
  have h3 : 0 ≤ n.tmod 3 := by rw [Int.tmod_eq_emod_of_nonneg hn]; omega
  generalize n.tmod 3 = m at h3
  have e1 : isB 5 0 = true := rfl
  have e2 : ∀ o, isIncB 77 o 0 = false := fun o => rfl
  clear hn
  by_cases hm : m > 0
  · by_cases hw3 : who < 3
    · have hb : isB m who = true := by simp [isB, hm, hw3]
      have hl : lessB m who 0 0 = false := by simp [lessB]; omega
      have f1 : decide (m > 0) = true := by simp [hm]
      have f2 : decide (who < 3) = true := by simp [hw3]
      have f3 : (m == 0) = false := by simp; omega
      simp only [prCode, prOk, acCode, acOk, e1, e2, hb, hl, f1, f2, f3, cond_true, cond_false, Bool.and_true, Bool.true_and, Bool.and_false, Bool.not_false, Bool.not_true, beq_self_eq_true, Bool.false_and]
      exact ⟨_, rfl, _, rfl, rfl⟩
    · have hb : isB m who = false := by simp [isB, hm]; omega
      have f1 : decide (m > 0) = true := by simp [hm]
      have f2 : decide (who < 3) = false := by simp; omega
      have f3 : ((0 : Int) == m) = false := by simp; omega
      simp only [prCode, prOk, acCode, acOk, e1, e2, hb, f1, f2, f3, cond_true, cond_false, Bool.and_true, Bool.true_and, Bool.and_false, Bool.not_false, Bool.not_true, beq_self_eq_true, Bool.false_and]
      exact ⟨_, rfl, _, rfl, rfl⟩
  · have hb : isB m who = false := by simp [isB]; omega
    have hm0 : m = 0 := by omega
    subst hm0
    by_cases h0 : (0 : Int) = who
    · subst h0
      exact ⟨_, rfl, _, rfl, rfl⟩
    · have f3 : ((0 : Int) == who) = false := by simpa using h0
      simp only [prCode, prOk, acCode, acOk, e1, e2, hb, f3, cond_true, cond_false, Bool.and_true, Bool.true_and, Bool.and_false, Bool.not_false, Bool.not_true, beq_self_eq_true, Bool.false_and]
      exact ⟨_, rfl, _, rfl, rfl⟩

theorem none_c (who n k o v : Int) (hw : 0 ≤ who) (hn : 0 ≤ n) (w : World) : Calls Try.prog 7 #[.int .u8 who, .int .u32 n, .agg #[.int .u8 k, .int .u8 o, .int .i64 v]] w fun e w' => e = .returned (.bool true) ∧ Below w.heap.size w w' := by
  obtain ⟨v, h1, h2⟩ := none_good who n k o v hw hn
  refine (pure_calls bdTab mixed h1 w _ fun E => rfl).mono ?_
  rintro e w' ⟨⟨E, rfl⟩, hb⟩
  exact ⟨by rw [h2.den], hb⟩

theorem wf_u8 {n : Int} (h : (Lit.int .u8 n).wf = true) : 0 ≤ n ∧ n < 256 := by
  have e1 : IntKind.u8.min = 0 := rfl
  have e2 : IntKind.u8.max = 255 := rfl
  have e3 : IntKind.u32.min = 0 := rfl
  have e4 : IntKind.u32.max = 4294967295 := rfl
  simp [Lit.wf, e1, e2, e3, e4] at h
  omega
theorem wf_u32 {n : Int} (h : (Lit.int .u32 n).wf = true) : 0 ≤ n ∧ n < 4294967296 := by
  have e1 : IntKind.u8.min = 0 := rfl
  have e2 : IntKind.u8.max = 255 := rfl
  have e3 : IntKind.u32.min = 0 := rfl
  have e4 : IntKind.u32.max = 4294967295 := rfl
  simp [Lit.wf, e1, e2, e3, e4] at h
  omega
theorem pk31 : pkT Try.prog 8 31 = some [.int .u8, .int .u8, .int .i64] := by kernel_rfl
theorem pk29 : pkT Try.prog 8 29 = some [.int .u32, .int .u8] := by kernel_rfl

set_option maxRecDepth 100000 in
theorem none_lifted (os : Os) (started : os.Started) (H : Type) (enc : TypeId × Value → H) :
    ReturnsInHanded {} Try.checked os 7 .any (Rows.ballotNoneSpec.pre6 enc Try.prog Try.f7 Rows.ballotNoneRow.domain false) (Rows.ballotNoneSpec.post enc Try.prog Try.f7 false true false false) := by
  refine law_lifted (C := Try.checked) Try.own started (by kernel_rfl) Try.func7
    (ChangeSpec.witness6 (enc := enc) (C := Try.checked) false ⟨#[], #[.int .u8 0, .int .u32 0, .agg #[.int .u8 0, .int .u8 0, .int .i64 0]], []⟩ 8 (by kernel_rfl) (by kernel_rfl) (by kernel_rfl) (by kernel_rfl))
    Try.laidOut ?_ (B := 4) (by kernel_rfl) (by kernel_rfl) rfl ?_ ?_
  · intro t ht
    rw [Try.params7] at ht
    have : t = 5 ∨ t = 27 ∨ t = 31 := by
      simp at ht
      omega
    rcases this with rfl | rfl | rfl <;> exact ⟨by kernel_rfl, of_decide_eq_true (by kernel_rfl)⟩
  · intro ds h
    rw [Try.params7] at h
    match ds, h with
    | [d1, d2, d3], _ => rfl
  · intro W base args ds p hval hA hlt
    rw [Try.params7] at hA hval
    obtain ⟨v0, v1, v2, d0, d1, d2, p0, p1, p2, rfl, rfl, rfl, h0, h1, h2⟩ := trodAll_three hA
    obtain ⟨a, rfl, _, _, wa⟩ := open_int Try.underlying5 (hval 0 5 v0 rfl rfl) h0
    obtain ⟨b, rfl, _, _, wb⟩ := open_int Try.underlying27 (hval 1 27 v1 rfl rfl) h1
    obtain ⟨n, _, _, hx⟩ := open_plain Try.underlying31 pk31 (hval 2 31 v2 rfl rfl) h2
    rw [hx default]
    exact none_c a b (n 0) (n 1) (n 2) (wf_u8 wa).1 (wf_u32 wb).1 W

theorem ballotNone_holds : Rows.BallotNoneSaid :=
  OpenClaim.holds_of_wide 7 Try.f7 rfl rfl rfl rfl rfl rfl rfl ⟨rfl, rfl, rfl, rfl, rfl⟩ rfl rfl rfl rfl rfl (by kernel_rfl) Try.func7 (by kernel_rfl)
    (of_decide_eq_true (by kernel_rfl)) (by unfold Func.isWrapper; rw [if_neg (by decide +kernel)]; exact ⟨rfl, rfl⟩)
    (fun os started H enc _ => none_lifted os started H enc)

end Go.Proofs.Ytobknnmalnfknaa
