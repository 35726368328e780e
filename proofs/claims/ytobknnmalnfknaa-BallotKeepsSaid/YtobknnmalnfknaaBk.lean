/- BallotKeeps: what was accepted under a ballot is told to each later one, until something greater is accepted.
   Conditions: none. -/
import Derived.Test.YtobknnmalnfknaaBt
import Derived.Test.YtobknnmalnfknaaBd
import Derived.Lib.SmallJoins
set_option linter.unusedSimpArgs false
set_option linter.unusedVariables false
namespace Go.Proofs.Ytobknnmalnfknaa
open Go.Eng Go.RowKit Go.Joins Go.ChangeShapes Go.WideShapes
set_option maxRecDepth 100000

theorem keeps_tree (n xk xo xn yk yo yn w0 w1 w2 : Int) : runV Try.prog bdT 300 6 [.int .u32 (.sym n), .agg [.int .u8 (.sym xk), .int .u8 (.sym xo), .int .i64 (.sym xn)], .agg [.int .u8 (.sym yk), .int .u8 (.sym yo), .int .i64 (.sym yn)], .agg [.int .u8 (.sym w0), .int .u8 (.sym w1), .int .u8 (.sym w2)]] =
  .defI (n.tmod 1000) fun z => .defI (IntKind.u32.wrap (z + 1)) fun z => .defI (xo.tmod 5) fun z_1 => .defI (yo.tmod 5) fun z_2 => .defI (w0.tmod 3) fun z_3 => .defI (IntKind.u32.wrap (z + 1)) fun z_4 => .defI (w1.tmod 3)
  fun z_5 => .defI (IntKind.u32.wrap (z + 2)) fun z_6 => .defI (w2.tmod 3) fun z_7 => .defI (acCode 0 0 z z_3 3 z_1 3) fun z_8 => .defI (bif acOk 0 0 z z_3 3 z_1 3 then z else 0) fun z_9 => .defI (bif acOk 0 0 z z_3 3 z_1
  3 then z_3 else 0) fun z_10 => .defI (bif acOk 0 0 z z_3 3 z_1 3 then z else 0) fun z_11 => .defI (bif acOk 0 0 z z_3 3 z_1 3 then z_3 else 0) fun z_12 => .defI (bif acOk 0 0 z z_3 3 z_1 3 then 3 else 0) fun z_13 =>
  .defI (bif acOk 0 0 z z_3 3 z_1 3 then z_1 else 0) fun z_14 => .defI (bif acOk 0 0 z z_3 3 z_1 3 then 3 else 0) fun z_15 => .defI (bif prOk z_9 z_10 z_4 z_5 then z_11 else 0) fun z_16 => .defI (bif prOk z_9 z_10 z_4 z_5
  then z_12 else 0) fun z_17 => .defI (bif prOk z_9 z_10 z_4 z_5 then z_13 else 0) fun z_18 => .defI (bif prOk z_9 z_10 z_4 z_5 then z_14 else 0) fun z_19 => .defI (bif prOk z_9 z_10 z_4 z_5 then z_15 else 0) fun z_20 =>
  .defI (prCode z_9 z_10 z_4 z_5) fun z_21 => .defI (bif prOk z_9 z_10 z_4 z_5 then z_4 else z_9) fun z_22 => .defI (bif prOk z_9 z_10 z_4 z_5 then z_5 else z_10) fun z_23 => .defI z_11 fun z_24 => .defI z_12 fun z_25 =>
  .defI z_13 fun z_26 => .defI z_14 fun z_27 => .defI z_15 fun z_28 => .defI (acCode z_22 z_23 z z_3 1 z_2 0) fun z_29 => .defI (bif acOk z_22 z_23 z z_3 1 z_2 0 then z else z_22) fun z_30 => .defI (bif acOk z_22 z_23 z
  z_3 1 z_2 0 then z_3 else z_23) fun z_31 => .defI (bif acOk z_22 z_23 z z_3 1 z_2 0 then z else z_24) fun z_32 => .defI (bif acOk z_22 z_23 z z_3 1 z_2 0 then z_3 else z_25) fun z_33 => .defI (bif acOk z_22 z_23 z z_3 1
  z_2 0 then 1 else z_26) fun z_34 => .defI (bif acOk z_22 z_23 z z_3 1 z_2 0 then z_2 else z_27) fun z_35 => .defI (bif acOk z_22 z_23 z z_3 1 z_2 0 then 0 else z_28) fun z_36 => .defI (acCode z_30 z_31 z_4 z_5 1 z_2 0)
  fun z_37 => .defI (bif acOk z_30 z_31 z_4 z_5 1 z_2 0 then z_4 else z_30) fun z_38 => .defI (bif acOk z_30 z_31 z_4 z_5 1 z_2 0 then z_5 else z_31) fun z_39 => .defI (bif acOk z_30 z_31 z_4 z_5 1 z_2 0 then z_4 else
  z_32) fun z_40 => .defI (bif acOk z_30 z_31 z_4 z_5 1 z_2 0 then z_5 else z_33) fun z_41 => .defI (bif acOk z_30 z_31 z_4 z_5 1 z_2 0 then 1 else z_34) fun z_42 => .defI (bif acOk z_30 z_31 z_4 z_5 1 z_2 0 then z_2 else
  z_35) fun z_43 => .defI (bif acOk z_30 z_31 z_4 z_5 1 z_2 0 then 0 else z_36) fun z_44 => .defI (bif prOk z_38 z_39 z_6 z_7 then z_40 else 0) fun z_45 => .defI (bif prOk z_38 z_39 z_6 z_7 then z_41 else 0) fun z_46 =>
  .defI (bif prOk z_38 z_39 z_6 z_7 then z_42 else 0) fun z_47 => .defI (bif prOk z_38 z_39 z_6 z_7 then z_43 else 0) fun z_48 => .defI (bif prOk z_38 z_39 z_6 z_7 then z_44 else 0) fun z_49 => .defI (prCode z_38 z_39 z_6
  z_7) fun z_50 => .defI (bif prOk z_38 z_39 z_6 z_7 then z_6 else z_38) fun z_51 => .defI (bif prOk z_38 z_39 z_6 z_7 then z_7 else z_39) fun z_52 => .defI z_40 fun z_53 => .defI z_41 fun z_54 => .defI z_42 fun z_55 =>
  .defI z_43 fun z_56 => .defI z_44 fun z_57 => .ite (z_8 == 0) (.ite (z_21 == 0) (.ite (prOk z_9 z_10 z_4 z_5 && !(z_11 == 0 && z_12 == 0)) (.ite (z_16 == z && z_17 == z_3) (.ite (z_18 == 3 && (z_19 == z_1 && z_20 == 3))
  (.ite (z_29 == 100) (.ite (z_37 == 0) (.ite (z_50 == 0) (.ite (prOk z_38 z_39 z_6 z_7 && !(z_40 == 0 && z_41 == 0)) (.ite (z_45 == z_4 && z_46 == z_5) (.ite (z_47 == 1 && (z_48 == z_2 && z_49 == 0)) (.leaf (.bool (.sym
  (z_51 == z_6 && z_52 == z_7)))) (.leaf (.bool (.lit false)))) (.leaf (.bool (.lit false)))) (.leaf (.bool (.lit false)))) (.leaf (.bool (.lit false)))) (.leaf (.bool (.lit false)))) (.leaf (.bool (.lit false)))) (.leaf
  (.bool (.lit false)))) (.leaf (.bool (.lit false)))) (.leaf (.bool (.lit false)))) (.leaf (.bool (.lit false)))) (.leaf (.bool (.lit false))) := by kernel_rfl


theorem keeps_good (n xk xo xn yk yo yn w0 w1 w2 : Int) (h1 : 0 ≤ n) (h2 : 0 ≤ xo) (h3 : 0 ≤ yo) (h4 : 0 ≤ w0) (h5 : 0 ≤ w1) (h6 : 0 ≤ w2) :
    (runV Try.prog bdT 300 6 [.int .u32 (.sym n), .agg [.int .u8 (.sym xk), .int .u8 (.sym xo), .int .i64 (.sym xn)], .agg [.int .u8 (.sym yk), .int .u8 (.sym yo), .int .i64 (.sym yn)], .agg [.int .u8 (.sym w0), .int .u8 (.sym w1), .int .u8 (.sym w2)]]).Holds GoodV := by
  rw [keeps_tree]
  refine holds_defI fun z0 e0 => holds_defI fun m e1 => holds_defI fun o e2 => holds_defI fun q e3 => holds_defI fun a e4 => holds_defI fun m1 e5 => holds_defI fun b e6 => holds_defI fun m2 e7 => holds_defI fun c e8 => ?_
  have g0 := tmod_in 1000 h1 (by decide)
  have g2 := tmod_in 5 h2 (by decide)
  have g3 := tmod_in 5 h3 (by decide)
  have g4 := tmod_in 3 h4 (by decide)
  have g5 := tmod_in 3 h5 (by decide)
  have g6 := tmod_in 3 h6 (by decide)
  rw [← e0] at g0
  rw [← e2] at g2
  rw [← e3] at g3
  rw [← e4] at g4
  rw [← e6] at g5
  rw [← e8] at g6
  rw [IntWalk.u32_in _ (by omega)] at e1
  rw [IntWalk.u32_in _ (by omega)] at e5 e7
  have a1 : acOk 0 0 m a 3 o 3 = true := by simp [acOk, isB, isIncB, lessB]; omega
  have a2 : acCode 0 0 m a 3 o 3 = 0 := by
    have b1 : isB m a = true := by simp [isB]; omega
    have b2 : isIncB 3 o 3 = true := by simp [isIncB]; omega
    have b3 : lessB m a 0 0 = false := by simp [lessB]; omega
    simp [acCode, b1, b2, b3]
  have k1 : isB m1 b = true := by simp [isB]; omega
  have k2 : lessB m1 b m a = false := by simp [lessB]; omega
  have a3 : prOk m a m1 b = true := by simp [prOk, k1, k2]
  have a4 : prCode m a m1 b = 0 := by simp [prCode, k1, k2]
  have k3 : lessB m a m1 b = true := by simp [lessB]; omega
  have k4 : isIncB 1 q 0 = true := by simp [isIncB]; omega
  have k5 : isB m a = true := by simp [isB]; omega
  have a5 : acOk m1 b m a 1 q 0 = false := by simp [acOk, k3, k4, k5]
  have a6 : acCode m1 b m a 1 q 0 = 100 := by simp [acCode, k3, k4, k5]
  have k6 : lessB m1 b m1 b = false := by simp [lessB]
  have a7 : acOk m1 b m1 b 1 q 0 = true := by simp [acOk, k1, k4, k6]
  have a8 : acCode m1 b m1 b 1 q 0 = 0 := by simp [acCode, k1, k4, k6]
  have k7 : isB m2 c = true := by simp [isB]; omega
  have k8 : lessB m2 c m1 b = false := by simp [lessB]; omega
  have a9 : prOk m1 b m2 c = true := by simp [prOk, k7, k8]
  have a10 : prCode m1 b m2 c = 0 := by simp [prCode, k7, k8]
  have m0 : m ≠ 0 := by omega
  have m10 : m1 ≠ 0 := by omega
  clear e0 e1 e2 e3 e4 e5 e6 e7 e8
  repeat (refine holds_defI fun z e => ?_; simp only [a1, a2, a3, a4, a5, a6, a7, a8, a9, a10, cond_true, cond_false] at e; subst e)
  repeat (first | refine holds_ite (fun h => ?_) (fun h => ?_) | refine good_sym ?_)
  all_goals (simp_all)

set_option maxRecDepth 100000 in
theorem keeps_lifted (os : Os) (started : os.Started) (H : Type) (enc : TypeId × Value → H) :
    ReturnsInHanded {} Try.checked os 6 .any (Rows.ballotKeepsSpec.pre6 enc Try.prog Try.f6 Rows.ballotKeepsRow.domain false) (Rows.ballotKeepsSpec.post enc Try.prog Try.f6 false true false false) := by
  refine law_lifted (C := Try.checked) Try.own started (by kernel_rfl) Try.func6
    (ChangeSpec.witness6 (enc := enc) (C := Try.checked) false ⟨#[], #[.int .u32 0, .agg #[.int .u8 0, .int .u8 0, .int .i64 0], .agg #[.int .u8 0, .int .u8 0, .int .i64 0], .agg #[.int .u8 0, .int .u8 0, .int .u8 0]], []⟩ 8 (by kernel_rfl) (by kernel_rfl) (by kernel_rfl) (by kernel_rfl))
    Try.laidOut ?_ (B := 4) (by kernel_rfl) (by kernel_rfl) rfl ?_ ?_
  · intro t ht
    rw [Try.params6] at ht
    have : t = 27 ∨ t = 31 ∨ t = 48 := by
      simp at ht
      omega
    rcases this with rfl | rfl | rfl <;> exact ⟨by kernel_rfl, of_decide_eq_true (by kernel_rfl)⟩
  · intro ds h
    rw [Try.params6] at h
    match ds, h with
    | [d1, d2, d3, d4], _ => rfl
  · intro W base args ds p hval hA hlt
    rw [Try.params6] at hA hval
    obtain ⟨v0, v1, v2, v3, d0, d1, d2, d3, p0, p1, p2, p3, rfl, rfl, rfl, h0, h1, h2, h3⟩ := trodAll_four hA
    obtain ⟨n, rfl, _, _, wn⟩ := open_int Try.underlying27 (hval 0 27 v0 rfl rfl) h0
    obtain ⟨x, _, wx, hx⟩ := open_plain Try.underlying31 pk31 (hval 1 31 v1 rfl rfl) h1
    obtain ⟨y, _, wy, hy⟩ := open_plain Try.underlying31 pk31 (hval 2 31 v2 rfl rfl) h2
    obtain ⟨u, _, wu, hu⟩ := open_plainA Try.underlying48 pk48 (hval 3 48 v3 rfl rfl) h3
    exact law_c bdTab mixed (keeps_good n (x 0) (x 1) (x 2) (y 0) (y 1) (y 2) (u 0) (u 1) (u 2) (wf_u32 wn).1 (wf_u8 wx.2.1).1 (wf_u8 wy.2.1).1 (wf_u8 wu.1).1 (wf_u8 wu.2.1).1 (wf_u8 wu.2.2.1).1) W fun E => by rw [hx E, hy E, hu E]; rfl

theorem ballotKeeps_holds : Rows.BallotKeepsSaid :=
  OpenClaim.holds_of_wide 6 Try.f6 rfl rfl rfl rfl rfl rfl rfl ⟨rfl, rfl, rfl, rfl, rfl⟩ rfl rfl rfl rfl rfl (by kernel_rfl) Try.func6 (by kernel_rfl)
    (of_decide_eq_true (by kernel_rfl)) (by unfold Func.isWrapper; rw [if_neg (by decide +kernel)]; exact ⟨rfl, rfl⟩)
    (fun os started H enc _ => keeps_lifted os started H enc)

end Go.Proofs.Ytobknnmalnfknaa
