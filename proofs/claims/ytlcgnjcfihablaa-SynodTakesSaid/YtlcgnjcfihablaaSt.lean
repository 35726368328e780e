/- SynodTakes: of promises the value of the greatest ballot counts; of none its own wish.
   Conditions: none. -/
import Derived.Test.YtlcgnjcfihablaaSb
import Derived.Carry
set_option linter.unusedSimpArgs false
set_option linter.unusedVariables false
namespace Go.Proofs.Ytlcgnjcfihablaa
open Go.Eng Go.RowKit Go.ChangeShapes Go.WideShapes
set_option maxRecDepth 100000
theorem takes_t (k0 o0 n0 k1 o1 n1 k2 o2 n2 n m : Int) (a b : Bool) : runV Try.prog sbT 1000 3 [.agg [.int .u8 (.sym k0), .int .u8 (.sym o0), .int .i64 (.sym n0), .int .u8 (.sym k1), .int .u8 (.sym o1), .int .i64 (.sym n1), .int .u8 (.sym k2), .int .u8 (.sym o2), .int .i64 (.sym n2)], .int .u32 (.sym n), .int .u32 (.sym m), .agg [.bool (.sym a), .bool (.sym b)]] =
  .defI (o0.tmod 5) fun z0 => .defI (o1.tmod 5) fun z1 => .defI (o2.tmod 5) fun z2 => .defI (n.tmod 1000) fun z3 => .defI (IntKind.u32.wrap (z3 + 1)) fun z4 => .defI (m.tmod 1000) fun z5 => .defI (IntKind.u32.wrap (z5 +
  1)) fun z6 => .must true (.ite false (.must true (.ite false (.leaf (.bool (.lit false))) (.ite b (.leaf (.bool (.lit false))) (.leaf (.bool (.lit false)))))) (.ite a (.must true (.ite false (.leaf (.bool (.lit false)))
  (.ite b (.ite (decide (z4 < z6)) (.ite a (.ite b (.ite (decide (z4 > z6)) (.leaf (.bool (.lit false))) (.ite b (.ite (z2 == z2) (.must true (.ite false (.must true (.ite false (.leaf (.bool (.lit false))) (.leaf (.bool
  (.lit false))))) (.must true (.ite false (.leaf (.bool (.lit false))) (.leaf (.bool (.lit true))))))) (.leaf (.bool (.lit false)))) (.ite a (.leaf (.bool (.lit false))) (.leaf (.bool (.lit false)))))) (.ite b (.ite (z2
  == z2) (.must true (.ite false (.must true (.ite false (.leaf (.bool (.lit false))) (.leaf (.bool (.lit false))))) (.must true (.ite false (.leaf (.bool (.lit false))) (.leaf (.bool (.lit true))))))) (.leaf (.bool (.lit
  false)))) (.ite a (.leaf (.bool (.lit false))) (.leaf (.bool (.lit false)))))) (.ite b (.ite (z2 == z2) (.must true (.ite false (.must true (.ite false (.leaf (.bool (.lit false))) (.leaf (.bool (.lit false))))) (.must
  true (.ite false (.leaf (.bool (.lit false))) (.leaf (.bool (.lit true))))))) (.leaf (.bool (.lit false)))) (.ite a (.leaf (.bool (.lit false))) (.leaf (.bool (.lit false)))))) (.ite (z4 == z6) (.ite a (.ite b (.ite
  (decide (z4 > z6)) (.leaf (.bool (.lit false))) (.ite b (.ite (z2 == z2) (.must true (.ite false (.must true (.ite false (.leaf (.bool (.lit false))) (.leaf (.bool (.lit false))))) (.must true (.ite false (.leaf (.bool
  (.lit false))) (.leaf (.bool (.lit true))))))) (.leaf (.bool (.lit false)))) (.ite a (.leaf (.bool (.lit false))) (.leaf (.bool (.lit false)))))) (.ite b (.ite (z2 == z2) (.must true (.ite false (.must true (.ite false
  (.leaf (.bool (.lit false))) (.leaf (.bool (.lit false))))) (.must true (.ite false (.leaf (.bool (.lit false))) (.leaf (.bool (.lit true))))))) (.leaf (.bool (.lit false)))) (.ite a (.leaf (.bool (.lit false))) (.leaf
  (.bool (.lit false)))))) (.ite b (.ite (z2 == z2) (.must true (.ite false (.must true (.ite false (.leaf (.bool (.lit false))) (.leaf (.bool (.lit false))))) (.must true (.ite false (.leaf (.bool (.lit false))) (.leaf
  (.bool (.lit true))))))) (.leaf (.bool (.lit false)))) (.ite a (.leaf (.bool (.lit false))) (.leaf (.bool (.lit false)))))) (.ite a (.ite b (.ite (decide (z4 > z6)) (.ite (z1 == z1) (.must true (.ite false (.must true
  (.ite false (.leaf (.bool (.lit false))) (.leaf (.bool (.lit false))))) (.must true (.ite false (.leaf (.bool (.lit false))) (.leaf (.bool (.lit true))))))) (.leaf (.bool (.lit false)))) (.ite b (.leaf (.bool (.lit
  false))) (.ite a (.ite (z1 == z1) (.must true (.ite false (.must true (.ite false (.leaf (.bool (.lit false))) (.leaf (.bool (.lit false))))) (.must true (.ite false (.leaf (.bool (.lit false))) (.leaf (.bool (.lit
  true))))))) (.leaf (.bool (.lit false)))) (.leaf (.bool (.lit false)))))) (.ite b (.leaf (.bool (.lit false))) (.ite a (.ite (z1 == z1) (.must true (.ite false (.must true (.ite false (.leaf (.bool (.lit false))) (.leaf
  (.bool (.lit false))))) (.must true (.ite false (.leaf (.bool (.lit false))) (.leaf (.bool (.lit true))))))) (.leaf (.bool (.lit false)))) (.leaf (.bool (.lit false)))))) (.ite b (.leaf (.bool (.lit false))) (.ite a
  (.ite (z1 == z1) (.must true (.ite false (.must true (.ite false (.leaf (.bool (.lit false))) (.leaf (.bool (.lit false))))) (.must true (.ite false (.leaf (.bool (.lit false))) (.leaf (.bool (.lit true))))))) (.leaf
  (.bool (.lit false)))) (.leaf (.bool (.lit false)))))))) (.ite a (.ite b (.ite (decide (z4 > z6)) (.ite (z1 == z1) (.must true (.ite false (.must true (.ite false (.leaf (.bool (.lit false))) (.leaf (.bool (.lit
  false))))) (.must true (.ite false (.leaf (.bool (.lit false))) (.leaf (.bool (.lit true))))))) (.leaf (.bool (.lit false)))) (.ite b (.leaf (.bool (.lit false))) (.ite a (.ite (z1 == z1) (.must true (.ite false (.must
  true (.ite false (.leaf (.bool (.lit false))) (.leaf (.bool (.lit false))))) (.must true (.ite false (.leaf (.bool (.lit false))) (.leaf (.bool (.lit true))))))) (.leaf (.bool (.lit false)))) (.leaf (.bool (.lit
  false)))))) (.ite b (.leaf (.bool (.lit false))) (.ite a (.ite (z1 == z1) (.must true (.ite false (.must true (.ite false (.leaf (.bool (.lit false))) (.leaf (.bool (.lit false))))) (.must true (.ite false (.leaf (.bool
  (.lit false))) (.leaf (.bool (.lit true))))))) (.leaf (.bool (.lit false)))) (.leaf (.bool (.lit false)))))) (.ite b (.leaf (.bool (.lit false))) (.ite a (.ite (z1 == z1) (.must true (.ite false (.must true (.ite false
  (.leaf (.bool (.lit false))) (.leaf (.bool (.lit false))))) (.must true (.ite false (.leaf (.bool (.lit false))) (.leaf (.bool (.lit true))))))) (.leaf (.bool (.lit false)))) (.leaf (.bool (.lit false))))))))) (.must
  true (.ite false (.leaf (.bool (.lit false))) (.ite b (.ite a (.ite b (.ite (decide (z4 > z6)) (.leaf (.bool (.lit false))) (.ite b (.ite (z2 == z2) (.must true (.ite false (.must true (.ite false (.leaf (.bool (.lit
  false))) (.leaf (.bool (.lit false))))) (.must true (.ite false (.leaf (.bool (.lit false))) (.leaf (.bool (.lit true))))))) (.leaf (.bool (.lit false)))) (.ite a (.leaf (.bool (.lit false))) (.leaf (.bool (.lit
  false)))))) (.ite b (.ite (z2 == z2) (.must true (.ite false (.must true (.ite false (.leaf (.bool (.lit false))) (.leaf (.bool (.lit false))))) (.must true (.ite false (.leaf (.bool (.lit false))) (.leaf (.bool (.lit
  true))))))) (.leaf (.bool (.lit false)))) (.ite a (.leaf (.bool (.lit false))) (.leaf (.bool (.lit false)))))) (.ite b (.ite (z2 == z2) (.must true (.ite false (.must true (.ite false (.leaf (.bool (.lit false))) (.leaf
  (.bool (.lit false))))) (.must true (.ite false (.leaf (.bool (.lit false))) (.leaf (.bool (.lit true))))))) (.leaf (.bool (.lit false)))) (.ite a (.leaf (.bool (.lit false))) (.leaf (.bool (.lit false)))))) (.ite a
  (.ite b (.ite (decide (z4 > z6)) (.leaf (.bool (.lit false))) (.ite b (.leaf (.bool (.lit false))) (.ite a (.leaf (.bool (.lit false))) (.ite (z0 == z0) (.must true (.ite false (.must true (.ite false (.leaf (.bool (.lit
  false))) (.leaf (.bool (.lit false))))) (.must true (.ite false (.leaf (.bool (.lit false))) (.leaf (.bool (.lit true))))))) (.leaf (.bool (.lit false))))))) (.ite b (.leaf (.bool (.lit false))) (.ite a (.leaf (.bool
  (.lit false))) (.ite (z0 == z0) (.must true (.ite false (.must true (.ite false (.leaf (.bool (.lit false))) (.leaf (.bool (.lit false))))) (.must true (.ite false (.leaf (.bool (.lit false))) (.leaf (.bool (.lit
  true))))))) (.leaf (.bool (.lit false))))))) (.ite b (.leaf (.bool (.lit false))) (.ite a (.leaf (.bool (.lit false))) (.ite (z0 == z0) (.must true (.ite false (.must true (.ite false (.leaf (.bool (.lit false))) (.leaf
  (.bool (.lit false))))) (.must true (.ite false (.leaf (.bool (.lit false))) (.leaf (.bool (.lit true))))))) (.leaf (.bool (.lit false)))))))))))) := by kernel_rfl
theorem takes_h (k0 o0 n0 k1 o1 n1 k2 o2 n2 n m : Int) (a b : Bool) : (runV Try.prog sbT 1000 3 [.agg [.int .u8 (.sym k0), .int .u8 (.sym o0), .int .i64 (.sym n0), .int .u8 (.sym k1), .int .u8 (.sym o1), .int .i64 (.sym n1), .int .u8 (.sym k2), .int .u8 (.sym o2), .int .i64 (.sym n2)], .int .u32 (.sym n), .int .u32 (.sym m), .agg [.bool (.sym a), .bool (.sym b)]]).Holds GoodV := by
  refine holds_of_eq (takes_t k0 o0 n0 k1 o1 n1 k2 o2 n2 n m a b) ?_
  refine holds_defI fun z0 _ => holds_defI fun z1 _ => holds_defI fun z2 _ => holds_defI fun z3 _ => holds_defI fun z4 _ => holds_defI fun z5 _ => holds_defI fun z6 _ => ?_
  cases a <;> cases b
  all_goals repeat' (first | exact good_lit | refine holds_must rfl ?_ | refine holds_ite (fun h => absurd h Bool.false_ne_true) (fun _ => ?_) | refine holds_ite (fun _ => ?_) (fun h => absurd h.symm Bool.false_ne_true) | refine holds_ite (fun h => ?_) (fun h => ?_))
  all_goals (exfalso; simp only [decide_eq_true_eq, decide_eq_false_iff_not, beq_iff_eq, beq_eq_false_iff_ne, ne_eq, not_true, not_false_eq_true] at *; try omega)
theorem pk24 : pkT Try.prog 8 24 = some [.int .u8, .int .u8, .int .i64, .int .u8, .int .u8, .int .i64, .int .u8, .int .u8, .int .i64] := by kernel_rfl
theorem pk26 : pkT Try.prog 8 26 = some [.bool, .bool] := by kernel_rfl
set_option maxRecDepth 100000 in
theorem takes_lifted (os : Os) (started : os.Started) (H : Type) (enc : TypeId × Value → H) :
    ReturnsInHanded {} Try.checked os 3 .any (Rows.synodTakesSpec.pre6 enc Try.prog Try.f3 Rows.synodTakesRow.domain false) (Rows.synodTakesSpec.post enc Try.prog Try.f3 false true false false) := by
  refine law_lifted (C := Try.checked) Try.own started (by kernel_rfl) Try.func3
    (ChangeSpec.witness6 (enc := enc) (C := Try.checked) false ⟨#[], #[.agg #[.int .u8 0, .int .u8 0, .int .i64 0, .int .u8 0, .int .u8 0, .int .i64 0, .int .u8 0, .int .u8 0, .int .i64 0], .int .u32 0, .int .u32 0, .agg #[.bool false, .bool false]], []⟩ 8 (by kernel_rfl) (by kernel_rfl) (by kernel_rfl) (by kernel_rfl))
    Try.laidOut ?_ (B := 4) (by kernel_rfl) (by kernel_rfl) rfl ?_ ?_
  · intro t ht
    rw [Try.params3] at ht
    have : t = 24 ∨ t = 25 ∨ t = 26 := by
      simp at ht
      first | exact ht | omega
    rcases this with rfl | rfl | rfl <;> exact ⟨by kernel_rfl, of_decide_eq_true (by kernel_rfl)⟩
  · intro ds h
    rw [Try.params3] at h
    match ds, h with
    | [d1, d2, d3, d4], _ => rfl
  · intro W base args ds p hval hA hlt
    rw [Try.params3] at hA hval
    obtain ⟨v0, v1, v2, v3, d0, d1, d2, d3, p0, p1, p2, p3, rfl, rfl, rfl, h0, h1, h2, h3⟩ := trodAll_four hA
    obtain ⟨x, xb, _, hx⟩ := open_plainA Try.underlying24 pk24 (hval 0 24 v0 rfl rfl) h0
    obtain ⟨n, rfl, _, _, _⟩ := open_int Try.underlying25 (hval 1 25 v1 rfl rfl) h1
    obtain ⟨m, rfl, _, _, _⟩ := open_int Try.underlying25 (hval 2 25 v2 rfl rfl) h2
    obtain ⟨y, yb, _, hy⟩ := open_plainA Try.underlying26 pk26 (hval 3 26 v3 rfl rfl) h3
    rw [hx default, hy default]
    exact law_c sbTab mixed (takes_h (x 0) (x 1) (x 2) (x 3) (x 4) (x 5) (x 6) (x 7) (x 8) n m (yb 0) (yb 1)) W fun E => rfl

theorem synodTakes_holds : Rows.SynodTakesSaid :=
  OpenClaim.holds_of_wide 3 Try.f3 rfl rfl rfl rfl rfl rfl rfl ⟨rfl, rfl, rfl, rfl, rfl⟩ rfl rfl rfl rfl rfl (by kernel_rfl) Try.func3 (by kernel_rfl)
    (of_decide_eq_true (by kernel_rfl)) (by unfold Func.isWrapper; rw [if_neg (by decide +kernel)]; exact ⟨rfl, rfl⟩)
    (fun os started H enc _ => takes_lifted os started H enc)
end Go.Proofs.Ytlcgnjcfihablaa
