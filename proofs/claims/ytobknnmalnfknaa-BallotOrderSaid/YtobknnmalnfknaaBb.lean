/- BallotOrder: ballots are one row.
   Conditions: none. -/
import Derived.Test.YtobknnmalnfknaaBa
import Derived.Lib.SmallJoins
namespace Go.Proofs.Ytobknnmalnfknaa
open Go.Eng Go.RowKit Go.Joins Go.ChangeShapes Go.WideShapes

theorem Try.own : ownKnob Try.prog.godebug = none := by kernel_rfl
theorem Try.laidOut : laidOutB Try.prog = true := by kernel_rfl
theorem Try.cells29 : Try.prog.cellsOf 29 = 2 := by kernel_rfl

def Good (v : AV) : Prop := ∃ b : SB, v = .bool b ∧ b.v = true
theorem Good.den {v : AV} (h : Good v) (E : Env) : Eng.den E v = .bool true := by
  obtain ⟨b, rfl, hb⟩ := h
  simp [Eng.den, hb]

set_option maxRecDepth 100000 in
theorem order_tree (an aw bn bw cn cw : Int) : runV Try.prog (smTab baSm) 300 4 [.agg [.int .u32 (.sym an), .int .u8 (.sym aw)], .agg [.int .u32 (.sym bn), .int .u8 (.sym bw)], .agg [.int .u32 (.sym cn), .int .u8 (.sym cw)]] =
  Tree.ite (lessB an aw bn bw)
    (Tree.ite (!lessB bn bw an aw)
      (Tree.ite (!lessB an aw bn bw)
        (Tree.ite ((an == bn && aw == bw) == !lessB bn bw an aw)
          (Tree.ite (!lessB an aw bn bw) (Tree.leaf (AV.bool (SB.sym !lessB an aw an aw)))
            (Tree.ite (!lessB bn bw cn cw) (Tree.leaf (AV.bool (SB.sym !lessB an aw an aw)))
              (Tree.ite (lessB an aw cn cw) (Tree.leaf (AV.bool (SB.sym !lessB an aw an aw)))
                (Tree.leaf (AV.bool (SB.lit false))))))
          (Tree.leaf (AV.bool (SB.lit false))))
        (Tree.ite ((an == bn && aw == bw) == false)
          (Tree.ite (!lessB an aw bn bw) (Tree.leaf (AV.bool (SB.sym !lessB an aw an aw)))
            (Tree.ite (!lessB bn bw cn cw) (Tree.leaf (AV.bool (SB.sym !lessB an aw an aw)))
              (Tree.ite (lessB an aw cn cw) (Tree.leaf (AV.bool (SB.sym !lessB an aw an aw)))
                (Tree.leaf (AV.bool (SB.lit false))))))
          (Tree.leaf (AV.bool (SB.lit false)))))
      (Tree.leaf (AV.bool (SB.lit false))))
    (Tree.ite (!lessB an aw bn bw)
      (Tree.ite ((an == bn && aw == bw) == !lessB bn bw an aw)
        (Tree.ite (!lessB an aw bn bw) (Tree.leaf (AV.bool (SB.sym !lessB an aw an aw)))
          (Tree.ite (!lessB bn bw cn cw) (Tree.leaf (AV.bool (SB.sym !lessB an aw an aw)))
            (Tree.ite (lessB an aw cn cw) (Tree.leaf (AV.bool (SB.sym !lessB an aw an aw)))
              (Tree.leaf (AV.bool (SB.lit false))))))
        (Tree.leaf (AV.bool (SB.lit false))))
      (Tree.ite ((an == bn && aw == bw) == false)
        (Tree.ite (!lessB an aw bn bw) (Tree.leaf (AV.bool (SB.sym !lessB an aw an aw)))
          (Tree.ite (!lessB bn bw cn cw) (Tree.leaf (AV.bool (SB.sym !lessB an aw an aw)))
            (Tree.ite (lessB an aw cn cw) (Tree.leaf (AV.bool (SB.sym !lessB an aw an aw)))
              (Tree.leaf (AV.bool (SB.lit false))))))
        (Tree.leaf (AV.bool (SB.lit false))))) := by kernel_rfl

theorem order_good (an aw bn bw cn cw : Int) : (runV Try.prog (smTab baSm) 300 4 [.agg [.int .u32 (.sym an), .int .u8 (.sym aw)], .agg [.int .u32 (.sym bn), .int .u8 (.sym bw)], .agg [.int .u32 (.sym cn), .int .u8 (.sym cw)]]).Holds Good := by
  rw [order_tree]
  repeat' (first | refine holds_ite (fun h => ?_) (fun h => ?_) | refine holds_leaf ⟨_, rfl, ?_⟩)
  all_goals (simp only [SB.v, lessB] at *; grind)

theorem order_c (an aw bn bw cn cw : Int) (w : World) : Calls Try.prog 4 #[.agg #[.int .u32 an, .int .u8 aw], .agg #[.int .u32 bn, .int .u8 bw], .agg #[.int .u32 cn, .int .u8 cw]] w fun e w' => e = .returned (.bool true) ∧ Below w.heap.size w w' := by
  obtain ⟨v, h1, h2⟩ := order_good an aw bn bw cn cw
  refine (pure_calls baTab mixed h1 w _ fun E => rfl).mono ?_
  rintro e w' ⟨⟨E, rfl⟩, hb⟩
  exact ⟨by rw [h2.den], hb⟩

/-- A ballot by value, opened. -/
theorem open_ballot {H : Type} {enc : TypeId × Value → H} {w : World} {base b0 : Nat} {sp : Nat → Bool} {held : Bool} {v : Value} {d : DataW H} {p : List MemPlace} (hv : Value.okWide Try.prog w .any b0 29 v) (h : DataW.Trod enc Try.prog w base sp held 29 v d p) :
    ∃ n o : Int, v = .agg #[.int .u32 n, .int .u8 o] ∧ (Lit.int .u32 n).wf = true ∧ (Lit.int .u8 o).wf = true := by
  obtain ⟨c0, c1, y0, y1, m, rfl, rfl, rfl, hy0, hy1⟩ := open_agg2 Try.underlying29 (by kernel_rfl) Try.cells29 hv h
  obtain ⟨a, e0, rfl, wa⟩ := DataW.trod_int Try.underlying27 hy0
  obtain ⟨b, e1, rfl, wb⟩ := DataW.trod_int Try.underlying5 hy1
  simp at e0 e1
  subst e0 e1
  exact ⟨a, b, rfl, wa, wb⟩

set_option maxRecDepth 100000 in
theorem order_lifted (os : Os) (started : os.Started) (H : Type) (enc : TypeId × Value → H) :
    ReturnsInHanded {} Try.checked os 4 .any (Rows.ballotOrderSpec.pre6 enc Try.prog Try.f4 Rows.ballotOrderRow.domain false) (Rows.ballotOrderSpec.post enc Try.prog Try.f4 false true false false) := by
  refine law_lifted (C := Try.checked) Try.own started (by kernel_rfl) Try.func4
    (ChangeSpec.witness6 (enc := enc) (C := Try.checked) false ⟨#[], #[.agg #[.int .u32 0, .int .u8 0], .agg #[.int .u32 0, .int .u8 0], .agg #[.int .u32 0, .int .u8 0]], []⟩ 8 (by kernel_rfl) (by kernel_rfl) (by kernel_rfl) (by kernel_rfl))
    Try.laidOut ?_ (B := 4) (by kernel_rfl) (by kernel_rfl) rfl ?_ ?_
  · intro t ht
    rw [Try.params4] at ht
    simp at ht
    subst ht
    exact ⟨by kernel_rfl, of_decide_eq_true (by kernel_rfl)⟩
  · intro ds h
    rw [Try.params4] at h
    match ds, h with
    | [d1, d2, d3], _ => rfl
  · intro W base args ds p hval hA _
    rw [Try.params4] at hA hval
    obtain ⟨v0, v1, v2, d0, d1, d2, p0, p1, p2, rfl, rfl, rfl, h0, h1, h2⟩ := trodAll_three hA
    obtain ⟨an, aw, rfl, _, _⟩ := open_ballot (hval 0 29 v0 rfl rfl) h0
    obtain ⟨bn, bw, rfl, _, _⟩ := open_ballot (hval 1 29 v1 rfl rfl) h1
    obtain ⟨cn, cw, rfl, _, _⟩ := open_ballot (hval 2 29 v2 rfl rfl) h2
    exact order_c an aw bn bw cn cw W

theorem ballotOrder_holds : Rows.BallotOrderSaid :=
  OpenClaim.holds_of_wide 4 Try.f4 rfl rfl rfl rfl rfl rfl rfl ⟨rfl, rfl, rfl, rfl, rfl⟩ rfl rfl rfl rfl rfl (by kernel_rfl) Try.func4 (by kernel_rfl)
    (of_decide_eq_true (by kernel_rfl)) (by unfold Func.isWrapper; rw [if_neg (by decide +kernel)]; exact ⟨rfl, rfl⟩)
    (fun os started H enc _ => order_lifted os started H enc)
end Go.Proofs.Ytobknnmalnfknaa
