/- Maps: what the small functions come to; summaries.
   Conditions: none. -/
import Derived.Test.YtobknnmalnfknaaEngW
import Derived.Test.YtobknnmalnfknaaBt
import Derived.Test.YtobknnmalnfknaaBc
set_option linter.unusedSimpArgs false
set_option linter.unusedVariables false
namespace Go.Proofs.Ytobknnmalnfknaa
open Go.Eng Go.RowKit
set_option maxRecDepth 100000
def osdB (w h : Int) : Bool := decide (0 ≤ w) && decide (w ≤ 16) && decide (h < 8)
def isMapB (e w0 h0 w1 h1 w2 h2 w3 h3 w4 h4 : Int) : Bool := osdB w0 h0 && osdB w1 h1 && osdB w2 h2 && osdB w3 h3 && osdB w4 h4 && decide (1 ≤ e) && decide (e ≤ 60)
def isMapS : List AV → Option AV
  | [.agg [.int .u32 e, .bool u0, .int .i64 w0, .int .u8 h0, .bool u1, .int .i64 w1, .int .u8 h1, .bool u2, .int .i64 w2, .int .u8 h2, .bool u3, .int .i64 w3, .int .u8 h3, .bool u4, .int .i64 w4, .int .u8 h4]] => some (.bool (mkSB [e, w0, h0, w1, h1, w2, h2, w3, h3, w4, h4] (isMapB e.v w0.v h0.v w1.v h1.v w2.v h2.v w3.v h3.v w4.v h4.v)))
  | _ => none
theorem is_map (e w0 h0 w1 h1 w2 h2 w3 h3 w4 h4 : Int) (u0 u1 u2 u3 u4 : Bool) : runV Try.prog noTab 200 28 [.agg [.int .u32 (.sym e), .bool (.sym u0), .int .i64 (.sym w0), .int .u8 (.sym h0), .bool (.sym u1), .int .i64 (.sym w1), .int .u8 (.sym h1), .bool (.sym u2), .int .i64 (.sym w2), .int .u8 (.sym h2), .bool (.sym u3), .int .i64 (.sym w3), .int .u8 (.sym h3), .bool (.sym u4), .int .i64 (.sym w4), .int .u8 (.sym h4)]] =
  .ite (decide (w0 < 0)) (.leaf (.bool (.lit false))) (.ite (decide (w0 > 16)) (.leaf (.bool (.lit false))) (.ite (decide (h0 ≥ 8)) (.leaf (.bool (.lit false))) (.ite (decide (w1 < 0)) (.leaf (.bool (.lit false))) (.ite
  (decide (w1 > 16)) (.leaf (.bool (.lit false))) (.ite (decide (h1 ≥ 8)) (.leaf (.bool (.lit false))) (.ite (decide (w2 < 0)) (.leaf (.bool (.lit false))) (.ite (decide (w2 > 16)) (.leaf (.bool (.lit false))) (.ite
  (decide (h2 ≥ 8)) (.leaf (.bool (.lit false))) (.ite (decide (w3 < 0)) (.leaf (.bool (.lit false))) (.ite (decide (w3 > 16)) (.leaf (.bool (.lit false))) (.ite (decide (h3 ≥ 8)) (.leaf (.bool (.lit false))) (.ite (decide
  (w4 < 0)) (.leaf (.bool (.lit false))) (.ite (decide (w4 > 16)) (.leaf (.bool (.lit false))) (.ite (decide (h4 ≥ 8)) (.leaf (.bool (.lit false))) (.ite (decide (e ≥ 1)) (.leaf (.bool (.sym (decide (e ≤ 60))))) (.leaf
  (.bool (.lit false)))))))))))))))))) := by kernel_rfl
theorem ris_map (e w0 h0 w1 h1 w2 h2 w3 h3 w4 h4 : Int) (u0 u1 u2 u3 u4 : Bool) : runV Try.prog noTab 200 29 [.agg [.int .u32 (.sym e), .bool (.sym u0), .int .i64 (.sym w0), .int .u8 (.sym h0), .bool (.sym u1), .int .i64 (.sym w1), .int .u8 (.sym h1), .bool (.sym u2), .int .i64 (.sym w2), .int .u8 (.sym h2), .bool (.sym u3), .int .i64 (.sym w3), .int .u8 (.sym h3), .bool (.sym u4), .int .i64 (.sym w4), .int .u8 (.sym h4)]] =
  .ite (decide (w0 < 0)) (.leaf (.bool (.lit false))) (.ite (decide (w0 > 16)) (.leaf (.bool (.lit false))) (.ite (decide (h0 ≥ 8)) (.leaf (.bool (.lit false))) (.ite (decide (w1 < 0)) (.leaf (.bool (.lit false))) (.ite
  (decide (w1 > 16)) (.leaf (.bool (.lit false))) (.ite (decide (h1 ≥ 8)) (.leaf (.bool (.lit false))) (.ite (decide (w2 < 0)) (.leaf (.bool (.lit false))) (.ite (decide (w2 > 16)) (.leaf (.bool (.lit false))) (.ite
  (decide (h2 ≥ 8)) (.leaf (.bool (.lit false))) (.ite (decide (w3 < 0)) (.leaf (.bool (.lit false))) (.ite (decide (w3 > 16)) (.leaf (.bool (.lit false))) (.ite (decide (h3 ≥ 8)) (.leaf (.bool (.lit false))) (.ite (decide
  (w4 < 0)) (.leaf (.bool (.lit false))) (.ite (decide (w4 > 16)) (.leaf (.bool (.lit false))) (.ite (decide (h4 ≥ 8)) (.leaf (.bool (.lit false))) (.ite (decide (e ≥ 1)) (.leaf (.bool (.sym (decide (e ≤ 60))))) (.leaf
  (.bool (.lit false)))))))))))))))))) := by kernel_rfl
theorem isMapS28_ok : SummAll Try.prog 28 (pureSumm isMapS) := by
  refine pureSumm_tree (noTab_all _) mixed (n := 200) fun args v ee => ?_
  unfold isMapS at ee
  split at ee
  · cases ee
    rename_i e u0 w0 h0 u1 w1 h1 u2 w2 h2 u3 w3 h3 u4 w4 h4
    refine ⟨[.agg [.int .u32 (.sym e.v), .bool (.sym u0.v), .int .i64 (.sym w0.v), .int .u8 (.sym h0.v), .bool (.sym u1.v), .int .i64 (.sym w1.v), .int .u8 (.sym h1.v), .bool (.sym u2.v), .int .i64 (.sym w2.v), .int .u8 (.sym h2.v), .bool (.sym u3.v), .int .i64 (.sym w3.v), .int .u8 (.sym h3.v), .bool (.sym u4.v), .int .i64 (.sym w4.v), .int .u8 (.sym h4.v)]], fun E E' => rfl, ?_, fun E E' => rfl⟩
    rw [is_map]
    repeat' (first | refine holds_ite (fun h => ?_) (fun h => ?_) | refine holds_leaf fun E => ?_)
    all_goals (simp only [den, mkSB_v, isMapB, osdB, SB.lit_v, SB.sym_v]; refine congrArg Value.bool (Bool.eq_iff_iff.2 ?_); (simp only [Bool.and_eq_true, Bool.or_eq_true, beq_iff_eq, beq_eq_false_iff_ne, ne_eq, decide_eq_true_eq, decide_eq_false_iff_not, Bool.false_eq_true, false_iff, iff_true, true_iff, true_and, and_true, eq_self_iff_true] at *); omega)
  · cases ee
theorem isMapS29_ok : SummAll Try.prog 29 (pureSumm isMapS) := by
  refine pureSumm_tree (noTab_all _) mixed (n := 200) fun args v ee => ?_
  unfold isMapS at ee
  split at ee
  · cases ee
    rename_i e u0 w0 h0 u1 w1 h1 u2 w2 h2 u3 w3 h3 u4 w4 h4
    refine ⟨[.agg [.int .u32 (.sym e.v), .bool (.sym u0.v), .int .i64 (.sym w0.v), .int .u8 (.sym h0.v), .bool (.sym u1.v), .int .i64 (.sym w1.v), .int .u8 (.sym h1.v), .bool (.sym u2.v), .int .i64 (.sym w2.v), .int .u8 (.sym h2.v), .bool (.sym u3.v), .int .i64 (.sym w3.v), .int .u8 (.sym h3.v), .bool (.sym u4.v), .int .i64 (.sym w4.v), .int .u8 (.sym h4.v)]], fun E E' => rfl, ?_, fun E E' => rfl⟩
    rw [ris_map]
    repeat' (first | refine holds_ite (fun h => ?_) (fun h => ?_) | refine holds_leaf fun E => ?_)
    all_goals (simp only [den, mkSB_v, isMapB, osdB, SB.lit_v, SB.sym_v]; refine congrArg Value.bool (Bool.eq_iff_iff.2 ?_); (simp only [Bool.and_eq_true, Bool.or_eq_true, beq_iff_eq, beq_eq_false_iff_ne, ne_eq, decide_eq_true_eq, decide_eq_false_iff_not, Bool.false_eq_true, false_iff, iff_true, true_iff, true_and, and_true, eq_self_iff_true] at *); omega)
  · cases ee
def mapC (e : SI) (u0 : SB) (w0 h0 : SI) (u1 : SB) (w1 h1 : SI) (u2 : SB) (w2 h2 : SI) (u3 : SB) (w3 h3 : SI) (u4 : SB) (w4 h4 : SI) : AV := .agg [.int .u32 e, .bool u0, .int .i64 w0, .int .u8 h0, .bool u1, .int .i64 w1, .int .u8 h1, .bool u2, .int .i64 w2, .int .u8 h2, .bool u3, .int .i64 w3, .int .u8 h3, .bool u4, .int .i64 w4, .int .u8 h4]
def firstS : List AV → Option AV
  | [] => some (mapC (.lit 1) (.lit true) (.lit 8) (.lit 0) (.lit true) (.lit 8) (.lit 1) (.lit true) (.lit 8) (.lit 2) (.lit true) (.lit 8) (.lit 3) (.lit true) (.lit 8) (.lit 0))
  | _ => none
theorem first_tree  : runV Try.prog noTab 200 35 [] =
  .leaf (.agg [.int .u32 (.lit 1), .bool (.lit true), .int .i64 (.lit 8), .int .u8 (.lit 0), .bool (.lit true), .int .i64 (.lit 8), .int .u8 (.lit 1), .bool (.lit true), .int .i64 (.lit 8), .int .u8 (.lit 2), .bool (.lit
  true), .int .i64 (.lit 8), .int .u8 (.lit 3), .bool (.lit true), .int .i64 (.lit 8), .int .u8 (.lit 0)]) := by kernel_rfl
theorem firstS35 : SummAll Try.prog 35 (pureSumm firstS) := by
  refine pureSumm_tree (noTab_all _) mixed (n := 200) fun args v e => ?_
  unfold firstS at e
  split at e
  · cases e
    exact ⟨[], fun E E' => rfl, by rw [first_tree]; exact holds_leaf fun E => rfl, fun E E' => rfl⟩
  · cases e
theorem rfirst_tree  : runV Try.prog noTab 200 36 [] =
  .leaf (.agg [.int .u32 (.lit 1), .bool (.lit true), .int .i64 (.lit 8), .int .u8 (.lit 0), .bool (.lit true), .int .i64 (.lit 8), .int .u8 (.lit 1), .bool (.lit true), .int .i64 (.lit 8), .int .u8 (.lit 2), .bool (.lit
  true), .int .i64 (.lit 8), .int .u8 (.lit 3), .bool (.lit true), .int .i64 (.lit 8), .int .u8 (.lit 0)]) := by kernel_rfl
theorem firstS36 : SummAll Try.prog 36 (pureSumm firstS) := by
  refine pureSumm_tree (noTab_all _) mixed (n := 200) fun args v e => ?_
  unfold firstS at e
  split at e
  · cases e
    exact ⟨[], fun E E' => rfl, by rw [rfirst_tree]; exact holds_leaf fun E => rfl, fun E E' => rfl⟩
  · cases e
def mSmalls : List (FuncId × Summ) := [(28, pureSumm isMapS), (29, pureSumm isMapS), (35, pureSumm firstS), (36, pureSumm firstS)] ++ smalls
theorem mSmalls_ok : AllOk Try.prog mSmalls := ⟨isMapS28_ok, isMapS29_ok, firstS35, firstS36, smalls_ok⟩
def maT : Tab := smTab (tabOf mSmalls)
theorem maTab : TabAll Try.prog maT := tab_ok mSmalls_ok
end Go.Proofs.Ytobknnmalnfknaa
