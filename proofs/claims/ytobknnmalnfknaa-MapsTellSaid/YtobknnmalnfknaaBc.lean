/- Ballots, increments: what the small functions come to; a table of summaries.
   Conditions: none. -/
import Derived.Test.YtobknnmalnfknaaEngR
import Derived.Test.YtobknnmalnfknaaRows
set_option linter.unusedSimpArgs false
set_option linter.unusedVariables false
namespace Go.Proofs.Ytobknnmalnfknaa
open Go.Eng Go.RowKit

theorem mixed : Try.prog.follows .mixedOrders = true := by kernel_rfl

def lessB (an aw bn bw : Int) : Bool := decide (an < bn) || ((an == bn) && decide (aw < bw))
def isB (n w : Int) : Bool := decide (n > 0) && decide (w < 3)
def isIncB (k o n : Int) : Bool := ((k == 1 || k == 2) && (decide (o < 5) && n == 0)) || (k == 3 && (decide (o < 5) && (decide (n ≥ 0) && decide (n ≤ 16)))) || (k == 4 && (o == 0 && n == 0))

theorem less_tree (an aw bn bw : Int) : runV Try.prog noTab 100 24 [.agg [.int .u32 (.sym an), .int .u8 (.sym aw)], .agg [.int .u32 (.sym bn), .int .u8 (.sym bw)]] =
    .ite (decide (an < bn)) (.leaf (.bool (.lit true))) (.ite (an == bn) (.leaf (.bool (.sym (decide (aw < bw))))) (.leaf (.bool (.lit false)))) := by kernel_rfl
theorem is_tree (n w : Int) : runV Try.prog noTab 100 38 [.agg [.int .u32 (.sym n), .int .u8 (.sym w)]] =
  Tree.ite (decide (n > 0)) (Tree.leaf (AV.bool (SB.sym (decide (w < 3))))) (Tree.leaf (AV.bool (SB.lit false))) := by kernel_rfl

theorem ris_tree (n w : Int) : runV Try.prog noTab 100 39 [.agg [.int .u32 (.sym n), .int .u8 (.sym w)]] =
  Tree.ite (decide (n > 0)) (Tree.leaf (AV.bool (SB.sym (decide (w < 3))))) (Tree.leaf (AV.bool (SB.lit false))) := by kernel_rfl

theorem rless_tree (an aw bn bw : Int) : runV Try.prog noTab 100 40 [.agg [.int .u32 (.sym an), .int .u8 (.sym aw)], .agg [.int .u32 (.sym bn), .int .u8 (.sym bw)]] =
  Tree.ite (decide (an < bn)) (Tree.leaf (AV.bool (SB.lit true)))
    (Tree.ite (an == bn) (Tree.leaf (AV.bool (SB.sym (decide (aw < bw))))) (Tree.leaf (AV.bool (SB.lit false)))) := by kernel_rfl

theorem isinc_tree (k o n : Int) : runV Try.prog noTab 100 30 [.agg [.int .u8 (.sym k), .int .u8 (.sym o), .int .i64 (.sym n)]] =
  Tree.ite (k == 1)
    (Tree.ite (decide (o < 5)) (Tree.leaf (AV.bool (SB.sym (k == k && (o == o && n == 0)))))
      (Tree.leaf (AV.bool (SB.lit false))))
    (Tree.ite (k == 2)
      (Tree.ite (decide (o < 5)) (Tree.leaf (AV.bool (SB.sym (k == k && (o == o && n == 0)))))
        (Tree.leaf (AV.bool (SB.lit false))))
      (Tree.ite (k == 3)
        (Tree.ite (decide (o < 5))
          (Tree.ite (decide (n ≥ 0)) (Tree.leaf (AV.bool (SB.sym (decide (n ≤ 16)))))
            (Tree.leaf (AV.bool (SB.lit false))))
          (Tree.leaf (AV.bool (SB.lit false))))
        (Tree.leaf (AV.bool (SB.sym (k == 4 && (o == 0 && n == 0))))))) := by kernel_rfl

theorem risinc_tree (k o n : Int) : runV Try.prog noTab 100 31 [.agg [.int .u8 (.sym k), .int .u8 (.sym o), .int .i64 (.sym n)]] =
  Tree.ite (k == 1)
    (Tree.ite (decide (o < 5)) (Tree.leaf (AV.bool (SB.sym (n == 0)))) (Tree.leaf (AV.bool (SB.lit false))))
    (Tree.ite (k == 2)
      (Tree.ite (decide (o < 5)) (Tree.leaf (AV.bool (SB.sym (n == 0)))) (Tree.leaf (AV.bool (SB.lit false))))
      (Tree.ite (k == 3)
        (Tree.ite (decide (o < 5))
          (Tree.ite (decide (n ≥ 0)) (Tree.leaf (AV.bool (SB.sym (decide (n ≤ 16)))))
            (Tree.leaf (AV.bool (SB.lit false))))
          (Tree.leaf (AV.bool (SB.lit false))))
        (Tree.ite (k == 4)
          (Tree.ite (o == 0) (Tree.leaf (AV.bool (SB.sym (n == 0)))) (Tree.leaf (AV.bool (SB.lit false))))
          (Tree.leaf (AV.bool (SB.lit false)))))) := by kernel_rfl


def twoB (f : Int → Int → Int → Int → Bool) : List AV → Option AV
  | [.agg [.int .u32 an, .int .u8 aw], .agg [.int .u32 bn, .int .u8 bw]] => some (mkB [an, aw, bn, bw] (f an.v aw.v bn.v bw.v))
  | _ => none
def oneB (f : Int → Int → Bool) : List AV → Option AV
  | [.agg [.int .u32 an, .int .u8 aw]] => some (mkB [an, aw] (f an.v aw.v))
  | _ => none
def incB (f : Int → Int → Int → Bool) : List AV → Option AV
  | [.agg [.int .u8 k, .int .u8 o, .int .i64 n]] => some (mkB [k, o, n] (f k.v o.v n.v))
  | _ => none

theorem twoB_ok {g : FuncId} {f : Int → Int → Int → Int → Bool} (h : ∀ an aw bn bw : Int, (runV Try.prog noTab 100 g [.agg [.int .u32 (.sym an), .int .u8 (.sym aw)], .agg [.int .u32 (.sym bn), .int .u8 (.sym bw)]]).Holds fun r => ∀ E, den E r = .bool (f an aw bn bw)) : SummAll Try.prog g (pureSumm (twoB f)) := by
  refine pureSumm_tree (noTab_all _) mixed (n := 100) fun args v e => ?_
  unfold twoB at e
  split at e
  · cases e
    rename_i an aw bn bw
    refine ⟨[.agg [.int .u32 (.sym an.v), .int .u8 (.sym aw.v)], .agg [.int .u32 (.sym bn.v), .int .u8 (.sym bw.v)]], fun E E' => rfl, ?_, fun E E' => by rw [den_mkB, den_mkB]⟩
    · obtain ⟨r, h1, h2⟩ := h an.v aw.v bn.v bw.v
      exact ⟨r, h1, fun E => by rw [h2, den_mkB]⟩
  · cases e
theorem oneB_ok {g : FuncId} {f : Int → Int → Bool} (h : ∀ an aw : Int, (runV Try.prog noTab 100 g [.agg [.int .u32 (.sym an), .int .u8 (.sym aw)]]).Holds fun r => ∀ E, den E r = .bool (f an aw)) : SummAll Try.prog g (pureSumm (oneB f)) := by
  refine pureSumm_tree (noTab_all _) mixed (n := 100) fun args v e => ?_
  unfold oneB at e
  split at e
  · cases e
    rename_i an aw
    refine ⟨[.agg [.int .u32 (.sym an.v), .int .u8 (.sym aw.v)]], fun E E' => rfl, ?_, fun E E' => by rw [den_mkB, den_mkB]⟩
    · obtain ⟨r, h1, h2⟩ := h an.v aw.v
      exact ⟨r, h1, fun E => by rw [h2, den_mkB]⟩
  · cases e
theorem incB_ok {g : FuncId} {f : Int → Int → Int → Bool} (h : ∀ k o n : Int, (runV Try.prog noTab 100 g [.agg [.int .u8 (.sym k), .int .u8 (.sym o), .int .i64 (.sym n)]]).Holds fun r => ∀ E, den E r = .bool (f k o n)) : SummAll Try.prog g (pureSumm (incB f)) := by
  refine pureSumm_tree (noTab_all _) mixed (n := 100) fun args v e => ?_
  unfold incB at e
  split at e
  · cases e
    rename_i k o n
    refine ⟨[.agg [.int .u8 (.sym k.v), .int .u8 (.sym o.v), .int .i64 (.sym n.v)]], fun E E' => rfl, ?_, fun E E' => by rw [den_mkB, den_mkB]⟩
    · obtain ⟨r, h1, h2⟩ := h k.v o.v n.v
      exact ⟨r, h1, fun E => by rw [h2, den_mkB]⟩
  · cases e

theorem known_tree : runV Try.prog noTab 300 16 [] = .leaf (.bool (.lit true)) := by kernel_rfl
def constB (b : Bool) : List AV → Option AV
  | [] => some (.bool (.lit b))
  | _ => none
theorem constB_ok {g : FuncId} {b : Bool} {n : Nat} {T : Tab} (hT : TabAll Try.prog T) (h : runV Try.prog T n g [] = .leaf (.bool (.lit b))) : SummAll Try.prog g (pureSumm (constB b)) := by
  refine pureSumm_tree hT mixed (n := n) fun args v e => ?_
  unfold constB at e
  split at e
  · cases e
    exact ⟨[], fun _ _ => rfl, by rw [h]; exact holds_leaf fun _ => rfl, fun _ _ => rfl⟩
  · cases e

def smalls : List (FuncId × Summ) := [(24, pureSumm (twoB lessB)), (40, pureSumm (twoB lessB)), (38, pureSumm (oneB isB)), (39, pureSumm (oneB isB)), (30, pureSumm (incB isIncB)), (31, pureSumm (incB isIncB)), (16, pureSumm (constB true))]
theorem smalls_ok : AllOk Try.prog smalls := by
  refine ⟨twoB_ok fun an aw bn bw => ?_, twoB_ok fun an aw bn bw => ?_, oneB_ok fun n w => ?_, oneB_ok fun n w => ?_, incB_ok fun k o n => ?_, incB_ok fun k o n => ?_, constB_ok (noTab_all _) known_tree, trivial⟩
  · rw [less_tree]; repeat' (first | refine holds_ite (fun h => ?_) (fun h => ?_) | refine holds_leaf fun E => ?_)
    all_goals (simp only [den, SB.v, lessB]; refine congrArg Value.bool (Bool.eq_iff_iff.2 ?_); (try simp at *) <;> omega)
  · rw [rless_tree]; repeat' (first | refine holds_ite (fun h => ?_) (fun h => ?_) | refine holds_leaf fun E => ?_)
    all_goals (simp only [den, SB.v, lessB]; refine congrArg Value.bool (Bool.eq_iff_iff.2 ?_); (try simp at *) <;> omega)
  · rw [is_tree]; repeat' (first | refine holds_ite (fun h => ?_) (fun h => ?_) | refine holds_leaf fun E => ?_)
    all_goals (simp only [den, SB.v, isB]; refine congrArg Value.bool (Bool.eq_iff_iff.2 ?_); (try simp at *) <;> omega)
  · rw [ris_tree]; repeat' (first | refine holds_ite (fun h => ?_) (fun h => ?_) | refine holds_leaf fun E => ?_)
    all_goals (simp only [den, SB.v, isB]; refine congrArg Value.bool (Bool.eq_iff_iff.2 ?_); (try simp at *) <;> omega)
  · rw [isinc_tree]; repeat' (first | refine holds_ite (fun h => ?_) (fun h => ?_) | refine holds_leaf fun E => ?_)
    all_goals (simp only [den, SB.v, isIncB]; refine congrArg Value.bool (Bool.eq_iff_iff.2 ?_); (try simp at *) <;> omega)
  · rw [risinc_tree]; repeat' (first | refine holds_ite (fun h => ?_) (fun h => ?_) | refine holds_leaf fun E => ?_)
    all_goals (simp only [den, SB.v, isIncB]; refine congrArg Value.bool (Bool.eq_iff_iff.2 ?_); (try simp at *) <;> omega)
def baT : Tab := smTab (tabOf smalls)
theorem baTab : TabAll Try.prog baT := tab_ok smalls_ok
end Go.Proofs.Ytobknnmalnfknaa
