/- Ballots: what Less, is, IsInc come to; a table of summaries.
   Conditions: none. -/
import Derived.Test.YtobknnmalnfknaaEngO
import Derived.Test.YtobknnmalnfknaaRows
namespace Go.Proofs.Ytobknnmalnfknaa
open Go.Eng Go.RowKit

theorem mixed : Try.prog.follows .mixedOrders = true := by kernel_rfl

def lessB (an aw bn bw : Int) : Bool := decide (an < bn) || ((an == bn) && decide (aw < bw))
theorem less_tree (an aw bn bw : Int) : runV Try.prog noTab 100 24 [.agg [.int .u32 (.sym an), .int .u8 (.sym aw)], .agg [.int .u32 (.sym bn), .int .u8 (.sym bw)]] =
    .ite (decide (an < bn)) (.leaf (.bool (.lit true))) (.ite (an == bn) (.leaf (.bool (.sym (decide (aw < bw))))) (.leaf (.bool (.lit false)))) := by kernel_rfl
theorem less_c (an aw bn bw : Int) (w : World) : Calls Try.prog 24 #[.agg #[.int .u32 an, .int .u8 aw], .agg #[.int .u32 bn, .int .u8 bw]] w fun e w' => e = .returned (.bool (lessB an aw bn bw)) ∧ Below w.heap.size w w' := by
  have h : (runV Try.prog noTab 100 24 [.agg [.int .u32 (.sym an), .int .u8 (.sym aw)], .agg [.int .u32 (.sym bn), .int .u8 (.sym bw)]]).Holds fun v => ∀ E, den E v = .bool (lessB an aw bn bw) := by
    rw [less_tree]
    refine holds_ite (fun h1 => holds_leaf fun E => ?_) fun h1 => holds_ite (fun h2 => holds_leaf fun E => ?_) fun h2 => holds_leaf fun E => ?_
    · simp [den, SB.v, lessB, h1]
    · simp [den, SB.v, lessB, h1, h2]
    · simp [den, SB.v, lessB, h1, h2]
  obtain ⟨v, h1, h2⟩ := h
  refine (pure_calls (noTab_all _) mixed h1 w _ fun E => rfl).mono ?_
  rintro e w' ⟨⟨E, rfl⟩, hb⟩
  exact ⟨by rw [h2], hb⟩
def lessS : List AV → Option AV
  | [.agg [.int .u32 an, .int .u8 aw], .agg [.int .u32 bn, .int .u8 bw]] => some (.bool (.sym (lessB an.v aw.v bn.v bw.v)))
  | _ => none
theorem lessS_ok : SummOK Try.prog 24 (pureSumm lessS) ∧ ∀ args h key r, ((pureSumm lessS).run args h key).sel = some r → key ≤ r.2.2.2 ∧ WOK (lookOf h) key r.2.2.2 r.2.2.1 := by
  refine pureSumm_ok fun args v h => ?_
  unfold lessS at h
  split at h
  · cases h
    exact ⟨fun E w => less_c _ _ _ _ w, fun E E' _ => rfl⟩
  · cases h

theorem known_tree : runV Try.prog noTab 300 16 [] = .leaf (.bool (.lit true)) := by kernel_rfl
def knownS : List AV → Option AV
  | [] => some (.bool (.lit true))
  | _ => none
theorem knownS_ok : SummOK Try.prog 16 (pureSumm knownS) ∧ ∀ args h key r, ((pureSumm knownS).run args h key).sel = some r → key ≤ r.2.2.2 ∧ WOK (lookOf h) key r.2.2.2 r.2.2.1 := by
  refine pureSumm_ok fun args v h => ?_
  unfold knownS at h
  split at h
  · cases h
    refine ⟨fun E w => (pure_calls (noTab_all _) mixed (show (runV Try.prog noTab 300 16 []).sel = some (.bool (.lit true)) from by rw [known_tree]; rfl) w _ fun E => rfl).mono ?_, fun E E' _ => rfl⟩
    rintro e w' ⟨⟨E, rfl⟩, hb⟩
    exact ⟨rfl, hb⟩
  · cases h

def baSm (f : FuncId) : Option Summ := match Nat.beq f 24 with
  | true => some (pureSumm lessS)
  | false => match Nat.beq f 16 with
    | true => some (pureSumm knownS)
    | false => none
theorem baTab : TabAll Try.prog (smTab baSm) := smTab_all fun f S h => by
  unfold baSm at h
  split at h
  · rename_i hf
    have := Nat.eq_of_beq_eq_true hf
    subst this
    cases h
    exact lessS_ok
  · split at h
    · rename_i hf
      have := Nat.eq_of_beq_eq_true hf
      subst this
      cases h
      exact knownS_ok
    · cases h
end Go.Proofs.Ytobknnmalnfknaa
