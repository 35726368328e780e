/- MapsTell: a map and an increment, told as the document tells them.
   Conditions: none. -/
import Derived.Test.YtobknnmalnfknaaMl
set_option linter.unusedSimpArgs false
set_option linter.unusedVariables false
namespace Go.Proofs.Ytobknnmalnfknaa
open Go.Eng Go.RowKit Go.Joins Go.ChangeShapes Go.WideShapes
set_option maxRecDepth 100000
theorem ofN_len (g : Nat → Bool) : ∀ n, (ofN g n).length ≤ n
  | 0 => Nat.le_refl _
  | n + 1 => by
    have := ofN_len g n
    simp only [ofN]
    split
    · rw [List.length_append, List.length_singleton]; omega
    · omega
theorem ofN_t {g : Nat → Bool} {n : Nat} (h : g n = true) : ofN g (n + 1) = ofN g n ++ [(n : Int)] := by simp only [ofN, h, if_true]
theorem ofN_f {g : Nat → Bool} {n : Nat} (h : g n = false) : ofN g (n + 1) = ofN g n := by simp only [ofN, h, Bool.false_eq_true, if_false]
theorem six {d : Nat} (h : d ≤ 5) : d = 0 ∨ d = 1 ∨ d = 2 ∨ d = 3 ∨ d = 4 ∨ d = 5 := by omega
theorem in9 : Within Try.prog 9 Try.f9.ntmps body9 := within_body Try.func9 (by kernel_rfl)
theorem lp9 : (flat body9).drop 7 = [.block 0 (.loop x9)] ++ (flat body9).drop 8 := by kernel_rfl
theorem in9x : Within Try.prog 9 Try.f9.ntmps x9 := by
  have h : (flat body9)[7]? = some (.block 0 (.loop x9)) := by kernel_rfl
  exact within_loop (within_block (within_at in9 7 h))
section
variable (m a b : TlD) (k o n c : Int) (ok : Bool)
def tlN (d : Nat) : EN := ⟨[[], [], [], [.i c], [], [.b ok], [], [], [.i (d : Int)]], tlO m a b k o n (ofN (fun i => decide (m.2.2.1 i > 0)) d) (ofN m.2.1 d)⟩
def tlQ : Ex → EN → Prop
  | .exit _, e => tlE.eqv e ⟨[[], [], [], [.i c], [], [.b ok], [], []], tlO m a b k o n (ofN (fun i => decide (m.2.2.1 i > 0)) 5) (ofN m.2.1 5)⟩
  | _, _ => False
set_option maxHeartbeats 40000000 in
theorem tl_loop (d : Nat) (hd : d ≤ 5) : HT Try.prog Try.f9.ntmps 0 (.loop x9) 8 (tlL.tm (tlN m a b k o n c ok d)) (tlL.heap (tlN m a b k o n c ok d)) (QX ⟨none, [(0, tlE)], some (lawT 4)⟩ (tlQ m a b k o n c ok)) := by
  refine HT.loopX mkTab mixed (n := 300) in9x tlL _ _ (tlN m a b k o n c ok) (fun d => d ≤ 5) (fun d => 5 - d) (fun _ => tlQ m a b k o n c ok) (Nat.zero_le _) ?_ d hd
  intro d hd τ0
  have nx : ∀ d, d < 5 → ∀ e, tlL.eqv e (tlN m a b k o n c ok (d + 1)) → ∃ d' : Nat, d' ≤ 5 ∧ 5 - d' < 5 - d ∧ tlL.eqv e (tlN m a b k o n c ok d') ∧ ∀ ex e, tlQ m a b k o n c ok ex e → tlQ m a b k o n c ok ex e :=
    fun d h e he => ⟨d + 1, by omega, by omega, he, fun _ _ h => h⟩
  have hl := ofN_len (fun i => decide (m.2.2.1 i > 0)) d
  have hl2 := ofN_len m.2.1 d
  rcases six hd with rfl | rfl | rfl | rfl | rfl | rfl
  · rcases h1 : decide (m.2.2.1 0 > 0) <;> rcases h2 : m.2.1 0
    all_goals refine holds_of_eq (tl_x m a b k o n c ok _ _ ((0 : Nat) : Int) τ0) ?_
    all_goals repeat' with_reducible (first | refine holds_ite (fun h => absurd h (by decide)) (fun _ => ?_) | refine holds_ite (fun _ => ?_) (fun h => absurd h (by decide)) | refine holds_ite (fun h => absurd (h1.symm.trans h) (by decide)) (fun _ => ?_) | refine holds_ite (fun _ => ?_) (fun h => absurd (h1.symm.trans h) (by decide)) | refine holds_ite (fun h => absurd (h2.symm.trans h) (by decide)) (fun _ => ?_) | refine holds_ite (fun _ => ?_) (fun h => absurd (h2.symm.trans h) (by decide)) | refine holds_must (rowsB_i _ _ _) ?_ | refine holds_must (rowsB_app (by omega)) ?_ | refine holds_must (decide_eq_true (by omega)) ?_ | refine holds_inI ?_)
    all_goals refine holds_leaf (nx 0 (by decide) _ ?_)
    all_goals show tlL.eqv _ ⟨[[], [], [], [.i c], [], [.b ok], [], [], [.i ((0 + 1 : Nat) : Int)]], tlO m a b k o n (ofN (fun i => decide (m.2.2.1 i > 0)) (0 + 1)) (ofN m.2.1 (0 + 1))⟩
    all_goals first | rw [ofN_t (g := fun i => decide (m.2.2.1 i > 0)) h1] | rw [ofN_f (g := fun i => decide (m.2.2.1 i > 0)) h1]
    all_goals first | rw [ofN_t (g := m.2.1) h2] | rw [ofN_f (g := m.2.1) h2]
    all_goals (repeat' (first | exact trivial | exact rfl | exact TS.eqv_refl _ _ | exact len_app _ _ | exact rows_appI | exact fun _ _ => eqvL_refl _ _ | exact fun i _ => eqvL_rowNums rfl _ i | apply And.intro))
  · rcases h1 : decide (m.2.2.1 1 > 0) <;> rcases h2 : m.2.1 1
    all_goals refine holds_of_eq (tl_x m a b k o n c ok _ _ ((1 : Nat) : Int) τ0) ?_
    all_goals repeat' with_reducible (first | refine holds_ite (fun h => absurd h (by decide)) (fun _ => ?_) | refine holds_ite (fun _ => ?_) (fun h => absurd h (by decide)) | refine holds_ite (fun h => absurd (h1.symm.trans h) (by decide)) (fun _ => ?_) | refine holds_ite (fun _ => ?_) (fun h => absurd (h1.symm.trans h) (by decide)) | refine holds_ite (fun h => absurd (h2.symm.trans h) (by decide)) (fun _ => ?_) | refine holds_ite (fun _ => ?_) (fun h => absurd (h2.symm.trans h) (by decide)) | refine holds_must (rowsB_i _ _ _) ?_ | refine holds_must (rowsB_app (by omega)) ?_ | refine holds_must (decide_eq_true (by omega)) ?_ | refine holds_inI ?_)
    all_goals refine holds_leaf (nx 1 (by decide) _ ?_)
    all_goals show tlL.eqv _ ⟨[[], [], [], [.i c], [], [.b ok], [], [], [.i ((1 + 1 : Nat) : Int)]], tlO m a b k o n (ofN (fun i => decide (m.2.2.1 i > 0)) (1 + 1)) (ofN m.2.1 (1 + 1))⟩
    all_goals first | rw [ofN_t (g := fun i => decide (m.2.2.1 i > 0)) h1] | rw [ofN_f (g := fun i => decide (m.2.2.1 i > 0)) h1]
    all_goals first | rw [ofN_t (g := m.2.1) h2] | rw [ofN_f (g := m.2.1) h2]
    all_goals (repeat' (first | exact trivial | exact rfl | exact TS.eqv_refl _ _ | exact len_app _ _ | exact rows_appI | exact fun _ _ => eqvL_refl _ _ | exact fun i _ => eqvL_rowNums rfl _ i | apply And.intro))
  · rcases h1 : decide (m.2.2.1 2 > 0) <;> rcases h2 : m.2.1 2
    all_goals refine holds_of_eq (tl_x m a b k o n c ok _ _ ((2 : Nat) : Int) τ0) ?_
    all_goals repeat' with_reducible (first | refine holds_ite (fun h => absurd h (by decide)) (fun _ => ?_) | refine holds_ite (fun _ => ?_) (fun h => absurd h (by decide)) | refine holds_ite (fun h => absurd (h1.symm.trans h) (by decide)) (fun _ => ?_) | refine holds_ite (fun _ => ?_) (fun h => absurd (h1.symm.trans h) (by decide)) | refine holds_ite (fun h => absurd (h2.symm.trans h) (by decide)) (fun _ => ?_) | refine holds_ite (fun _ => ?_) (fun h => absurd (h2.symm.trans h) (by decide)) | refine holds_must (rowsB_i _ _ _) ?_ | refine holds_must (rowsB_app (by omega)) ?_ | refine holds_must (decide_eq_true (by omega)) ?_ | refine holds_inI ?_)
    all_goals refine holds_leaf (nx 2 (by decide) _ ?_)
    all_goals show tlL.eqv _ ⟨[[], [], [], [.i c], [], [.b ok], [], [], [.i ((2 + 1 : Nat) : Int)]], tlO m a b k o n (ofN (fun i => decide (m.2.2.1 i > 0)) (2 + 1)) (ofN m.2.1 (2 + 1))⟩
    all_goals first | rw [ofN_t (g := fun i => decide (m.2.2.1 i > 0)) h1] | rw [ofN_f (g := fun i => decide (m.2.2.1 i > 0)) h1]
    all_goals first | rw [ofN_t (g := m.2.1) h2] | rw [ofN_f (g := m.2.1) h2]
    all_goals (repeat' (first | exact trivial | exact rfl | exact TS.eqv_refl _ _ | exact len_app _ _ | exact rows_appI | exact fun _ _ => eqvL_refl _ _ | exact fun i _ => eqvL_rowNums rfl _ i | apply And.intro))
  · rcases h1 : decide (m.2.2.1 3 > 0) <;> rcases h2 : m.2.1 3
    all_goals refine holds_of_eq (tl_x m a b k o n c ok _ _ ((3 : Nat) : Int) τ0) ?_
    all_goals repeat' with_reducible (first | refine holds_ite (fun h => absurd h (by decide)) (fun _ => ?_) | refine holds_ite (fun _ => ?_) (fun h => absurd h (by decide)) | refine holds_ite (fun h => absurd (h1.symm.trans h) (by decide)) (fun _ => ?_) | refine holds_ite (fun _ => ?_) (fun h => absurd (h1.symm.trans h) (by decide)) | refine holds_ite (fun h => absurd (h2.symm.trans h) (by decide)) (fun _ => ?_) | refine holds_ite (fun _ => ?_) (fun h => absurd (h2.symm.trans h) (by decide)) | refine holds_must (rowsB_i _ _ _) ?_ | refine holds_must (rowsB_app (by omega)) ?_ | refine holds_must (decide_eq_true (by omega)) ?_ | refine holds_inI ?_)
    all_goals refine holds_leaf (nx 3 (by decide) _ ?_)
    all_goals show tlL.eqv _ ⟨[[], [], [], [.i c], [], [.b ok], [], [], [.i ((3 + 1 : Nat) : Int)]], tlO m a b k o n (ofN (fun i => decide (m.2.2.1 i > 0)) (3 + 1)) (ofN m.2.1 (3 + 1))⟩
    all_goals first | rw [ofN_t (g := fun i => decide (m.2.2.1 i > 0)) h1] | rw [ofN_f (g := fun i => decide (m.2.2.1 i > 0)) h1]
    all_goals first | rw [ofN_t (g := m.2.1) h2] | rw [ofN_f (g := m.2.1) h2]
    all_goals (repeat' (first | exact trivial | exact rfl | exact TS.eqv_refl _ _ | exact len_app _ _ | exact rows_appI | exact fun _ _ => eqvL_refl _ _ | exact fun i _ => eqvL_rowNums rfl _ i | apply And.intro))
  · rcases h1 : decide (m.2.2.1 4 > 0) <;> rcases h2 : m.2.1 4
    all_goals refine holds_of_eq (tl_x m a b k o n c ok _ _ ((4 : Nat) : Int) τ0) ?_
    all_goals repeat' with_reducible (first | refine holds_ite (fun h => absurd h (by decide)) (fun _ => ?_) | refine holds_ite (fun _ => ?_) (fun h => absurd h (by decide)) | refine holds_ite (fun h => absurd (h1.symm.trans h) (by decide)) (fun _ => ?_) | refine holds_ite (fun _ => ?_) (fun h => absurd (h1.symm.trans h) (by decide)) | refine holds_ite (fun h => absurd (h2.symm.trans h) (by decide)) (fun _ => ?_) | refine holds_ite (fun _ => ?_) (fun h => absurd (h2.symm.trans h) (by decide)) | refine holds_must (rowsB_i _ _ _) ?_ | refine holds_must (rowsB_app (by omega)) ?_ | refine holds_must (decide_eq_true (by omega)) ?_ | refine holds_inI ?_)
    all_goals refine holds_leaf (nx 4 (by decide) _ ?_)
    all_goals show tlL.eqv _ ⟨[[], [], [], [.i c], [], [.b ok], [], [], [.i ((4 + 1 : Nat) : Int)]], tlO m a b k o n (ofN (fun i => decide (m.2.2.1 i > 0)) (4 + 1)) (ofN m.2.1 (4 + 1))⟩
    all_goals first | rw [ofN_t (g := fun i => decide (m.2.2.1 i > 0)) h1] | rw [ofN_f (g := fun i => decide (m.2.2.1 i > 0)) h1]
    all_goals first | rw [ofN_t (g := m.2.1) h2] | rw [ofN_f (g := m.2.1) h2]
    all_goals (repeat' (first | exact trivial | exact rfl | exact TS.eqv_refl _ _ | exact len_app _ _ | exact rows_appI | exact fun _ _ => eqvL_refl _ _ | exact fun i _ => eqvL_rowNums rfl _ i | apply And.intro))
  · refine holds_of_eq (tl_x m a b k o n c ok _ _ ((5 : Nat) : Int) τ0) ?_
    have h1 : true = true := rfl
    have h2 : true = true := rfl
    (repeat' with_reducible (first | refine holds_ite (fun h => absurd h (by decide)) (fun _ => ?_) | refine holds_ite (fun _ => ?_) (fun h => absurd h (by decide)) | refine holds_ite (fun h => absurd (h1.symm.trans h) (by decide)) (fun _ => ?_) | refine holds_ite (fun _ => ?_) (fun h => absurd (h1.symm.trans h) (by decide)) | refine holds_ite (fun h => absurd (h2.symm.trans h) (by decide)) (fun _ => ?_) | refine holds_ite (fun _ => ?_) (fun h => absurd (h2.symm.trans h) (by decide)) | refine holds_must (rowsB_i _ _ _) ?_ | refine holds_must (rowsB_app (by omega)) ?_ | refine holds_must (decide_eq_true (by omega)) ?_ | refine holds_inI ?_))
    refine holds_leaf ?_
    show tlE.eqv _ _
    (repeat' (first | exact trivial | exact rfl | exact TS.eqv_refl _ _ | exact len_app _ _ | exact rows_appI | exact fun _ _ => eqvL_refl _ _ | exact fun i _ => eqvL_rowNums rfl _ i | apply And.intro))
end
end Go.Proofs.Ytobknnmalnfknaa
