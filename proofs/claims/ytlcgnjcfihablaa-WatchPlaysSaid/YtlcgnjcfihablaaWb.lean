/- Reports: who reported: what the calls come to.
   Conditions: none. -/
import Derived.Test.YtlcgnjcfihablaaWa
set_option linter.unusedSimpArgs false
set_option linter.unusedVariables false
namespace Go.Proofs.Ytlcgnjcfihablaa
open Go.Eng Go.RowKit Go.ChangeShapes Go.WideShapes
set_option maxRecDepth 100000
theorem ofN_len (g : Nat → Bool) : ∀ n, (ofN g n).length ≤ n
  | 0 => Nat.le_refl _
  | n + 1 => by
    have := ofN_len g n
    simp only [ofN]
    split
    · rw [List.length_append, List.length_singleton]; omega
    · omega
theorem ofN_t {g : Nat → Bool} {n : Nat} (h : g n = true) : ofN g (n + 1) = ofN g n ++ [(n : Int)] := by simp only [ofN, h, if_true]
theorem ofN_f {g : Nat → Bool} {n : Nat} (h : g n = false) : ofN g (n + 1) = ofN g n := by simp only [ofN, h, Bool.false_eq_true, if_false]
theorem six {d : Nat} (h : d ≤ 5) : d = 0 ∨ d = 1 ∨ d = 2 ∨ d = 3 ∨ d = 4 ∨ d = 5 := by omega
theorem body34_eq : Try.f34.body = some body34 := by kernel_rfl
theorem in34 : Within Try.prog 34 Try.f34.ntmps body34 := within_body Try.func34 body34_eq
theorem lp34 : (flat body34).drop 5 = [.block 0 (.loop x34)] ++ (flat body34).drop 6 := by kernel_rfl
theorem in34x : Within Try.prog 34 Try.f34.ntmps x34 := by
  have h : (flat body34)[5]? = some (.block 0 (.loop x34)) := by kernel_rfl
  exact within_loop (within_block (within_at in34 5 h))
theorem body35_eq : Try.f35.body = some body35 := by kernel_rfl
theorem in35 : Within Try.prog 35 Try.f35.ntmps body35 := within_body Try.func35 body35_eq
theorem lp35 : (flat body35).drop 3 = [.block 0 (.loop x35)] ++ (flat body35).drop 4 := by kernel_rfl
theorem in35x : Within Try.prog 35 Try.f35.ntmps x35 := by
  have h : (flat body35)[3]? = some (.block 0 (.loop x35)) := by kernel_rfl
  exact within_loop (within_block (within_at in35 3 h))
def ofQ (m : Nat → Bool) (l : List Int) : Ex → EN → Prop
  | .exit _, e => ofE.eqv e ⟨[[]], ofO m l⟩
  | _, _ => False
def ofG (g : Nat → Bool) : List Num := [.b (g 0), .b (g 1), .b (g 2), .b (g 3), .b (g 4)]
section
variable (m g : Nat → Bool)
set_option maxHeartbeats 4000000 in
theorem of_loop (d : Nat) (hd : d ≤ 5) : HT Try.prog Try.f34.ntmps 1 (.loop x34) 3 (ofL.tm ⟨[[], ofG g, [.i (d : Int)]], ofO m (ofN g d)⟩) (ofL.heap ⟨[[], ofG g, [.i (d : Int)]], ofO m (ofN g d)⟩) (QX ⟨none, [(0, ofE)], some ofR⟩ (ofQ m (ofN g 5))) := by
  refine HT.loopX (noTab_all _) mixed (n := 300) in34x ofL _ _ (fun d : Nat => ⟨[[], ofG g, [.i (d : Int)]], ofO m (ofN g d)⟩) (fun d => d ≤ 5) (fun d => 5 - d) (fun _ => ofQ m (ofN g 5)) (by decide) ?_ d hd
  intro d hd τ0
  refine holds_of_eq (of_x m g (ofN g d) d τ0) ?_
  have hl := ofN_len g d
  have nx : ∀ e, d < 5 → ofL.eqv e ⟨[[], ofG g, [.i ((d + 1 : Nat) : Int)]], ofO m (ofN g (d + 1))⟩ → ∃ d' : Nat, d' ≤ 5 ∧ 5 - d' < 5 - d ∧ ofL.eqv e ⟨[[], ofG g, [.i (d' : Int)]], ofO m (ofN g d')⟩ ∧ ∀ ex e, ofQ m (ofN g 5) ex e → ofQ m (ofN g 5) ex e :=
    fun e h he => ⟨d + 1, by omega, by omega, he, fun _ _ h => h⟩
  rcases six hd with rfl | rfl | rfl | rfl | rfl | rfl
  all_goals repeat' with_reducible (first | refine holds_ite (fun h => absurd h (by decide)) (fun _ => ?_) | refine holds_ite (fun _ => ?_) (fun h => absurd h (by decide)) | refine holds_must (rowsB_i _ _ _) ?_ | refine holds_must (rowsB_app (by omega)) ?_ | refine holds_must (decide_eq_true (by omega)) ?_ | refine holds_inI ?_ | refine holds_ite (fun hg => ?_) (fun hg => ?_))
  all_goals refine holds_leaf ?_
  all_goals first
    | exact ofE.eqv_refl _
    | (refine nx _ (by decide) ⟨⟨trivial, ⟨rfl, rfl, rfl, rfl, rfl, trivial⟩, rfl, trivial⟩, ?_⟩
       first | rw [ofN_t hg] | rw [ofN_f hg]
       (repeat' (first | exact trivial | exact rfl | exact TS.eqv_refl _ _ | exact len_app _ _ | exact rows_appI | exact fun _ _ => eqvL_refl _ _ | exact fun i _ => eqvL_rowNums rfl _ i | apply And.intro))
       done)
theorem of_end (l : List Int) : HTL Try.prog Try.f34.ntmps 1 ((flat body34).drop 6) 3 (ofE.tm ⟨[[]], ofO m l⟩) (ofE.heap ⟨[[]], ofO m l⟩) (QX ⟨none, [], some ofR⟩ fun ex en => ex = .ret → ofR.eqv en ⟨[[]], ofO m l⟩) :=
  HTL.runX (noTab_all _) mixed (n := 300) (by decide) (within_drop in34 6) (by decide) fun τ0 => holds_of_eq (of_tail m l τ0) (holds_must (rowsB_i _ _ _) (holds_leaf fun _ => by repeat' (first | exact trivial | exact rfl | exact TS.eqv_refl _ _ | exact len_app _ _ | exact rows_appI | exact fun _ _ => eqvL_refl _ _ | exact fun i _ => eqvL_rowNums rfl _ i | apply And.intro)))
def of1 (m : Nat → Bool) (a : Int) : Ex → EN → Prop
  | .normal, e => 0 ≤ a ∧ a < 5 ∧ ofL.eqv e ⟨[[], ofG (fun i => m (5 * a.toNat + i)), [.i 0]], ofO m []⟩
  | .ret, e => ofR.eqv e ⟨[[]], ofO m (ofS m a)⟩
  | .exit _, _ => True
theorem ofS_out {m : Nat → Bool} {a : Int} (h : ¬ (0 ≤ a ∧ a < 5)) : ofS m a = [] := if_neg h
set_option maxHeartbeats 4000000 in
theorem of_std (a : Int) : StdX Try.prog 34 ofT ⟨[[], [.i a]], [.box (on25 m)]⟩ ofR ⟨[[]], ofO m (ofS m a)⟩ := by
  refine stdX_htX Try.func34 body34_eq (by kernel_rfl) rfl (by kernel_rfl) rfl rfl ?_
  refine HT.cutX 5 (t1 := ofL) (R1 := of1 m a) (HTL.runX (noTab_all _) mixed (n := 300) (by decide) (within_take in34 5) (by decide) fun τ0 => holds_of_eq (of_pre m a τ0) ?_) ?_ fun en h _ => h
  · refine holds_ite (fun h0 => holds_ite (fun h5 => holds_leaf ?_) fun h5 => ?_) fun h0 => holds_leaf ?_
    · have : ¬ (0 ≤ a ∧ a < 5) := by simp at h5; omega
      show ofR.eqv _ _
      rw [ofS_out this]
      (repeat' (first | exact trivial | exact rfl | exact TS.eqv_refl _ _ | exact len_app _ _ | exact rows_appI | exact fun _ _ => eqvL_refl _ _ | exact fun i _ => eqvL_rowNums rfl _ i | apply And.intro)); all_goals exact fun i hi => absurd hi (by simp [lnS, ON.len, hdO, tlO, ofO])
    · have h0 := of_decide_eq_true h0
      simp at h5
      repeat' with_reducible (first | refine holds_ite (fun h => ?_) (fun h => ?_))
      all_goals try (refine holds_leaf ⟨h0, h5, ?_⟩; have h := of_decide_eq_true h; subst h; (repeat' (first | exact trivial | exact rfl | exact TS.eqv_refl _ _ | exact len_app _ _ | exact rows_appI | exact fun _ _ => eqvL_refl _ _ | exact fun i _ => eqvL_rowNums rfl _ i | apply And.intro)); all_goals exact fun i hi => absurd hi (by simp [lnS, ON.len, hdO, tlO, ofO]))
      all_goals (exfalso; simp at *; omega)
    · have := of_decide_eq_false h0
      show ofR.eqv _ _
      rw [ofS_out (by omega)]
      (repeat' (first | exact trivial | exact rfl | exact TS.eqv_refl _ _ | exact len_app _ _ | exact rows_appI | exact fun _ _ => eqvL_refl _ _ | exact fun i _ => eqvL_rowNums rfl _ i | apply And.intro)); all_goals exact fun i hi => absurd hi (by simp [lnS, ON.len, hdO, tlO, ofO])
  · rintro en ⟨h0, h5, he⟩
    refine HTg.pre (WP := wpL Try.prog _) (fun h hq => wpL_mono h hq) he (HTL.loopThen lp34 (of_loop m _ 0 (by decide)) ?_ ?_)
    · intro en he
      have he : ofE.eqv en _ := he
      have e : ofS m a = ofN (fun i => m (5 * a.toNat + i)) 5 := if_pos ⟨h0, h5⟩
      rw [e]
      exact HTg.pre (WP := wpL Try.prog _) (fun h hq => wpL_mono h hq) he (of_end m _)
    · exact fun en h => h.elim
end
end Go.Proofs.Ytlcgnjcfihablaa
