/- Reports: who reported (the reference); clearing; adding.
   Conditions: none. -/
import Derived.Test.YtlcgnjcfihablaaWb
set_option linter.unusedSimpArgs false
set_option linter.unusedVariables false
namespace Go.Proofs.Ytlcgnjcfihablaa
open Go.Eng Go.RowKit Go.ChangeShapes Go.WideShapes
set_option maxRecDepth 100000
def rofQ (m : Nat → Bool) (a : Int) : Ex → EN → Prop
  | .exit _, e => ofE.eqv e ⟨[[]], ofO m (ofS m a)⟩
  | _, _ => False
section
variable (m : Nat → Bool)
set_option maxHeartbeats 40000000 in
theorem rof_loopG (a : Int) (h0 : 0 ≤ a ∧ a < 5) (g : Nat → Bool) (hG : ∀ i, m (5 * a.toNat + i) = g i) (d : Nat) (hd : d ≤ 5) : HT Try.prog Try.f35.ntmps 1 (.loop x35) 3 (rofL.tm ⟨[[], [.i a], [], [.i (d : Int)]], ofO m (ofN g d)⟩) (rofL.heap ⟨[[], [.i a], [], [.i (d : Int)]], ofO m (ofN g d)⟩) (QX ⟨none, [(0, ofE)], some ofR⟩ (rofQ m a)) := by
  refine HT.loopX (noTab_all _) mixed (n := 300) in35x rofL _ _ (fun d : Nat => ⟨[[], [.i a], [], [.i (d : Int)]], ofO m (ofN g d)⟩) (fun d => d ≤ 5) (fun d => 5 - d) (fun _ => rofQ m a) (by decide) ?_ d hd
  intro d hd τ0
  refine holds_of_eq (rof_x m _ a d τ0) ?_
  have hl := ofN_len g d
  have e5 : ofS m a = ofN g 5 := (if_pos h0).trans (congrArg (fun g => ofN g 5) (funext hG))
  have nx : ∀ e, d < 5 → rofL.eqv e ⟨[[], [.i a], [], [.i ((d + 1 : Nat) : Int)]], ofO m (ofN g (d + 1))⟩ → ∃ d' : Nat, d' ≤ 5 ∧ 5 - d' < 5 - d ∧ rofL.eqv e ⟨[[], [.i a], [], [.i (d' : Int)]], ofO m (ofN g d')⟩ ∧ ∀ ex e, rofQ m a ex e → rofQ m a ex e :=
    fun e h he => ⟨d + 1, by omega, by omega, he, fun _ _ h => h⟩
  have ha : a = 0 ∨ a = 1 ∨ a = 2 ∨ a = 3 ∨ a = 4 := by omega
  rcases ha with rfl | rfl | rfl | rfl | rfl <;> rcases six hd with rfl | rfl | rfl | rfl | rfl | rfl
  all_goals repeat' with_reducible (first | refine holds_ite (fun h => absurd h (by decide)) (fun _ => ?_) | refine holds_ite (fun _ => ?_) (fun h => absurd h (by decide)) | refine holds_must (rowsB_i _ _ _) ?_ | refine holds_must (rowsB_app (by omega)) ?_ | refine holds_must (decide_eq_true (by omega)) ?_ | refine holds_inI ?_ | refine holds_ite (fun hg => ?_) (fun hg => ?_))
  all_goals refine holds_leaf ?_
  all_goals first
    | (show ofE.eqv _ _; rw [e5]; exact ofE.eqv_refl _)
    | (refine nx _ (by decide) ⟨⟨trivial, rfl, trivial, rfl, trivial⟩, ?_⟩
       first | rw [ofN_t (n := 0) ((hG 0).symm.trans hg)] | rw [ofN_f (n := 0) ((hG 0).symm.trans hg)] | rw [ofN_t (n := 1) ((hG 1).symm.trans hg)] | rw [ofN_f (n := 1) ((hG 1).symm.trans hg)] | rw [ofN_t (n := 2) ((hG 2).symm.trans hg)] | rw [ofN_f (n := 2) ((hG 2).symm.trans hg)] | rw [ofN_t (n := 3) ((hG 3).symm.trans hg)] | rw [ofN_f (n := 3) ((hG 3).symm.trans hg)] | rw [ofN_t (n := 4) ((hG 4).symm.trans hg)] | rw [ofN_f (n := 4) ((hG 4).symm.trans hg)]
       (repeat' (first | exact trivial | exact rfl | exact TS.eqv_refl _ _ | exact len_app _ _ | exact rows_appI | exact fun _ _ => eqvL_refl _ _ | exact fun i _ => eqvL_rowNums rfl _ i | apply And.intro))
       done)
theorem rof_loop (a : Int) (h0 : 0 ≤ a ∧ a < 5) : HT Try.prog Try.f35.ntmps 1 (.loop x35) 3 (rofL.tm ⟨[[], [.i a], [], [.i 0]], ofO m []⟩) (rofL.heap ⟨[[], [.i a], [], [.i 0]], ofO m []⟩) (QX ⟨none, [(0, ofE)], some ofR⟩ (rofQ m a)) := rof_loopG m a h0 (fun i => m (5 * a.toNat + i)) (fun _ => rfl) 0 (by decide)
theorem rof_loop0 (a : Int) (h0 : ¬ (0 ≤ a ∧ a < 5)) : HT Try.prog Try.f35.ntmps 1 (.loop x35) 3 (rofL.tm ⟨[[], [.i a], [], [.i 0]], ofO m []⟩) (rofL.heap ⟨[[], [.i a], [], [.i 0]], ofO m []⟩) (QX ⟨none, [(0, ofE)], some ofR⟩ (rofQ m a)) := by
  refine HT.loopX (noTab_all _) mixed (n := 300) in35x rofL _ _ (fun _ : Unit => ⟨[[], [.i a], [], [.i 0]], ofO m []⟩) (fun _ => True) (fun _ => 0) (fun _ => rofQ m a) (by decide) ?_ () trivial
  intro _ _ τ0
  have e0 := ofS_out (m := m) h0
  refine holds_of_eq (rof_x m [] a 0 τ0) (holds_ite (fun _ => holds_ite (fun h1 => holds_ite (fun h2 => ?_) fun h2 => ?_) fun h1 => ?_) fun h => absurd h (by decide))
  · exact absurd ⟨of_decide_eq_true h1, of_decide_eq_true h2⟩ h0
  all_goals (refine holds_must (rowsB_i _ _ _) (holds_leaf ?_); show ofE.eqv _ _; rw [e0]; exact ofE.eqv_refl _)
theorem rof_end (l : List Int) : HTL Try.prog Try.f35.ntmps 1 ((flat body35).drop 4) 3 (ofE.tm ⟨[[]], ofO m l⟩) (ofE.heap ⟨[[]], ofO m l⟩) (QX ⟨none, [], some ofR⟩ fun ex en => ex = .ret → ofR.eqv en ⟨[[]], ofO m l⟩) :=
  HTL.runX (noTab_all _) mixed (n := 300) (by decide) (within_drop in35 4) (by decide) fun τ0 => holds_of_eq (rof_tail m l τ0) (holds_must (rowsB_i _ _ _) (holds_leaf fun _ => by repeat' (first | exact trivial | exact rfl | exact TS.eqv_refl _ _ | exact len_app _ _ | exact rows_appI | exact fun _ _ => eqvL_refl _ _ | exact fun i _ => eqvL_rowNums rfl _ i | apply And.intro)))
def rof1 (m : Nat → Bool) (a : Int) : Ex → EN → Prop
  | .normal, e => rofL.eqv e ⟨[[], [.i a], [], [.i 0]], ofO m []⟩
  | _, _ => False
theorem rof_std (a : Int) : StdX Try.prog 35 ofT ⟨[[], [.i a]], [.box (on25 m)]⟩ ofR ⟨[[]], ofO m (ofS m a)⟩ := by
  refine stdX_htX Try.func35 body35_eq (by kernel_rfl) rfl (by kernel_rfl) rfl rfl ?_
  refine HT.cutX 3 (t1 := rofL) (R1 := rof1 m a) (HTL.runX (noTab_all _) mixed (n := 300) (by decide) (within_take in35 3) (by decide) fun τ0 => holds_of_eq (rof_pre m a τ0) (holds_leaf ?_)) ?_ fun en h => h.elim
  · show rofL.eqv _ _
    (repeat' (first | exact trivial | exact rfl | exact TS.eqv_refl _ _ | exact len_app _ _ | exact rows_appI | exact fun _ _ => eqvL_refl _ _ | exact fun i _ => eqvL_rowNums rfl _ i | apply And.intro)); all_goals exact fun i hi => absurd hi (by simp [lnS, ON.len, hdO, tlO, ofO])
  · rintro en he
    have he : rofL.eqv en _ := he
    have lo : HT Try.prog Try.f35.ntmps 1 (.loop x35) 3 (rofL.tm ⟨[[], [.i a], [], [.i 0]], ofO m []⟩) (rofL.heap ⟨[[], [.i a], [], [.i 0]], ofO m []⟩) (QX ⟨none, [(0, ofE)], some ofR⟩ (rofQ m a)) := by
      by_cases h0 : 0 ≤ a ∧ a < 5
      · exact rof_loop m a h0
      · exact rof_loop0 m a h0
    refine HTg.pre (WP := wpL Try.prog _) (fun h hq => wpL_mono h hq) he (HTL.loopThen lp35 lo ?_ ?_)
    · intro en he
      have he : ofE.eqv en _ := he
      exact HTg.pre (WP := wpL Try.prog _) (fun h hq => wpL_mono h hq) he (rof_end m _)
    · exact fun en h => h.elim
end
def ofM (e : EN) : Nat → Bool := fun k => e.bb 0 k
def ofC (e : EN) : Tree (TS × EN) := .leaf (ofR, ⟨[[]], ofO (ofM e) (ofS (ofM e) (e.ai 1 0))⟩)
def clrF (m : Nat → Bool) (a : Int) (k : Nat) : Bool := bif decide (0 ≤ a) && decide (a < 5) && decide (k / 5 = a.toNat) then false else m k
def setF (m : Nat → Bool) (j k : Nat) : Bool := bif Nat.beq k j then true else m k
def clR : TS := ⟨[], [], [(0, .box b25)], 1⟩
def clC (e : EN) : Tree (TS × EN) := .leaf (clR, ⟨[], [.box (on25 (clrF (ofM e) (e.ai 1 0)))]⟩)
def wcSm : List (FuncId × Summ) := [(34, ctrSumm ofT ofC), (35, ctrSumm ofT ofC), (30, ctrSumm ofT clC), (31, ctrSumm ofT clC)]
def wcT : Tab := smTab (tabOf wcSm)
noncomputable def body32 : Code := Try.f32.body.getD .skip
noncomputable def body33 : Code := Try.f33.body.getD .skip
def adT : TS := ⟨[0, 1, 2], [.one (.ptr 0 0), .one (.i .i64), .one (.i .i64)], [(0, .box b25)], 1⟩
def adL : TS := ⟨[0, 2], [.one (.ptr 0 0), .one (.i .i64)], [(0, .box b25)], 1⟩
def adR : TS := ⟨[6], [.one .b], [(0, .box b25)], 1⟩
theorem cl30 (m : Nat → Bool) (a : Int) : callW Try.prog (codeT Try.prog noTab 300) 30 (ofT.vals ⟨[[], [.i a]], [.box (on25 m)]⟩) (ofT.heap ⟨[[], [.i a]], [.box (on25 m)]⟩) 1 (outV 1 clR) =
  .ite (decide (a ≥ 0)) (.ite (decide (a < 5)) (.ite (decide (a = 0)) (.leaf ⟨[], [.box [.b false, .b false, .b false, .b false, .b false, .b (m 5), .b (m 6), .b (m 7), .b (m 8), .b (m 9), .b (m 10), .b (m 11), .b (m 12),
  .b (m 13), .b (m 14), .b (m 15), .b (m 16), .b (m 17), .b (m 18), .b (m 19), .b (m 20), .b (m 21), .b (m 22), .b (m 23), .b (m 24)]]⟩) (.ite (decide (a = 1)) (.leaf ⟨[], [.box [.b (m 0), .b (m 1), .b (m 2), .b (m 3), .b
  (m 4), .b false, .b false, .b false, .b false, .b false, .b (m 10), .b (m 11), .b (m 12), .b (m 13), .b (m 14), .b (m 15), .b (m 16), .b (m 17), .b (m 18), .b (m 19), .b (m 20), .b (m 21), .b (m 22), .b (m 23), .b (m
  24)]]⟩) (.ite (decide (a = 2)) (.leaf ⟨[], [.box [.b (m 0), .b (m 1), .b (m 2), .b (m 3), .b (m 4), .b (m 5), .b (m 6), .b (m 7), .b (m 8), .b (m 9), .b false, .b false, .b false, .b false, .b false, .b (m 15), .b (m
  16), .b (m 17), .b (m 18), .b (m 19), .b (m 20), .b (m 21), .b (m 22), .b (m 23), .b (m 24)]]⟩) (.ite (decide (a = 3)) (.leaf ⟨[], [.box [.b (m 0), .b (m 1), .b (m 2), .b (m 3), .b (m 4), .b (m 5), .b (m 6), .b (m 7), .b
  (m 8), .b (m 9), .b (m 10), .b (m 11), .b (m 12), .b (m 13), .b (m 14), .b false, .b false, .b false, .b false, .b false, .b (m 20), .b (m 21), .b (m 22), .b (m 23), .b (m 24)]]⟩) (.ite (decide (a = 4)) (.leaf ⟨[], [.box
  [.b (m 0), .b (m 1), .b (m 2), .b (m 3), .b (m 4), .b (m 5), .b (m 6), .b (m 7), .b (m 8), .b (m 9), .b (m 10), .b (m 11), .b (m 12), .b (m 13), .b (m 14), .b (m 15), .b (m 16), .b (m 17), .b (m 18), .b (m 19), .b false,
  .b false, .b false, .b false, .b false]]⟩) (.must false (.fail "index"))))))) (.leaf ⟨[], [.box (on25 m)]⟩)) (.leaf ⟨[], [.box (on25 m)]⟩) := by kernel_rfl
theorem cl31 (m : Nat → Bool) (a : Int) : callW Try.prog (codeT Try.prog noTab 300) 31 (ofT.vals ⟨[[], [.i a]], [.box (on25 m)]⟩) (ofT.heap ⟨[[], [.i a]], [.box (on25 m)]⟩) 1 (outV 1 clR) =
  .ite (decide (a ≥ 0)) (.ite (decide (a < 5)) (.ite (decide (a = 0)) (.leaf ⟨[], [.box [.b false, .b false, .b false, .b false, .b false, .b (m 5), .b (m 6), .b (m 7), .b (m 8), .b (m 9), .b (m 10), .b (m 11), .b (m 12),
  .b (m 13), .b (m 14), .b (m 15), .b (m 16), .b (m 17), .b (m 18), .b (m 19), .b (m 20), .b (m 21), .b (m 22), .b (m 23), .b (m 24)]]⟩) (.ite (decide (a = 1)) (.leaf ⟨[], [.box [.b (m 0), .b (m 1), .b (m 2), .b (m 3), .b
  (m 4), .b false, .b false, .b false, .b false, .b false, .b (m 10), .b (m 11), .b (m 12), .b (m 13), .b (m 14), .b (m 15), .b (m 16), .b (m 17), .b (m 18), .b (m 19), .b (m 20), .b (m 21), .b (m 22), .b (m 23), .b (m
  24)]]⟩) (.ite (decide (a = 2)) (.leaf ⟨[], [.box [.b (m 0), .b (m 1), .b (m 2), .b (m 3), .b (m 4), .b (m 5), .b (m 6), .b (m 7), .b (m 8), .b (m 9), .b false, .b false, .b false, .b false, .b false, .b (m 15), .b (m
  16), .b (m 17), .b (m 18), .b (m 19), .b (m 20), .b (m 21), .b (m 22), .b (m 23), .b (m 24)]]⟩) (.ite (decide (a = 3)) (.leaf ⟨[], [.box [.b (m 0), .b (m 1), .b (m 2), .b (m 3), .b (m 4), .b (m 5), .b (m 6), .b (m 7), .b
  (m 8), .b (m 9), .b (m 10), .b (m 11), .b (m 12), .b (m 13), .b (m 14), .b false, .b false, .b false, .b false, .b false, .b (m 20), .b (m 21), .b (m 22), .b (m 23), .b (m 24)]]⟩) (.ite (decide (a = 4)) (.leaf ⟨[], [.box
  [.b (m 0), .b (m 1), .b (m 2), .b (m 3), .b (m 4), .b (m 5), .b (m 6), .b (m 7), .b (m 8), .b (m 9), .b (m 10), .b (m 11), .b (m 12), .b (m 13), .b (m 14), .b (m 15), .b (m 16), .b (m 17), .b (m 18), .b (m 19), .b false,
  .b false, .b false, .b false, .b false]]⟩) (.must false (.fail "index"))))))) (.leaf ⟨[], [.box (on25 m)]⟩)) (.leaf ⟨[], [.box (on25 m)]⟩) := by kernel_rfl
theorem ad32_a (m : Nat → Bool) (f a : Int) (τ0 : Tm) : codeT Try.prog noTab 300 32 Try.f32.ntmps (Eng.ofL ((flat body32).take 4)) (adT.tm ⟨[[], [.i f], [.i a]], [.box (on25 m)]⟩ ++ τ0) (adT.heap ⟨[[], [.i f], [.i a]], [.box (on25 m)]⟩) 1 (outX 1 ⟨some adL, [], some adR⟩) =
  .ite (decide (f ≥ 0)) (.ite (!decide (f < 5)) (.leaf (.ret, ⟨[[.b false]], [.box (on25 m)]⟩)) (.ite (decide (a ≥ 0)) (.ite (!decide (a < 5)) (.leaf (.ret, ⟨[[.b false]], [.box (on25 m)]⟩)) (.ite (f == a) (.leaf (.ret,
  ⟨[[.b false]], [.box (on25 m)]⟩)) (.ite (decide (a = 0)) (.ite (decide (f = 0)) (.leaf (.normal, ⟨[[.u], [.i a]], [.box [.b true, .b (m 1), .b (m 2), .b (m 3), .b (m 4), .b (m 5), .b (m 6), .b (m 7), .b (m 8), .b (m 9),
  .b (m 10), .b (m 11), .b (m 12), .b (m 13), .b (m 14), .b (m 15), .b (m 16), .b (m 17), .b (m 18), .b (m 19), .b (m 20), .b (m 21), .b (m 22), .b (m 23), .b (m 24)]]⟩)) (.ite (decide (f = 1)) (.leaf (.normal, ⟨[[.u], [.i
  a]], [.box [.b (m 0), .b true, .b (m 2), .b (m 3), .b (m 4), .b (m 5), .b (m 6), .b (m 7), .b (m 8), .b (m 9), .b (m 10), .b (m 11), .b (m 12), .b (m 13), .b (m 14), .b (m 15), .b (m 16), .b (m 17), .b (m 18), .b (m 19),
  .b (m 20), .b (m 21), .b (m 22), .b (m 23), .b (m 24)]]⟩)) (.ite (decide (f = 2)) (.leaf (.normal, ⟨[[.u], [.i a]], [.box [.b (m 0), .b (m 1), .b true, .b (m 3), .b (m 4), .b (m 5), .b (m 6), .b (m 7), .b (m 8), .b (m
  9), .b (m 10), .b (m 11), .b (m 12), .b (m 13), .b (m 14), .b (m 15), .b (m 16), .b (m 17), .b (m 18), .b (m 19), .b (m 20), .b (m 21), .b (m 22), .b (m 23), .b (m 24)]]⟩)) (.ite (decide (f = 3)) (.leaf (.normal, ⟨[[.u],
  [.i a]], [.box [.b (m 0), .b (m 1), .b (m 2), .b true, .b (m 4), .b (m 5), .b (m 6), .b (m 7), .b (m 8), .b (m 9), .b (m 10), .b (m 11), .b (m 12), .b (m 13), .b (m 14), .b (m 15), .b (m 16), .b (m 17), .b (m 18), .b (m
  19), .b (m 20), .b (m 21), .b (m 22), .b (m 23), .b (m 24)]]⟩)) (.ite (decide (f = 4)) (.leaf (.normal, ⟨[[.u], [.i a]], [.box [.b (m 0), .b (m 1), .b (m 2), .b (m 3), .b true, .b (m 5), .b (m 6), .b (m 7), .b (m 8), .b
  (m 9), .b (m 10), .b (m 11), .b (m 12), .b (m 13), .b (m 14), .b (m 15), .b (m 16), .b (m 17), .b (m 18), .b (m 19), .b (m 20), .b (m 21), .b (m 22), .b (m 23), .b (m 24)]]⟩)) (.must false (.fail "index"))))))) (.ite
  (decide (a = 1)) (.ite (decide (f = 0)) (.leaf (.normal, ⟨[[.u], [.i a]], [.box [.b (m 0), .b (m 1), .b (m 2), .b (m 3), .b (m 4), .b true, .b (m 6), .b (m 7), .b (m 8), .b (m 9), .b (m 10), .b (m 11), .b (m 12), .b (m
  13), .b (m 14), .b (m 15), .b (m 16), .b (m 17), .b (m 18), .b (m 19), .b (m 20), .b (m 21), .b (m 22), .b (m 23), .b (m 24)]]⟩)) (.ite (decide (f = 1)) (.leaf (.normal, ⟨[[.u], [.i a]], [.box [.b (m 0), .b (m 1), .b (m
  2), .b (m 3), .b (m 4), .b (m 5), .b true, .b (m 7), .b (m 8), .b (m 9), .b (m 10), .b (m 11), .b (m 12), .b (m 13), .b (m 14), .b (m 15), .b (m 16), .b (m 17), .b (m 18), .b (m 19), .b (m 20), .b (m 21), .b (m 22), .b
  (m 23), .b (m 24)]]⟩)) (.ite (decide (f = 2)) (.leaf (.normal, ⟨[[.u], [.i a]], [.box [.b (m 0), .b (m 1), .b (m 2), .b (m 3), .b (m 4), .b (m 5), .b (m 6), .b true, .b (m 8), .b (m 9), .b (m 10), .b (m 11), .b (m 12),
  .b (m 13), .b (m 14), .b (m 15), .b (m 16), .b (m 17), .b (m 18), .b (m 19), .b (m 20), .b (m 21), .b (m 22), .b (m 23), .b (m 24)]]⟩)) (.ite (decide (f = 3)) (.leaf (.normal, ⟨[[.u], [.i a]], [.box [.b (m 0), .b (m 1),
  .b (m 2), .b (m 3), .b (m 4), .b (m 5), .b (m 6), .b (m 7), .b true, .b (m 9), .b (m 10), .b (m 11), .b (m 12), .b (m 13), .b (m 14), .b (m 15), .b (m 16), .b (m 17), .b (m 18), .b (m 19), .b (m 20), .b (m 21), .b (m
  22), .b (m 23), .b (m 24)]]⟩)) (.ite (decide (f = 4)) (.leaf (.normal, ⟨[[.u], [.i a]], [.box [.b (m 0), .b (m 1), .b (m 2), .b (m 3), .b (m 4), .b (m 5), .b (m 6), .b (m 7), .b (m 8), .b true, .b (m 10), .b (m 11), .b
  (m 12), .b (m 13), .b (m 14), .b (m 15), .b (m 16), .b (m 17), .b (m 18), .b (m 19), .b (m 20), .b (m 21), .b (m 22), .b (m 23), .b (m 24)]]⟩)) (.must false (.fail "index"))))))) (.ite (decide (a = 2)) (.ite (decide (f =
  0)) (.leaf (.normal, ⟨[[.u], [.i a]], [.box [.b (m 0), .b (m 1), .b (m 2), .b (m 3), .b (m 4), .b (m 5), .b (m 6), .b (m 7), .b (m 8), .b (m 9), .b true, .b (m 11), .b (m 12), .b (m 13), .b (m 14), .b (m 15), .b (m 16),
  .b (m 17), .b (m 18), .b (m 19), .b (m 20), .b (m 21), .b (m 22), .b (m 23), .b (m 24)]]⟩)) (.ite (decide (f = 1)) (.leaf (.normal, ⟨[[.u], [.i a]], [.box [.b (m 0), .b (m 1), .b (m 2), .b (m 3), .b (m 4), .b (m 5), .b
  (m 6), .b (m 7), .b (m 8), .b (m 9), .b (m 10), .b true, .b (m 12), .b (m 13), .b (m 14), .b (m 15), .b (m 16), .b (m 17), .b (m 18), .b (m 19), .b (m 20), .b (m 21), .b (m 22), .b (m 23), .b (m 24)]]⟩)) (.ite (decide (f
  = 2)) (.leaf (.normal, ⟨[[.u], [.i a]], [.box [.b (m 0), .b (m 1), .b (m 2), .b (m 3), .b (m 4), .b (m 5), .b (m 6), .b (m 7), .b (m 8), .b (m 9), .b (m 10), .b (m 11), .b true, .b (m 13), .b (m 14), .b (m 15), .b (m
  16), .b (m 17), .b (m 18), .b (m 19), .b (m 20), .b (m 21), .b (m 22), .b (m 23), .b (m 24)]]⟩)) (.ite (decide (f = 3)) (.leaf (.normal, ⟨[[.u], [.i a]], [.box [.b (m 0), .b (m 1), .b (m 2), .b (m 3), .b (m 4), .b (m 5),
  .b (m 6), .b (m 7), .b (m 8), .b (m 9), .b (m 10), .b (m 11), .b (m 12), .b true, .b (m 14), .b (m 15), .b (m 16), .b (m 17), .b (m 18), .b (m 19), .b (m 20), .b (m 21), .b (m 22), .b (m 23), .b (m 24)]]⟩)) (.ite (decide
  (f = 4)) (.leaf (.normal, ⟨[[.u], [.i a]], [.box [.b (m 0), .b (m 1), .b (m 2), .b (m 3), .b (m 4), .b (m 5), .b (m 6), .b (m 7), .b (m 8), .b (m 9), .b (m 10), .b (m 11), .b (m 12), .b (m 13), .b true, .b (m 15), .b (m
  16), .b (m 17), .b (m 18), .b (m 19), .b (m 20), .b (m 21), .b (m 22), .b (m 23), .b (m 24)]]⟩)) (.must false (.fail "index"))))))) (.ite (decide (a = 3)) (.ite (decide (f = 0)) (.leaf (.normal, ⟨[[.u], [.i a]], [.box
  [.b (m 0), .b (m 1), .b (m 2), .b (m 3), .b (m 4), .b (m 5), .b (m 6), .b (m 7), .b (m 8), .b (m 9), .b (m 10), .b (m 11), .b (m 12), .b (m 13), .b (m 14), .b true, .b (m 16), .b (m 17), .b (m 18), .b (m 19), .b (m 20),
  .b (m 21), .b (m 22), .b (m 23), .b (m 24)]]⟩)) (.ite (decide (f = 1)) (.leaf (.normal, ⟨[[.u], [.i a]], [.box [.b (m 0), .b (m 1), .b (m 2), .b (m 3), .b (m 4), .b (m 5), .b (m 6), .b (m 7), .b (m 8), .b (m 9), .b (m
  10), .b (m 11), .b (m 12), .b (m 13), .b (m 14), .b (m 15), .b true, .b (m 17), .b (m 18), .b (m 19), .b (m 20), .b (m 21), .b (m 22), .b (m 23), .b (m 24)]]⟩)) (.ite (decide (f = 2)) (.leaf (.normal, ⟨[[.u], [.i a]],
  [.box [.b (m 0), .b (m 1), .b (m 2), .b (m 3), .b (m 4), .b (m 5), .b (m 6), .b (m 7), .b (m 8), .b (m 9), .b (m 10), .b (m 11), .b (m 12), .b (m 13), .b (m 14), .b (m 15), .b (m 16), .b true, .b (m 18), .b (m 19), .b (m
  20), .b (m 21), .b (m 22), .b (m 23), .b (m 24)]]⟩)) (.ite (decide (f = 3)) (.leaf (.normal, ⟨[[.u], [.i a]], [.box [.b (m 0), .b (m 1), .b (m 2), .b (m 3), .b (m 4), .b (m 5), .b (m 6), .b (m 7), .b (m 8), .b (m 9), .b
  (m 10), .b (m 11), .b (m 12), .b (m 13), .b (m 14), .b (m 15), .b (m 16), .b (m 17), .b true, .b (m 19), .b (m 20), .b (m 21), .b (m 22), .b (m 23), .b (m 24)]]⟩)) (.ite (decide (f = 4)) (.leaf (.normal, ⟨[[.u], [.i a]],
  [.box [.b (m 0), .b (m 1), .b (m 2), .b (m 3), .b (m 4), .b (m 5), .b (m 6), .b (m 7), .b (m 8), .b (m 9), .b (m 10), .b (m 11), .b (m 12), .b (m 13), .b (m 14), .b (m 15), .b (m 16), .b (m 17), .b (m 18), .b true, .b (m
  20), .b (m 21), .b (m 22), .b (m 23), .b (m 24)]]⟩)) (.must false (.fail "index"))))))) (.ite (decide (a = 4)) (.ite (decide (f = 0)) (.leaf (.normal, ⟨[[.u], [.i a]], [.box [.b (m 0), .b (m 1), .b (m 2), .b (m 3), .b (m
  4), .b (m 5), .b (m 6), .b (m 7), .b (m 8), .b (m 9), .b (m 10), .b (m 11), .b (m 12), .b (m 13), .b (m 14), .b (m 15), .b (m 16), .b (m 17), .b (m 18), .b (m 19), .b true, .b (m 21), .b (m 22), .b (m 23), .b (m 24)]]⟩))
  (.ite (decide (f = 1)) (.leaf (.normal, ⟨[[.u], [.i a]], [.box [.b (m 0), .b (m 1), .b (m 2), .b (m 3), .b (m 4), .b (m 5), .b (m 6), .b (m 7), .b (m 8), .b (m 9), .b (m 10), .b (m 11), .b (m 12), .b (m 13), .b (m 14),
  .b (m 15), .b (m 16), .b (m 17), .b (m 18), .b (m 19), .b (m 20), .b true, .b (m 22), .b (m 23), .b (m 24)]]⟩)) (.ite (decide (f = 2)) (.leaf (.normal, ⟨[[.u], [.i a]], [.box [.b (m 0), .b (m 1), .b (m 2), .b (m 3), .b
  (m 4), .b (m 5), .b (m 6), .b (m 7), .b (m 8), .b (m 9), .b (m 10), .b (m 11), .b (m 12), .b (m 13), .b (m 14), .b (m 15), .b (m 16), .b (m 17), .b (m 18), .b (m 19), .b (m 20), .b (m 21), .b true, .b (m 23), .b (m
  24)]]⟩)) (.ite (decide (f = 3)) (.leaf (.normal, ⟨[[.u], [.i a]], [.box [.b (m 0), .b (m 1), .b (m 2), .b (m 3), .b (m 4), .b (m 5), .b (m 6), .b (m 7), .b (m 8), .b (m 9), .b (m 10), .b (m 11), .b (m 12), .b (m 13), .b
  (m 14), .b (m 15), .b (m 16), .b (m 17), .b (m 18), .b (m 19), .b (m 20), .b (m 21), .b (m 22), .b true, .b (m 24)]]⟩)) (.ite (decide (f = 4)) (.leaf (.normal, ⟨[[.u], [.i a]], [.box [.b (m 0), .b (m 1), .b (m 2), .b (m
  3), .b (m 4), .b (m 5), .b (m 6), .b (m 7), .b (m 8), .b (m 9), .b (m 10), .b (m 11), .b (m 12), .b (m 13), .b (m 14), .b (m 15), .b (m 16), .b (m 17), .b (m 18), .b (m 19), .b (m 20), .b (m 21), .b (m 22), .b (m 23), .b
  true]]⟩)) (.must false (.fail "index"))))))) (.must false (.fail "index"))))))))) (.leaf (.ret, ⟨[[.b false]], [.box (on25 m)]⟩)))) (.leaf (.ret, ⟨[[.b false]], [.box (on25 m)]⟩)) := by kernel_rfl
theorem ad32_b (m : Nat → Bool) (a : Int) (τ0 : Tm) : codeT Try.prog wcT 300 32 Try.f32.ntmps (Eng.ofL ((flat body32).drop 4)) (adL.tm ⟨[[], [.i a]], [.box (on25 m)]⟩ ++ τ0) (adL.heap ⟨[[], [.i a]], [.box (on25 m)]⟩) 1 (outX 1 ⟨none, [], some adR⟩) =
  .defE ⟨[[.u], [.i a]], [.box (on25 m)]⟩ fun e0 => .defB (ofM e0 0) fun z1 => .defB (ofM e0 1) fun z2 => .defB (ofM e0 2) fun z3 => .defB (ofM e0 3) fun z4 => .defB (ofM e0 4) fun z5 => .defB (ofM e0 5) fun z6 => .defB
  (ofM e0 6) fun z7 => .defB (ofM e0 7) fun z8 => .defB (ofM e0 8) fun z9 => .defB (ofM e0 9) fun z10 => .defB (ofM e0 10) fun z11 => .defB (ofM e0 11) fun z12 => .defB (ofM e0 12) fun z13 => .defB (ofM e0 13) fun z14 =>
  .defB (ofM e0 14) fun z15 => .defB (ofM e0 15) fun z16 => .defB (ofM e0 16) fun z17 => .defB (ofM e0 17) fun z18 => .defB (ofM e0 18) fun z19 => .defB (ofM e0 19) fun z20 => .defB (ofM e0 20) fun z21 => .defB (ofM e0 21)
  fun z22 => .defB (ofM e0 22) fun z23 => .defB (ofM e0 23) fun z24 => .defB (ofM e0 24) fun z25 => .defI ((ofS (ofM e0) (e0.ai 1 0)).length : Int) fun z26 => .ite (decide (z26 < 2)) (.leaf (.ret, ⟨[[.b false]], [.box [.b
  z1, .b z2, .b z3, .b z4, .b z5, .b z6, .b z7, .b z8, .b z9, .b z10, .b z11, .b z12, .b z13, .b z14, .b z15, .b z16, .b z17, .b z18, .b z19, .b z20, .b z21, .b z22, .b z23, .b z24, .b z25]]⟩)) (.defE ⟨[[.u], [.i a]],
  [.box [.b z1, .b z2, .b z3, .b z4, .b z5, .b z6, .b z7, .b z8, .b z9, .b z10, .b z11, .b z12, .b z13, .b z14, .b z15, .b z16, .b z17, .b z18, .b z19, .b z20, .b z21, .b z22, .b z23, .b z24, .b z25]]⟩ fun e27 => .defB
  (clrF (ofM e27) (e27.ai 1 0) 0) fun z28 => .defB (clrF (ofM e27) (e27.ai 1 0) 1) fun z29 => .defB (clrF (ofM e27) (e27.ai 1 0) 2) fun z30 => .defB (clrF (ofM e27) (e27.ai 1 0) 3) fun z31 => .defB (clrF (ofM e27) (e27.ai
  1 0) 4) fun z32 => .defB (clrF (ofM e27) (e27.ai 1 0) 5) fun z33 => .defB (clrF (ofM e27) (e27.ai 1 0) 6) fun z34 => .defB (clrF (ofM e27) (e27.ai 1 0) 7) fun z35 => .defB (clrF (ofM e27) (e27.ai 1 0) 8) fun z36 => .defB
  (clrF (ofM e27) (e27.ai 1 0) 9) fun z37 => .defB (clrF (ofM e27) (e27.ai 1 0) 10) fun z38 => .defB (clrF (ofM e27) (e27.ai 1 0) 11) fun z39 => .defB (clrF (ofM e27) (e27.ai 1 0) 12) fun z40 => .defB (clrF (ofM e27)
  (e27.ai 1 0) 13) fun z41 => .defB (clrF (ofM e27) (e27.ai 1 0) 14) fun z42 => .defB (clrF (ofM e27) (e27.ai 1 0) 15) fun z43 => .defB (clrF (ofM e27) (e27.ai 1 0) 16) fun z44 => .defB (clrF (ofM e27) (e27.ai 1 0) 17) fun
  z45 => .defB (clrF (ofM e27) (e27.ai 1 0) 18) fun z46 => .defB (clrF (ofM e27) (e27.ai 1 0) 19) fun z47 => .defB (clrF (ofM e27) (e27.ai 1 0) 20) fun z48 => .defB (clrF (ofM e27) (e27.ai 1 0) 21) fun z49 => .defB (clrF
  (ofM e27) (e27.ai 1 0) 22) fun z50 => .defB (clrF (ofM e27) (e27.ai 1 0) 23) fun z51 => .defB (clrF (ofM e27) (e27.ai 1 0) 24) fun z52 => .leaf (.ret, ⟨[[.b true]], [.box [.b z28, .b z29, .b z30, .b z31, .b z32, .b z33,
  .b z34, .b z35, .b z36, .b z37, .b z38, .b z39, .b z40, .b z41, .b z42, .b z43, .b z44, .b z45, .b z46, .b z47, .b z48, .b z49, .b z50, .b z51, .b z52]]⟩)) := by kernel_rfl
theorem ad33_a (m : Nat → Bool) (f a : Int) (τ0 : Tm) : codeT Try.prog noTab 300 33 Try.f33.ntmps (Eng.ofL ((flat body33).take 4)) (adT.tm ⟨[[], [.i f], [.i a]], [.box (on25 m)]⟩ ++ τ0) (adT.heap ⟨[[], [.i f], [.i a]], [.box (on25 m)]⟩) 1 (outX 1 ⟨some adL, [], some adR⟩) =
  .ite (decide (f ≥ 0)) (.ite (!decide (f < 5)) (.leaf (.ret, ⟨[[.b false]], [.box (on25 m)]⟩)) (.ite (decide (a ≥ 0)) (.ite (!decide (a < 5)) (.leaf (.ret, ⟨[[.b false]], [.box (on25 m)]⟩)) (.ite (f == a) (.leaf (.ret,
  ⟨[[.b false]], [.box (on25 m)]⟩)) (.ite (decide (a = 0)) (.ite (decide (f = 0)) (.leaf (.normal, ⟨[[.u], [.i a]], [.box [.b true, .b (m 1), .b (m 2), .b (m 3), .b (m 4), .b (m 5), .b (m 6), .b (m 7), .b (m 8), .b (m 9),
  .b (m 10), .b (m 11), .b (m 12), .b (m 13), .b (m 14), .b (m 15), .b (m 16), .b (m 17), .b (m 18), .b (m 19), .b (m 20), .b (m 21), .b (m 22), .b (m 23), .b (m 24)]]⟩)) (.ite (decide (f = 1)) (.leaf (.normal, ⟨[[.u], [.i
  a]], [.box [.b (m 0), .b true, .b (m 2), .b (m 3), .b (m 4), .b (m 5), .b (m 6), .b (m 7), .b (m 8), .b (m 9), .b (m 10), .b (m 11), .b (m 12), .b (m 13), .b (m 14), .b (m 15), .b (m 16), .b (m 17), .b (m 18), .b (m 19),
  .b (m 20), .b (m 21), .b (m 22), .b (m 23), .b (m 24)]]⟩)) (.ite (decide (f = 2)) (.leaf (.normal, ⟨[[.u], [.i a]], [.box [.b (m 0), .b (m 1), .b true, .b (m 3), .b (m 4), .b (m 5), .b (m 6), .b (m 7), .b (m 8), .b (m
  9), .b (m 10), .b (m 11), .b (m 12), .b (m 13), .b (m 14), .b (m 15), .b (m 16), .b (m 17), .b (m 18), .b (m 19), .b (m 20), .b (m 21), .b (m 22), .b (m 23), .b (m 24)]]⟩)) (.ite (decide (f = 3)) (.leaf (.normal, ⟨[[.u],
  [.i a]], [.box [.b (m 0), .b (m 1), .b (m 2), .b true, .b (m 4), .b (m 5), .b (m 6), .b (m 7), .b (m 8), .b (m 9), .b (m 10), .b (m 11), .b (m 12), .b (m 13), .b (m 14), .b (m 15), .b (m 16), .b (m 17), .b (m 18), .b (m
  19), .b (m 20), .b (m 21), .b (m 22), .b (m 23), .b (m 24)]]⟩)) (.ite (decide (f = 4)) (.leaf (.normal, ⟨[[.u], [.i a]], [.box [.b (m 0), .b (m 1), .b (m 2), .b (m 3), .b true, .b (m 5), .b (m 6), .b (m 7), .b (m 8), .b
  (m 9), .b (m 10), .b (m 11), .b (m 12), .b (m 13), .b (m 14), .b (m 15), .b (m 16), .b (m 17), .b (m 18), .b (m 19), .b (m 20), .b (m 21), .b (m 22), .b (m 23), .b (m 24)]]⟩)) (.must false (.fail "index"))))))) (.ite
  (decide (a = 1)) (.ite (decide (f = 0)) (.leaf (.normal, ⟨[[.u], [.i a]], [.box [.b (m 0), .b (m 1), .b (m 2), .b (m 3), .b (m 4), .b true, .b (m 6), .b (m 7), .b (m 8), .b (m 9), .b (m 10), .b (m 11), .b (m 12), .b (m
  13), .b (m 14), .b (m 15), .b (m 16), .b (m 17), .b (m 18), .b (m 19), .b (m 20), .b (m 21), .b (m 22), .b (m 23), .b (m 24)]]⟩)) (.ite (decide (f = 1)) (.leaf (.normal, ⟨[[.u], [.i a]], [.box [.b (m 0), .b (m 1), .b (m
  2), .b (m 3), .b (m 4), .b (m 5), .b true, .b (m 7), .b (m 8), .b (m 9), .b (m 10), .b (m 11), .b (m 12), .b (m 13), .b (m 14), .b (m 15), .b (m 16), .b (m 17), .b (m 18), .b (m 19), .b (m 20), .b (m 21), .b (m 22), .b
  (m 23), .b (m 24)]]⟩)) (.ite (decide (f = 2)) (.leaf (.normal, ⟨[[.u], [.i a]], [.box [.b (m 0), .b (m 1), .b (m 2), .b (m 3), .b (m 4), .b (m 5), .b (m 6), .b true, .b (m 8), .b (m 9), .b (m 10), .b (m 11), .b (m 12),
  .b (m 13), .b (m 14), .b (m 15), .b (m 16), .b (m 17), .b (m 18), .b (m 19), .b (m 20), .b (m 21), .b (m 22), .b (m 23), .b (m 24)]]⟩)) (.ite (decide (f = 3)) (.leaf (.normal, ⟨[[.u], [.i a]], [.box [.b (m 0), .b (m 1),
  .b (m 2), .b (m 3), .b (m 4), .b (m 5), .b (m 6), .b (m 7), .b true, .b (m 9), .b (m 10), .b (m 11), .b (m 12), .b (m 13), .b (m 14), .b (m 15), .b (m 16), .b (m 17), .b (m 18), .b (m 19), .b (m 20), .b (m 21), .b (m
  22), .b (m 23), .b (m 24)]]⟩)) (.ite (decide (f = 4)) (.leaf (.normal, ⟨[[.u], [.i a]], [.box [.b (m 0), .b (m 1), .b (m 2), .b (m 3), .b (m 4), .b (m 5), .b (m 6), .b (m 7), .b (m 8), .b true, .b (m 10), .b (m 11), .b
  (m 12), .b (m 13), .b (m 14), .b (m 15), .b (m 16), .b (m 17), .b (m 18), .b (m 19), .b (m 20), .b (m 21), .b (m 22), .b (m 23), .b (m 24)]]⟩)) (.must false (.fail "index"))))))) (.ite (decide (a = 2)) (.ite (decide (f =
  0)) (.leaf (.normal, ⟨[[.u], [.i a]], [.box [.b (m 0), .b (m 1), .b (m 2), .b (m 3), .b (m 4), .b (m 5), .b (m 6), .b (m 7), .b (m 8), .b (m 9), .b true, .b (m 11), .b (m 12), .b (m 13), .b (m 14), .b (m 15), .b (m 16),
  .b (m 17), .b (m 18), .b (m 19), .b (m 20), .b (m 21), .b (m 22), .b (m 23), .b (m 24)]]⟩)) (.ite (decide (f = 1)) (.leaf (.normal, ⟨[[.u], [.i a]], [.box [.b (m 0), .b (m 1), .b (m 2), .b (m 3), .b (m 4), .b (m 5), .b
  (m 6), .b (m 7), .b (m 8), .b (m 9), .b (m 10), .b true, .b (m 12), .b (m 13), .b (m 14), .b (m 15), .b (m 16), .b (m 17), .b (m 18), .b (m 19), .b (m 20), .b (m 21), .b (m 22), .b (m 23), .b (m 24)]]⟩)) (.ite (decide (f
  = 2)) (.leaf (.normal, ⟨[[.u], [.i a]], [.box [.b (m 0), .b (m 1), .b (m 2), .b (m 3), .b (m 4), .b (m 5), .b (m 6), .b (m 7), .b (m 8), .b (m 9), .b (m 10), .b (m 11), .b true, .b (m 13), .b (m 14), .b (m 15), .b (m
  16), .b (m 17), .b (m 18), .b (m 19), .b (m 20), .b (m 21), .b (m 22), .b (m 23), .b (m 24)]]⟩)) (.ite (decide (f = 3)) (.leaf (.normal, ⟨[[.u], [.i a]], [.box [.b (m 0), .b (m 1), .b (m 2), .b (m 3), .b (m 4), .b (m 5),
  .b (m 6), .b (m 7), .b (m 8), .b (m 9), .b (m 10), .b (m 11), .b (m 12), .b true, .b (m 14), .b (m 15), .b (m 16), .b (m 17), .b (m 18), .b (m 19), .b (m 20), .b (m 21), .b (m 22), .b (m 23), .b (m 24)]]⟩)) (.ite (decide
  (f = 4)) (.leaf (.normal, ⟨[[.u], [.i a]], [.box [.b (m 0), .b (m 1), .b (m 2), .b (m 3), .b (m 4), .b (m 5), .b (m 6), .b (m 7), .b (m 8), .b (m 9), .b (m 10), .b (m 11), .b (m 12), .b (m 13), .b true, .b (m 15), .b (m
  16), .b (m 17), .b (m 18), .b (m 19), .b (m 20), .b (m 21), .b (m 22), .b (m 23), .b (m 24)]]⟩)) (.must false (.fail "index"))))))) (.ite (decide (a = 3)) (.ite (decide (f = 0)) (.leaf (.normal, ⟨[[.u], [.i a]], [.box
  [.b (m 0), .b (m 1), .b (m 2), .b (m 3), .b (m 4), .b (m 5), .b (m 6), .b (m 7), .b (m 8), .b (m 9), .b (m 10), .b (m 11), .b (m 12), .b (m 13), .b (m 14), .b true, .b (m 16), .b (m 17), .b (m 18), .b (m 19), .b (m 20),
  .b (m 21), .b (m 22), .b (m 23), .b (m 24)]]⟩)) (.ite (decide (f = 1)) (.leaf (.normal, ⟨[[.u], [.i a]], [.box [.b (m 0), .b (m 1), .b (m 2), .b (m 3), .b (m 4), .b (m 5), .b (m 6), .b (m 7), .b (m 8), .b (m 9), .b (m
  10), .b (m 11), .b (m 12), .b (m 13), .b (m 14), .b (m 15), .b true, .b (m 17), .b (m 18), .b (m 19), .b (m 20), .b (m 21), .b (m 22), .b (m 23), .b (m 24)]]⟩)) (.ite (decide (f = 2)) (.leaf (.normal, ⟨[[.u], [.i a]],
  [.box [.b (m 0), .b (m 1), .b (m 2), .b (m 3), .b (m 4), .b (m 5), .b (m 6), .b (m 7), .b (m 8), .b (m 9), .b (m 10), .b (m 11), .b (m 12), .b (m 13), .b (m 14), .b (m 15), .b (m 16), .b true, .b (m 18), .b (m 19), .b (m
  20), .b (m 21), .b (m 22), .b (m 23), .b (m 24)]]⟩)) (.ite (decide (f = 3)) (.leaf (.normal, ⟨[[.u], [.i a]], [.box [.b (m 0), .b (m 1), .b (m 2), .b (m 3), .b (m 4), .b (m 5), .b (m 6), .b (m 7), .b (m 8), .b (m 9), .b
  (m 10), .b (m 11), .b (m 12), .b (m 13), .b (m 14), .b (m 15), .b (m 16), .b (m 17), .b true, .b (m 19), .b (m 20), .b (m 21), .b (m 22), .b (m 23), .b (m 24)]]⟩)) (.ite (decide (f = 4)) (.leaf (.normal, ⟨[[.u], [.i a]],
  [.box [.b (m 0), .b (m 1), .b (m 2), .b (m 3), .b (m 4), .b (m 5), .b (m 6), .b (m 7), .b (m 8), .b (m 9), .b (m 10), .b (m 11), .b (m 12), .b (m 13), .b (m 14), .b (m 15), .b (m 16), .b (m 17), .b (m 18), .b true, .b (m
  20), .b (m 21), .b (m 22), .b (m 23), .b (m 24)]]⟩)) (.must false (.fail "index"))))))) (.ite (decide (a = 4)) (.ite (decide (f = 0)) (.leaf (.normal, ⟨[[.u], [.i a]], [.box [.b (m 0), .b (m 1), .b (m 2), .b (m 3), .b (m
  4), .b (m 5), .b (m 6), .b (m 7), .b (m 8), .b (m 9), .b (m 10), .b (m 11), .b (m 12), .b (m 13), .b (m 14), .b (m 15), .b (m 16), .b (m 17), .b (m 18), .b (m 19), .b true, .b (m 21), .b (m 22), .b (m 23), .b (m 24)]]⟩))
  (.ite (decide (f = 1)) (.leaf (.normal, ⟨[[.u], [.i a]], [.box [.b (m 0), .b (m 1), .b (m 2), .b (m 3), .b (m 4), .b (m 5), .b (m 6), .b (m 7), .b (m 8), .b (m 9), .b (m 10), .b (m 11), .b (m 12), .b (m 13), .b (m 14),
  .b (m 15), .b (m 16), .b (m 17), .b (m 18), .b (m 19), .b (m 20), .b true, .b (m 22), .b (m 23), .b (m 24)]]⟩)) (.ite (decide (f = 2)) (.leaf (.normal, ⟨[[.u], [.i a]], [.box [.b (m 0), .b (m 1), .b (m 2), .b (m 3), .b
  (m 4), .b (m 5), .b (m 6), .b (m 7), .b (m 8), .b (m 9), .b (m 10), .b (m 11), .b (m 12), .b (m 13), .b (m 14), .b (m 15), .b (m 16), .b (m 17), .b (m 18), .b (m 19), .b (m 20), .b (m 21), .b true, .b (m 23), .b (m
  24)]]⟩)) (.ite (decide (f = 3)) (.leaf (.normal, ⟨[[.u], [.i a]], [.box [.b (m 0), .b (m 1), .b (m 2), .b (m 3), .b (m 4), .b (m 5), .b (m 6), .b (m 7), .b (m 8), .b (m 9), .b (m 10), .b (m 11), .b (m 12), .b (m 13), .b
  (m 14), .b (m 15), .b (m 16), .b (m 17), .b (m 18), .b (m 19), .b (m 20), .b (m 21), .b (m 22), .b true, .b (m 24)]]⟩)) (.ite (decide (f = 4)) (.leaf (.normal, ⟨[[.u], [.i a]], [.box [.b (m 0), .b (m 1), .b (m 2), .b (m
  3), .b (m 4), .b (m 5), .b (m 6), .b (m 7), .b (m 8), .b (m 9), .b (m 10), .b (m 11), .b (m 12), .b (m 13), .b (m 14), .b (m 15), .b (m 16), .b (m 17), .b (m 18), .b (m 19), .b (m 20), .b (m 21), .b (m 22), .b (m 23), .b
  true]]⟩)) (.must false (.fail "index"))))))) (.must false (.fail "index"))))))))) (.leaf (.ret, ⟨[[.b false]], [.box (on25 m)]⟩)))) (.leaf (.ret, ⟨[[.b false]], [.box (on25 m)]⟩)) := by kernel_rfl
theorem ad33_b (m : Nat → Bool) (a : Int) (τ0 : Tm) : codeT Try.prog wcT 300 33 Try.f33.ntmps (Eng.ofL ((flat body33).drop 4)) (adL.tm ⟨[[], [.i a]], [.box (on25 m)]⟩ ++ τ0) (adL.heap ⟨[[], [.i a]], [.box (on25 m)]⟩) 1 (outX 1 ⟨none, [], some adR⟩) =
  .defE ⟨[[.u], [.i a]], [.box (on25 m)]⟩ fun e0 => .defB (ofM e0 0) fun z1 => .defB (ofM e0 1) fun z2 => .defB (ofM e0 2) fun z3 => .defB (ofM e0 3) fun z4 => .defB (ofM e0 4) fun z5 => .defB (ofM e0 5) fun z6 => .defB
  (ofM e0 6) fun z7 => .defB (ofM e0 7) fun z8 => .defB (ofM e0 8) fun z9 => .defB (ofM e0 9) fun z10 => .defB (ofM e0 10) fun z11 => .defB (ofM e0 11) fun z12 => .defB (ofM e0 12) fun z13 => .defB (ofM e0 13) fun z14 =>
  .defB (ofM e0 14) fun z15 => .defB (ofM e0 15) fun z16 => .defB (ofM e0 16) fun z17 => .defB (ofM e0 17) fun z18 => .defB (ofM e0 18) fun z19 => .defB (ofM e0 19) fun z20 => .defB (ofM e0 20) fun z21 => .defB (ofM e0 21)
  fun z22 => .defB (ofM e0 22) fun z23 => .defB (ofM e0 23) fun z24 => .defB (ofM e0 24) fun z25 => .defI ((ofS (ofM e0) (e0.ai 1 0)).length : Int) fun z26 => .ite (decide (z26 < 2)) (.leaf (.ret, ⟨[[.b false]], [.box [.b
  z1, .b z2, .b z3, .b z4, .b z5, .b z6, .b z7, .b z8, .b z9, .b z10, .b z11, .b z12, .b z13, .b z14, .b z15, .b z16, .b z17, .b z18, .b z19, .b z20, .b z21, .b z22, .b z23, .b z24, .b z25]]⟩)) (.defE ⟨[[.u], [.i a]],
  [.box [.b z1, .b z2, .b z3, .b z4, .b z5, .b z6, .b z7, .b z8, .b z9, .b z10, .b z11, .b z12, .b z13, .b z14, .b z15, .b z16, .b z17, .b z18, .b z19, .b z20, .b z21, .b z22, .b z23, .b z24, .b z25]]⟩ fun e27 => .defB
  (clrF (ofM e27) (e27.ai 1 0) 0) fun z28 => .defB (clrF (ofM e27) (e27.ai 1 0) 1) fun z29 => .defB (clrF (ofM e27) (e27.ai 1 0) 2) fun z30 => .defB (clrF (ofM e27) (e27.ai 1 0) 3) fun z31 => .defB (clrF (ofM e27) (e27.ai
  1 0) 4) fun z32 => .defB (clrF (ofM e27) (e27.ai 1 0) 5) fun z33 => .defB (clrF (ofM e27) (e27.ai 1 0) 6) fun z34 => .defB (clrF (ofM e27) (e27.ai 1 0) 7) fun z35 => .defB (clrF (ofM e27) (e27.ai 1 0) 8) fun z36 => .defB
  (clrF (ofM e27) (e27.ai 1 0) 9) fun z37 => .defB (clrF (ofM e27) (e27.ai 1 0) 10) fun z38 => .defB (clrF (ofM e27) (e27.ai 1 0) 11) fun z39 => .defB (clrF (ofM e27) (e27.ai 1 0) 12) fun z40 => .defB (clrF (ofM e27)
  (e27.ai 1 0) 13) fun z41 => .defB (clrF (ofM e27) (e27.ai 1 0) 14) fun z42 => .defB (clrF (ofM e27) (e27.ai 1 0) 15) fun z43 => .defB (clrF (ofM e27) (e27.ai 1 0) 16) fun z44 => .defB (clrF (ofM e27) (e27.ai 1 0) 17) fun
  z45 => .defB (clrF (ofM e27) (e27.ai 1 0) 18) fun z46 => .defB (clrF (ofM e27) (e27.ai 1 0) 19) fun z47 => .defB (clrF (ofM e27) (e27.ai 1 0) 20) fun z48 => .defB (clrF (ofM e27) (e27.ai 1 0) 21) fun z49 => .defB (clrF
  (ofM e27) (e27.ai 1 0) 22) fun z50 => .defB (clrF (ofM e27) (e27.ai 1 0) 23) fun z51 => .defB (clrF (ofM e27) (e27.ai 1 0) 24) fun z52 => .leaf (.ret, ⟨[[.b true]], [.box [.b z28, .b z29, .b z30, .b z31, .b z32, .b z33,
  .b z34, .b z35, .b z36, .b z37, .b z38, .b z39, .b z40, .b z41, .b z42, .b z43, .b z44, .b z45, .b z46, .b z47, .b z48, .b z49, .b z50, .b z51, .b z52]]⟩)) := by kernel_rfl
set_option maxHeartbeats 4000000 in
theorem clr_std30 (m : Nat → Bool) (a : Int) : StdX Try.prog 30 ofT ⟨[[], [.i a]], [.box (on25 m)]⟩ clR ⟨[], [.box (on25 (clrF m a))]⟩ := by
  refine stdX_tree (noTab_all _) mixed rfl (holds_of_eq (cl30 m a) ?_)
  by_cases h0 : 0 ≤ a ∧ a < 5
  · have ha : a = 0 ∨ a = 1 ∨ a = 2 ∨ a = 3 ∨ a = 4 := by omega
    rcases ha with rfl | rfl | rfl | rfl | rfl
    all_goals repeat' with_reducible (first | refine holds_ite (fun h => absurd h (by decide)) (fun _ => ?_) | refine holds_ite (fun _ => ?_) (fun h => absurd h (by decide)) | refine holds_must (rowsB_i _ _ _) ?_ | refine holds_must (rowsB_app (by omega)) ?_ | refine holds_must (decide_eq_true (by omega)) ?_ | refine holds_inI ?_ | refine holds_ite (fun hg => ?_) (fun hg => ?_))
    all_goals (refine holds_leaf ?_; (repeat' (first | exact trivial | exact rfl | exact TS.eqv_refl _ _ | exact len_app _ _ | exact rows_appI | exact fun _ _ => eqvL_refl _ _ | exact fun i _ => eqvL_rowNums rfl _ i | apply And.intro)))
  · have e : on25 (clrF m a) = on25 m := by
      have : ∀ k, clrF m a k = m k := fun k => by
        unfold clrF
        rcases Int.lt_or_le a 0 with h | h
        · rw [decide_eq_false (by omega : ¬ 0 ≤ a)]; rfl
        · rw [decide_eq_false (by omega : ¬ a < 5), Bool.and_false]; rfl
      simp only [on25, this]
    rw [e]
    refine holds_ite (fun h1 => holds_ite (fun h2 => absurd ⟨of_decide_eq_true h1, of_decide_eq_true h2⟩ h0) fun h2 => ?_) fun h1 => ?_
    all_goals exact holds_leaf (clR.eqv_refl _)
set_option maxHeartbeats 4000000 in
theorem clr_std31 (m : Nat → Bool) (a : Int) : StdX Try.prog 31 ofT ⟨[[], [.i a]], [.box (on25 m)]⟩ clR ⟨[], [.box (on25 (clrF m a))]⟩ := by
  refine stdX_tree (noTab_all _) mixed rfl (holds_of_eq (cl31 m a) ?_)
  by_cases h0 : 0 ≤ a ∧ a < 5
  · have ha : a = 0 ∨ a = 1 ∨ a = 2 ∨ a = 3 ∨ a = 4 := by omega
    rcases ha with rfl | rfl | rfl | rfl | rfl
    all_goals repeat' with_reducible (first | refine holds_ite (fun h => absurd h (by decide)) (fun _ => ?_) | refine holds_ite (fun _ => ?_) (fun h => absurd h (by decide)) | refine holds_must (rowsB_i _ _ _) ?_ | refine holds_must (rowsB_app (by omega)) ?_ | refine holds_must (decide_eq_true (by omega)) ?_ | refine holds_inI ?_ | refine holds_ite (fun hg => ?_) (fun hg => ?_))
    all_goals (refine holds_leaf ?_; (repeat' (first | exact trivial | exact rfl | exact TS.eqv_refl _ _ | exact len_app _ _ | exact rows_appI | exact fun _ _ => eqvL_refl _ _ | exact fun i _ => eqvL_rowNums rfl _ i | apply And.intro)))
  · have e : on25 (clrF m a) = on25 m := by
      have : ∀ k, clrF m a k = m k := fun k => by
        unfold clrF
        rcases Int.lt_or_le a 0 with h | h
        · rw [decide_eq_false (by omega : ¬ 0 ≤ a)]; rfl
        · rw [decide_eq_false (by omega : ¬ a < 5), Bool.and_false]; rfl
      simp only [on25, this]
    rw [e]
    refine holds_ite (fun h1 => holds_ite (fun h2 => absurd ⟨of_decide_eq_true h1, of_decide_eq_true h2⟩ h0) fun h2 => ?_) fun h1 => ?_
    all_goals exact holds_leaf (clR.eqv_refl _)
theorem ofM_eqv (e : EN) : eqvH [(0, .box b25)] e.o [.box (on25 (ofM e))] := by
  (repeat' (first | exact trivial | exact rfl | exact TS.eqv_refl _ _ | exact len_app _ _ | exact rows_appI | exact fun _ _ => eqvL_refl _ _ | exact fun i _ => eqvL_rowNums rfl _ i | apply And.intro))
theorem c34_ok : SummAll Try.prog 34 (ctrSumm ofT ofC) := ctr_ok fun e r h => by
  cases h
  refine StdX.pre (x' := ⟨_, [.box (on25 (ofM e))]⟩) ⟨?_, ofM_eqv e⟩ (of_std (ofM e) (e.ai 1 0))
  (repeat' (first | exact trivial | exact rfl | exact TS.eqv_refl _ _ | exact len_app _ _ | exact rows_appI | exact fun _ _ => eqvL_refl _ _ | exact fun i _ => eqvL_rowNums rfl _ i | apply And.intro))
theorem c35_ok : SummAll Try.prog 35 (ctrSumm ofT ofC) := ctr_ok fun e r h => by
  cases h
  refine StdX.pre (x' := ⟨_, [.box (on25 (ofM e))]⟩) ⟨?_, ofM_eqv e⟩ (rof_std (ofM e) (e.ai 1 0))
  (repeat' (first | exact trivial | exact rfl | exact TS.eqv_refl _ _ | exact len_app _ _ | exact rows_appI | exact fun _ _ => eqvL_refl _ _ | exact fun i _ => eqvL_rowNums rfl _ i | apply And.intro))
theorem c30_ok : SummAll Try.prog 30 (ctrSumm ofT clC) := ctr_ok fun e r h => by
  cases h
  refine StdX.pre (x' := ⟨_, [.box (on25 (ofM e))]⟩) ⟨?_, ofM_eqv e⟩ (clr_std30 (ofM e) (e.ai 1 0))
  (repeat' (first | exact trivial | exact rfl | exact TS.eqv_refl _ _ | exact len_app _ _ | exact rows_appI | exact fun _ _ => eqvL_refl _ _ | exact fun i _ => eqvL_rowNums rfl _ i | apply And.intro))
theorem c31_ok : SummAll Try.prog 31 (ctrSumm ofT clC) := ctr_ok fun e r h => by
  cases h
  refine StdX.pre (x' := ⟨_, [.box (on25 (ofM e))]⟩) ⟨?_, ofM_eqv e⟩ (clr_std31 (ofM e) (e.ai 1 0))
  (repeat' (first | exact trivial | exact rfl | exact TS.eqv_refl _ _ | exact len_app _ _ | exact rows_appI | exact fun _ _ => eqvL_refl _ _ | exact fun i _ => eqvL_rowNums rfl _ i | apply And.intro))
theorem wcSm_ok : AllOk Try.prog wcSm := ⟨c34_ok, c35_ok, c30_ok, c31_ok, trivial⟩
theorem wcTab : TabAll Try.prog wcT := tab_ok wcSm_ok
end Go.Proofs.Ytlcgnjcfihablaa
