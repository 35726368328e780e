/- BallotPlays: the whole of it, and its row.
   Conditions: none. -/
import Derived.Test.YtobknnmalnfknaaBg
set_option linter.unusedSimpArgs false
set_option linter.unusedVariables false
namespace Go.Proofs.Ytobknnmalnfknaa
open Go.Eng Go.RowKit Go.ChangeShapes Go.WideShapes
set_option maxRecDepth 100000
section
variable (len : Int) (n : Nat → Nat → Int) (b : Nat → Nat → Bool)
def K2 : Tm := [(0, .sl 0), (2, .bool (.lit false))]
def L1 : List (Nat × AObj) := [(0, lstO len n b)]
def K4 : Tm := [(0, .sl 0), (2, .bool (.lit false)), (3, .ptr 1 0), (4, .ptr 2 0)]
def KT : Tm := [(2, .bool (.lit true))]
abbrev Done (ex : Ex) (m : Nat) (κ : Tm) (h : Heap) : Prop := ex = .ret ∧ m = 0 ∧ κ = KT ∧ h = mkHeap []

theorem y0_ht : HT Try.prog Try.f3.ntmps (cl body3) 1 [(0, .sl 0)] (mkHeap (L1 len n b)) fun ex m κ h => ex = .normal ∧ m = 1 ∧ κ = K2 ∧ h = mkHeap (L1 len n b) := by
  refine HT.run bdTab mixed (n := 300) (within_l in3) [0, 2] [0] fun τ0 => holds_of_eq (p3_0 len n b τ0) (holds_leaf ?_)
  exact ⟨1, id, _, _, Reset.of (l := L1 len n b) (κ' := K2) ⟨⟨⟨_, rfl, fun _ => rfl⟩, rfl⟩, ⟨⟨_, rfl, fun _ => rfl⟩, rfl⟩, trivial⟩ ⟨⟨rfl, _, rfl, same3 n b id 1 len⟩, trivial⟩ rfl, rfl, rfl, rfl, rfl⟩
theorem yA_ht : HT Try.prog Try.f3.ntmps c3A 1 K2 (mkHeap (L1 len n b)) fun ex m κ h => ex = .normal ∧ m = 1 ∧ κ = K2 ∧ h = mkHeap (L1 len n b) := by
  refine HT.run bdTab mixed (n := 300) (within_l (within_r in3)) [0, 2] [0] fun τ0 => holds_of_eq (p3_A len n b τ0) (holds_leaf ?_)
  exact ⟨1, id, _, _, Reset.of (l := L1 len n b) (κ' := K2) ⟨⟨⟨_, rfl, fun _ => rfl⟩, rfl⟩, ⟨⟨_, rfl, fun _ => rfl⟩, rfl⟩, trivial⟩ ⟨⟨rfl, _, rfl, same3 n b id 1 len⟩, trivial⟩ rfl, rfl, rfl, rfl, rfl⟩
theorem yB_ht : HT Try.prog Try.f3.ntmps c3B 1 K2 (mkHeap (L1 len n b)) fun ex m κ h => (ex = .normal ∧ m = 1 ∧ κ = K2 ∧ h = mkHeap (L1 len n b) ∧ len ≤ 60) ∨ Done ex m κ h := by
  refine HT.run bdTab mixed (n := 300) (within_l (within_r (within_r in3))) [0, 2] [0] fun τ0 => holds_of_eq (p3_B len n b τ0) (holds_ite (fun h => holds_leaf ?_) fun h => holds_leaf ?_)
  · exact ⟨0, id, _, _, Reset.of (l := []) (κ' := KT) ⟨⟨⟨_, rfl, fun _ => rfl⟩, rfl⟩, trivial⟩ trivial rfl, .inr ⟨rfl, rfl, rfl, rfl⟩⟩
  · exact ⟨1, id, _, _, Reset.of (l := L1 len n b) (κ' := K2) ⟨⟨⟨_, rfl, fun _ => rfl⟩, rfl⟩, ⟨⟨_, rfl, fun _ => rfl⟩, rfl⟩, trivial⟩ ⟨⟨rfl, _, rfl, same3 n b id 1 len⟩, trivial⟩ rfl, .inl ⟨rfl, rfl, rfl, rfl, by simpa using h⟩⟩
def d0 : Ac := ⟨0, 0, 0, 0, 0, 0, 0, false⟩
theorem y5_ht : HT Try.prog Try.f3.ntmps c3R5 1 K2 (mkHeap (L1 len n b)) fun ex m κ h => ex = .normal ∧ m = 3 ∧ κ = K4 ∧ h = mkHeap (L3 len n b d0) := by
  refine HT.run bdTab mixed (n := 300) (within_l (within_r (within_r (within_r in3)))) [0, 2, 3, 4] [0, 5, 11] fun τ0 => holds_of_eq (p3_5 len n b τ0) (holds_leaf ?_)
  exact ⟨3, lkN [0, 5, 11], _, _, Reset.of (l := L3 len n b d0) (κ' := K4) ⟨⟨⟨_, rfl, fun _ => rfl⟩, rfl⟩, ⟨⟨_, rfl, fun _ => rfl⟩, rfl⟩, ⟨⟨_, rfl, fun _ => rfl⟩, rfl⟩, ⟨⟨_, rfl, fun _ => rfl⟩, rfl⟩, trivial⟩ ⟨⟨rfl, _, rfl, same3 n b _ 3 len⟩, ⟨rfl, _, rfl, Eng.sameBox rfl (fun _ => rfl) rfl⟩, ⟨rfl, _, rfl, Eng.sameBox rfl (fun _ => rfl) rfl⟩, trivial⟩ rfl, rfl, rfl, rfl, rfl⟩
theorem y6_ht : HT Try.prog Try.f3.ntmps c3R6 3 K4 (mkHeap (L3 len n b d0)) fun ex m κ h => ex = .normal ∧ At3 len n b 0 d0 m κ h := by
  refine HT.run bdTab mixed (n := 300) (within_l (within_l (within_r (within_r (within_r (within_r in3)))))) [0, 2, 3, 4, 5] [0, 1, 2] fun τ0 => holds_of_eq (p3_6 len n b 0 0 0 0 0 0 0 false τ0) (holds_leaf ?_)
  exact ⟨3, id, _, _, Reset.of (l := L3 len n b d0) (κ' := K3 0) ⟨⟨⟨_, rfl, fun _ => rfl⟩, rfl⟩, ⟨⟨_, rfl, fun _ => rfl⟩, rfl⟩, ⟨⟨_, rfl, fun _ => rfl⟩, rfl⟩, ⟨⟨_, rfl, fun _ => rfl⟩, rfl⟩, ⟨⟨_, rfl, fun _ => rfl⟩, rfl⟩, trivial⟩ ⟨⟨rfl, _, rfl, same3 n b id 3 len⟩, ⟨rfl, _, rfl, Eng.sameBox rfl (fun _ => rfl) rfl⟩, ⟨rfl, _, rfl, Eng.sameBox rfl (fun _ => rfl) rfl⟩, trivial⟩ rfl, rfl, rfl, rfl, rfl⟩
theorem yT_ht : HT Try.prog Try.f3.ntmps c3T 0 [] (mkHeap []) Done := by
  refine HT.run bdTab mixed (n := 300) (within_r (within_r (within_r (within_r (within_r in3))))) [2] [] fun τ0 => holds_of_eq (p3_T τ0) (holds_leaf ?_)
  exact ⟨0, id, _, _, Reset.of (l := []) (κ' := KT) ⟨⟨⟨_, rfl, fun _ => rfl⟩, rfl⟩, trivial⟩ trivial rfl, rfl, rfl, rfl, rfl⟩
theorem normal_no {ex : Ex} {p : Prop} (h : ex = .normal) (hn : ¬ ExNormal ex) : p := absurd (h ▸ trivial) hn
theorem plays_ht : HT Try.prog Try.f3.ntmps (.seq (cl body3) (.seq c3A (.seq c3B (.seq c3R5 (.seq (.seq c3R6 (.block 0 (.loop c3X))) c3T))))) 1 [(0, .sl 0)] (mkHeap (L1 len n b)) Done := by
  refine HT.seq (y0_ht len n b) ?_ fun ex m κ h q hn => normal_no q.1 hn
  rintro m κ h ⟨_, rfl, rfl, rfl⟩
  refine HT.seq (yA_ht len n b) ?_ fun ex m κ h q hn => normal_no q.1 hn
  rintro m κ h ⟨_, rfl, rfl, rfl⟩
  refine HT.seq (yB_ht len n b) ?_ fun ex m κ h q hn => q.elim (fun q => normal_no q.1 hn) id
  rintro m κ h (⟨_, rfl, rfl, rfl, hl⟩ | ⟨q, _⟩)
  · refine HT.seq (y5_ht len n b) ?_ fun ex m κ h q hn => normal_no q.1 hn
    rintro m κ h ⟨_, rfl, rfl, rfl⟩
    refine HT.seq (R := fun ex _ _ _ => ex = .normal) (HT.seq (y6_ht len n b) ?_ fun ex m κ h q hn => normal_no q.1 hn) ?_ fun ex m κ h q hn => normal_no q hn
    · rintro m κ h ⟨_, rfl, rfl, rfl⟩
      refine HT.block ((loop3_ht len n b hl 0 d0 (Int.le_refl 0) rfl).mono ?_)
      rintro ex m κ h rfl
      rfl
    · intro m κ h _
      exact HT.drop yT_ht
  · cases q
end
theorem res3 : Try.f3.results.toList = [.tmp 2] := by kernel_rfl
theorem le3 : Nat.ble 1 Try.f3.ntmps = true := by kernel_rfl
theorem pk35 : pkT Try.prog 8 35 = some pkStep := by kernel_rfl
theorem cells35 : pkStep.length = Try.prog.cellsOf 35 := by kernel_rfl

theorem plays_c {W : World} {hd : Option Addr × Nat × Nat} {n : Nat → Nat → Int} {b : Nat → Nat → Bool} (h : sliceOf W hd hd.2.1 6 (stepRows n b)) :
    Calls Try.prog 3 #[.slice hd.1 hd.2.1 hd.2.2] W fun e W' => e = .returned (.bool true) ∧ Below W.heap.size W W' := by
  have hU : RelU (· < 1) ⟨fun _ => 0, fun _ => hd, fun _ => []⟩ (lookOf (mkHeap (L1 hd.2.1 n b))) W := relU_lists fun p hp => by
    rw [List.mem_singleton.1 hp]
    exact ⟨Nat.zero_lt_one, _, _, _, rfl, h⟩
  have := calls_of_ht (args := [.sl 0]) Try.func3 body3_eq le3 (R := fun _ _ v => v = .bool (.lit true)) ((plays_ht hd.2.1 n b).mono ?_) hU (vals := #[.slice hd.1 hd.2.1 hd.2.2]) (fun E' hE => ?_)
  · refine this.mono ?_
    rintro e W' ⟨m', h', v, E', rfl, rfl, _, hx⟩
    exact ⟨rfl, below_of_wext hx⟩
  · rintro ex m κ h' ⟨rfl, rfl, rfl, rfl⟩
    exact ⟨fun i => by simp, [.bool (.lit true)], fun τ0 => by rw [res3]; rfl, rfl⟩
  · have e := (hE 0 Nat.zero_lt_one).2.1
    simp only [denL, den, e]

set_option maxRecDepth 100000 in
theorem plays_lifted (os : Os) (started : os.Started) (H : Type) (enc : TypeId × Value → H) :
    ReturnsInHanded {} Try.checked os 3 .any (Rows.ballotPlaysSpec.pre6 enc Try.prog Try.f3 Rows.ballotPlaysRow.domain false) (Rows.ballotPlaysSpec.post enc Try.prog Try.f3 false true false false) := by
  refine law_lifted (C := Try.checked) Try.own started (by kernel_rfl) Try.func3
    (ChangeSpec.witness6 (enc := enc) (C := Try.checked) false ⟨#[], #[.slice none 0 0], []⟩ 8 (by kernel_rfl) (by kernel_rfl) (by kernel_rfl) (by kernel_rfl))
    Try.laidOut ?_ (B := 4) (by kernel_rfl) (by kernel_rfl) rfl ?_ ?_
  · intro t ht
    rw [Try.params3] at ht
    have : t = 22 := by
      simp at ht
      omega
    rcases this with rfl <;> exact ⟨by kernel_rfl, of_decide_eq_true (by kernel_rfl)⟩
  · intro ds h
    rw [Try.params3] at h
    match ds, h with
    | [d1], _ => rfl
  · intro W base args ds p hval hA hlt
    rw [Try.params3] at hA hval
    obtain ⟨v0, d0, rfl, rfl, h0⟩ := trodAll_one hA
    obtain ⟨hd, n, b, rfl, _, hs, _⟩ := open_rows Try.underlying22 pk35 cells35 (by decide) (hval 0 22 v0 rfl rfl) h0
    exact plays_c hs

theorem ballotPlays_holds : Rows.BallotPlaysSaid :=
  OpenClaim.holds_of_wide 3 Try.f3 rfl rfl rfl rfl rfl rfl rfl ⟨rfl, rfl, rfl, rfl, rfl⟩ rfl rfl rfl rfl rfl (by kernel_rfl) Try.func3 (by kernel_rfl)
    (of_decide_eq_true (by kernel_rfl)) (by unfold Func.isWrapper; rw [if_neg (by decide +kernel)]; exact ⟨rfl, rfl⟩)
    (fun os started H enc _ => plays_lifted os started H enc)

end Go.Proofs.Ytobknnmalnfknaa
