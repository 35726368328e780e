/- MapsTell: joined.
   Conditions: none. -/
import Derived.Test.YtobknnmalnfknaaMm
set_option linter.unusedSimpArgs false
set_option linter.unusedVariables false
namespace Go.Proofs.Ytobknnmalnfknaa
open Go.Eng Go.RowKit Go.Joins Go.ChangeShapes Go.WideShapes
set_option maxRecDepth 100000
section
variable (m a : TlD) (k o n c : Int) (ok : Bool)
set_option maxHeartbeats 4000000 in
theorem tl_end (hc : (c == 0) = ok) (hc2 : c = 0 ∨ c = 40) : HTL Try.prog Try.f9.ntmps 0 ((flat body9).drop 8) 8 (tlE.tm ⟨[[], [], [], [.i c], [], [.b ok], [], []], tlO m a a k o n (ofN (fun i => decide (m.2.2.1 i > 0)) 5) (ofN m.2.1 5)⟩) (tlE.heap ⟨[[], [], [], [.i c], [], [.b ok], [], []], tlO m a a k o n (ofN (fun i => decide (m.2.2.1 i > 0)) 5) (ofN m.2.1 5)⟩) (QX ⟨none, [], some (lawT 4)⟩ lawR) := by
  refine HTL.runX mkTab mixed (n := 300) (by decide) (within_drop in9 8) (Nat.zero_le _) fun τ0 => holds_of_eq (tl_tail m a a k o n c ok _ _ τ0) ?_
  subst hc
  simp only [beq_self_eq_true, Bool.and_self]
  refine holds_ite (fun _ => ?_) fun h => absurd h (by decide)
  refine holds_ite (fun _ => ?_) fun h => absurd h (by decide)
  refine holds_ite (fun _ => ?_) fun h => absurd h (by decide)
  rcases hc2 with rfl | rfl
  · refine holds_ite (fun _ => ?_) fun h => absurd h (by decide)
    refine holds_ite (fun _ => ?_) fun h => absurd h (by decide)
    refine holds_inI (holds_must (rowsB_i _ (rowI _) _) (holds_must (rowsB_i _ _ _) (holds_defE fun e he => ?_)))
    refine holds_must (decide_eq_true (by rw [he]; exact ofN_len _ 5)) ?_
    rw [decide_eq_true (show iqP (e.ln 0) (e.ln 1) (e.rw 0) (e.rw 1) from by rw [he]; exact ⟨rfl, fun i _ => rfl⟩)]
    refine holds_ite (fun _ => ?_) fun h => absurd h (by decide)
    refine holds_inI (holds_must (rowsB_i _ (rowI _) _) (holds_must (rowsB_i _ _ _) (holds_defE fun e he => ?_)))
    refine holds_must (decide_eq_true (by rw [he]; exact ofN_len _ 5)) ?_
    rw [decide_eq_true (show iqP (e.ln 0) (e.ln 1) (e.rw 0) (e.rw 1) from by rw [he]; exact ⟨rfl, fun i _ => rfl⟩)]
    exact holds_ite (fun _ => holds_leaf rfl) fun h => absurd h (by decide)
  · refine holds_ite (fun h => absurd h (by decide)) fun _ => ?_
    refine holds_ite (fun _ => ?_) fun h => absurd h (by decide)
    refine holds_ite (fun _ => ?_) fun h => absurd h (by decide)
    refine holds_inI (holds_must (rowsB_i _ (rowI _) _) (holds_must (rowsB_i _ _ _) (holds_defE fun e he => ?_)))
    refine holds_must (decide_eq_true (by rw [he]; exact ofN_len _ 5)) ?_
    rw [decide_eq_true (show iqP (e.ln 0) (e.ln 1) (e.rw 0) (e.rw 1) from by rw [he]; exact ⟨rfl, fun i _ => rfl⟩)]
    refine holds_ite (fun _ => ?_) fun h => absurd h (by decide)
    refine holds_inI (holds_must (rowsB_i _ (rowI _) _) (holds_must (rowsB_i _ _ _) (holds_defE fun e he => ?_)))
    refine holds_must (decide_eq_true (by rw [he]; exact ofN_len _ 5)) ?_
    rw [decide_eq_true (show iqP (e.ln 0) (e.ln 1) (e.rw 0) (e.rw 1) from by rw [he]; exact ⟨rfl, fun i _ => rfl⟩)]
    exact holds_ite (fun _ => holds_leaf rfl) fun h => absurd h (by decide)

end
def aD (m : TlD) (k o n : Int) (z : Bool) : TlD := (bif z then m.1 + 1 else 0, fun i => bif z then (bif o == (i : Int) && k == 1 then true else bif o == (i : Int) && k == 2 then false else m.2.1 i) else false, fun i => bif z then (bif o == (i : Int) && k == 3 then n else m.2.2.1 i) else 0, fun i => bif z then m.2.2.2 i else 0)
section
variable (m : TlD) (k o n : Int)
theorem tl_ht (ho : 0 ≤ o) : HT Try.prog Try.f9.ntmps 0 body9 0 (tlT.tm ⟨[mpD m, [.i k, .i o, .i n]], []⟩) (tlT.heap ⟨[mpD m, [.i k, .i o, .i n]], []⟩) (QX ⟨none, [], some (lawT 4)⟩ lawR) := by
  refine HT.cutX 7 (t1 := tlL) (R1 := fun ex e => ex = .normal ∧ ∃ a c ok, (c == (0 : Int)) = ok ∧ (c = 0 ∨ c = 40) ∧ tlL.eqv e (tlN m a a k o n c ok 0)) (HTL.runX mkTab mixed (n := 300) (by decide) (within_take in9 7) (Nat.zero_le _) fun τ0 => holds_of_eq (tl_pre m k o n τ0) (holds_must (decide_eq_true ho) ?_)) ?_ ?_
  · (repeat' with_reducible (first | refine holds_inI ?_ | refine holds_inB ?_))
    refine holds_must (decide_eq_true ho) ?_
    (repeat' with_reducible (first | refine holds_inI ?_ | refine holds_inB ?_))
    generalize hz : apOk m.fst (m.snd.snd.fst 0) (m.snd.snd.snd 0) (m.snd.snd.fst 1) (m.snd.snd.snd 1) (m.snd.snd.fst 2) (m.snd.snd.snd 2) (m.snd.snd.fst 3) (m.snd.snd.snd 3) (m.snd.snd.fst 4) (m.snd.snd.snd 4) k o n = z
    refine holds_leaf ⟨rfl, aD m k o n z, bif z then 0 else 40, z, by cases z <;> rfl, by cases z <;> simp, ?_⟩
    (repeat' (first | exact trivial | exact rfl | exact TS.eqv_refl _ _ | exact len_app _ _ | exact rows_appI | exact fun _ _ => eqvL_refl _ _ | exact fun i _ => eqvL_rowNums rfl _ i | apply And.intro))
    all_goals exact fun i hi => absurd hi (by show ¬ ((i : Int) < ((0 : Nat) : Int)); omega)
  · rintro en ⟨_, a, c, ok, hc, hc2, he⟩
    refine HTg.pre (WP := wpL Try.prog _) (fun h hq => wpL_mono h hq) he (HTL.loopThen lp9 (tl_loop m a a k o n c ok 0 (by decide)) ?_ fun en h => h.elim)
    intro en he
    have he : tlE.eqv en _ := he
    exact HTg.pre (WP := wpL Try.prog _) (fun h hq => wpL_mono h hq) he (tl_end m a k o n c ok hc hc2)
  · rintro en ⟨h, _⟩
    cases h
end
theorem tell_c (W : World) (m : Nat → Int) (b : Nat → Bool) (k o n : Int) (ho : 0 ≤ o) :
    Calls Try.prog 9 #[den default (.agg (skel m b [.int .u32, .bool, .int .i64, .int .u8, .bool, .int .i64, .int .u8, .bool, .int .i64, .int .u8, .bool, .int .i64, .int .u8, .bool, .int .i64, .int .u8] 0)), den default (.agg (skel (fun j => match j with | 0 => k | 1 => o | _ => n) (fun _ => false) [.int .u8, .int .u8, .int .i64] 0))] W fun e W' => e = .returned (.bool true) ∧ Below W.heap.size W W' :=
  law_htX (args := [.agg (skel m b [.int .u32, .bool, .int .i64, .int .u8, .bool, .int .i64, .int .u8, .bool, .int .i64, .int .u8, .bool, .int .i64, .int .u8, .bool, .int .i64, .int .u8] 0), .agg [.int .u8 (.sym k), .int .u8 (.sym o), .int .i64 (.sym n)]]) (l := []) (m := 0) (hdr := fun _ => default) Try.func9 (by kernel_rfl) (by kernel_rfl) (by kernel_rfl)
    (fun p hp => by cases hp) (tl_ht (m 0, fun i => b (3 * i + 1), fun i => m (3 * i + 2), fun i => m (3 * i + 3)) k o n ho) (fun E' hE => rfl)
set_option maxRecDepth 100000 in
theorem tell_lifted (os : Os) (started : os.Started) (H : Type) (enc : TypeId × Value → H) :
    ReturnsInHanded {} Try.checked os 9 .any (Rows.mapsTellSpec.pre6 enc Try.prog Try.f9 Rows.mapsTellRow.domain false) (Rows.mapsTellSpec.post enc Try.prog Try.f9 false true false false) := by
  refine law_lifted (C := Try.checked) Try.own started (by kernel_rfl) Try.func9
    (ChangeSpec.witness6 (enc := enc) (C := Try.checked) false ⟨#[], #[.agg #[.int .u32 0, .bool false, .int .i64 0, .int .u8 0, .bool false, .int .i64 0, .int .u8 0, .bool false, .int .i64 0, .int .u8 0, .bool false, .int .i64 0, .int .u8 0, .bool false, .int .i64 0, .int .u8 0], .agg #[.int .u8 0, .int .u8 0, .int .i64 0]], []⟩ 8 (by kernel_rfl) (by kernel_rfl) (by kernel_rfl) (by kernel_rfl))
    Try.laidOut ?_ (B := 4) (by kernel_rfl) (by kernel_rfl) rfl ?_ ?_
  · intro t ht
    rw [Try.params9] at ht
    have : t = 59 ∨ t = 31 := by
      simp at ht
      first | exact ht | omega
    rcases this with rfl | rfl <;> exact ⟨by kernel_rfl, of_decide_eq_true (by kernel_rfl)⟩
  · intro ds h
    rw [Try.params9] at h
    match ds, h with
    | [d1, d2], _ => rfl
  · intro W base args ds p hval hA hlt
    rw [Try.params9] at hA hval
    obtain ⟨v0, v1, d0, d1, p0, p1, rfl, rfl, rfl, h0, h1⟩ := trodAll_two hA
    obtain ⟨m, b, wm, hm⟩ := open_plain Try.underlying59 pk59 (hval 0 59 v0 rfl rfl) h0
    obtain ⟨x, _, wx, hx⟩ := open_plain Try.underlying31 pk31 (hval 1 31 v1 rfl rfl) h1
    rw [hm default, hx default]
    exact tell_c W m b (x 0) (x 1) (x 2) (wf_u8 wx.2.1).1

theorem mapsTell_holds : Rows.MapsTellSaid :=
  OpenClaim.holds_of_wide 9 Try.f9 rfl rfl rfl rfl rfl rfl rfl ⟨rfl, rfl, rfl, rfl, rfl⟩ rfl rfl rfl rfl rfl (by kernel_rfl) Try.func9 (by kernel_rfl)
    (of_decide_eq_true (by kernel_rfl)) (by unfold Func.isWrapper; rw [if_neg (by decide +kernel)]; exact ⟨rfl, rfl⟩)
    (fun os started H enc _ => tell_lifted os started H enc)
end Go.Proofs.Ytobknnmalnfknaa
