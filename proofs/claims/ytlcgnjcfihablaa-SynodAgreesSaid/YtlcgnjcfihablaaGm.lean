/- SynodAgrees: whatever two of three proposers decide is one and the same, and somebody's wish.
   Conditions: none. -/
import Derived.Test.YtlcgnjcfihablaaGl
set_option linter.unusedSimpArgs false
set_option linter.unusedVariables false
namespace Go.Proofs.Ytlcgnjcfihablaa
open Go.Eng Go.RowKit Go.ChangeShapes Go.WideShapes
set_option maxRecDepth 100000
theorem SIf.tri {w : Nat → I3} {t : Int} {P : Nat → PrS} {A : Nat → AcS} (h : SIf w t P A) : SIf w t (tri (P 0) (P 1) (P 2)) (tri (A 0) (A 1) (A 2)) := by
  obtain ⟨V, vote, pr, h⟩ := h
  refine ⟨V, vote, pr, h.core, fun k hk => ?_, fun j hj => ?_⟩
  · match k, hk with
    | 0, hk => exact h.p 0 hk
    | 1, hk => exact h.p 1 hk
    | 2, hk => exact h.p 2 hk
  · match j, hj with
    | 0, hk => exact h.a 0 hk
    | 1, hk => exact h.a 1 hk
    | 2, hk => exact h.a 2 hk
theorem prAt_on0 (a : List (List Num)) (p q r : PrS) : prAt ⟨a, p.on ++ q.on ++ r.on⟩ 0 = p := by
  obtain ⟨who, ⟨w0, w1, w2⟩, ⟨v0, v1, v2⟩, ⟨t0, t1, t2⟩, ⟨b0, b1⟩, ⟨a0, a1⟩, pl, al, has, valued, ⟨d0, d1, d2⟩, done, ever⟩ := p
  show PrS.mk who (w0, w1, w2) (v0, v1, v2) (t0, t1, t2) (b0, b1) (a0, a1) (lstI pl.length (rowI pl)) (lstI al.length (rowI al)) has valued (d0, d1, d2) done ever = _
  rw [lstI_rowI, lstI_rowI]
theorem prAt_on5 (a : List (List Num)) (p q r : PrS) : prAt ⟨a, p.on ++ q.on ++ r.on⟩ 5 = q := by
  obtain ⟨who, ⟨w0, w1, w2⟩, ⟨v0, v1, v2⟩, ⟨t0, t1, t2⟩, ⟨b0, b1⟩, ⟨a0, a1⟩, pl, al, has, valued, ⟨d0, d1, d2⟩, done, ever⟩ := q
  show PrS.mk who (w0, w1, w2) (v0, v1, v2) (t0, t1, t2) (b0, b1) (a0, a1) (lstI pl.length (rowI pl)) (lstI al.length (rowI al)) has valued (d0, d1, d2) done ever = _
  rw [lstI_rowI, lstI_rowI]
theorem prAt_on10 (a : List (List Num)) (p q r : PrS) : prAt ⟨a, p.on ++ q.on ++ r.on⟩ 10 = r := by
  obtain ⟨who, ⟨w0, w1, w2⟩, ⟨v0, v1, v2⟩, ⟨t0, t1, t2⟩, ⟨b0, b1⟩, ⟨a0, a1⟩, pl, al, has, valued, ⟨d0, d1, d2⟩, done, ever⟩ := r
  show PrS.mk who (w0, w1, w2) (v0, v1, v2) (t0, t1, t2) (b0, b1) (a0, a1) (lstI pl.length (rowI pl)) (lstI al.length (rowI al)) has valued (d0, d1, d2) done ever = _
  rw [lstI_rowI, lstI_rowI]
abbrev SaD := (Nat → PrS) × (Nat → AcS) × Int
section
variable (len : Nat) (s : Nat → List Num) (x y z : I3)
def saEn (d : SaD) : EN := saN len s x y z (d.1 0) (d.1 1) (d.1 2) (d.2.1 0) (d.2.1 1) (d.2.1 2) d.2.2
def saI (d : SaD) : Prop := SIf (tri x y z) d.2.2 d.1 d.2.1 ∧ 0 ≤ d.2.2 ∧ d.2.2 ≤ (len : Int)
def saQ : Ex → EN → Prop
  | .exit _, _ => True
  | .ret, e => lawR .ret e
  | .normal, _ => True
theorem three3 {n : Int} (h : 0 ≤ n) : n.tmod 3 = 0 ∨ n.tmod 3 = 1 ∨ n.tmod 3 = 2 := by
  have := tmod_in 3 h (by decide)
  omega
variable (hs : ∀ i, i < len → 0 ≤ (hdN (s i)).I ∧ 0 ≤ (hdN (tlN (s i))).I)
include hs in
set_option maxHeartbeats 4000000 in
theorem sa_block (hl : len ≤ 300) (p q r : PrS) (a b c : AcS) (i : Int) (hI : SIf (tri x y z) i (tri p q r) (tri a b c)) (h0 : 0 ≤ i) (h1 : i < (len : Int)) :
    HT Try.prog Try.f11.ntmps 0 b11 22 (saL.tm (saN len s x y z p q r a b c i)) (saL.heap (saN len s x y z p q r a b c i)) (QX ⟨some saL, [], some (lawT 4)⟩ (saR len s x y z i i)) := by
  have hm : decide (0 ≤ i ∧ i < (len : Int)) = true := decide_eq_true ⟨h0, h1⟩
  have hsi := hs i.toNat (by omega)
  refine HT.cutG 1 (t1 := saK) (p1 := ⟨some saK, [], none⟩) (R1 := fun ex e => ex = .normal ∧ ∃ k j : Int, (k = 0 ∨ k = 1 ∨ k = 2) ∧ (j = 0 ∨ j = 1 ∨ j = 2) ∧ saK.eqv e (saM len s x y z p q r a b c i k j)) rfl (HTL.runX gaTab mixed (n := 300) (by decide) (within_take in11b 1) (Nat.zero_le _) fun τ0 => holds_of_eq (sa_kj len s x y z p q r a b c i τ0) ?_) ?_ ?_
  · have e1 : IntKind.i64.wrap ((hdN (s i.toNat)).I.tmod 3) = (hdN (s i.toNat)).I.tmod 3 := IntWalk.i64_in _ (by have := tmod_in 3 hsi.1 (by decide); omega)
    have e2 : IntKind.i64.wrap ((hdN (tlN (s i.toNat))).I.tmod 3) = (hdN (tlN (s i.toNat))).I.tmod 3 := IntWalk.i64_in _ (by have := tmod_in 3 hsi.2 (by decide); omega)
    (repeat' with_reducible (first | refine holds_must hm ?_ | refine holds_must (rowsB_i _ _ _) ?_ | refine holds_must (rowsB_tu _ _) ?_ | refine holds_inI ?_ | refine holds_inB ?_))
    rw [e1, e2]
    refine holds_leaf ⟨rfl, _, _, three3 hsi.1, three3 hsi.2, ?_⟩
    (repeat' (first | exact trivial | exact rfl | exact TS.eqv_refl _ _ | exact len_app _ _ | exact rows_appI | exact fun _ _ => eqvL_refl _ _ | exact fun i _ => eqvL_rowNums rfl _ i | apply And.intro))
  · rintro en ⟨_, k, j, hk, hj, he⟩
    refine HTg.pre (WP := wpL Try.prog _) (fun h hq => wpL_mono h hq) he ?_
    rw [← List.take_append_drop 2 ((flat b11).drop 1)]
    refine HTL.appG (t1 := saL) (p1 := ⟨some saL, [], none⟩) (R1 := saR len s x y z i i) rfl ?_ ?_ ?_
    · rcases hk with rfl | rfl | rfl <;> rcases hj with rfl | rfl | rfl
      · exact mid_00 len s x y z p q r a b c i i hI (by omega) h0 h1
      · exact mid_01 len s x y z p q r a b c i i hI (by omega) h0 h1
      · exact mid_02 len s x y z p q r a b c i i hI (by omega) h0 h1
      · exact mid_10 len s x y z p q r a b c i i hI (by omega) h0 h1
      · exact mid_11 len s x y z p q r a b c i i hI (by omega) h0 h1
      · exact mid_12 len s x y z p q r a b c i i hI (by omega) h0 h1
      · exact mid_20 len s x y z p q r a b c i i hI (by omega) h0 h1
      · exact mid_21 len s x y z p q r a b c i i hI (by omega) h0 h1
      · exact mid_22 len s x y z p q r a b c i i hI (by omega) h0 h1
    · rintro en ⟨P, A, hI2, he2⟩
      refine HTg.pre (WP := wpL Try.prog _) (fun h hq => wpL_mono h hq) he2 (HTL.runX gaTab mixed (n := 300) (by decide) (within_flat in11b fun x hx => List.mem_of_mem_drop (List.mem_of_mem_drop hx)) (Nat.zero_le _) fun τ0 => holds_of_eq (sa_ag len s x y z (P 0) (P 1) (P 2) (A 0) (A 1) (A 2) i τ0) ?_)
      (repeat' with_reducible (first | refine holds_must hm ?_ | refine holds_must (rowsB_i _ _ _) ?_ | refine holds_must (rowsB_tu _ _) ?_ | refine holds_inI ?_ | refine holds_inB ?_))
      refine holds_defE fun e he => ?_
      have h0 : prAt e 0 = P 0 := by rw [he]; exact prAt_on0 _ (P 0) (P 1) (P 2)
      have h5 : prAt e 5 = P 1 := by rw [he]; exact prAt_on5 _ (P 0) (P 1) (P 2)
      have h10 : prAt e 10 = P 2 := by rw [he]; exact prAt_on10 _ (P 0) (P 1) (P 2)
      have hx : (e.ai 1 0, e.ai 1 1, e.ai 1 2) = x := by rw [he]; rfl
      have hy : (e.ai 1 3, e.ai 1 4, e.ai 1 5) = y := by rw [he]; rfl
      have hz : (e.ai 1 6, e.ai 1 7, e.ai 1 8) = z := by rw [he]; rfl
      refine holds_must (by rw [h0, h5, h10, hx, hy, hz]; exact agOk_iff.2 hI2.ok) ?_
      simp only [h0, h5, h10]
      clear he h0 h5 h10 hx hy hz e
      (repeat' with_reducible (first | refine holds_must hm ?_ | refine holds_must (rowsB_i _ _ _) ?_ | refine holds_must (rowsB_tu _ _) ?_ | refine holds_inI ?_ | refine holds_inB ?_))
      refine holds_ite (fun h => absurd h (by decide)) fun _ => ?_
      (repeat' with_reducible (first | refine holds_must hm ?_ | refine holds_must (rowsB_i _ _ _) ?_ | refine holds_must (rowsB_tu _ _) ?_ | refine holds_inI ?_ | refine holds_inB ?_))
      refine holds_leaf (show saR len s x y z i i .normal _ from ⟨P, A, hI2, ?_⟩)
      (repeat' (first | exact trivial | exact rfl | exact TS.eqv_refl _ _ | exact len_app _ _ | exact rows_appI | exact fun _ _ => eqvL_refl _ _ | exact fun i _ => eqvL_rowNums rfl _ i | apply And.intro))
    · intro ex t en hn h1 h2
      cases ex with
      | normal => exact absurd trivial hn
      | exit _ => exact h2.elim
      | ret => exact h2.elim
  · intro ex t en hn h1 h2
    have h2 : ex = .normal := h2.1
    subst h2
    exact absurd trivial hn
include hs in
set_option maxHeartbeats 4000000 in
theorem sa_loop (hl : len ≤ 300) (d : SaD) (hd : saI len x y z d) : HT Try.prog Try.f11.ntmps 0 (.loop x11) 22 (saL.tm (saEn len s x y z d)) (saL.heap (saEn len s x y z d)) (QX ⟨none, [(2, saE)], some (lawT 4)⟩ saQ) := by
  refine HT.loopH saL _ _ (saEn len s x y z) (saI len x y z) (fun d => ((len : Int) - d.2.2).toNat) (fun _ => saQ) ?_ d hd
  rintro ⟨P, A, i⟩ ⟨hI, h0, h1⟩
  dsimp only at hI h0 h1
  have hI := hI.tri
  have e1 : i < 300 → IntKind.i64.wrap (i + 1) = i + 1 := fun h => IntWalk.i64_in _ (by omega)
  refine HT.cutG 2 (t1 := saL) (p1 := ⟨some saL, [(2, saE)], none⟩) (R1 := fun ex e => match ex with | .normal => i < (len : Int) ∧ saL.eqv e (saN len s x y z (P 0) (P 1) (P 2) (A 0) (A 1) (A 2) i) | .exit _ => True | .ret => False) rfl (HTL.runX gaTab mixed (n := 300) (by decide) (within_take in11x 2) (Nat.zero_le _) fun τ0 => holds_of_eq (sa_head len s x y z (P 0) (P 1) (P 2) (A 0) (A 1) (A 2) i τ0) (holds_ite (fun hlt => ?_) fun _ => holds_leaf trivial)) ?_ ?_
  · (repeat' with_reducible (first | refine holds_must hm ?_ | refine holds_must (rowsB_i _ _ _) ?_ | refine holds_must (rowsB_tu _ _) ?_ | refine holds_inI ?_ | refine holds_inB ?_))
    refine holds_leaf ⟨of_decide_eq_true hlt, ?_⟩
    (repeat' (first | exact trivial | exact rfl | exact TS.eqv_refl _ _ | exact len_app _ _ | exact rows_appI | exact fun _ _ => eqvL_refl _ _ | exact fun i _ => eqvL_rowNums rfl _ i | apply And.intro))
  · rintro en ⟨hlt, he⟩
    refine HTg.pre (WP := wpL Try.prog _) (fun h hq => wpL_mono h hq) he ?_
    rw [show (flat x11).drop 2 = [.block 3 b11] ++ (flat x11).drop 3 from by kernel_rfl]
    refine HTL.appG (t1 := saL) (p1 := ⟨some saL, [], some (lawT 4)⟩) (R1 := saR len s x y z i i) rfl (HTL.one (HT.blockX (sa_block len s x y z hs hl _ _ _ _ _ _ i hI h0 hlt))) ?_ ?_
    · rintro en ⟨P', A', hI2, he2⟩
      refine HTg.pre (WP := wpL Try.prog _) (fun h hq => wpL_mono h hq) he2 (HTL.runX gaTab mixed (n := 300) (by decide) (within_drop in11x 3) (Nat.zero_le _) fun τ0 => holds_of_eq (sa_inc len s x y z (P' 0) (P' 1) (P' 2) (A' 0) (A' 1) (A' 2) i τ0) ?_)
      (repeat' with_reducible (first | refine holds_must hm ?_ | refine holds_must (rowsB_i _ _ _) ?_ | refine holds_must (rowsB_tu _ _) ?_ | refine holds_inI ?_ | refine holds_inB ?_))
      rw [e1 (by omega)]
      refine holds_leaf ⟨(P', A', i + 1), ⟨hI2, by show 0 ≤ i + 1; omega, by show i + 1 ≤ (len : Int); omega⟩, by show ((len : Int) - (i + 1)).toNat < ((len : Int) - i).toNat; omega, ?_, fun _ _ h => h⟩
      (repeat' (first | exact trivial | exact rfl | exact TS.eqv_refl _ _ | exact len_app _ _ | exact rows_appI | exact fun _ _ => eqvL_refl _ _ | exact fun i _ => eqvL_rowNums rfl _ i | apply And.intro))
    · intro ex t en hn h1 h2
      cases ex with
      | normal => exact absurd trivial hn
      | exit _ => exact h2.elim
      | ret => exact h2.elim
  · intro ex t en hn h1 h2
    cases ex with
    | normal => exact absurd trivial hn
    | exit _ => exact ⟨h1, trivial⟩
    | ret => exact h2.elim
theorem lp11 : (flat body11).drop 10 = [.block 2 (.loop x11)] ++ (flat body11).drop 11 := by kernel_rfl
def ac0 : AcS := ⟨(0, 0), (0, 0), (0, 0, 0)⟩
def wX (x : I3) (n : Int) : I3 := (3, x.2.1.tmod 5, n)
def saZ : Ex → EN → Prop
  | .normal, e => len ≤ 300 ∧ saL.eqv e (saN len s (wX x 0) (wX y 1) (wX z 2) (prNew 0 (wX x 0)) (prNew 1 (wX y 1)) (prNew 2 (wX z 2)) ac0 ac0 ac0 0)
  | .ret, e => lawR .ret e
  | .exit _, _ => True
include hs in
theorem sa_ht : HT Try.prog Try.f11.ntmps 0 body11 1 (saT.tm ⟨[agX x y z, []], [.lst len s]⟩) (saT.heap ⟨[agX x y z, []], [.lst len s]⟩) (QX ⟨none, [], some (lawT 4)⟩ lawR) := by
  refine HT.cutX 10 (t1 := saL) (R1 := saZ len s x y z) (HTL.runX gaTab mixed (n := 300) (by decide) (within_take in11 10) (Nat.zero_le _) fun τ0 => holds_of_eq (sa_pre len s x y z τ0) (holds_ite (fun h => holds_leaf rfl) (fun h => ?_))) ?_ ?_
  · (repeat' with_reducible (first | refine holds_must hm ?_ | refine holds_must (rowsB_i _ _ _) ?_ | refine holds_must (rowsB_tu _ _) ?_ | refine holds_inI ?_ | refine holds_inB ?_))
    refine holds_leaf ⟨by have := of_decide_eq_false h; omega, ?_⟩
    (repeat' (first | exact trivial | exact rfl | exact TS.eqv_refl _ _ | exact len_app _ _ | exact rows_appI | exact fun _ _ => eqvL_refl _ _ | exact fun i _ => eqvL_rowNums rfl _ i | apply And.intro))
    all_goals exact fun i hi => absurd hi (by simp [lnS, ON.len, hdO, tlO, saN, saO, prNew, PrS.on])
  · rintro en ⟨hl, he⟩
    refine HTg.pre (WP := wpL Try.prog _) (fun h hq => wpL_mono h hq) he (HTL.loopThen lp11 (sa_loop len s (wX x 0) (wX y 1) (wX z 2) hs hl (tri (prNew 0 (wX x 0)) (prNew 1 (wX y 1)) (prNew 2 (wX z 2)), tri ac0 ac0 ac0, 0) ⟨SIf.new _ _ _, Int.le_refl _, Int.natCast_nonneg _⟩) ?_ ?_)
    · intro en _
      exact HTL.runX gaTab mixed (n := 300) (by decide) (within_drop in11 11) (Nat.zero_le _) fun τ0 => holds_of_eq (sa_tail τ0) (holds_leaf rfl)
    · exact fun en h => h
  · exact fun en h => h
end
theorem pk24 : pkT Try.prog 8 24 = some [.int .u8, .int .u8, .int .i64, .int .u8, .int .u8, .int .i64, .int .u8, .int .u8, .int .i64] := by kernel_rfl
theorem pk84 : pkT Try.prog 8 84 = some [.int .u8, .int .u8, .int .u8] := by kernel_rfl
theorem sa_c (W : World) (x : Nat → Int) (hd : Option Addr × Nat × Nat) (n : Nat → Nat → Int) (b : Nat → Nat → Bool) (hs : sliceOf W hd hd.2.1 3 (fun i => skel (n i) (b i) [.int .u8, .int .u8, .int .u8] 0)) (hr : ∀ i, i < hd.2.1 → 0 ≤ n i 0 ∧ 0 ≤ n i 1) :
    Calls Try.prog 11 #[den default (.agg (skel x (fun _ => false) [.int .u8, .int .u8, .int .i64, .int .u8, .int .u8, .int .i64, .int .u8, .int .u8, .int .i64] 0)), .slice hd.1 hd.2.1 hd.2.2] W fun e W' => e = .returned (.bool true) ∧ Below W.heap.size W W' :=
  law_htX (args := [.agg (skel x (fun _ => false) [.int .u8, .int .u8, .int .i64, .int .u8, .int .u8, .int .i64, .int .u8, .int .u8, .int .i64] 0), .sl 0]) (l := saT.objs ⟨[agX (x 0, x 1, x 2) (x 3, x 4, x 5) (x 6, x 7, x 8), []], [.lst hd.2.1 fun i => [.i (n i 0), .i (n i 1), .i (n i 2)]]⟩) (m := 1) (hdr := fun _ => hd) Try.func11 (by kernel_rfl) (by kernel_rfl) (by kernel_rfl)
    (fun p hp => by rw [List.mem_singleton.1 hp]; exact ⟨Nat.zero_lt_one, _, _, _, rfl, hs⟩) (sa_ht hd.2.1 _ (x 0, x 1, x 2) (x 3, x 4, x 5) (x 6, x 7, x 8) hr) (fun E' hE => by simp [denL, den, SI.v, (hE 0 Nat.zero_lt_one).2.1, skel])
set_option maxRecDepth 100000 in
theorem agrees_lifted (os : Os) (started : os.Started) (H : Type) (enc : TypeId × Value → H) :
    ReturnsInHanded {} Try.checked os 11 .any (Rows.synodAgreesSpec.pre6 enc Try.prog Try.f11 Rows.synodAgreesRow.domain false) (Rows.synodAgreesSpec.post enc Try.prog Try.f11 false true false false) := by
  refine law_lifted (C := Try.checked) Try.own started (by kernel_rfl) Try.func11
    (ChangeSpec.witness6 (enc := enc) (C := Try.checked) false ⟨#[], #[.agg #[.int .u8 0, .int .u8 0, .int .i64 0, .int .u8 0, .int .u8 0, .int .i64 0, .int .u8 0, .int .u8 0, .int .i64 0], .slice none 0 0], []⟩ 8 (by kernel_rfl) (by kernel_rfl) (by kernel_rfl) (by kernel_rfl))
    Try.laidOut ?_ (B := 4) (by kernel_rfl) (by kernel_rfl) rfl ?_ ?_
  · intro t ht
    rw [Try.params11] at ht
    have : t = 24 ∨ t = 78 := by
      simp at ht
      first | exact ht | omega
    rcases this with rfl | rfl <;> exact ⟨by kernel_rfl, of_decide_eq_true (by kernel_rfl)⟩
  · intro ds h
    rw [Try.params11] at h
    match ds, h with
    | [d1, d2], _ => rfl
  · intro W base args ds p hval hA hlt
    rw [Try.params11] at hA hval
    obtain ⟨v0, v1, d0, d1, p0, p1, rfl, rfl, rfl, h0, h1⟩ := trodAll_two hA
    obtain ⟨x, xb, _, hx⟩ := open_plainA Try.underlying24 pk24 (hval 0 24 v0 rfl rfl) h0
    obtain ⟨hd, n, b, rfl, _, hs, hwf⟩ := open_rows Try.underlying78 pk84 (by kernel_rfl) (by decide) (hval 1 78 v1 rfl rfl) h1
    rw [hx default]
    exact sa_c W x hd n b hs fun i hi => ⟨(wf_u8 (hwf i hi).1).1, (wf_u8 (hwf i hi).2.1).1⟩

theorem synodAgrees_holds : Rows.SynodAgreesSaid :=
  OpenClaim.holds_of_wide 11 Try.f11 rfl rfl rfl rfl rfl rfl rfl ⟨rfl, rfl, rfl, rfl, rfl⟩ rfl rfl rfl rfl rfl (by kernel_rfl) Try.func11 (by kernel_rfl)
    (of_decide_eq_true (by kernel_rfl)) (by unfold Func.isWrapper; rw [if_neg (by decide +kernel)]; exact ⟨rfl, rfl⟩)
    (fun os started H enc _ => agrees_lifted os started H enc)
end Go.Proofs.Ytlcgnjcfihablaa
