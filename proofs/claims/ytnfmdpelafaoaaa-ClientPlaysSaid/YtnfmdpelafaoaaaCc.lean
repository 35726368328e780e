/- ClientAgain: what is under way is sent again at each third tick, as it was, to all daemons; then, answered, never more.
   Conditions: none. -/
import Derived.Test.YtnfmdpelafaoaaaCb
import Derived.Carry
set_option linter.unusedSimpArgs false
set_option linter.unusedVariables false
namespace Go.Proofs.Ytnfmdpelafaoaaa
open Go.Eng Go.RowKit Go.ChangeShapes Go.WideShapes
set_option maxRecDepth 100000
theorem ba_self (x : ByteArray) : (x == x) = true := by rw [← eqU_beq, eqU_refl]
theorem known6_ok : SummAll Try.prog 6 (ctrSumm0 T0 cTrue) := ctr0_ok fun x r h => by
  cases h
  exact stdX_tree caTab mixed (t := T0) (x := ⟨[], []⟩) rfl (holds_of_eq known6 (holds_must rfl (holds_inI (holds_ite (fun _ => holds_leaf (tB0.eqv_refl _)) fun h => absurd h (by decide)))))
theorem cbSm_ok : AllOk Try.prog cbSm := ⟨known6_ok, caSm_ok⟩
theorem cbTab : TabAll Try.prog cbT := tab_ok cbSm_ok
theorem in4 : Within Try.prog 4 Try.f4.ntmps body4 := within_body Try.func4 (by kernel_rfl)
theorem lp4 : (flat body4).drop 9 = [.block 0 (.loop x4)] ++ (flat body4).drop 10 := by kernel_rfl
theorem in4x : Within Try.prog 4 Try.f4.ntmps x4 := by
  have h : (flat body4)[9]? = some (.block 0 (.loop x4)) := by kernel_rfl
  exact within_loop (within_block (within_at in4 9 h))
/-- An operation that is one. -/
def opOk (o : OpS) : Prop := 1 ≤ o.c ∧ o.c ≤ 3 ∧ o.q = 1 ∧ o.o < 6 ∧ (o.d.size : Int) ≤ 16 ∧ ((o.k = 1 ∨ o.k = 3) ∨ (o.k = 2 ∧ (o.d == ByteArray.mk #[]) = true) ∨ ((o.k = 4 ∨ o.k = 5) ∧ o.a = 0 ∧ (o.d == ByteArray.mk #[]) = true))
section
variable (n : Int) (o : OpS)
def agD (d : Int × Int) : EN := agN n o.c 1 o o d.1 d.2
def agI (d : Int × Int) : Prop := 1 ≤ d.2 ∧ d.2 ≤ 20 ∧ (d.1 = 0 ∨ d.1 = 1 ∨ d.1 = 2) ∧ d.2 % 3 = (d.1 + 1) % 3
def agQ : Ex → EN → Prop
  | .exit _, e => ∃ d, agI d ∧ agL.eqv e (agD n o d)
  | .ret, e => lawR .ret e
  | .normal, _ => True
set_option maxHeartbeats 4000000 in
theorem ag_loop (hn : 0 ≤ n) (d : Int × Int) (hd : agI d) : HT Try.prog Try.f4.ntmps 0 (.loop x4) 2 (agL.tm (agD n o d)) (agL.heap (agD n o d)) (QX ⟨none, [(0, agL)], some (lawT 6)⟩ (agQ n o)) := by
  refine HT.loopX cbTab mixed (n := 300) in4x agL _ _ (agD n o) agI (fun d => (21 - d.2).toNat) (fun _ => agQ n o) (Nat.zero_le _) ?_ d hd
  rintro ⟨tk, t⟩ ⟨h1, h2, h3, h4⟩ τ0
  dsimp only at h1 h2 h3 h4
  have hm : n.tmod 20 < 20 := (tmod_in 20 hn (by decide)).2
  have h0 : 0 ≤ n.tmod 20 := (tmod_in 20 hn (by decide)).1
  have ew : IntKind.i64.wrap (n.tmod 20) = n.tmod 20 := IntWalk.i64_in _ (by omega)
  have et : IntKind.i64.wrap (t + 1) = t + 1 := IntWalk.i64_in _ (by omega)
  have e3 : t.tmod 3 = t % 3 := Int.tmod_eq_emod_of_nonneg (by omega)
  rw [h4] at e3
  refine holds_of_eq (ag_x n o.c 1 o o tk t τ0) ?_
  rw [e3, et]
  refine holds_inI ?_
  rw [ew]
  refine holds_inI (holds_ite (fun hle => ?_) fun _ => holds_leaf ⟨(tk, t), ⟨h1, h2, h3, h4⟩, ?_⟩)
  · have hle := of_decide_eq_true hle
    have fin : ∀ tk', (tk' = 0 ∨ tk' = 1 ∨ tk' = 2) → (t + 1) % 3 = (tk' + 1) % 3 → ∀ e, agL.eqv e (agD n o (tk', t + 1)) → ∃ d', agI d' ∧ (21 - d'.2).toNat < (21 - t).toNat ∧ agL.eqv e (agD n o d') ∧ ∀ ex e, agQ n o ex e → agQ n o ex e :=
      fun tk' g1 g2 e he => ⟨(tk', t + 1), ⟨by show 1 ≤ t + 1; omega, by show t + 1 ≤ 20; omega, g1, g2⟩, by show (21 - (t + 1)).toNat < (21 - t).toNat; omega, he, fun _ _ h => h⟩
    rcases h3 with rfl | rfl | rfl
    · repeat' with_reducible (first | refine holds_inI ?_ | refine holds_ite (fun h => absurd h (by decide)) (fun _ => ?_) | refine holds_ite (fun _ => ?_) (fun h => absurd h (by decide)) | (simp only [ba_self, beq_self_eq_true, Bool.and_self, Bool.and_true, Bool.true_and, Bool.not_true, Bool.not_false]))
      refine holds_leaf (fin 1 (.inr (.inl rfl)) (by omega) _ ?_)
      (repeat' (first | exact trivial | exact rfl | exact TS.eqv_refl _ _ | exact len_app _ _ | exact rows_appI | exact fun _ _ => eqvL_refl _ _ | exact fun i _ => eqvL_rowNums rfl _ i | apply And.intro))
    · repeat' with_reducible (first | refine holds_inI ?_ | refine holds_ite (fun h => absurd h (by decide)) (fun _ => ?_) | refine holds_ite (fun _ => ?_) (fun h => absurd h (by decide)) | (simp only [ba_self, beq_self_eq_true, Bool.and_self, Bool.and_true, Bool.true_and, Bool.not_true, Bool.not_false]))
      refine holds_leaf (fin 2 (.inr (.inr rfl)) (by omega) _ ?_)
      (repeat' (first | exact trivial | exact rfl | exact TS.eqv_refl _ _ | exact len_app _ _ | exact rows_appI | exact fun _ _ => eqvL_refl _ _ | exact fun i _ => eqvL_rowNums rfl _ i | apply And.intro))
    · repeat' with_reducible (first | refine holds_inI ?_ | refine holds_ite (fun h => absurd h (by decide)) (fun _ => ?_) | refine holds_ite (fun _ => ?_) (fun h => absurd h (by decide)) | (simp only [ba_self, beq_self_eq_true, Bool.and_self, Bool.and_true, Bool.true_and, Bool.not_true, Bool.not_false]))
      refine holds_leaf (fin 0 (.inl rfl) (by omega) _ ?_)
      (repeat' (first | exact trivial | exact rfl | exact TS.eqv_refl _ _ | exact len_app _ _ | exact rows_appI | exact fun _ _ => eqvL_refl _ _ | exact fun i _ => eqvL_rowNums rfl _ i | apply And.intro))
  · (repeat' (first | exact trivial | exact rfl | exact TS.eqv_refl _ _ | exact len_app _ _ | exact rows_appI | exact fun _ _ => eqvL_refl _ _ | exact fun i _ => eqvL_rowNums rfl _ i | apply And.intro))
def agZ : Ex → EN → Prop
  | .normal, e => ∃ tk, (tk = 0 ∨ tk = 1 ∨ tk = 2) ∧ agM.eqv e (agP o.c 1 ⟨0, 0, 0, 0, 0, ByteArray.mk #[]⟩ tk (e.rw 1))
  | .ret, e => lawR .ret e
  | .exit _, _ => True
set_option maxHeartbeats 4000000 in
theorem ag_behind (ho : opOk o) (d : Int × Int) (hd : agI d) : HTL Try.prog Try.f4.ntmps 0 ((flat body4).drop 10) 2 (agL.tm (agD n o d)) (agL.heap (agD n o d)) (QX ⟨none, [], some (lawT 6)⟩ lawR) := by
  obtain ⟨tk, t⟩ := d
  rw [← List.take_append_drop 2 ((flat body4).drop 10)]
  refine HTL.appX (t1 := agM) (R1 := agZ o) (HTL.runX cbTab mixed (n := 300) (by decide) (within_flat in4 fun x hx => List.mem_of_mem_drop (List.mem_of_mem_take hx)) (Nat.zero_le _) fun τ0 => holds_of_eq (ag_hear n o.c 1 o o tk t τ0) ?_) ?_ ?_
  · obtain ⟨a1, a2, a3, a4, a5, a6⟩ := ho
    have ew : IntKind.u8.wrap (20 + o.c) = 20 + o.c := IntWalk.u8_in _ (by omega)
    rw [ew, a3]
    have c1 : decide (o.o ≥ 6) = false := decide_eq_false (by omega)
    have c2 : decide ((o.d.size : Int) > 16) = false := decide_eq_false (by omega)
    have c3 : decide (o.c < 1) = false := decide_eq_false (by omega)
    have c4 : decide (o.c > 3) = false := decide_eq_false (by omega)
    rw [c1, c2, c3, c4]
    have hc : o.c = 1 ∨ o.c = 2 ∨ o.c = 3 := by omega
    rcases hc with hc | hc | hc <;> rw [hc] <;> rcases a6 with (a6 | a6) | ⟨a6, a7⟩ | ⟨a6 | a6, a8, a7⟩ <;> rw [a6]
    all_goals try rw [a7]
    all_goals try rw [a8]
    all_goals repeat' with_reducible (first | refine holds_inI ?_ | refine holds_ite (fun h => absurd h (by decide)) (fun _ => ?_) | refine holds_ite (fun _ => ?_) (fun h => absurd h (by decide)) | (simp only [ba_self, beq_self_eq_true, Bool.and_self, Bool.and_true, Bool.true_and, Bool.not_true, Bool.not_false]))
    all_goals refine holds_leaf ⟨tk, hd.2.2.1, ?_⟩
    all_goals unfold agP
    all_goals try rw [hc]
    all_goals (repeat' (first | exact trivial | exact rfl | exact TS.eqv_refl _ _ | exact len_app _ _ | exact rows_appI | exact fun _ _ => eqvL_refl _ _ | exact fun i _ => eqvL_rowNums rfl _ i | apply And.intro))
  · rintro en ⟨tk, htk, he⟩
    refine HTg.pre (WP := wpL Try.prog _) (fun h hq => wpL_mono h hq) he (HTL.runX cbTab mixed (n := 300) (by decide) (within_flat in4 fun x hx => List.mem_of_mem_drop (List.mem_of_mem_drop hx)) (Nat.zero_le _) fun τ0 => holds_of_eq (ag_tail o.c 1 _ tk (en.rw 1) τ0) ?_)
    rcases htk with rfl | rfl | rfl
    all_goals repeat' with_reducible (first | refine holds_inI ?_ | refine holds_ite (fun h => absurd h (by decide)) (fun _ => ?_) | refine holds_ite (fun _ => ?_) (fun h => absurd h (by decide)) | (simp only [ba_self, beq_self_eq_true, Bool.and_self, Bool.and_true, Bool.true_and, Bool.not_true, Bool.not_false]))
    all_goals exact holds_leaf rfl
  · exact fun en h => h
end
def ag0 (n : Int) : Ex → EN → Prop
  | .normal, e => ∃ o, opOk o ∧ agL.eqv e (agD n o (0, 1))
  | .ret, e => lawR .ret e
  | .exit _, _ => True
set_option maxHeartbeats 4000000 in
theorem ag_ht (id n : Int) (o : OpS) (hn : 0 ≤ n) : HT Try.prog Try.f4.ntmps 0 body4 0 (agT.tm ⟨[[.i id], o.l, [.i n]], []⟩) (agT.heap ⟨[[.i id], o.l, [.i n]], []⟩) (QX ⟨none, [], some (lawT 6)⟩ lawR) := by
  refine HT.cutX 9 (t1 := agL) (R1 := ag0 n) (HTL.runX cbTab mixed (n := 300) (by decide) (within_take in4 9) (Nat.zero_le _) fun τ0 => holds_of_eq (ag_pre id n o τ0) ?_) ?_ ?_
  · refine holds_defI fun z0 _ => holds_defI fun z1 _ => ?_
    repeat' with_reducible (first | refine holds_inI ?_ | refine holds_ite (fun _ => ?_) (fun _ => ?_))
    all_goals first
      | exact holds_leaf rfl
      | (refine holds_leaf ⟨⟨z1, 1, o.k, o.o, o.a, o.d⟩, ?_, ?_⟩
         · simp only [or_self, or_false, false_or, or_true, true_or, and_self, and_false, false_and, eq_self, Bool.false_eq_true, Bool.true_eq_false, decide_eq_true_eq, decide_eq_false_iff_not, beq_iff_eq, bne_iff_ne, beq_eq_false_iff_ne, bne_eq_false_iff_eq, Bool.not_eq_true', Bool.not_eq_false', Bool.and_eq_true, Bool.and_eq_false_iff, Bool.or_eq_true, Bool.or_eq_false_iff, ne_eq, not_true_eq_false, not_false_eq_true, true_and, and_true, not_true, Bool.not_true, Bool.not_false] at *
           refine ⟨by show 1 ≤ z1; omega, by show z1 ≤ 3; omega, rfl, by show o.o < 6; omega, by show (o.d.size : Int) ≤ 16; omega, ?_⟩
           simp [*]
         · (repeat' (first | exact trivial | exact rfl | exact TS.eqv_refl _ _ | exact len_app _ _ | exact rows_appI | exact fun _ _ => eqvL_refl _ _ | exact fun i _ => eqvL_rowNums rfl _ i | apply And.intro)))
  · rintro en ⟨o', ho, he⟩
    refine HTg.pre (WP := wpL Try.prog _) (fun h hq => wpL_mono h hq) he (HTL.loopThen lp4 (ag_loop n o' hn (0, 1) ⟨by decide, by decide, .inl rfl, by decide⟩) ?_ ?_)
    · rintro en ⟨d, hd, he⟩
      exact HTg.pre (WP := wpL Try.prog _) (fun h hq => wpL_mono h hq) he (ag_behind n o' ho d hd)
    · exact fun en h => h
  · exact fun en h => h
theorem qk32 : qkT Try.prog 8 32 = some [.i .u8, .i .u32, .i .u8, .i .u8, .i .u8, .s] := by kernel_rfl
def opOf (s : List Num) : OpS := ⟨(hdN s).I, (hdN (tlN s)).I, (hdN (tlN (tlN s))).I, (hdN (tlN (tlN (tlN s)))).I, (hdN (tlN (tlN (tlN (tlN s))))).I, (hdN (tlN (tlN (tlN (tlN (tlN s)))))).S⟩
theorem ag_c (W : World) (id n : Int) (q : List QC) (hn : 0 ≤ n) :
    Calls Try.prog 4 #[.int .u8 id, .agg (qvals [.i .u8, .i .u32, .i .u8, .i .u8, .i .u8, .s] q).toArray, .int .u8 n] W fun e W' => e = .returned (.bool true) ∧ Below W.heap.size W W' :=
  law_htX (args := [.int .u8 (.sym id), .agg (instL rOp (nQ q)), .int .u8 (.sym n)]) (l := []) (m := 0) (hdr := fun _ => default) Try.func4 (by kernel_rfl) (by kernel_rfl) (by kernel_rfl)
    (fun p hp => by cases hp) (ag_ht id n (opOf (nQ q)) hn) (fun E' hE => by
      rw [qvals_inst q rfl E']
      rfl)
set_option maxRecDepth 100000 in
theorem again_lifted (os : Os) (started : os.Started) (H : Type) (enc : TypeId × Value → H) :
    ReturnsInHanded {} Try.checked os 4 .any (Rows.clientAgainSpec.pre6 enc Try.prog Try.f4 Rows.clientAgainRow.domain false) (Rows.clientAgainSpec.post enc Try.prog Try.f4 false true false false) := by
  refine law_lifted (C := Try.checked) Try.own started (by kernel_rfl) Try.func4
    (ChangeSpec.witness6 (enc := enc) (C := Try.checked) false ⟨#[], #[.int .u8 0, .agg #[.int .u8 0, .int .u32 0, .int .u8 0, .int .u8 0, .int .u8 0, .string ByteArray.empty], .int .u8 0], []⟩ 8 (by kernel_rfl) (by kernel_rfl) (by kernel_rfl) (by kernel_rfl))
    Try.laidOut ?_ (B := 4) (by kernel_rfl) (by kernel_rfl) rfl ?_ ?_
  · intro t ht
    rw [Try.params4] at ht
    have : t = 5 ∨ t = 32 := by
      simp at ht
      first | exact ht | omega | (rcases ht with h | h | h <;> simp [h]) | grind
    rcases this with rfl | rfl <;> exact ⟨by kernel_rfl, of_decide_eq_true (by kernel_rfl)⟩
  · intro ds h
    rw [Try.params4] at h
    match ds, h with
    | [d1, d2, d3], _ => rfl
  · intro W base args ds p hval hA hlt
    rw [Try.params4] at hA hval
    obtain ⟨v0, v1, v2, d0, d1, d2, p0, p1, p2, rfl, rfl, rfl, h0, h1, h2⟩ := trodAll_three hA
    obtain ⟨id, rfl, _, _, wi⟩ := open_int Try.underlying5 (hval 0 5 v0 rfl rfl) h0
    obtain ⟨q, wq, rfl⟩ := open_q Try.underlying32 qk32 (hval 1 32 v1 rfl rfl) h1
    obtain ⟨n, rfl, _, _, wn⟩ := open_int Try.underlying5 (hval 2 5 v2 rfl rfl) h2
    exact ag_c W id n q (wf_u8 wn).1

theorem clientAgain_holds : Rows.ClientAgainSaid :=
  OpenClaim.holds_of_wide 4 Try.f4 rfl rfl rfl rfl rfl rfl rfl ⟨rfl, rfl, rfl, rfl, rfl⟩ rfl rfl rfl rfl rfl (by kernel_rfl) Try.func4 (by kernel_rfl)
    (of_decide_eq_true (by kernel_rfl)) (by unfold Func.isWrapper; rw [if_neg (by decide +kernel)]; exact ⟨rfl, rfl⟩)
    (fun os started H enc _ => again_lifted os started H enc)
end Go.Proofs.Ytnfmdpelafaoaaa
