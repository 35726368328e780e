/- ClientOnce: numbers rise by one; what is answered once isn't answered again; an answer to something else isn't taken.
   Conditions: none. -/
import Derived.Test.YtnfmdpelafaoaaaDo
set_option linter.unusedSimpArgs false
set_option linter.unusedVariables false
namespace Go.Proofs.Ytnfmdpelafaoaaa
open Go.Eng Go.RowKit Go.ChangeShapes Go.WideShapes
set_option maxRecDepth 100000
theorem in3 : Within Try.prog 3 Try.f3.ntmps body3 := within_body Try.func3 (by kernel_rfl)
theorem lp3 : (flat body3).drop 8 = [.block 0 (.loop x3)] ++ (flat body3).drop 9 := by kernel_rfl
theorem in3x : Within Try.prog 3 Try.f3.ntmps x3 := by
  have h : (flat body3)[8]? = some (.block 0 (.loop x3)) := by kernel_rfl
  exact within_loop (within_block (within_at in3 8 h))
theorem rowsB_op (r : Nat → List Num) (n : Nat) : rowsB [.i .u8, .i .u32, .i .u8, .i .u8, .i .u8, .s] (instR [.i .u8, .i .u32, .i .u8, .i .u8, .i .u8, .s] r) n = true := rowsB_instR rfl r n
theorem rowsB_an (r : Nat → List Num) (n : Nat) : rowsB [.i .u8, .i .u32, .i .u8, .i .u8, .i .u8, .s, .i .u8, .s] (instR [.i .u8, .i .u32, .i .u8, .i .u8, .i .u8, .s, .i .u8, .s] r) n = true := rowsB_instR rfl r n
theorem rowsB_app8 (an : Nat) (r : Nat → List Num) (a b c d e : Int) (s : ByteArray) (f : Int) (t : ByteArray) (z : Nat) (h : z = an + 1 := by simp) : rowsB [.i .u8, .i .u32, .i .u8, .i .u8, .i .u8, .s, .i .u8, .s] (catRows (.sym (an : Int)) (instR [.i .u8, .i .u32, .i .u8, .i .u8, .i .u8, .s, .i .u8, .s] r) (chunk 8 [.int .u8 (.sym a), .int .u32 (.sym b), .int .u8 (.sym c), .int .u8 (.sym d), .int .u8 (.sym e), .str (.sym s), .int .u8 (.lit f), .str (.lit t)])) z = true := by
  subst h
  refine rowsB_cat (fun i _ => rowOk_inst rfl _) fun i hi => ?_
  have hi : i < an + 1 - an := by simpa using hi
  have : i = 0 := by omega
  subst this
  simp [rowOk, chunk, getL, TV.get]
theorem isOp_seq {c q k o a : Int} {d : ByteArray} (h : isOpB ⟨c, q, k, o, a, d⟩ = true) {q' : Int} (hq : q' ≠ 0) : isOpB ⟨c, q', k, o, a, d⟩ = true ∧ 1 ≤ c ∧ c ≤ 3 := by
  unfold isOpB at h ⊢
  dsimp only at h ⊢
  have e1 : (q' == 0) = false := by simpa using hq
  simp only [beq_self_eq_true, Bool.true_and] at h ⊢
  cases h1 : decide (c < 1)
  · cases h2 : decide (c > 3)
    · simp only [h1, h2, e1, cond_false] at h ⊢
      cases h3 : (q == 0)
      · simp only [h3, cond_false] at h
        exact ⟨h, by have := of_decide_eq_false h1; omega, by have := of_decide_eq_false h2; omega⟩
      · simp only [h3, cond_true] at h
        cases h
    · simp only [h1, h2, cond_true, cond_false] at h
      cases h
  · simp only [h1, cond_true] at h
    cases h
theorem isReply_of {c q k o a : Int} {d : ByteArray} (h : isOpB ⟨c, q, k, o, a, d⟩ = true) {q' : Int} (hq : q' ≠ 0) : isReplyB 10 (20 + c) ⟨c, q', k, o, a, d⟩ 0 (ByteArray.mk #[]) = true := by
  obtain ⟨h1, h2, h3⟩ := isOp_seq h hq
  have ew : IntKind.u8.wrap (20 + c) = 20 + c := IntWalk.u8_in _ (by omega)
  unfold isReplyB
  dsimp only
  rw [ew, h1, decide_eq_true (show 20 + c ≥ 21 by omega), decide_eq_true (show 20 + c < 24 by omega)]
  simp only [beq_self_eq_true, cond_true, Bool.not_true, cond_false]
  decide
section
variable (len : Nat) (s : Nat → List Num) (id : Int)
structure OnD where
  o : OpS
  r : Nat → List Num
  n : Nat
  i : Int
def onD (d : OnD) : EN := onN len s id d.n d.o 0 d.n d.r d.n d.i
def onI (d : OnD) : Prop := 0 ≤ d.i ∧ (d.n : Int) ≤ d.i ∧ d.i ≤ len
def onQ : Ex → EN → Prop
  | .exit _, e => ∃ d, onE.eqv e ⟨[[]], tlO (onD len s id d).o⟩
  | .ret, e => lawR .ret e
  | .normal, _ => True
set_option maxHeartbeats 8000000 in
theorem on_loop (hl : len ≤ 20) (hi1 : 1 ≤ id) (hi3 : id ≤ 3) (d : OnD) (hd : onI len d) : HT Try.prog Try.f3.ntmps 0 (.loop x3) 4 (onL.tm (onD len s id d)) (onL.heap (onD len s id d)) (QX ⟨none, [(0, onE)], some (lawT 6)⟩ (onQ len s id)) := by
  refine HT.loopX dbTab mixed (n := 300) in3x onL _ _ (onD len s id) (onI len) (fun d => ((len : Int) - d.i).toNat) (fun _ => onQ len s id) (Nat.zero_le _) ?_ d hd
  rintro ⟨o, r, n, i⟩ ⟨h0, h1, h2⟩ τ0
  dsimp only at h0 h1 h2
  refine holds_of_eq (on_x len s id n o 0 n r n i τ0) (holds_ite (fun hlt => ?_) fun _ => ?_)
  · have hlt := of_decide_eq_true hlt
    have hm : decide (0 ≤ i ∧ i < (len : Int)) = true := decide_eq_true ⟨h0, hlt⟩
    have w1 : IntKind.u32.wrap ((n : Int) + 1) = (n : Int) + 1 := IntWalk.u32_in _ (by omega)
    have w2 : IntKind.u32.wrap ((n : Int) + 1 + 1) = (n : Int) + 1 + 1 := IntWalk.u32_in _ (by omega)
    have w3 : IntKind.u32.wrap ((n : Int) + 1 + 1 - 1) = (n : Int) + 1 := by rw [IntWalk.u32_in _ (by omega)]; omega
    have w4 : IntKind.u8.wrap (20 + id) = 20 + id := IntWalk.u8_in _ (by omega)
    have w5 : IntKind.i64.wrap ((n : Int) + 1) = (n : Int) + 1 := IntWalk.i64_in _ (by omega)
    have iw : IntKind.i64.wrap (i + 1) = i + 1 := IntWalk.i64_in _ (by omega)
    have ne1 : ((n : Int) + 1 + 1 == (n : Int) + 1) = false := by simp; omega
    have hb : decide (((n : Int) + 1) * 56 ≤ 1099511627776 ∧ (n : Int) + 1 ≤ 1099511627776) = true := decide_eq_true (by omega)
    have hb2 : decide ((((n : Int) + 1).toNat : Int) ≤ 100000000) = true := decide_eq_true (by omega)
    have hb3 : decide ((n : Int) + 1 ≤ 100000000) = true := decide_eq_true (by omega)
    have hT : (((n : Int) + 1).toNat : Int) = (n : Int) + 1 := by omega
    refine holds_must hm (holds_must hm ?_)
    refine holds_defI fun z0 _ => holds_defI fun z1 _ => holds_defI fun z2 _ => holds_defI fun z3 _ => holds_defI fun z4 _ => holds_inI ?_
    rw [w1]
    refine holds_ite (fun hno => ?_) fun hyes => ?_
    · refine holds_inI ?_
      rw [iw]
      refine holds_must (rowsB_op _ _) (holds_must (rowsB_an _ _) (holds_leaf ⟨⟨o, r, n, i + 1⟩, ⟨by show 0 ≤ i + 1; omega, by show (n : Int) ≤ i + 1; omega, by show i + 1 ≤ (len : Int); omega⟩, by show ((len : Int) - (i + 1)).toNat < ((len : Int) - i).toNat; omega, ?_, fun _ _ h => h⟩))
      (repeat' (first | exact trivial | exact rfl | exact TS.eqv_refl _ _ | exact len_app _ _ | exact rows_appI | exact fun _ _ => eqvL_refl _ _ | exact fun i _ => eqvL_rowNums rfl _ i | apply And.intro))
    · have hyes : isOpB ⟨id, (n : Int) + 1, z2, z3, z4, (hdN (tlN (tlN (tlN (tlN (tlN (s i.toNat))))))).S⟩ = true := by simpa using hyes
      have hR1 := isReply_of hyes (q' := (n : Int) + 1 + 1) (by omega)
      have hR2 := isReply_of hyes (q' := (n : Int) + 1) (by omega)
      repeat' with_reducible (first | refine holds_inI ?_ | refine holds_must hm ?_ | refine holds_must hb ?_ | refine holds_must hb2 ?_ | refine holds_must hb3 ?_ | refine holds_must (rowsB_op _ _) ?_ | refine holds_must (rowsB_an _ _) ?_ | refine holds_must (rowsB_app8 _ _ _ _ _ _ _ _ _ _ _) ?_ | refine holds_ite (fun h => absurd h (by decide)) (fun _ => ?_) | refine holds_ite (fun _ => ?_) (fun h => absurd h (by decide)) | (simp only [hT, w1, w2, w3, w4, w5, ne1, hR1, hR2, iw, ba_self, beq_self_eq_true, bne_self_eq_false, Bool.and_self, Bool.and_true, Bool.true_and, Bool.and_false, Bool.false_and, Bool.not_true, Bool.not_false]))
      refine holds_leaf ⟨⟨⟨0, 0, 0, 0, 0, ByteArray.mk #[]⟩, rowNums rAns (catRows (.sym (n : Int)) (instR rAns r) (chunk 8 [.int .u8 (.sym id), .int .u32 (.sym ((n : Int) + 1)), .int .u8 (.sym z2), .int .u8 (.sym z3), .int .u8 (.sym z4), .str (.sym (hdN (tlN (tlN (tlN (tlN (tlN (s i.toNat))))))).S), .int .u8 (.lit 0), .str (.lit (ByteArray.mk #[]))])), n + 1, i + 1⟩, ⟨by show 0 ≤ i + 1; omega, by show ((n + 1 : Nat) : Int) ≤ i + 1; omega, by show i + 1 ≤ (len : Int); omega⟩, by show ((len : Int) - (i + 1)).toNat < ((len : Int) - i).toNat; omega, ?_, fun _ _ h => h⟩
      (repeat' (first | exact trivial | exact rfl | exact TS.eqv_refl _ _ | exact len_app _ _ | exact rows_appI | exact fun _ _ => eqvL_refl _ _ | exact fun i _ => eqvL_rowNums rfl _ i | apply And.intro))
  · refine holds_must (rowsB_an _ _) (holds_leaf ⟨⟨o, r, n, i⟩, ?_⟩)
    (repeat' (first | exact trivial | exact rfl | exact TS.eqv_refl _ _ | exact len_app _ _ | exact rows_appI | exact fun _ _ => eqvL_refl _ _ | exact fun i _ => eqvL_rowNums rfl _ i | apply And.intro))
def onZ : Ex → EN → Prop
  | .normal, e => len ≤ 20 ∧ ∃ id, 1 ≤ id ∧ id ≤ 3 ∧ onL.eqv e (onD len s id ⟨⟨0, 0, 0, 0, 0, ByteArray.mk #[]⟩, fun _ => [], 0, 0⟩)
  | .ret, e => lawR .ret e
  | .exit _, _ => True
theorem on_ht (m : Int) : HT Try.prog Try.f3.ntmps 0 body3 1 (onT.tm ⟨[[.i id], [], [.i m]], [.lst len s]⟩) (onT.heap ⟨[[.i id], [], [.i m]], [.lst len s]⟩) (QX ⟨none, [], some (lawT 6)⟩ lawR) := by
  refine HT.cutX 8 (t1 := onL) (R1 := onZ len s) (HTL.runX dbTab mixed (n := 300) (by decide) (within_take in3 8) (Nat.zero_le _) fun τ0 => holds_of_eq (on_pre id m len s τ0) (holds_ite (fun h => holds_leaf rfl) (fun h => ?_))) ?_ ?_
  · refine holds_defI fun z0 h0 => holds_defI fun z1 h1 => holds_must (rowsB_op _ _) (holds_leaf ⟨by have := of_decide_eq_false h; omega, z1, ?_, ?_, ?_⟩)
    · rw [h1, h0]
      by_cases c1 : 1 > id
      · simp [c1]
      · by_cases c2 : 3 < id
        · simp [c1, c2]
        · simp [c1, c2]; omega
    · rw [h1, h0]
      by_cases c1 : 1 > id
      · simp [c1]
      · by_cases c2 : 3 < id
        · simp [c1, c2]
        · simp [c1, c2]; omega
    · (repeat' (first | exact trivial | exact rfl | exact TS.eqv_refl _ _ | exact len_app _ _ | exact rows_appI | exact fun _ _ => eqvL_refl _ _ | exact fun i _ => eqvL_rowNums rfl _ i | apply And.intro))
      all_goals exact fun i hi => absurd hi (by simp [lnS, ON.len, hdO, tlO, onD, onN])
  · rintro en ⟨hl, id', h1, h3, he⟩
    refine HTg.pre (WP := wpL Try.prog _) (fun h hq => wpL_mono h hq) he (HTL.loopThen lp3 (on_loop len s id' hl h1 h3 _ ⟨Int.le_refl _, Int.le_refl _, Int.natCast_nonneg _⟩) ?_ ?_)
    · rintro en ⟨d, he⟩
      exact HTg.pre (WP := wpL Try.prog _) (fun h hq => wpL_mono h hq) he (HTL.runX dbTab mixed (n := 300) (by decide) (within_drop in3 9) (Nat.zero_le _) fun τ0 => holds_of_eq (on_tail len s id' d.n d.o 0 d.n d.r d.n d.i τ0) (holds_leaf rfl))
    · exact fun en h => h
  · exact fun en h => h
end
theorem on_c (W : World) (id m : Int) (hd : Option Addr × Nat × Nat) (q : Nat → List QC) (hs : rowsV W hd 6 (fun i => qvals [.i .u8, .i .u32, .i .u8, .i .u8, .i .u8, .s] (q i))) :
    Calls Try.prog 3 #[.int .u8 id, .slice hd.1 hd.2.1 hd.2.2, .int .u8 m] W fun e W' => e = .returned (.bool true) ∧ Below W.heap.size W W' :=
  law_htX (args := [.int .u8 (.sym id), .sl 0, .int .u8 (.sym m)]) (l := onT.objs ⟨[[.i id], [], [.i m]], [.lst hd.2.1 fun i => nQ (q i)]⟩) (m := 1) (hdr := fun _ => hd) Try.func3 (by kernel_rfl) (by kernel_rfl) (by kernel_rfl)
    (fun p hp => by rw [List.mem_singleton.1 hp]; exact ⟨Nat.zero_lt_one, _, _, _, rfl, sliceOf_q (l := [.i .u8, .i .u32, .i .u8, .i .u8, .i .u8, .s]) rfl hs⟩) (on_ht hd.2.1 (fun i => nQ (q i)) id m) (fun E' hE => by simp [denL, den, SI.v, (hE 0 Nat.zero_lt_one).2.1])
set_option maxRecDepth 100000 in
theorem once_lifted (os : Os) (started : os.Started) (H : Type) (enc : TypeId × Value → H) :
    ReturnsInHanded {} Try.checked os 3 .any (Rows.clientOnceSpec.pre6 enc Try.prog Try.f3 Rows.clientOnceRow.domain false) (Rows.clientOnceSpec.post enc Try.prog Try.f3 false true false false) := by
  refine law_lifted (C := Try.checked) Try.own started (by kernel_rfl) Try.func3
    (ChangeSpec.witness6 (enc := enc) (C := Try.checked) false ⟨#[], #[.int .u8 0, .slice none 0 0, .int .u8 0], []⟩ 8 (by kernel_rfl) (by kernel_rfl) (by kernel_rfl) (by kernel_rfl))
    Try.laidOut ?_ (B := 4) (by kernel_rfl) (by kernel_rfl) rfl ?_ ?_
  · intro t ht
    rw [Try.params3] at ht
    have : t = 5 ∨ t = 22 := by
      simp at ht
      first | exact ht | omega | (rcases ht with h | h | h <;> simp [h]) | grind
    rcases this with rfl | rfl <;> exact ⟨by kernel_rfl, of_decide_eq_true (by kernel_rfl)⟩
  · intro ds h
    rw [Try.params3] at h
    match ds, h with
    | [d1, d2, d3], _ => rfl
  · intro W base args ds p hval hA hlt
    rw [Try.params3] at hA hval
    obtain ⟨v0, v1, v2, d0, d1, d2, p0, p1, p2, rfl, rfl, rfl, h0, h1, h2⟩ := trodAll_three hA
    obtain ⟨id, rfl, _, _, wi⟩ := open_int Try.underlying5 (hval 0 5 v0 rfl rfl) h0
    obtain ⟨hd, q, rfl, _, _, hs⟩ := open_rowsQ Try.underlying22 qk32 (by kernel_rfl) (by decide) (hval 1 22 v1 rfl rfl) h1
    obtain ⟨n, rfl, _, _, wn⟩ := open_int Try.underlying5 (hval 2 5 v2 rfl rfl) h2
    exact on_c W id n hd q hs

theorem clientOnce_holds : Rows.ClientOnceSaid :=
  OpenClaim.holds_of_wide 3 Try.f3 rfl rfl rfl rfl rfl rfl rfl ⟨rfl, rfl, rfl, rfl, rfl⟩ rfl rfl rfl rfl rfl (by kernel_rfl) Try.func3 (by kernel_rfl)
    (of_decide_eq_true (by kernel_rfl)) (by unfold Func.isWrapper; rw [if_neg (by decide +kernel)]; exact ⟨rfl, rfl⟩)
    (fun os started H enc _ => once_lifted os started H enc)
end Go.Proofs.Ytnfmdpelafaoaaa
