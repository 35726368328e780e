/- WatchPlays: every row of those that are waited for: who is told, when.
   Conditions: none. -/
import Derived.Test.YtlcgnjcfihablaaXa
import Derived.Carry
set_option linter.unusedSimpArgs false
set_option linter.unusedVariables false
namespace Go.Proofs.Ytlcgnjcfihablaa
open Go.Eng Go.RowKit Go.ChangeShapes Go.WideShapes
set_option maxRecDepth 100000
theorem in7 : Within Try.prog 7 Try.f7.ntmps body7 := within_body Try.func7 (by kernel_rfl)
theorem lp7 : (flat body7).drop 7 = [.block 0 (.loop x7)] ++ (flat body7).drop 8 := by kernel_rfl
theorem in7x : Within Try.prog 7 Try.f7.ntmps x7 := by
  have h : (flat body7)[7]? = some (.block 0 (.loop x7)) := by kernel_rfl
  exact within_loop (within_block (within_at in7 7 h))
theorem rowsB_nil (s : Nat → List Num) (n : Nat) : rowsB [.i .i64] (catRows (.lit 0) (fun _ => []) (instR [.i .i64] s)) n = true :=
  rowsB_cat (fun i h => absurd h (by simp)) (fun i _ => rowOk_inst rfl _)
section
variable (hd : Option Addr × Nat × Nat) (hh : Nat → Option Addr × Nat × Nat) (s : Nat → Nat → List Num) (F : RoF → Prop)
def wpEn (d : (Nat → Int) × Int) : EN := wpN d.1 d.1 d.2
def wpI (d : (Nat → Int) × Int) : Prop := ok5 d.1 ∧ 0 ≤ d.2 ∧ d.2 ≤ (hd.2.1 : Int)
def wpC (E : Env) : Prop := E.hdr 0 = hd
def wpQ : Ex → EN → Prop
  | .exit _, _ => True
  | .ret, e => lawR .ret e
  | .normal, _ => True
theorem wpC_keep : CKeep (wpC hd) 1 := fun E E' h hc => by
  unfold wpC at hc ⊢
  rw [(h 0 Nat.zero_lt_one).2.1, hc]
set_option maxHeartbeats 4000000 in
theorem wp_round (hlen : hd.2.1 ≤ 60) (c : Nat → Int) (hc : ok5 c) (i : Int) (h0 : 0 ≤ i) (h1 : i ≤ (hd.2.1 : Int)) (no n : Nat) (hno : no = hd.2.1) (s : Nat → List Num) (τ0 : Tm) :
    (codeT Try.prog wkT 300 7 Try.f7.ntmps x7 (wpL.tm (wpN c c i) ++ τ0) (wpHp no n 3 hh s i (wpL.heap (wpN c c i))) 4 (outX 1 ⟨some wpL, [(0, wpE)], some (lawT 2)⟩)).Holds fun r => match r.1 with
      | .normal => ∃ d', wpI hd d' ∧ ((hd.2.1 : Int) - d'.2).toNat < ((hd.2.1 : Int) - i).toNat ∧ wpL.eqv r.2 (wpEn d') ∧ ∀ ex e, wpQ ex e → wpQ ex e
      | ex => wpQ ex r.2 := by
  refine holds_of_eq (wp_x c c no n hh s i τ0) (holds_ite (fun hlt => ?_) fun _ => holds_leaf trivial)
  have hlt := of_decide_eq_true hlt
  have hm : decide (0 ≤ i ∧ i < (no : Int)) = true := decide_eq_true ⟨h0, hlt⟩
  have hk : decide ((i.toNat : Int) = i) = true := decide_eq_true (by omega)
  have iw : IntKind.i64.wrap (i + 1) = i + 1 := IntWalk.i64_in _ (by omega)
  refine holds_must hm (holds_must hm (holds_must hk (holds_ite (fun _ => holds_leaf rfl) fun hn => ?_)))
  have hn := of_decide_eq_false hn
  refine holds_must hm (holds_must hm (holds_must hk (holds_must (decide_eq_true (by omega)) (holds_must (rowsB_nil s _) (holds_defE fun e0 he0 => ?_)))))
  have hc0 : tkCs e0 = fun k => (nthN k (on5 c)).I := by rw [he0]; rfl
  have hb0 : tkB e0 = fun k : Nat => anyN (jxP (k : Int) s) n := by
    rw [he0]
    funext k
    show anyN (jxP (k : Int) (rowNums [.i .i64] (catRows (.lit 0) (fun _ => []) (instR [.i .i64] s)))) (0 + (n : Int)).toNat = _
    rw [show (0 + (n : Int)).toNat = n from by omega]
    refine anyN_congr fun j _ => ?_
    have : (hdN (rowNums [.i .i64] (catRows (.lit 0) (fun _ => []) (instR [.i .i64] s)) j)).I = (hdN (s j)).I := by
      rw [rowNums_cat, if_neg (by simp)]
      exact (eqvL_rowNums (row := [.i .i64]) rfl s _).1
    simp only [jxP, this]
  have hl0 : ((e0.ln 1 : Nat) : Int) ≤ 1099511627776 := by
    rw [he0]
    show (((0 + (n : Int)).toNat : Nat) : Int) ≤ _
    omega
  have hok : ok5 (fun k => (nthN k (on5 c)).I) := by
    intro k hk
    have := hc k hk
    match k, hk with
    | 0, _ => exact this
    | 1, _ => exact this
    | 2, _ => exact this
    | 3, _ => exact this
    | 4, _ => exact this
  refine holds_must (decide_eq_true hl0) (holds_must (decide_eq_true (by rw [hc0]; exact hok)) ?_)
  rw [hc0, hb0]
  clear hl0 hb0 hc0 he0 e0
  (repeat' with_reducible (first | refine holds_inI ?_ | refine holds_inB ?_))
  refine holds_must hm (holds_must hm (holds_must hk (holds_must (rowsB_i _ _ _) (holds_defE fun e7 he7 => ?_))))
  have hc7 : tkCs e7 = fun k => (nthN k (on5 c)).I := by rw [he7]; rfl
  have hb7 : tkB e7 = fun k : Nat => anyN (jxP (k : Int) s) n := by
    rw [he7]
    funext k
    show anyN (jxP (k : Int) (rowNums [.i .i64] (instR [.i .i64] s))) (n : Int).toNat = _
    rw [show (n : Int).toNat = n from by omega]
    refine anyN_congr fun j _ => ?_
    have : (hdN (rowNums [.i .i64] (instR [.i .i64] s) j)).I = (hdN (s j)).I := (eqvL_rowNums (row := [.i .i64]) rfl s _).1
    simp only [jxP, this]
  have hl7 : ((e7.ln 1 : Nat) : Int) ≤ 1099511627776 := by
    rw [he7]
    show (((n : Int).toNat : Nat) : Int) ≤ _
    omega
  refine holds_must (decide_eq_true hl7) (holds_must (decide_eq_true (by rw [hc7]; exact hok)) ?_)
  rw [hc7, hb7]
  clear hl7 hb7 hc7 he7 e7
  generalize hB : (fun k : Nat => anyN (jxP (k : Int) s) n) = B
  generalize hC : (fun k : Nat => (nthN k (on5 c)).I) = D at hok ⊢
  (repeat' with_reducible (first | refine holds_inI ?_ | refine holds_inB ?_))
  have hlw := wtL_len B D 5
  refine holds_must (rowsB_i _ _ _) (holds_must (rowsB_i _ _ _) (holds_defE fun e he => ?_))
  refine holds_must (decide_eq_true (by rw [he]; show (((wtL B D 5).length : Int)).toNat ≤ 5; omega)) ?_
  rw [decide_eq_true (show iqP (e.ln 0) (e.ln 1) (e.rw 0) (e.rw 1) from by rw [he]; exact ⟨rfl, fun i _ => rfl⟩)]
  clear he e
  simp only [bne_self_eq_false, Bool.not_true]
  repeat' with_reducible (first | refine holds_ite (fun h => absurd h (by decide)) (fun _ => ?_) | refine holds_inI ?_)
  rw [iw]
  refine holds_leaf ⟨(wtC B D, i + 1), ⟨fun k hk => ?_, by show 0 ≤ i + 1; omega, by show i + 1 ≤ (hd.2.1 : Int); omega⟩, by show ((hd.2.1 : Int) - (i + 1)).toNat < ((hd.2.1 : Int) - i).toNat; omega, ?_, fun _ _ h => h⟩
  · have := hok k hk
    show 0 ≤ wtC B D k ∧ wtC B D k ≤ 9
    unfold wtC
    cases B k
    · simp
    · simp only [cond_true]
      split
      · omega
      · omega
  · (repeat' (first | exact trivial | exact rfl | exact TS.eqv_refl _ _ | exact len_app _ _ | exact rows_appI | exact fun _ _ => eqvL_refl _ _ | exact fun i _ => eqvL_rowNums rfl _ i | apply And.intro))
end
section
variable (hd : Option Addr × Nat × Nat) (hh : Nat → Option Addr × Nat × Nat) (q : Nat → Nat → List QC)
def f0 : RoF := ⟨(none, 0, 0), 1, fun j => qvals [.i .i64] []⟩
def fO : RoF := ⟨hd, 1, fun j => [.slice (hh j).1 (hh j).2.1 (hh j).2.2]⟩
def fI (j : Nat) : RoF := ⟨hh j, 1, fun m => qvals [.i .i64] (q j m)⟩
def wpF (f : RoF) : Prop := f = fO hd hh ∨ f = f0 ∨ ∃ j, j < hd.2.1 ∧ f = fI hh q j
def fAt (i : Int) : RoF := if i < (hd.2.1 : Int) then fI hh q i.toNat else f0
def sAt (i : Int) : Nat → List Num := if i < (hd.2.1 : Int) then fun m => nQ (q i.toNat m) else fun _ => nQ []
theorem fAt_in {i : Int} (h0 : 0 ≤ i) : wpF hd hh q (fAt hd hh q i) ∧ (fAt hd hh q i).sz = 1 ∧ ∀ m, (fAt hd hh q i).vals m = denL default (instR [.i .i64] (sAt hd q i) m) := by
  unfold fAt sAt
  by_cases h : i < (hd.2.1 : Int)
  · simp only [if_pos h]
    exact ⟨.inr (.inr ⟨i.toNat, by omega, rfl⟩), rfl, fun m => qvals_inst (l := [.i .i64]) (q i.toNat m) rfl default⟩
  · simp only [if_neg h]
    exact ⟨.inr (.inl rfl), rfl, fun m => qvals_inst (l := [.i .i64]) [] rfl default⟩
theorem wp_news (i : Int) (h0 : 0 ≤ i) (k : Nat) (hk : 0 < k) (E : Env) (hC : wpC hd E) : ∃ E1, Agree (· < k) E E1 ∧ ∀ n ∈ [(⟨0, fO hd hh, wpOut i k hh⟩ : New), ⟨k, fAt hd hh q i, instR [.i .i64] (sAt hd q i)⟩], n.k < k + 1 ∧ wpF hd hh q n.f ∧ E1.hdr n.k = n.f.hd ∧
    ∀ E', Agree (· < k + 1) E1 E' → ∀ j, j < n.f.hd.2.1 → (n.rows j).length = n.f.sz ∧ allScalar (n.rows j) = true ∧ denL E' (n.rows j) = n.f.vals j := by
  obtain ⟨g1, g2, g3⟩ := fAt_in hd hh q h0
  have hC : E.hdr 0 = hd := hC
  refine ⟨E.put k 0 (fAt hd hh q i).hd [], Env.put_agree (A := fun x => x < k) E (Nat.lt_irrefl k) _ _ _, fun n hn => ?_⟩
  have e0 : (E.put k 0 (fAt hd hh q i).hd []).hdr 0 = hd := by
    show (if 0 = k then _ else E.hdr 0) = hd
    rw [if_neg (by omega), hC]
  have ek : (E.put k 0 (fAt hd hh q i).hd []).hdr k = (fAt hd hh q i).hd := by
    show (if k = k then _ else _) = _
    rw [if_pos rfl]
  rcases List.mem_cons.1 hn with rfl | hn
  · refine ⟨by show 0 < k + 1; omega, .inl rfl, e0, fun E' hE j hj => ⟨rfl, rfl, ?_⟩⟩
    have hk2 : E'.hdr k = (fAt hd hh q i).hd := by rw [(hE k (Nat.lt_succ_self k)).2.1, ek]
    have hj : j < hd.2.1 := hj
    show [den E' (.slIf (decide ((j : Int) = i)) k (hh j))] = [Value.slice (hh j).1 (hh j).2.1 (hh j).2.2]
    by_cases e : (j : Int) = i
    · rw [decide_eq_true e]
      simp only [den, hk2]
      unfold fAt
      rw [if_pos (by omega)]
      have : i.toNat = j := by omega
      rw [this]
      rfl
    · rw [decide_eq_false e]
      rfl
  · rw [List.mem_singleton.1 hn]
    refine ⟨Nat.lt_succ_self k, g1, ek, fun E' hE j hj => ⟨?_, instL_scalar _ _, ?_⟩⟩
    · rw [g2]; exact instL_length _ _
    · rw [g3 j]
      exact den_keyless (instL_keyless _ rfl) _ _
theorem wp_loop (hlen : hd.2.1 ≤ 60) (d : (Nat → Int) × Int) (hI : wpI hd d) : HH (wpF hd hh q) (wpC hd) Try.f7.ntmps 1 ((Code.loop x7).wp Try.prog) 3 (wpL.tm (wpEn d)) (wpL.heap (wpEn d)) (QX ⟨none, [(0, wpE)], some (lawT 2)⟩ wpQ) := by
  refine HH.loop (wpC_keep hd) wpL _ _ wpEn (wpI hd) (fun d => ((hd.2.1 : Int) - d.2).toNat) (fun _ => wpQ) ?_ d hI
  rintro ⟨c, i⟩ ⟨hc, h0, h1⟩
  refine HH.reveal (WP := fun Q a w => x7.wp Try.prog Q a w) (fun h hq => wp_mono h hq) (m' := 4) [⟨0, fO hd hh, wpOut i 3 hh⟩, ⟨3, fAt hd hh q i, instR [.i .i64] (sAt hd q i)⟩] (by decide) (by decide) (fun E hC => wp_news hd hh q i h0 3 (by decide) E hC) ?_
  have hr := wp_round hd hh hlen c hc i h0 h1 hd.2.1 (fAt hd hh q i).hd.2.1 rfl (sAt hd q i)
  have e : newH (wpL.heap (wpEn (c, i))) [⟨0, fO hd hh, wpOut i 3 hh⟩, ⟨3, fAt hd hh q i, instR [.i .i64] (sAt hd q i)⟩] = wpHp hd.2.1 (fAt hd hh q i).hd.2.1 3 hh (sAt hd q i) i (wpL.heap (wpN c c i)) := by
    unfold newH wpHp
    unfold newH
    rw [(fAt_in hd hh q h0).2.1]
    rfl
  rw [e]
  exact HT.runX (R := fun ex en' => match ex with
      | .normal => ∃ d', wpI hd d' ∧ ((hd.2.1 : Int) - d'.2).toNat < ((hd.2.1 : Int) - i).toNat ∧ wpL.eqv en' (wpEn d') ∧ ∀ ex e, wpQ ex e → wpQ ex e
      | ex => wpQ ex en') wkTab mixed (n := 300) in7x (by decide) hr
def wpZ : Ex → EN → Prop
  | .normal, e => hd.2.1 ≤ 60 ∧ wpL.eqv e (wpEn (fun _ => 0, 0))
  | .ret, e => lawR .ret e
  | .exit _, _ => True
theorem wp_hh : HH (wpF hd hh q) (wpC hd) Try.f7.ntmps 1 (body7.wp Try.prog) 1 (argTm 0 [.sl 0]) [] (QX ⟨none, [], some (lawT 2)⟩ lawR) := by
  refine HH.cutG (wpC_keep hd) 7 (t1 := wpL) (p1 := ⟨some wpL, [], some (lawT 2)⟩) (R1 := wpZ hd) rfl ?_ ?_ ?_
  · refine HH.reveal (WP := fun Q a w => Go.Eng.wpL Try.prog ((flat body7).take 7) Q a w) (fun h hq => wpL_mono h hq) (m' := 1) [⟨0, fO hd hh, wpOut (-1) 0 hh⟩] (by decide) (by decide) (fun E hC => ⟨E, Agree.refl _ _, fun n hn => ?_⟩) (HTL.runX wkTab mixed (n := 300) (by decide) (within_take in7 7) (by decide) fun τ0 => holds_of_eq (wp_pre hd.2.1 hh τ0) (holds_ite (fun _ => holds_leaf rfl) fun h => holds_leaf ⟨by have := of_decide_eq_false h; omega, ?_⟩))
    · rw [List.mem_singleton.1 hn]
      refine ⟨Nat.zero_lt_one, .inl rfl, hC, fun E' hE j hj => ⟨rfl, rfl, ?_⟩⟩
      show [den E' (.slIf (decide ((j : Int) = -1)) 0 (hh j))] = [Value.slice (hh j).1 (hh j).2.1 (hh j).2.2]
      rw [decide_eq_false (by omega)]
      rfl
    · (repeat' (first | exact trivial | exact rfl | exact TS.eqv_refl _ _ | exact len_app _ _ | exact rows_appI | exact fun _ _ => eqvL_refl _ _ | exact fun i _ => eqvL_rowNums rfl _ i | apply And.intro))
  · rintro en ⟨hl, he⟩
    refine HH.pre (WP := fun Q a w => Go.Eng.wpL Try.prog ((flat body7).drop 7) Q a w) (fun h hq => wpL_mono h hq) he (HH.loopThen (wpC_keep hd) lp7 (wp_loop hd hh q hl _ ⟨fun k hk => ⟨Int.le_refl _, show (0 : Int) ≤ 9 by decide⟩, Int.le_refl _, Int.natCast_nonneg _⟩) ?_ ?_)
    · intro en _
      exact HTg.hh (WP := fun Q a w => Go.Eng.wpL Try.prog ((flat body7).drop 8) Q a w) (fun h hq => wpL_mono h hq) (HTL.runX wkTab mixed (n := 300) (by decide) (within_drop in7 8) (by decide) fun τ0 => holds_of_eq (wp_tail τ0) (holds_leaf rfl))
    · exact fun en h => h
  · intro ex t en hn h1 h2
    cases ex with
    | normal => exact absurd trivial hn
    | exit _ => cases h1
    | ret => exact ⟨h1, h2⟩
end
theorem qk57 : qkT Try.prog 8 57 = some [.sl 57 3] := by kernel_rfl
theorem qk3 : qkT Try.prog 8 3 = some [.i .i64] := by kernel_rfl
theorem wp_c {H : Type} {enc : TypeId × Value → H} (W : World) (hd : Option Addr × Nat × Nat) (q0 : Nat → List QC) (hall : ∀ i, i < hd.2.1 → qall Try.prog enc W 0 (fun _ => true) true [.sl 57 3] (q0 i)) (hs : rowsV W hd 1 (fun i => qvals [.sl 57 3] (q0 i))) :
    Calls Try.prog 7 #[.slice hd.1 hd.2.1 hd.2.2] W fun e W' => e = .returned (.bool true) ∧ Below W.heap.size W W' := by
  have inner : ∀ j, ∃ q : Nat → List QC, j < hd.2.1 → rowsV W (hdQ (q0 j)).h 1 (fun m => qvals [.i .i64] (q m)) := fun j => by
    by_cases hj : j < hd.2.1
    · obtain ⟨⟨hu, fuel, x, hx⟩, _⟩ := hall j hj
      obtain ⟨q, _, _, hq⟩ := open_cellsQ (hd := (hdQ (q0 j)).h) hu qk3 (by kernel_rfl) (by decide) hx
      exact ⟨q, fun _ => hq⟩
    · exact ⟨fun _ => [], fun h => absurd h hj⟩
  obtain ⟨q, hq⟩ := Classical.axiomOfChoice inner
  refine law_hh (F := wpF hd (fun j => (hdQ (q0 j)).h) q) (C := wpC hd) (args := [.sl 0]) (m := 1) (b := 1) (hdr := fun _ => hd) Try.func7 (by kernel_rfl) (by kernel_rfl) (by kernel_rfl) ?_ rfl (wp_hh hd _ q) (fun E' hE => by simp [denL, den, (hE 0 Nat.zero_lt_one).2.1])
  rintro f (rfl | rfl | ⟨j, hj, rfl⟩)
  · exact hs
  · exact ⟨Nat.le_refl _, fun h => absurd h (Nat.lt_irrefl 0)⟩
  · exact hq j hj
set_option maxRecDepth 100000 in
theorem wplays_lifted (os : Os) (started : os.Started) (H : Type) (enc : TypeId × Value → H) :
    ReturnsInHanded {} Try.checked os 7 .any (Rows.watchPlaysSpec.pre6 enc Try.prog Try.f7 Rows.watchPlaysRow.domain false) (Rows.watchPlaysSpec.post enc Try.prog Try.f7 false true false false) := by
  refine law_lifted (C := Try.checked) Try.own started (by kernel_rfl) Try.func7
    (ChangeSpec.witness6 (enc := enc) (C := Try.checked) false ⟨#[], #[.slice none 0 0], []⟩ 8 (by kernel_rfl) (by kernel_rfl) (by kernel_rfl) (by kernel_rfl))
    Try.laidOut ?_ (B := 4) (by kernel_rfl) (by kernel_rfl) rfl ?_ ?_
  · intro t ht
    rw [Try.params7] at ht
    have : t = 50 := by
      simp at ht
      first | exact ht | omega | (rcases ht with h | h | h <;> simp [h]) | grind
    rcases this with rfl <;> exact ⟨by kernel_rfl, of_decide_eq_true (by kernel_rfl)⟩
  · intro ds h
    rw [Try.params7] at h
    match ds, h with
    | [d1], _ => rfl
  · intro W base args ds p hval hA hlt
    rw [Try.params7] at hA hval
    obtain ⟨v0, d0, rfl, rfl, h0⟩ := trodAll_one hA
    obtain ⟨hd, q, rfl, _, hall, hs⟩ := open_rowsQ Try.underlying50 qk57 (by kernel_rfl) (by decide) (hval 0 50 v0 rfl rfl) h0
    exact wp_c W hd q hall hs

theorem watchPlays_holds : Rows.WatchPlaysSaid :=
  OpenClaim.holds_of_wide 7 Try.f7 rfl rfl rfl rfl rfl rfl rfl ⟨rfl, rfl, rfl, rfl, rfl⟩ rfl rfl rfl rfl rfl (by kernel_rfl) Try.func7 (by kernel_rfl)
    (of_decide_eq_true (by kernel_rfl)) (by unfold Func.isWrapper; rw [if_neg (by decide +kernel)]; exact ⟨rfl, rfl⟩)
    (fun os started H enc _ => wplays_lifted os started H enc)
end Go.Proofs.Ytlcgnjcfihablaa
