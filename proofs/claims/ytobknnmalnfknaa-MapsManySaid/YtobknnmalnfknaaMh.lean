/- MapsMany: so many epochs there can be, one more not.
   Conditions: none. -/
import Derived.Test.YtobknnmalnfknaaMf
import Derived.Test.YtobknnmalnfknaaEngAb
set_option linter.unusedSimpArgs false
set_option linter.unusedVariables false
namespace Go.Proofs.Ytobknnmalnfknaa
open Go.Eng Go.RowKit Go.Joins Go.ChangeShapes Go.WideShapes
set_option maxRecDepth 100000
noncomputable def body13 : Code := Try.f13.body.getD .skip
noncomputable def x13 : Code := lp ((flat body13).getD 8 .skip)
def rIn : List TV := [.i .u8, .i .u8, .i .i64]
def mtT : TS := ⟨[0, 1], [.one (.i .u8), .agg rIn], [], 0⟩
def mtL : TS := ⟨[3, 5, 6, 7], [.one (.ptr 1 0), .one (.i .i64), .one (.sl 0), .one (.i .i64)], [(0, .lst none rIn (some 2)), (1, .box rIn), (2, .tok)], 3⟩
def mtE : TS := ⟨[5, 6], [.one (.i .i64), .one (.sl 0)], [(0, .lst none rIn (some 1)), (1, .tok)], 2⟩
def mtN (c k o n : Int) (i : Nat) : EN := ⟨[[], [.i c], [], [.i (i : Int)]], [.lst i (fun _ => [.i k, .i o, .i n]), .box [.i k, .i o, .i n], .tok]⟩
def mtM (c k o n : Int) (i : Nat) : EN := ⟨[[.i c], []], [.lst i (fun _ => [.i k, .i o, .i n]), .tok]⟩
theorem mt_pre (c k o n : Int) (τ0 : Tm) : codeT Try.prog mfT 300 13 Try.f13.ntmps (Eng.ofL ((flat body13).take 8)) (mtT.tm ⟨[[.i c], [.i k, .i o, .i n]], []⟩ ++ τ0) (mtT.heap ⟨[[.i c], [.i k, .i o, .i n]], []⟩) 0 (outX 0 ⟨some mtL, [], some (lawT 4)⟩) =
  .ite (!isIncB k o n) (.leaf (.ret, ⟨[[.b true]], []⟩)) (.defI (c.tmod 70) fun z0 => .defI (IntKind.i64.wrap z0) fun z1 => .leaf (.normal, ⟨[[.u], [.i z1], [.u], [.i 0]], [.lst 0 fun (x : Nat) => [], .box [.i k, .i o, .i
  n], .tok]⟩)) := by kernel_rfl
theorem mt_x (c k o n : Int) (i : Nat) (τ0 : Tm) : codeT Try.prog mfT 300 13 Try.f13.ntmps x13 (mtL.tm (mtN c k o n i) ++ τ0) (mtL.heap (mtN c k o n i)) 3 (outX 0 ⟨some mtL, [(0, mtE)], some (lawT 4)⟩) =
  .ite (decide ((i : Int) < c)) (.must (decide (((i : Int) + 1) * 16 ≤ 1099511627776 ∧ (i : Int) + 1 ≤ 1099511627776)) (.defI (IntKind.i64.wrap ((i : Int) + 1)) fun z0 => .must (rowsB [.i .u8, .i .u8, .i .i64] (catRows
  (.sym (i : Int)) (instR [.i .u8, .i .u8, .i .i64] fun (x : Nat) => [.i k, .i o, .i n]) (chunk 3 [.int .u8 (.sym k), .int .u8 (.sym o), .int .i64 (.sym n)])) ((i : Int) + 1).toNat) (.leaf (.normal, ⟨[[.u], [.i c], [.u],
  [.i z0]], [.lst ((i : Int) + 1).toNat (rowNums [.i .u8, .i .u8, .i .i64] (catRows (.sym (i : Int)) (instR [.i .u8, .i .u8, .i .i64] fun (x : Nat) => [.i k, .i o, .i n]) (chunk 3 [.int .u8 (.sym k), .int .u8 (.sym o),
  .int .i64 (.sym n)]))), .box [.i k, .i o, .i n], .tok]⟩)))) (.must (rowsB [.i .u8, .i .u8, .i .i64] (instR [.i .u8, .i .u8, .i .i64] fun (x : Nat) => [.i k, .i o, .i n]) i) (.leaf (.exit 0, ⟨[[.i c], [.u]], [.lst i
  (rowNums [.i .u8, .i .u8, .i .i64] (instR [.i .u8, .i .u8, .i .i64] fun (x : Nat) => [.i k, .i o, .i n])), .tok]⟩))) := by kernel_rfl
theorem mt_tail (c k o n : Int) (i : Nat) (τ0 : Tm) : codeT Try.prog mfT 300 13 Try.f13.ntmps (Eng.ofL ((flat body13).drop 9)) (mtE.tm (mtM c k o n i) ++ τ0) (mtE.heap (mtM c k o n i)) 2 (outX 0 ⟨none, [], some (lawT 4)⟩) =
  .must (decide ((i : Int) < 1000000 ∧ ∀ (i_1 : Nat), i_1 < (lnS none (hdO (mtM c k o n i).o).len).v.toNat → incRowB (instR rIn (hdO (mtM c k o n i).o).rows i_1) = true)) (.defI ((foldM (fun (i : Nat) => incOf [.int .u8
  (.sym k), .int .u8 (.sym o), .int .i64 (.sym n)]) i).getD mp0).e fun z0 => .defI (((foldM (fun (i : Nat) => incOf [.int .u8 (.sym k), .int .u8 (.sym o), .int .i64 (.sym n)]) i).getD mp0).w 0) fun z1 => .defI (((foldM
  (fun (i : Nat) => incOf [.int .u8 (.sym k), .int .u8 (.sym o), .int .i64 (.sym n)]) i).getD mp0).h 0) fun z2 => .defI (((foldM (fun (i : Nat) => incOf [.int .u8 (.sym k), .int .u8 (.sym o), .int .i64 (.sym n)]) i).getD
  mp0).w 1) fun z3 => .defI (((foldM (fun (i : Nat) => incOf [.int .u8 (.sym k), .int .u8 (.sym o), .int .i64 (.sym n)]) i).getD mp0).h 1) fun z4 => .defI (((foldM (fun (i : Nat) => incOf [.int .u8 (.sym k), .int .u8 (.sym
  o), .int .i64 (.sym n)]) i).getD mp0).w 2) fun z5 => .defI (((foldM (fun (i : Nat) => incOf [.int .u8 (.sym k), .int .u8 (.sym o), .int .i64 (.sym n)]) i).getD mp0).h 2) fun z6 => .defI (((foldM (fun (i : Nat) => incOf
  [.int .u8 (.sym k), .int .u8 (.sym o), .int .i64 (.sym n)]) i).getD mp0).w 3) fun z7 => .defI (((foldM (fun (i : Nat) => incOf [.int .u8 (.sym k), .int .u8 (.sym o), .int .i64 (.sym n)]) i).getD mp0).h 3) fun z8 => .defI
  (((foldM (fun (i : Nat) => incOf [.int .u8 (.sym k), .int .u8 (.sym o), .int .i64 (.sym n)]) i).getD mp0).w 4) fun z9 => .defI (((foldM (fun (i : Nat) => incOf [.int .u8 (.sym k), .int .u8 (.sym o), .int .i64 (.sym n)])
  i).getD mp0).h 4) fun z10 => .defI (codeF (foldM (fun (i : Nat) => incOf [.int .u8 (.sym k), .int .u8 (.sym o), .int .i64 (.sym n)]) i)) fun z11 => .defI (IntKind.i64.wrap (c + 1)) fun z12 => .ite (decide (z12 > 60))
  (.leaf (.ret, ⟨[[.b (z11 == 40)]], []⟩)) (.ite (z11 == 0) (.defI (IntKind.i64.wrap z0) fun z13 => .defI (IntKind.i64.wrap (c + 1)) fun z14 => .ite (z13 == z14) (.leaf (.ret, ⟨[[.b (isMapB z0 z1 z2 z3 z4 z5 z6 z7 z8 z9
  z10)]], []⟩)) (.leaf (.ret, ⟨[[.b false]], []⟩))) (.leaf (.ret, ⟨[[.b false]], []⟩)))) := by kernel_rfl
theorem in13 : Within Try.prog 13 Try.f13.ntmps body13 := within_body Try.func13 (by kernel_rfl)
theorem in13x : Within Try.prog 13 Try.f13.ntmps x13 := by
  have h : (flat body13)[8]? = some (.block 0 (.loop x13)) := by kernel_rfl
  exact within_loop (within_block (within_at in13 8 h))
theorem lp13 : (flat body13).drop 8 = [.block 0 (.loop x13)] ++ (flat body13).drop 9 := by kernel_rfl
theorem many_some {k o n : Int} (hi : isIncB k o n = true) : ∀ m : Nat, m ≤ 59 → ∃ mp, foldM (fun _ => (k, o, n)) m = some mp ∧ mp.e = m + 1 ∧ isMapB mp.e (mp.w 0) (mp.h 0) (mp.w 1) (mp.h 1) (mp.w 2) (mp.h 2) (mp.w 3) (mp.h 3) (mp.w 4) (mp.h 4) = true
  | 0, _ => ⟨mp1, rfl, rfl, rfl⟩
  | m + 1, hm => by
    obtain ⟨mp, h1, h2, h3⟩ := many_some hi m (by omega)
    have he : mp.e < 60 := by omega
    have hok : mp.ok (k, o, n) = true := ap_of h3 hi he
    refine ⟨mp.next (k, o, n), by simp only [foldM, h1, hok, cond_true], ?_, map_next h3 hi he⟩
    show mp.e + 1 = _
    rw [h2]
    simp
theorem many_none {k o n : Int} (hi : isIncB k o n = true) : ∀ m : Nat, 60 ≤ m → foldM (fun _ => (k, o, n)) m = none := by
  obtain ⟨mp, h1, h2, h3⟩ := many_some hi 59 (by decide)
  have hok : mp.ok (k, o, n) = false := by
    show apOk _ _ _ _ _ _ _ _ _ _ _ _ _ _ = false
    unfold apOk
    rw [h2]
    simp
  have step : ∀ j : Nat, foldM (fun _ => (k, o, n)) j = some mp → foldM (fun _ => (k, o, n)) (j + 1) = none := fun j h => by simp only [foldM, h, hok, cond_false]
  exact fun m hm => foldM_none (i := 60) (step 59 h1) m hm

theorem mt_cat (k o n : Int) (i j : Nat) (hj : j < i + 1) : catRows (.sym (i : Int)) (instR rIn fun _ => [.i k, .i o, .i n]) (chunk 3 [.int .u8 (.sym k), .int .u8 (.sym o), .int .i64 (.sym n)]) j = [.int .u8 (.sym k), .int .u8 (.sym o), .int .i64 (.sym n)] := by
  unfold catRows
  cases hb : Nat.blt j (SI.sym (i : Int)).v.toNat with
  | true => rfl
  | false =>
    have : ¬ j + 1 ≤ i := fun h => by
      have := Nat.ble_eq_true_of_le h
      have hb : Nat.ble (j + 1) i = false := hb
      rw [this] at hb
      cases hb
    have e : j - (SI.sym (i : Int)).v.toNat = 0 := by
      show j - i = 0
      omega
    dsimp only
    rw [e]
    rfl
theorem mt_row (k o n : Int) (i j : Nat) (hj : j < i + 1) : rowNums rIn (catRows (.sym (i : Int)) (instR rIn fun _ => [.i k, .i o, .i n]) (chunk 3 [.int .u8 (.sym k), .int .u8 (.sym o), .int .i64 (.sym n)])) j = [.i k, .i o, .i n] := by
  unfold rowNums
  rw [mt_cat k o n i j hj]
  rfl
section
variable (c k o n : Int)
def mtQ : Ex → EN → Prop
  | .exit _, e => mtE.eqv e (mtM c k o n c.toNat)
  | .ret, e => lawR .ret e
  | .normal, _ => True
theorem mt_loop (h0 : 0 ≤ c) (hc : c < 70) (i : Nat) (hi : (i : Int) ≤ c) : HT Try.prog Try.f13.ntmps 0 (.loop x13) 3 (mtL.tm (mtN c k o n i)) (mtL.heap (mtN c k o n i)) (QX ⟨none, [(0, mtE)], some (lawT 4)⟩ (mtQ c k o n)) := by
  refine HT.loopX mfTab mixed (n := 300) in13x mtL _ _ (fun i : Nat => mtN c k o n i) (fun i => (i : Int) ≤ c) (fun i => (c - i).toNat) (fun _ => mtQ c k o n) (Nat.zero_le _) ?_ i hi
  intro i hi τ0
  refine holds_of_eq (mt_x c k o n i τ0) (holds_ite (fun hlt => ?_) fun hge => ?_)
  · have hlt := of_decide_eq_true hlt
    have e1 : IntKind.i64.wrap ((i : Int) + 1) = ((i + 1 : Nat) : Int) := (IntWalk.i64_in _ (by omega)).trans (by omega)
    refine holds_must (decide_eq_true (by omega)) (holds_inI (holds_must (rowsB_cat (fun j _ => rowOk_inst rfl _) fun j hj => ?_) (holds_leaf ⟨i + 1, by omega, by omega, ?_, fun _ _ h => h⟩)))
    · have hj : j < ((i : Int) + 1).toNat - i := hj
      have : j = 0 := by omega
      subst this
      rfl
    · rw [e1]
      refine ⟨⟨trivial, rfl, trivial, rfl, trivial⟩, ⟨(by show ((i : Int) + 1).toNat = i + 1; omega), fun j hj => ?_⟩, ⟨rfl, rfl, rfl, trivial⟩, trivial, trivial⟩
      have hj : (j : Int) < ((((i : Int) + 1).toNat : Nat) : Int) := hj
      have e := mt_row k o n i j (by omega)
      exact (congrArg (fun x => eqvL rIn x [.i k, .i o, .i n]) e).mpr (eqvL_refl _ _)
  · have hge := of_decide_eq_false hge
    have e : c.toNat = i := by omega
    refine holds_must (rowsB_instR rfl _ _) (holds_leaf ?_)
    show mtE.eqv _ (mtM c k o n c.toNat)
    rw [e]
    (repeat' (first | exact trivial | exact rfl | exact TS.eqv_refl _ _ | exact len_app _ _ | exact rows_appI | exact fun _ _ => eqvL_refl _ _ | exact fun i _ => eqvL_rowNums rfl _ i | apply And.intro))
theorem mt_end (hi : isIncB k o n = true) (ho : 0 ≤ o) (h0 : 0 ≤ c) (hc : c < 70) : HTL Try.prog Try.f13.ntmps 0 ((flat body13).drop 9) 2 (mtE.tm (mtM c k o n c.toNat)) (mtE.heap (mtM c k o n c.toNat)) (QX ⟨none, [], some (lawT 4)⟩ lawR) := by
  have hw : IntKind.i64.wrap (c + 1) = c + 1 := IntWalk.i64_in _ (by omega)
  refine HTL.runX mfTab mixed (n := 300) (by decide) (within_drop in13 9) (Nat.zero_le _) fun τ0 => holds_of_eq (mt_tail c k o n c.toNat τ0) ?_
  refine holds_must (decide_eq_true ⟨by omega, fun j _ => decide_eq_true ho⟩) ?_
  have e : (fun (j : Nat) => incOf [.int .u8 (.sym k), .int .u8 (.sym o), .int .i64 (.sym n)]) = fun _ => (k, o, n) := rfl
  rw [e]
  generalize hf : foldM (fun _ => (k, o, n)) c.toNat = r
  by_cases h60 : 60 ≤ c.toNat
  · have hr : r = none := hf.symm.trans (many_none hi _ h60)
    subst hr
    (repeat' with_reducible (first | refine holds_inI ?_ | refine holds_inB ?_))
    rw [hw]
    exact holds_ite (fun _ => holds_leaf rfl) fun h => by simp at h; omega
  · obtain ⟨mp, h1, h2, h3⟩ := many_some hi c.toNat (by omega)
    have hr : r = some mp := hf.symm.trans h1
    subst hr
    clear hf h1 e
    have e2 : mp.e = c + 1 := by omega
    have hw2 : IntKind.i64.wrap mp.e = c + 1 := by rw [e2]; exact hw
    (repeat' with_reducible (first | refine holds_inI ?_ | refine holds_inB ?_))
    rw [hw]
    refine holds_ite (fun h => by simp at h; omega) fun _ => holds_ite (fun _ => ?_) fun h => by cases h
    (repeat' with_reducible (first | refine holds_inI ?_ | refine holds_inB ?_))
    refine holds_ite (fun _ => holds_leaf ?_) fun h => ?_
    · show (isMapB _ _ _ _ _ _ _ _ _ _ _) = true
      exact h3
    · have h : (IntKind.i64.wrap mp.e == c + 1) = false := h
      rw [hw2] at h
      simp at h
def mtZ : Ex → EN → Prop
  | .normal, e => isIncB k o n = true ∧ ∃ d, 0 ≤ d ∧ d < 70 ∧ mtL.eqv e (mtN d k o n 0)
  | .ret, e => lawR .ret e
  | .exit _, _ => True
theorem mt_ht (h0 : 0 ≤ c) (ho : 0 ≤ o) : HT Try.prog Try.f13.ntmps 0 body13 0 (mtT.tm ⟨[[.i c], [.i k, .i o, .i n]], []⟩) (mtT.heap ⟨[[.i c], [.i k, .i o, .i n]], []⟩) (QX ⟨none, [], some (lawT 4)⟩ lawR) := by
  have c7 : 0 ≤ c.tmod 70 ∧ c.tmod 70 < 70 := ⟨Int.tmod_nonneg _ h0, Int.tmod_lt_of_pos _ (by decide)⟩
  have hw : IntKind.i64.wrap (c.tmod 70) = c.tmod 70 := IntWalk.i64_in _ (by omega)
  refine HT.cutX 8 (t1 := mtL) (R1 := mtZ k o n) (HTL.runX mfTab mixed (n := 300) (by decide) (within_take in13 8) (Nat.zero_le _) fun τ0 => holds_of_eq (mt_pre c k o n τ0) (holds_ite (fun _ => holds_leaf rfl) fun hb => holds_inI (holds_inI (holds_leaf ⟨by simpa using hb, c.tmod 70, c7.1, c7.2, ?_⟩)))) ?_ fun en h => h
  · rw [hw]
    (repeat' (first | exact trivial | exact rfl | exact TS.eqv_refl _ _ | exact len_app _ _ | exact rows_appI | exact fun _ _ => eqvL_refl _ _ | exact fun i _ => eqvL_rowNums rfl _ i | apply And.intro))
    all_goals exact fun i hi => absurd hi (by simp [lnS, ON.len, hdO, tlO, mtN])
  rintro en ⟨hi, d, d0, d1, he⟩
  refine HTg.pre (WP := wpL Try.prog _) (fun h hq => wpL_mono h hq) he (HTL.loopThen lp13 (mt_loop d k o n d0 d1 0 d0) ?_ fun en h => h)
  intro en he
  have he : mtE.eqv en _ := he
  exact HTg.pre (WP := wpL Try.prog _) (fun h hq => wpL_mono h hq) he (mt_end d k o n hi ho d0 d1)
end
theorem many_c (W : World) (c k o n : Int) (h0 : 0 ≤ c) (ho : 0 ≤ o) :
    Calls Try.prog 13 #[.int .u8 c, den default (.agg (skel (fun j => match j with | 0 => k | 1 => o | _ => n) (fun _ => false) [.int .u8, .int .u8, .int .i64] 0))] W fun e W' => e = .returned (.bool true) ∧ Below W.heap.size W W' :=
  law_htX (args := [.int .u8 (.sym c), .agg [.int .u8 (.sym k), .int .u8 (.sym o), .int .i64 (.sym n)]]) (l := []) (m := 0) (hdr := fun _ => default) Try.func13 (by kernel_rfl) (by kernel_rfl) (by kernel_rfl)
    (fun p hp => by cases hp) (mt_ht c k o n h0 ho) (fun E' hE => rfl)
set_option maxRecDepth 100000 in
theorem many_lifted (os : Os) (started : os.Started) (H : Type) (enc : TypeId × Value → H) :
    ReturnsInHanded {} Try.checked os 13 .any (Rows.mapsManySpec.pre6 enc Try.prog Try.f13 Rows.mapsManyRow.domain false) (Rows.mapsManySpec.post enc Try.prog Try.f13 false true false false) := by
  refine law_lifted (C := Try.checked) Try.own started (by kernel_rfl) Try.func13
    (ChangeSpec.witness6 (enc := enc) (C := Try.checked) false ⟨#[], #[.int .u8 0, .agg #[.int .u8 0, .int .u8 0, .int .i64 0]], []⟩ 8 (by kernel_rfl) (by kernel_rfl) (by kernel_rfl) (by kernel_rfl))
    Try.laidOut ?_ (B := 4) (by kernel_rfl) (by kernel_rfl) rfl ?_ ?_
  · intro t ht
    rw [Try.params13] at ht
    have : t = 5 ∨ t = 31 := by
      simp at ht
      first | exact ht | omega
    rcases this with rfl | rfl <;> exact ⟨by kernel_rfl, of_decide_eq_true (by kernel_rfl)⟩
  · intro ds h
    rw [Try.params13] at h
    match ds, h with
    | [d1, d2], _ => rfl
  · intro W base args ds p hval hA hlt
    rw [Try.params13] at hA hval
    obtain ⟨v0, v1, d0, d1, p0, p1, rfl, rfl, rfl, h0, h1⟩ := trodAll_two hA
    obtain ⟨n, rfl, _, _, wn⟩ := open_int Try.underlying5 (hval 0 5 v0 rfl rfl) h0
    obtain ⟨x, _, wx, hx⟩ := open_plain Try.underlying31 pk31 (hval 1 31 v1 rfl rfl) h1
    rw [hx default]
    exact many_c W n (x 0) (x 1) (x 2) (wf_u8 wn).1 (wf_u8 wx.2.1).1

theorem mapsMany_holds : Rows.MapsManySaid :=
  OpenClaim.holds_of_wide 13 Try.f13 rfl rfl rfl rfl rfl rfl rfl ⟨rfl, rfl, rfl, rfl, rfl⟩ rfl rfl rfl rfl rfl (by kernel_rfl) Try.func13 (by kernel_rfl)
    (of_decide_eq_true (by kernel_rfl)) (by unfold Func.isWrapper; rw [if_neg (by decide +kernel)]; exact ⟨rfl, rfl⟩)
    (fun os started H enc _ => many_lifted os started H enc)
end Go.Proofs.Ytobknnmalnfknaa
