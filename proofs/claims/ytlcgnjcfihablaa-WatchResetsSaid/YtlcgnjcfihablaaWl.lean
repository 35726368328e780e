/- WatchResets: trees.
   Conditions: none. -/
import Derived.Test.YtlcgnjcfihablaaWk
set_option linter.unusedSimpArgs false
set_option linter.unusedVariables false
namespace Go.Proofs.Ytlcgnjcfihablaa
open Go.Eng Go.RowKit Go.ChangeShapes Go.WideShapes
set_option maxRecDepth 100000
noncomputable def body10 : Code := Try.f10.body.getD .skip
noncomputable def x10 : Code := lp ((flat body10).getD 7 .skip)
noncomputable def y10 : Code := lp ((flat body10).getD 11 .skip)
def wrT : TS := ⟨[0, 1], [.one (.i .u8), .one (.i .u8)], [], 0⟩
def wrH : List (Nat × TO) := [(0, .box i5)]
def wrL : TS := ⟨[1, 5, 6, 7, 8], [.one (.i .u8), .one (.ptr 0 0), .one (.i .i64), .one (.i .i64), .one (.i .i64)], wrH, 1⟩
def wrE : TS := ⟨[1, 5, 6, 7], [.one (.i .u8), .one (.ptr 0 0), .one (.i .i64), .one (.i .i64)], wrH, 1⟩
def wgL : TS := ⟨[1, 5, 10], [.one (.i .u8), .one (.ptr 0 0), .one (.i .i64)], wrH, 1⟩
def wgE : TS := ⟨[5], [.one (.ptr 0 0)], wrH, 1⟩
def wrN (g t n i : Int) (c : Nat → Int) : EN := ⟨[[.i g], [], [.i t], [.i n], [.i i]], [.box (on5 c)]⟩
def wrM (g t n : Int) (c : Nat → Int) : EN := ⟨[[.i g], [], [.i t], [.i n]], [.box (on5 c)]⟩
def wgN (g i : Int) (c : Nat → Int) : EN := ⟨[[.i g], [], [.i i]], [.box (on5 c)]⟩
theorem wr_pre (a g : Int) (τ0 : Tm) : codeT Try.prog wkT 300 10 Try.f10.ntmps (Eng.ofL ((flat body10).take 7)) (wrT.tm ⟨[[.i a], [.i g]], []⟩ ++ τ0) (wrT.heap ⟨[[.i a], [.i g]], []⟩) 0 (outX 0 ⟨some wrL, [], some (lawT 4)⟩) =
  .defI (a.tmod 100) fun z0 => .defI (IntKind.i64.wrap z0) fun z1 => .leaf (.normal, ⟨[[.i g], [.u], [.i 0], [.i z1], [.i 1]], [.box [.i 0, .i 0, .i 0, .i 0, .i 0]]⟩) := by kernel_rfl
theorem wr_x (g t n i : Int) (c : Nat → Int) (τ0 : Tm) : codeT Try.prog wkT 300 10 Try.f10.ntmps x10 (wrL.tm (wrN g t n i c) ++ τ0) (wrL.heap (wrN g t n i c)) 1 (outX 0 ⟨some wrL, [(0, wrE)], some (lawT 4)⟩) =
  .ite (decide (i ≤ n)) (.defE ⟨[[.u], [.u]], [.box [.i (c 0), .i (c 1), .i (c 2), .i (c 3), .i (c 4)], .lst 4 (rowNums [.i .i64] (chunk 1 [.int .i64 (.lit 1), .int .i64 (.lit 1), .int .i64 (.lit 9), .int .i64 (.lit
  (-1))]))]⟩ fun e0 => .must (decide (((e0.ln 1) : Int) ≤ 1099511627776)) (.must (decide (ok5 (tkCs e0))) (.defI (wtC (tkB e0) (tkCs e0) 0) fun z1 => .defI (wtC (tkB e0) (tkCs e0) 1) fun z2 => .defI (wtC (tkB e0) (tkCs e0)
  2) fun z3 => .defI (wtC (tkB e0) (tkCs e0) 3) fun z4 => .defI (wtC (tkB e0) (tkCs e0) 4) fun z5 => .defI ((wtL (tkB e0) (tkCs e0) 5).length : Int) fun z6 => .ite (decide (z6 > 0)) (.defI (IntKind.i64.wrap (t + 1)) fun z7
  => .must (decide ((0 : Int) ≤ 0 ∧ 0 < z6)) (.must (decide ((0 : Int) ≤ 0 ∧ 0 < z6)) (.defI ((wtL (tkB e0) (tkCs e0) 5).getD 0 0) fun z8 => .ite (z8 != 1) (.leaf (.ret, ⟨[[.b false]], []⟩)) (.defI (i.tmod 10) fun z9 =>
  .ite (z9 != 0) (.leaf (.ret, ⟨[[.b false]], []⟩)) (.defI (IntKind.i64.wrap (i + 1)) fun z10 => .leaf (.normal, ⟨[[.i g], [.u], [.i z7], [.i n], [.i z10]], [.box [.i z1, .i z2, .i z3, .i z4, .i z5]]⟩)))))) (.defI
  (IntKind.i64.wrap (i + 1)) fun z11 => .leaf (.normal, ⟨[[.i g], [.u], [.i t], [.i n], [.i z11]], [.box [.i z1, .i z2, .i z3, .i z4, .i z5]]⟩))))) (.leaf (.exit 0, ⟨[[.i g], [.u], [.i t], [.i n]], [.box [.i (c 0), .i (c
  1), .i (c 2), .i (c 3), .i (c 4)]]⟩)) := by kernel_rfl
theorem wr_mid (g t n : Int) (c : Nat → Int) (τ0 : Tm) : codeT Try.prog wkT 300 10 Try.f10.ntmps (Eng.ofL (((flat body10).drop 8).take 3)) (wrE.tm (wrM g t n c) ++ τ0) (wrE.heap (wrM g t n c)) 1 (outX 0 ⟨some wgL, [], some (lawT 4)⟩) =
  .defI (IntKind.i64.wrap (n.tdiv 10)) fun z0 => .ite (t != z0) (.leaf (.ret, ⟨[[.b false]], []⟩)) (.leaf (.normal, ⟨[[.i g], [.u], [.i 0]], [.box [.i (c 0), .i (c 1), .i (c 2), .i (c 3), .i (c 4)]]⟩)) := by kernel_rfl
theorem wr_y (g i : Int) (c : Nat → Int) (τ0 : Tm) : codeT Try.prog wkT 300 10 Try.f10.ntmps y10 (wgL.tm (wgN g i c) ++ τ0) (wgL.heap (wgN g i c)) 1 (outX 0 ⟨some wgL, [(2, wgE)], some (lawT 4)⟩) =
  .defI (g.tmod 8) fun z0 => .defI (IntKind.i64.wrap z0) fun z1 => .ite (decide (i < z1)) (.defE ⟨[[.u], [.u]], [.box [.i (c 0), .i (c 1), .i (c 2), .i (c 3), .i (c 4)], .lst 1 (rowNums [.i .i64] (chunk 1 [.int .i64 (.lit
  1)]))]⟩ fun e2 => .must (decide (((e2.ln 1) : Int) ≤ 1099511627776)) (.must (decide (ok5 (tkCs e2))) (.defI (wtC (tkB e2) (tkCs e2) 0) fun z3 => .defI (wtC (tkB e2) (tkCs e2) 1) fun z4 => .defI (wtC (tkB e2) (tkCs e2) 2)
  fun z5 => .defI (wtC (tkB e2) (tkCs e2) 3) fun z6 => .defI (wtC (tkB e2) (tkCs e2) 4) fun z7 => .defI ((wtL (tkB e2) (tkCs e2) 5).length : Int) fun z8 => .defI (IntKind.i64.wrap (i + 1)) fun z9 => .leaf (.normal, ⟨[[.i
  g], [.u], [.i z9]], [.box [.i z3, .i z4, .i z5, .i z6, .i z7]]⟩)))) (.leaf (.exit 2, ⟨[[.u]], [.box [.i (c 0), .i (c 1), .i (c 2), .i (c 3), .i (c 4)]]⟩)) := by kernel_rfl
theorem wr_tail (c : Nat → Int) (τ0 : Tm) : codeT Try.prog wkT 300 10 Try.f10.ntmps (Eng.ofL ((flat body10).drop 12)) (wgE.tm ⟨[[]], [.box (on5 c)]⟩ ++ τ0) (wgE.heap ⟨[[]], [.box (on5 c)]⟩) 1 (outX 0 ⟨none, [], some (lawT 4)⟩) =
  .defE ⟨[[.u], [.u]], [.box [.i (c 0), .i (c 1), .i (c 2), .i (c 3), .i (c 4)], .lst 0 fun (x : Nat) => []]⟩ fun e0 => .must (decide (((e0.ln 1) : Int) ≤ 1099511627776)) (.must (decide (ok5 (tkCs e0))) (.defI (wtC (tkB
  e0) (tkCs e0) 0) fun z1 => .defI (wtC (tkB e0) (tkCs e0) 1) fun z2 => .defI (wtC (tkB e0) (tkCs e0) 2) fun z3 => .defI (wtC (tkB e0) (tkCs e0) 3) fun z4 => .defI (wtC (tkB e0) (tkCs e0) 4) fun z5 => .defI ((wtL (tkB e0)
  (tkCs e0) 5).length : Int) fun z6 => .ite (z2 == 0) (.leaf (.ret, ⟨[[.b true]], []⟩)) (.leaf (.ret, ⟨[[.b false]], []⟩)))) := by kernel_rfl
def oneF (v : Int) (k : Nat) : Int := if k = 1 then v else 0
theorem wr_c {b : Nat → Bool} {c : Nat → Int} (h0 : b 0 = false) (h1 : b 1 = true) (h2 : b 2 = false) (h3 : b 3 = false) (h4 : b 4 = false) : on5 (wtC b c) = on5 (oneF (if c 1 + 1 < 10 then c 1 + 1 else 0)) ∧ wtL b c 5 = if c 1 + 1 < 10 then [] else [1] := by
  constructor
  · simp only [on5, wtC, h0, h1, h2, h3, h4, cond_true, cond_false]
    rfl
  · simp only [wtL, h0, h1, h2, h3, h4, cond_true, cond_false]
    split <;> rfl
theorem tkCs_get {e : EN} {u : List (List Num)} {c : Nat → Int} {o : ON} (he : e = ⟨u, [.box (on5 c), o]⟩) : ∀ k, k < 5 → tkCs e k = c k := fun k hk => by
  subst he
  match k, hk with
  | 0, _ => rfl
  | 1, _ => rfl
  | 2, _ => rfl
  | 3, _ => rfl
  | 4, _ => rfl
  | n + 5, h => omega
theorem ok5_get {e : EN} {u : List (List Num)} {c : Nat → Int} {o : ON} (he : e = ⟨u, [.box (on5 c), o]⟩) (h : ok5 c) : ok5 (tkCs e) := fun k hk => by rw [tkCs_get he k hk]; exact h k hk
theorem ok5_tick {b : Nat → Bool} {c : Nat → Int} (h : ok5 c) : ok5 (wtC b c) := fun k hk => by
  have := h k hk
  unfold wtC
  cases b k
  · simp
  · simp only [cond_true]; split <;> omega
theorem in10 : Within Try.prog 10 Try.f10.ntmps body10 := within_body Try.func10 (by kernel_rfl)
theorem lp10 : (flat body10).drop 7 = [.block 0 (.loop x10)] ++ (((flat body10).drop 8).take 3 ++ (flat body10).drop 11) := by kernel_rfl
theorem lq10 : (flat body10).drop 11 = [.block 2 (.loop y10)] ++ (flat body10).drop 12 := by kernel_rfl
theorem in10x : Within Try.prog 10 Try.f10.ntmps x10 := by
  have h : (flat body10)[7]? = some (.block 0 (.loop x10)) := by kernel_rfl
  exact within_loop (within_block (within_at in10 7 h))
theorem in10y : Within Try.prog 10 Try.f10.ntmps y10 := by
  have h : (flat body10)[11]? = some (.block 2 (.loop y10)) := by kernel_rfl
  exact within_loop (within_block (within_at in10 11 h))
abbrev WrD := Int × Int × Int
def wrI (n : Int) (d : WrD) : Prop := 1 ≤ d.1 ∧ d.1 ≤ n + 1 ∧ 0 ≤ d.2.2 ∧ d.2.2 < 10 ∧ 0 ≤ d.2.1 ∧ d.1 - 1 = 10 * d.2.1 + d.2.2
def wrQ (g n : Int) : Ex → EN → Prop
  | .exit _, e => ∃ t v, 0 ≤ v ∧ v < 10 ∧ 0 ≤ t ∧ n = 10 * t + v ∧ wrE.eqv e (wrM g t n (oneF v))
  | .ret, e => lawR .ret e
  | .normal, _ => True
section
variable (g n : Int)
set_option maxHeartbeats 4000000 in
theorem wr_loop (hn : 0 ≤ n ∧ n < 100) (d : WrD) (hd : wrI n d) : HT Try.prog Try.f10.ntmps 0 (.loop x10) 1 (wrL.tm (wrN g d.2.1 n d.1 (oneF d.2.2))) (wrL.heap (wrN g d.2.1 n d.1 (oneF d.2.2))) (QX ⟨none, [(0, wrE)], some (lawT 4)⟩ (wrQ g n)) := by
  refine HT.loopX wkTab mixed (n := 300) in10x wrL _ _ (fun d : WrD => wrN g d.2.1 n d.1 (oneF d.2.2)) (wrI n) (fun d => (n + 1 - d.1).toNat) (fun _ => wrQ g n) (Nat.zero_le _) ?_ d hd
  rintro ⟨i, t, v⟩ ⟨h1, h2, h3, h4, h5, h6⟩ τ0
  dsimp only at h1 h2 h3 h4 h5 h6
  refine holds_of_eq (wr_x g t n i (oneF v) τ0) (holds_ite (fun hle => holds_defE fun e he => ?_) fun hgt => holds_leaf ?_)
  · have hle := of_decide_eq_true hle
    have e1 : IntKind.i64.wrap (i + 1) = i + 1 := IntWalk.i64_in _ (by omega)
    have e2 : IntKind.i64.wrap (t + 1) = t + 1 := IntWalk.i64_in _ (by omega)
    have ok : ok5 (oneF v) := fun k _ => by unfold oneF; split <;> omega
    have hv : tkCs e 1 = v := tkCs_get he 1 (by decide)
    obtain ⟨q1, q2⟩ := wr_c (b := tkB e) (c := tkCs e) (by rw [he]; rfl) (by rw [he]; rfl) (by rw [he]; rfl) (by rw [he]; rfl) (by rw [he]; rfl)
    rw [hv] at q1 q2
    refine holds_must (decide_eq_true (by rw [he]; show (4 : Int) ≤ _; decide)) (holds_must (decide_eq_true (ok5_get he ok)) ?_)
    rw [q2]
    clear q2
    have fin : ∀ (t' v' : Int), v' = (if v + 1 < 10 then v + 1 else 0) → 0 ≤ v' → v' < 10 → 0 ≤ t' → i = 10 * t' + v' → ∀ en, wrL.eqv en ⟨[[.i g], [], [.i t'], [.i n], [.i (i + 1)]], [.box (on5 (wtC (tkB e) (tkCs e)))]⟩ → ∃ d' : WrD, wrI n d' ∧ (n + 1 - d'.1).toNat < (n + 1 - i).toNat ∧ wrL.eqv en (wrN g d'.2.1 n d'.1 (oneF d'.2.2)) ∧ ∀ ex e, wrQ g n ex e → wrQ g n ex e :=
      fun t' v' hv' g0 g1 g2 g3 en h => ⟨(i + 1, t', v'), ⟨by show 1 ≤ i + 1; omega, by show i + 1 ≤ n + 1; omega, g0, g1, g2, by show i + 1 - 1 = 10 * t' + v'; omega⟩, by show (n + 1 - (i + 1)).toNat < (n + 1 - i).toNat; omega, by rw [q1, ← hv'] at h; exact h, fun _ _ h => h⟩
    by_cases hlt : v + 1 < 10
    · rw [if_pos hlt]
      (repeat' with_reducible (first | refine holds_inI ?_ | refine holds_inB ?_))
      refine holds_ite (fun h => absurd h (by decide)) fun _ => holds_inI (holds_leaf (fin t (v + 1) (if_pos hlt).symm (by omega) hlt h5 (by omega) _ ?_))
      rw [e1]
      (repeat' (first | exact trivial | exact rfl | exact TS.eqv_refl _ _ | exact len_app _ _ | exact rows_appI | exact fun _ _ => eqvL_refl _ _ | exact fun i _ => eqvL_rowNums rfl _ i | apply And.intro))
    · rw [if_neg hlt]
      have hv9 : v = 9 := by omega
      have em : i.tmod 10 = 0 := by rw [Int.tmod_eq_emod_of_nonneg (by omega)]; omega
      (repeat' with_reducible (first | refine holds_inI ?_ | refine holds_inB ?_))
      rw [em]
      refine holds_ite (fun _ => ?_) fun h => absurd h (by decide)
      (repeat' with_reducible (first | refine holds_inI ?_ | refine holds_inB ?_))
      refine holds_must (by decide) (holds_must (by decide) ?_)
      (repeat' with_reducible (first | refine holds_inI ?_ | refine holds_inB ?_))
      refine holds_ite (fun h => absurd h (by decide)) fun _ => ?_
      (repeat' with_reducible (first | refine holds_inI ?_ | refine holds_inB ?_))
      refine holds_ite (fun h => absurd h (by decide)) fun _ => holds_inI (holds_leaf (fin (t + 1) 0 (if_neg hlt).symm (by decide) (by decide) (by omega) (by omega) _ ?_))
      rw [e1, e2]
      (repeat' (first | exact trivial | exact rfl | exact TS.eqv_refl _ _ | exact len_app _ _ | exact rows_appI | exact fun _ _ => eqvL_refl _ _ | exact fun i _ => eqvL_rowNums rfl _ i | apply And.intro))
  · have hgt := of_decide_eq_false hgt
    exact ⟨t, v, h3, h4, h5, by omega, by (repeat' (first | exact trivial | exact rfl | exact TS.eqv_refl _ _ | exact len_app _ _ | exact rows_appI | exact fun _ _ => eqvL_refl _ _ | exact fun i _ => eqvL_rowNums rfl _ i | apply And.intro))⟩
abbrev WgD := Int × (Nat → Int)
def wgI (d : WgD) : Prop := 0 ≤ d.1 ∧ d.1 ≤ 8 ∧ ok5 d.2
def wgQ : Ex → EN → Prop
  | .exit _, e => ∃ c, ok5 c ∧ wgE.eqv e ⟨[[]], [.box (on5 c)]⟩
  | .ret, e => lawR .ret e
  | .normal, _ => True
theorem wg_loop (hg : 0 ≤ g) (d : WgD) (hd : wgI d) : HT Try.prog Try.f10.ntmps 0 (.loop y10) 1 (wgL.tm (wgN g d.1 d.2)) (wgL.heap (wgN g d.1 d.2)) (QX ⟨none, [(2, wgE)], some (lawT 4)⟩ wgQ) := by
  refine HT.loopX wkTab mixed (n := 300) in10y wgL _ _ (fun d : WgD => wgN g d.1 d.2) wgI (fun d => (8 - d.1).toNat) (fun _ => wgQ) (Nat.zero_le _) ?_ d hd
  rintro ⟨i, c⟩ ⟨h0, h1, ok⟩ τ0
  dsimp only at h0 h1 ok
  have g8 : 0 ≤ g.tmod 8 ∧ g.tmod 8 < 8 := ⟨Int.tmod_nonneg _ hg, Int.tmod_lt_of_pos _ (by decide)⟩
  have hw : IntKind.i64.wrap (g.tmod 8) = g.tmod 8 := IntWalk.i64_in _ (by omega)
  refine holds_of_eq (wr_y g i c τ0) ?_
  (repeat' with_reducible (first | refine holds_inI ?_ | refine holds_inB ?_))
  rw [hw]
  refine holds_ite (fun hlt => holds_defE fun e he => ?_) fun hge => holds_leaf ⟨c, ok, by (repeat' (first | exact trivial | exact rfl | exact TS.eqv_refl _ _ | exact len_app _ _ | exact rows_appI | exact fun _ _ => eqvL_refl _ _ | exact fun i _ => eqvL_rowNums rfl _ i | apply And.intro))⟩
  have hlt := of_decide_eq_true hlt
  have e1 : IntKind.i64.wrap (i + 1) = i + 1 := IntWalk.i64_in _ (by omega)
  refine holds_must (decide_eq_true (by rw [he]; show (1 : Int) ≤ _; decide)) (holds_must (decide_eq_true (ok5_get he ok)) ?_)
  (repeat' with_reducible (first | refine holds_inI ?_ | refine holds_inB ?_))
  refine holds_leaf ⟨(i + 1, wtC (tkB e) (tkCs e)), ⟨by show 0 ≤ i + 1; omega, by show i + 1 ≤ 8; omega, ok5_tick (ok5_get he ok)⟩, by show (8 - (i + 1)).toNat < (8 - i).toNat; omega, ?_, fun _ _ h => h⟩
  show wgL.eqv _ (wgN g (i + 1) (wtC (tkB e) (tkCs e)))
  rw [e1]
  (repeat' (first | exact trivial | exact rfl | exact TS.eqv_refl _ _ | exact len_app _ _ | exact rows_appI | exact fun _ _ => eqvL_refl _ _ | exact fun i _ => eqvL_rowNums rfl _ i | apply And.intro))
def wrZ : Ex → EN → Prop
  | .normal, e => ∃ n, 0 ≤ n ∧ n < 100 ∧ wrL.eqv e (wrN g 0 n 1 (oneF 0))
  | _, _ => False
def wrY : Ex → EN → Prop
  | .normal, e => ∃ c, ok5 c ∧ wgL.eqv e (wgN g 0 c)
  | .ret, e => lawR .ret e
  | .exit _, _ => True
theorem wr_ht (a : Int) (ha : 0 ≤ a) (hg : 0 ≤ g) : HT Try.prog Try.f10.ntmps 0 body10 0 (wrT.tm ⟨[[.i a], [.i g]], []⟩) (wrT.heap ⟨[[.i a], [.i g]], []⟩) (QX ⟨none, [], some (lawT 4)⟩ lawR) := by
  have a1 : 0 ≤ a.tmod 100 ∧ a.tmod 100 < 100 := ⟨Int.tmod_nonneg _ ha, Int.tmod_lt_of_pos _ (by decide)⟩
  have hw : IntKind.i64.wrap (a.tmod 100) = a.tmod 100 := IntWalk.i64_in _ (by omega)
  refine HT.cutX 7 (t1 := wrL) (R1 := wrZ g) (HTL.runX wkTab mixed (n := 300) (by decide) (within_take in10 7) (Nat.zero_le _) fun τ0 => holds_of_eq (wr_pre a g τ0) (holds_inI (holds_inI (holds_leaf ⟨a.tmod 100, a1.1, a1.2, ?_⟩)))) ?_ fun en h => h.elim
  · rw [hw]
    (repeat' (first | exact trivial | exact rfl | exact TS.eqv_refl _ _ | exact len_app _ _ | exact rows_appI | exact fun _ _ => eqvL_refl _ _ | exact fun i _ => eqvL_rowNums rfl _ i | apply And.intro))
  rintro en ⟨n, n0, n1, he⟩
  refine HTg.pre (WP := wpL Try.prog _) (fun h hq => wpL_mono h hq) he (HTL.loopThen lp10 (wr_loop g n ⟨n0, n1⟩ (1, 0, 0) ⟨by decide, by show 1 ≤ n + 1; omega, by decide, by decide, by decide, by decide⟩) ?_ fun en h => h)
  rintro en ⟨t, v, v0, v1, t0, hn, he⟩
  have ok : ok5 (oneF v) := fun k _ => by unfold oneF; split <;> omega
  have e1 : n.tdiv 10 = t := by rw [Int.tdiv_eq_ediv_of_nonneg n0]; omega
  have e2 : IntKind.i64.wrap t = t := IntWalk.i64_in _ (by omega)
  refine HTg.pre (WP := wpL Try.prog _) (fun h hq => wpL_mono h hq) he (HTL.appX (t1 := wgL) (R1 := wrY g) (HTL.runX wkTab mixed (n := 300) (by decide) (within_take (within_drop in10 8) 3) (Nat.zero_le _) fun τ0 => holds_of_eq (wr_mid g t n (oneF v) τ0) (holds_inI ?_)) ?_ fun en h => h)
  · rw [e1, e2]
    refine holds_ite (fun h => absurd h (by simp)) fun _ => holds_leaf ⟨oneF v, ok, ?_⟩
    (repeat' (first | exact trivial | exact rfl | exact TS.eqv_refl _ _ | exact len_app _ _ | exact rows_appI | exact fun _ _ => eqvL_refl _ _ | exact fun i _ => eqvL_rowNums rfl _ i | apply And.intro))
  rintro en ⟨c, ok, he⟩
  refine HTg.pre (WP := wpL Try.prog _) (fun h hq => wpL_mono h hq) he (HTL.loopThen lq10 (wg_loop g hg (0, c) ⟨Int.le_refl _, show (0 : Int) ≤ 8 by decide, ok⟩) ?_ fun en h => h)
  rintro en ⟨c, ok, he⟩
  refine HTg.pre (WP := wpL Try.prog _) (fun h hq => wpL_mono h hq) he (HTL.runX wkTab mixed (n := 300) (by decide) (within_drop in10 12) (Nat.zero_le _) fun τ0 => holds_of_eq (wr_tail c τ0) (holds_defE fun e he => ?_))
  refine holds_must (decide_eq_true (by rw [he]; show (0 : Int) ≤ _; decide)) (holds_must (decide_eq_true (ok5_get he ok)) ?_)
  have hb : tkB e 1 = false := by rw [he]; rfl
  have hz : wtC (tkB e) (tkCs e) 1 = 0 := (wt_n hb).1
  rw [hz]
  (repeat' with_reducible (first | refine holds_inI ?_ | refine holds_inB ?_))
  exact holds_ite (fun _ => holds_leaf rfl) fun h => absurd h (by decide)
end
theorem wr_c0 (W : World) (a g : Int) (ha : 0 ≤ a) (hg : 0 ≤ g) :
    Calls Try.prog 10 #[.int .u8 a, .int .u8 g] W fun e W' => e = .returned (.bool true) ∧ Below W.heap.size W W' :=
  law_htX (args := [.int .u8 (.sym a), .int .u8 (.sym g)]) (l := []) (m := 0) (hdr := fun _ => default) Try.func10 (by kernel_rfl) (by kernel_rfl) (by kernel_rfl)
    (fun p hp => by cases hp) (wr_ht g a ha hg) (fun E' hE => by simp [denL, den, SI.v])
set_option maxRecDepth 100000 in
theorem wres_lifted (os : Os) (started : os.Started) (H : Type) (enc : TypeId × Value → H) :
    ReturnsInHanded {} Try.checked os 10 .any (Rows.watchResetsSpec.pre6 enc Try.prog Try.f10 Rows.watchResetsRow.domain false) (Rows.watchResetsSpec.post enc Try.prog Try.f10 false true false false) := by
  refine law_lifted (C := Try.checked) Try.own started (by kernel_rfl) Try.func10
    (ChangeSpec.witness6 (enc := enc) (C := Try.checked) false ⟨#[], #[.int .u8 0, .int .u8 0], []⟩ 8 (by kernel_rfl) (by kernel_rfl) (by kernel_rfl) (by kernel_rfl))
    Try.laidOut ?_ (B := 4) (by kernel_rfl) (by kernel_rfl) rfl ?_ ?_
  · intro t ht
    rw [Try.params10] at ht
    have : t = 5 := by
      simp at ht
      first | exact ht | omega
    rcases this with rfl <;> exact ⟨by kernel_rfl, of_decide_eq_true (by kernel_rfl)⟩
  · intro ds h
    rw [Try.params10] at h
    match ds, h with
    | [d1, d2], _ => rfl
  · intro W base args ds p hval hA hlt
    rw [Try.params10] at hA hval
    obtain ⟨v0, v1, d0, d1, p0, p1, rfl, rfl, rfl, h0, h1⟩ := trodAll_two hA
    obtain ⟨a, rfl, _, _, w0⟩ := open_int Try.underlying5 (hval 0 5 v0 rfl rfl) h0
    obtain ⟨g, rfl, _, _, w1⟩ := open_int Try.underlying5 (hval 1 5 v1 rfl rfl) h1
    exact wr_c0 W a g (wf_u8 w0).1 (wf_u8 w1).1

theorem watchResets_holds : Rows.WatchResetsSaid :=
  OpenClaim.holds_of_wide 10 Try.f10 rfl rfl rfl rfl rfl rfl rfl ⟨rfl, rfl, rfl, rfl, rfl⟩ rfl rfl rfl rfl rfl (by kernel_rfl) Try.func10 (by kernel_rfl)
    (of_decide_eq_true (by kernel_rfl)) (by unfold Func.isWrapper; rw [if_neg (by decide +kernel)]; exact ⟨rfl, rfl⟩)
    (fun os started H enc _ => wres_lifted os started H enc)
end Go.Proofs.Ytlcgnjcfihablaa
