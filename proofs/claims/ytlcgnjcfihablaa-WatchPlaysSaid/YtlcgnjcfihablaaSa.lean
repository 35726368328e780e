/- Rows that are looked through: what Contains of numbers comes to.
   Conditions: none. -/
import Derived.Test.YtlcgnjcfihablaaBt
set_option linter.unusedSimpArgs false
set_option linter.unusedVariables false
namespace Go.Proofs.Ytlcgnjcfihablaa
open Go.Eng Go.RowKit Go.ChangeShapes Go.WideShapes
set_option maxRecDepth 100000
def lp : Code → Code
  | .block _ (.loop x) => x
  | c => c
def big : Int := 1099511627776
noncomputable def body58 : Code := Try.f58.body.getD .skip
noncomputable def x58 : Code := lp ((flat body58).getD 2 .skip)
def ixT : TS := ⟨[0, 1], [.one (.sl 0), .one (.i .u8)], [(0, .lst none [.i .u8] none)], 1⟩
def ixL : TS := ⟨[0, 1, 7, 8], [.one (.sl 0), .one (.i .u8), .one (.i .i64), .one (.i .i64)], [(0, .lst none [.i .u8] none)], 1⟩
def ixR : TS := ⟨[4], [.one (.i .i64)], [], 1⟩
def ixE : TS := ⟨[], [], [], 1⟩
theorem ix_pre (len : Nat) (v : Int) (r : Nat → List Num) (τ0 : Tm) : codeT Try.prog noTab 300 58 Try.f58.ntmps (ofL ((flat body58).take 2)) (ixT.tm ⟨[[], [.i v]], [.lst len r]⟩ ++ τ0) (ixT.heap ⟨[[], [.i v]], [.lst len r]⟩) 1 (outX 1 ⟨some ixL, [], some ixR⟩) =
  .must (rowsB [.i .u8] (instR [.i .u8] r) len) (.leaf (.normal, ⟨[[.u], [.i v], [.i (len : Int)], [.i 0]], [.lst len (rowNums [.i .u8] (instR [.i .u8] r))]⟩)) := by kernel_rfl
theorem ix_x (len : Nat) (v i : Int) (r : Nat → List Num) (τ0 : Tm) : codeT Try.prog noTab 300 58 Try.f58.ntmps x58 (ixL.tm ⟨[[], [.i v], [.i (len : Int)], [.i i]], [.lst len r]⟩ ++ τ0) (ixL.heap ⟨[[], [.i v], [.i (len : Int)], [.i i]], [.lst len r]⟩) 1 (outX 1 ⟨some ixL, [(0, ixE)], some ixR⟩) =
  .ite (decide (i < (len : Int))) (.must (decide (0 ≤ i ∧ i < (len : Int))) (.must (decide (0 ≤ i ∧ i < (len : Int))) (.defI (hdN (r i.toNat)).I fun z0 => .ite (v == z0) (.leaf (.ret, ⟨[[.i i]], []⟩)) (.defI
  (IntKind.i64.wrap (i + 1)) fun z1 => .must (rowsB [.i .u8] (instR [.i .u8] r) len) (.leaf (.normal, ⟨[[.u], [.i v], [.i (len : Int)], [.i z1]], [.lst len (rowNums [.i .u8] (instR [.i .u8] r))]⟩)))))) (.leaf (.exit 0,
  ⟨[], []⟩)) := by kernel_rfl
theorem ix_tail (τ0 : Tm) : codeT Try.prog noTab 300 58 Try.f58.ntmps (ofL ((flat body58).drop 3)) (ixE.tm ⟨[], []⟩ ++ τ0) (ixE.heap ⟨[], []⟩) 1 (outX 1 ⟨none, [], some ixR⟩) =
  .leaf (.ret, ⟨[[.i (-1)]], []⟩) := by kernel_rfl
theorem body58_eq : Try.f58.body = some body58 := by kernel_rfl
theorem in58 : Within Try.prog 58 Try.f58.ntmps body58 := within_body Try.func58 body58_eq
theorem lp58 : (flat body58).drop 2 = [.block 0 (.loop x58)] ++ (flat body58).drop 3 := by kernel_rfl
theorem in58x : Within Try.prog 58 Try.f58.ntmps x58 := by
  have h : (flat body58)[2]? = some (.block 0 (.loop x58)) := by kernel_rfl
  exact within_loop (within_block (within_at in58 2 h))
section
variable (len : Nat) (v : Int) (r : Nat → List Num)
abbrev ixP (j : Nat) : Bool := v == (hdN (r j)).I
def ixN (i : Int) : EN := ⟨[[], [.i v], [.i (len : Int)], [.i i]], [.lst len r]⟩
def ixQ : Ex → EN → Prop
  | .exit _, _ => anyN (ixP v r) len = false
  | .ret, e => ixR.eqv e ⟨[[.i (fstN (ixP v r) len)]], []⟩
  | .normal, _ => True
theorem ix_loop (hl : (len : Int) ≤ big) (i : Int) (h : 0 ≤ i ∧ (i ≤ (len : Int) ∨ i = 0) ∧ anyN (ixP v r) i.toNat = false) : HT Try.prog Try.f58.ntmps 1 (.loop x58) 1 (ixL.tm (ixN len v r i)) (ixL.heap (ixN len v r i)) (QX ⟨none, [(0, ixE)], some ixR⟩ (ixQ len v r)) := by
  refine HT.loopX (noTab_all _) mixed (n := 300) in58x ixL _ _ (ixN len v r) (fun i => 0 ≤ i ∧ (i ≤ (len : Int) ∨ i = 0) ∧ anyN (ixP v r) i.toNat = false) (fun i => ((len : Int) - i).toNat) (fun _ => ixQ len v r) (Nat.le_refl _) ?_ i h
  rintro i ⟨h0, h1, h2⟩ τ0
  refine holds_of_eq (ix_x len v i r τ0) (holds_ite (fun hlt => ?_) fun hge => holds_leaf ?_)
  · have hlt : i < (len : Int) := of_decide_eq_true hlt
    have hm : decide (0 ≤ i ∧ i < (len : Int)) = true := decide_eq_true ⟨h0, hlt⟩
    refine holds_must hm (holds_must hm (holds_inI (holds_ite (fun hit => holds_leaf ?_) fun hno => holds_inI (holds_must (rowsB_instR rfl _ _) (holds_leaf ?_)))))
    · refine ⟨⟨?_, trivial⟩, trivial⟩
      show i = fstN (ixP v r) len
      rw [fstN_hit h2 (show ixP v r i.toNat = true from hit) (by omega)]
      omega
    · unfold big at hl
      have e1 : IntKind.i64.wrap (i + 1) = i + 1 := IntWalk.i64_in _ (by omega)
      have e2 : (i + 1).toNat = i.toNat + 1 := by omega
      refine ⟨i + 1, ⟨by omega, by omega, ?_⟩, by omega, ⟨⟨trivial, rfl, rfl, e1, trivial⟩, ⟨rfl, fun j _ => ⟨rfl, trivial⟩⟩, trivial⟩, fun _ _ h => h⟩
      rw [e2]
      simp only [anyN, h2, Bool.false_or]
      exact hno
  · have hge : ¬ i < (len : Int) := of_decide_eq_false hge
    show anyN (ixP v r) len = false
    rw [show len = i.toNat by omega]
    exact h2
theorem ix_std (hl : (len : Int) ≤ big) : StdX Try.prog 58 ixT ⟨[[], [.i v]], [.lst len r]⟩ ixR ⟨[[.i (fstN (ixP v r) len)]], []⟩ := by
  refine stdX_htX Try.func58 body58_eq (by kernel_rfl) rfl (by kernel_rfl) rfl rfl ?_
  refine HT.cutX 2 (t1 := ixL) (R1 := fun ex e => ex = .normal ∧ ixL.eqv e (ixN len v r 0)) (HTL.runX (noTab_all _) mixed (n := 300) (by decide) (within_take in58 2) (Nat.le_refl _) fun τ0 => holds_of_eq (ix_pre len v r τ0) (holds_must (rowsB_instR rfl _ _) (holds_leaf ⟨rfl, ⟨⟨trivial, rfl, rfl, rfl, trivial⟩, ⟨rfl, fun j _ => ⟨rfl, trivial⟩⟩, trivial⟩⟩))) ?_ ?_
  · rintro en ⟨_, he⟩
    refine HTg.pre (WP := wpL Try.prog _) (fun h hq => wpL_mono h hq) he (HTL.loopThen lp58 (ix_loop len v r hl 0 ⟨Int.le_refl _, .inr rfl, rfl⟩) ?_ ?_)
    · intro en hn
      have hn : anyN (ixP v r) len = false := hn
      refine HTL.runX (noTab_all _) mixed (n := 300) (by decide) (within_drop in58 3) (Nat.le_refl _) fun τ0 => holds_of_eq (ix_tail τ0) (holds_leaf fun _ => ⟨⟨?_, trivial⟩, trivial⟩)
      show (-1 : Int) = fstN (ixP v r) len
      rw [fstN_none hn]
    · exact fun en h _ => h
  · rintro en ⟨h, _⟩
    cases h
end
def ixC (e : EN) : Tree (TS × EN) := .must (decide ((e.ln 0 : Int) ≤ big)) (.leaf (ixR, ⟨[[.i (fstN (ixP (e.ai 1 0) (e.rw 0)) (e.ln 0))]], []⟩))
theorem ixC_ok : SummAll Try.prog 58 (ctrSumm0 ixT ixC) := ctr0_ok fun e r h => by
  unfold ixC at h
  obtain ⟨hl, h⟩ := must_sel h
  cases h
  refine StdX.pre (x' := ⟨_, _⟩) ⟨?_, ?_⟩ (ix_std (e.ln 0) (e.ai 1 0) (e.rw 0) (of_decide_eq_true hl))
  all_goals (repeat' (first | exact trivial | exact rfl | exact fun _ _ => eqvL_refl _ _ | apply And.intro))
noncomputable def body57 : Code := Try.f57.body.getD .skip
noncomputable def x57 : Code := lp ((flat body57).getD 2 .skip)
def jxT : TS := ⟨[0, 1], [.one (.sl 0), .one (.i .i64)], [(0, .lst none [.i .i64] none)], 1⟩
def jxL : TS := ⟨[0, 1, 7, 8], [.one (.sl 0), .one (.i .i64), .one (.i .i64), .one (.i .i64)], [(0, .lst none [.i .i64] none)], 1⟩
def jxR : TS := ⟨[4], [.one (.i .i64)], [], 1⟩
def jxE : TS := ⟨[], [], [], 1⟩
theorem jx_pre (len : Nat) (v : Int) (r : Nat → List Num) (τ0 : Tm) : codeT Try.prog noTab 300 57 Try.f57.ntmps (ofL ((flat body57).take 2)) (jxT.tm ⟨[[], [.i v]], [.lst len r]⟩ ++ τ0) (jxT.heap ⟨[[], [.i v]], [.lst len r]⟩) 1 (outX 1 ⟨some jxL, [], some jxR⟩) =
  .must (rowsB [.i .i64] (instR [.i .i64] r) len) (.leaf (.normal, ⟨[[.u], [.i v], [.i (len : Int)], [.i 0]], [.lst len (rowNums [.i .i64] (instR [.i .i64] r))]⟩)) := by kernel_rfl
theorem jx_x (len : Nat) (v i : Int) (r : Nat → List Num) (τ0 : Tm) : codeT Try.prog noTab 300 57 Try.f57.ntmps x57 (jxL.tm ⟨[[], [.i v], [.i (len : Int)], [.i i]], [.lst len r]⟩ ++ τ0) (jxL.heap ⟨[[], [.i v], [.i (len : Int)], [.i i]], [.lst len r]⟩) 1 (outX 1 ⟨some jxL, [(0, jxE)], some jxR⟩) =
  .ite (decide (i < (len : Int))) (.must (decide (0 ≤ i ∧ i < (len : Int))) (.must (decide (0 ≤ i ∧ i < (len : Int))) (.defI (hdN (r i.toNat)).I fun z0 => .ite (v == z0) (.leaf (.ret, ⟨[[.i i]], []⟩)) (.defI
  (IntKind.i64.wrap (i + 1)) fun z1 => .must (rowsB [.i .i64] (instR [.i .i64] r) len) (.leaf (.normal, ⟨[[.u], [.i v], [.i (len : Int)], [.i z1]], [.lst len (rowNums [.i .i64] (instR [.i .i64] r))]⟩)))))) (.leaf (.exit 0,
  ⟨[], []⟩)) := by kernel_rfl
theorem jx_tail (τ0 : Tm) : codeT Try.prog noTab 300 57 Try.f57.ntmps (ofL ((flat body57).drop 3)) (jxE.tm ⟨[], []⟩ ++ τ0) (jxE.heap ⟨[], []⟩) 1 (outX 1 ⟨none, [], some jxR⟩) =
  .leaf (.ret, ⟨[[.i (-1)]], []⟩) := by kernel_rfl
theorem body57_eq : Try.f57.body = some body57 := by kernel_rfl
theorem in57 : Within Try.prog 57 Try.f57.ntmps body57 := within_body Try.func57 body57_eq
theorem lp57 : (flat body57).drop 2 = [.block 0 (.loop x57)] ++ (flat body57).drop 3 := by kernel_rfl
theorem in57x : Within Try.prog 57 Try.f57.ntmps x57 := by
  have h : (flat body57)[2]? = some (.block 0 (.loop x57)) := by kernel_rfl
  exact within_loop (within_block (within_at in57 2 h))
section
variable (len : Nat) (v : Int) (r : Nat → List Num)
abbrev jxP (j : Nat) : Bool := v == (hdN (r j)).I
def jxN (i : Int) : EN := ⟨[[], [.i v], [.i (len : Int)], [.i i]], [.lst len r]⟩
def jxQ : Ex → EN → Prop
  | .exit _, _ => anyN (jxP v r) len = false
  | .ret, e => jxR.eqv e ⟨[[.i (fstN (jxP v r) len)]], []⟩
  | .normal, _ => True
theorem jx_loop (hl : (len : Int) ≤ big) (i : Int) (h : 0 ≤ i ∧ (i ≤ (len : Int) ∨ i = 0) ∧ anyN (jxP v r) i.toNat = false) : HT Try.prog Try.f57.ntmps 1 (.loop x57) 1 (jxL.tm (jxN len v r i)) (jxL.heap (jxN len v r i)) (QX ⟨none, [(0, jxE)], some jxR⟩ (jxQ len v r)) := by
  refine HT.loopX (noTab_all _) mixed (n := 300) in57x jxL _ _ (jxN len v r) (fun i => 0 ≤ i ∧ (i ≤ (len : Int) ∨ i = 0) ∧ anyN (jxP v r) i.toNat = false) (fun i => ((len : Int) - i).toNat) (fun _ => jxQ len v r) (Nat.le_refl _) ?_ i h
  rintro i ⟨h0, h1, h2⟩ τ0
  refine holds_of_eq (jx_x len v i r τ0) (holds_ite (fun hlt => ?_) fun hge => holds_leaf ?_)
  · have hlt : i < (len : Int) := of_decide_eq_true hlt
    have hm : decide (0 ≤ i ∧ i < (len : Int)) = true := decide_eq_true ⟨h0, hlt⟩
    refine holds_must hm (holds_must hm (holds_inI (holds_ite (fun hit => holds_leaf ?_) fun hno => holds_inI (holds_must (rowsB_instR rfl _ _) (holds_leaf ?_)))))
    · refine ⟨⟨?_, trivial⟩, trivial⟩
      show i = fstN (jxP v r) len
      rw [fstN_hit h2 (show jxP v r i.toNat = true from hit) (by omega)]
      omega
    · unfold big at hl
      have e1 : IntKind.i64.wrap (i + 1) = i + 1 := IntWalk.i64_in _ (by omega)
      have e2 : (i + 1).toNat = i.toNat + 1 := by omega
      refine ⟨i + 1, ⟨by omega, by omega, ?_⟩, by omega, ⟨⟨trivial, rfl, rfl, e1, trivial⟩, ⟨rfl, fun j _ => ⟨rfl, trivial⟩⟩, trivial⟩, fun _ _ h => h⟩
      rw [e2]
      simp only [anyN, h2, Bool.false_or]
      exact hno
  · have hge : ¬ i < (len : Int) := of_decide_eq_false hge
    show anyN (jxP v r) len = false
    rw [show len = i.toNat by omega]
    exact h2
theorem jx_std (hl : (len : Int) ≤ big) : StdX Try.prog 57 jxT ⟨[[], [.i v]], [.lst len r]⟩ jxR ⟨[[.i (fstN (jxP v r) len)]], []⟩ := by
  refine stdX_htX Try.func57 body57_eq (by kernel_rfl) rfl (by kernel_rfl) rfl rfl ?_
  refine HT.cutX 2 (t1 := jxL) (R1 := fun ex e => ex = .normal ∧ jxL.eqv e (jxN len v r 0)) (HTL.runX (noTab_all _) mixed (n := 300) (by decide) (within_take in57 2) (Nat.le_refl _) fun τ0 => holds_of_eq (jx_pre len v r τ0) (holds_must (rowsB_instR rfl _ _) (holds_leaf ⟨rfl, ⟨⟨trivial, rfl, rfl, rfl, trivial⟩, ⟨rfl, fun j _ => ⟨rfl, trivial⟩⟩, trivial⟩⟩))) ?_ ?_
  · rintro en ⟨_, he⟩
    refine HTg.pre (WP := wpL Try.prog _) (fun h hq => wpL_mono h hq) he (HTL.loopThen lp57 (jx_loop len v r hl 0 ⟨Int.le_refl _, .inr rfl, rfl⟩) ?_ ?_)
    · intro en hn
      have hn : anyN (jxP v r) len = false := hn
      refine HTL.runX (noTab_all _) mixed (n := 300) (by decide) (within_drop in57 3) (Nat.le_refl _) fun τ0 => holds_of_eq (jx_tail τ0) (holds_leaf fun _ => ⟨⟨?_, trivial⟩, trivial⟩)
      show (-1 : Int) = fstN (jxP v r) len
      rw [fstN_none hn]
    · exact fun en h _ => h
  · rintro en ⟨h, _⟩
    cases h
end
def jxC (e : EN) : Tree (TS × EN) := .must (decide ((e.ln 0 : Int) ≤ big)) (.leaf (jxR, ⟨[[.i (fstN (jxP (e.ai 1 0) (e.rw 0)) (e.ln 0))]], []⟩))
theorem jxC_ok : SummAll Try.prog 57 (ctrSumm0 jxT jxC) := ctr0_ok fun e r h => by
  unfold jxC at h
  obtain ⟨hl, h⟩ := must_sel h
  cases h
  refine StdX.pre (x' := ⟨_, _⟩) ⟨?_, ?_⟩ (jx_std (e.ln 0) (e.ai 1 0) (e.rw 0) (of_decide_eq_true hl))
  all_goals (repeat' (first | exact trivial | exact rfl | exact fun _ _ => eqvL_refl _ _ | apply And.intro))
end Go.Proofs.Ytlcgnjcfihablaa
