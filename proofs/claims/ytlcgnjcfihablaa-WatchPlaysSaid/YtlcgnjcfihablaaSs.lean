/- SynodStarts: a new ballot is above what it is told, above its own last one, and its own.
   Conditions: none. -/
import Derived.Test.YtlcgnjcfihablaaSd
import Derived.Carry
set_option linter.unusedSimpArgs false
set_option linter.unusedVariables false
namespace Go.Proofs.Ytlcgnjcfihablaa
open Go.Eng Go.RowKit Go.ChangeShapes Go.WideShapes
set_option maxRecDepth 100000
noncomputable def body6 : Code := Try.f6.body.getD .skip
noncomputable def x6 : Code := lp ((flat body6).getD 8 .skip)
def rB2 : List TV := [.i .u32, .i .u8]
def prHpK (k a b : Nat) : List (Nat × TO) := [(k, .box (prBox a b)), (a, .lst none [.i .u8] (some (a + 1))), (a + 1, .tok), (b, .lst none [.i .u8] (some (b + 1))), (b + 1, .tok)]
def ssT : TS := ⟨[0, 1], [.one (.i .u8), .one (.sl 0)], [(0, .lst none rB2 none)], 1⟩
def ssL : TS := ⟨[0, 1, 5, 6, 7], [.one (.i .u8), .one (.sl 0), .one (.ptr 1 0), .one (.ptr 6 0), .one (.i .i64)], (0, .lst none rB2 none) :: prHpK 1 2 4 ++ [(6, .box rB2)], 7⟩
def ssE : TS := ⟨[], [], [], 0⟩
def ssN (w : Int) (len : Nat) (r : Nat → List Num) (p : PrS) (l : B2) (i : Int) : EN := ⟨[[.i w], [], [], [], [.i i]], .lst len r :: p.on ++ [.box [.i l.1, .i l.2]]⟩
theorem ss_pre (w : Int) (len : Nat) (r : Nat → List Num) (τ0 : Tm) : codeT Try.prog sdT 300 6 Try.f6.ntmps (ofL ((flat body6).take 8)) (ssT.tm ⟨[[.i w], []], [.lst len r]⟩ ++ τ0) (ssT.heap ⟨[[.i w], []], [.lst len r]⟩) 1 (outX 0 ⟨some ssL, [], some (lawT 4)⟩) =
  .ite (decide ((len : Int) > 40)) (.leaf (.ret, ⟨[[.b true]], []⟩)) (.must (rowsB [.i .u32, .i .u8] (instR [.i .u32, .i .u8] r) len) (.leaf (.normal, ⟨[[.i w], [.u], [.u], [.u], [.i 0]], [.lst len (rowNums [.i .u32, .i
  .u8] (instR [.i .u32, .i .u8] r)), .box [.i w, .i 4, .i 0, .i 0, .i 0, .i 0, .i 0, .i 0, .i 0, .i 0, .i 0, .i 0, .i 0, .i 0, .u, .u, .b false, .b false, .i 0, .i 0, .i 0, .b false, .b false], .lst 0 fun (x : Nat) => [],
  .tok, .lst 0 fun (x : Nat) => [], .tok, .box [.i 0, .i 0]]⟩))) := by kernel_rfl
theorem ss_x (w : Int) (len : Nat) (r : Nat → List Num) (p : PrS) (l : B2) (i : Int) (τ0 : Tm) : codeT Try.prog sdT 300 6 Try.f6.ntmps x6 (ssL.tm (ssN w len r p l i) ++ τ0) (ssL.heap (ssN w len r p l i)) 7 (outX 0 ⟨some ssL, [(0, ssE)], some (lawT 4)⟩) =
  .ite (decide (i < (len : Int))) (.must (decide (0 ≤ i ∧ i < (len : Int))) (.must (decide (0 ≤ i ∧ i < (len : Int))) (.defI (hdN (r i.toNat)).I fun z0 => .defI (hdN (tlN (r i.toNat))).I fun z1 => .must (rowsB [.i .u8]
  (instR [.i .u8] (rowI p.pl)) p.pl.length) (.must (rowsB [.i .u8] (instR [.i .u8] (rowI p.al)) p.al.length) (.defE ⟨[[.u], [.i z0, .i z1]], [.box [.i p.who, .i p.wants.fst, .i p.wants.snd.fst, .i p.wants.snd.snd, .i
  p.value.fst, .i p.value.snd.fst, .i p.value.snd.snd, .i p.best.fst, .i p.best.snd.fst, .i p.best.snd.snd, .i p.b.fst, .i p.b.snd, .i p.acc.fst, .i p.acc.snd, .u, .u, .b p.has, .b p.valued, .i p.dec.fst, .i p.dec.snd.fst,
  .i p.dec.snd.snd, .b p.done, .b p.ever], .lst p.pl.length (rowI p.pl), .tok, .lst p.al.length (rowI p.al), .tok]⟩ fun e2 => .defI (topN (e2.ai 1 0) (prOf e2).b.fst) fun z3 => .defI (prOf e2).who fun z4 => .defI ((prOf
  e2).start (e2.ai 1 0, e2.ai 1 1)).who fun z5 => .defI ((prOf e2).start (e2.ai 1 0, e2.ai 1 1)).wants.fst fun z6 => .defI ((prOf e2).start (e2.ai 1 0, e2.ai 1 1)).wants.snd.fst fun z7 => .defI ((prOf e2).start (e2.ai 1 0,
  e2.ai 1 1)).wants.snd.snd fun z8 => .defI ((prOf e2).start (e2.ai 1 0, e2.ai 1 1)).value.fst fun z9 => .defI ((prOf e2).start (e2.ai 1 0, e2.ai 1 1)).value.snd.fst fun z10 => .defI ((prOf e2).start (e2.ai 1 0, e2.ai 1
  1)).value.snd.snd fun z11 => .defI ((prOf e2).start (e2.ai 1 0, e2.ai 1 1)).best.fst fun z12 => .defI ((prOf e2).start (e2.ai 1 0, e2.ai 1 1)).best.snd.fst fun z13 => .defI ((prOf e2).start (e2.ai 1 0, e2.ai 1
  1)).best.snd.snd fun z14 => .defI ((prOf e2).start (e2.ai 1 0, e2.ai 1 1)).b.fst fun z15 => .defI ((prOf e2).start (e2.ai 1 0, e2.ai 1 1)).b.snd fun z16 => .defI ((prOf e2).start (e2.ai 1 0, e2.ai 1 1)).acc.fst fun z17
  => .defI ((prOf e2).start (e2.ai 1 0, e2.ai 1 1)).acc.snd fun z18 => .defB ((prOf e2).start (e2.ai 1 0, e2.ai 1 1)).has fun z19 => .defB ((prOf e2).start (e2.ai 1 0, e2.ai 1 1)).valued fun z20 => .defI ((prOf e2).start
  (e2.ai 1 0, e2.ai 1 1)).dec.fst fun z21 => .defI ((prOf e2).start (e2.ai 1 0, e2.ai 1 1)).dec.snd.fst fun z22 => .defI ((prOf e2).start (e2.ai 1 0, e2.ai 1 1)).dec.snd.snd fun z23 => .defB ((prOf e2).start (e2.ai 1 0,
  e2.ai 1 1)).done fun z24 => .defB ((prOf e2).start (e2.ai 1 0, e2.ai 1 1)).ever fun z25 => .defI 0 fun z26 => .defI 0 fun z27 => .must (decide (0 ≤ i ∧ i < (len : Int))) (.must (decide (0 ≤ i ∧ i < (len : Int))) (.defI
  (hdN (r i.toNat)).I fun z28 => .ite (z28 == 4294967295) (.ite (!(z3 == z15 && z4 == z16)) (.leaf (.ret, ⟨[[.b false]], []⟩)) (.ite (z4 != w) (.leaf (.ret, ⟨[[.b false]], []⟩)) (.ite z20 (.leaf (.ret, ⟨[[.b false]], []⟩))
  (.ite (z3 != 4294967295) (.leaf (.ret, ⟨[[.b false]], []⟩)) (.defI (IntKind.i64.wrap (i + 1)) fun z29 => .must (rowsB [.i .u32, .i .u8] (instR [.i .u32, .i .u8] r) len) (.must (rowsB [.i .u8] (instR [.i .u8] (rowI ([])))
  z26.toNat) (.must (rowsB [.i .u8] (instR [.i .u8] (rowI ([]))) z27.toNat) (.leaf (.normal, ⟨[[.i w], [.u], [.u], [.u], [.i z29]], [.lst len (rowNums [.i .u32, .i .u8] (instR [.i .u32, .i .u8] r)), .box [.i z5, .i z6, .i
  z7, .i z8, .i z9, .i z10, .i z11, .i z12, .i z13, .i z14, .i z15, .i z16, .i z17, .i z18, .u, .u, .b z19, .b z20, .i z21, .i z22, .i z23, .b z24, .b z25], .lst z26.toNat (rowI ([])), .tok, .lst z27.toNat (rowI ([])),
  .tok, .box [.i z3, .i z4]]⟩))))))))) (.ite (!(z3 == z15 && z4 == z16)) (.leaf (.ret, ⟨[[.b false]], []⟩)) (.ite (z4 != w) (.leaf (.ret, ⟨[[.b false]], []⟩)) (.ite z20 (.leaf (.ret, ⟨[[.b false]], []⟩)) (.ite (!l.fst ==
  4294967295) (.must (decide (0 ≤ i ∧ i < (len : Int))) (.must (decide (0 ≤ i ∧ i < (len : Int))) (.defI (hdN (r i.toNat)).I fun z30 => .ite (decide (z3 ≤ z30)) (.leaf (.ret, ⟨[[.b false]], []⟩)) (.ite (decide (z3 ≤
  l.fst)) (.leaf (.ret, ⟨[[.b false]], []⟩)) (.must (decide (0 ≤ i ∧ i < (len : Int))) (.must (decide (0 ≤ i ∧ i < (len : Int))) (.defI (hdN (r i.toNat)).I fun z31 => .defI (bif decide (l.fst > z31) then l.fst else z31)
  fun z32 => .defI (IntKind.u32.wrap (z32 + 1)) fun z33 => .ite (z3 != z33) (.leaf (.ret, ⟨[[.b false]], []⟩)) (.ite (l.fst == 4294967295) (.ite (z3 != 4294967295) (.leaf (.ret, ⟨[[.b false]], []⟩)) (.defI
  (IntKind.i64.wrap (i + 1)) fun z34 => .must (rowsB [.i .u32, .i .u8] (instR [.i .u32, .i .u8] r) len) (.must (rowsB [.i .u8] (instR [.i .u8] (rowI ([]))) z26.toNat) (.must (rowsB [.i .u8] (instR [.i .u8] (rowI ([])))
  z27.toNat) (.leaf (.normal, ⟨[[.i w], [.u], [.u], [.u], [.i z34]], [.lst len (rowNums [.i .u32, .i .u8] (instR [.i .u32, .i .u8] r)), .box [.i z5, .i z6, .i z7, .i z8, .i z9, .i z10, .i z11, .i z12, .i z13, .i z14, .i
  z15, .i z16, .i z17, .i z18, .u, .u, .b z19, .b z20, .i z21, .i z22, .i z23, .b z24, .b z25], .lst z26.toNat (rowI ([])), .tok, .lst z27.toNat (rowI ([])), .tok, .box [.i z3, .i z4]]⟩)))))) (.defI (IntKind.i64.wrap (i +
  1)) fun z35 => .must (rowsB [.i .u32, .i .u8] (instR [.i .u32, .i .u8] r) len) (.must (rowsB [.i .u8] (instR [.i .u8] (rowI ([]))) z26.toNat) (.must (rowsB [.i .u8] (instR [.i .u8] (rowI ([]))) z27.toNat) (.leaf
  (.normal, ⟨[[.i w], [.u], [.u], [.u], [.i z35]], [.lst len (rowNums [.i .u32, .i .u8] (instR [.i .u32, .i .u8] r)), .box [.i z5, .i z6, .i z7, .i z8, .i z9, .i z10, .i z11, .i z12, .i z13, .i z14, .i z15, .i z16, .i z17,
  .i z18, .u, .u, .b z19, .b z20, .i z21, .i z22, .i z23, .b z24, .b z25], .lst z26.toNat (rowI ([])), .tok, .lst z27.toNat (rowI ([])), .tok, .box [.i z3, .i z4]]⟩))))))))))))) (.ite (l.fst == 4294967295) (.ite (z3 !=
  4294967295) (.leaf (.ret, ⟨[[.b false]], []⟩)) (.defI (IntKind.i64.wrap (i + 1)) fun z36 => .must (rowsB [.i .u32, .i .u8] (instR [.i .u32, .i .u8] r) len) (.must (rowsB [.i .u8] (instR [.i .u8] (rowI ([]))) z26.toNat)
  (.must (rowsB [.i .u8] (instR [.i .u8] (rowI ([]))) z27.toNat) (.leaf (.normal, ⟨[[.i w], [.u], [.u], [.u], [.i z36]], [.lst len (rowNums [.i .u32, .i .u8] (instR [.i .u32, .i .u8] r)), .box [.i z5, .i z6, .i z7, .i z8,
  .i z9, .i z10, .i z11, .i z12, .i z13, .i z14, .i z15, .i z16, .i z17, .i z18, .u, .u, .b z19, .b z20, .i z21, .i z22, .i z23, .b z24, .b z25], .lst z26.toNat (rowI ([])), .tok, .lst z27.toNat (rowI ([])), .tok, .box [.i
  z3, .i z4]]⟩)))))) (.defI (IntKind.i64.wrap (i + 1)) fun z37 => .must (rowsB [.i .u32, .i .u8] (instR [.i .u32, .i .u8] r) len) (.must (rowsB [.i .u8] (instR [.i .u8] (rowI ([]))) z26.toNat) (.must (rowsB [.i .u8] (instR
  [.i .u8] (rowI ([]))) z27.toNat) (.leaf (.normal, ⟨[[.i w], [.u], [.u], [.u], [.i z37]], [.lst len (rowNums [.i .u32, .i .u8] (instR [.i .u32, .i .u8] r)), .box [.i z5, .i z6, .i z7, .i z8, .i z9, .i z10, .i z11, .i z12,
  .i z13, .i z14, .i z15, .i z16, .i z17, .i z18, .u, .u, .b z19, .b z20, .i z21, .i z22, .i z23, .b z24, .b z25], .lst z26.toNat (rowI ([])), .tok, .lst z27.toNat (rowI ([])), .tok, .box [.i z3, .i z4]]⟩)))))))))))))))))
  (.leaf (.exit 0, ⟨[], []⟩)) := by kernel_rfl
theorem ss_tail (τ0 : Tm) : codeT Try.prog sdT 300 6 Try.f6.ntmps (ofL ((flat body6).drop 9)) (ssE.tm ⟨[], []⟩ ++ τ0) (ssE.heap ⟨[], []⟩) 0 (outX 0 ⟨none, [], some (lawT 4)⟩) =
  .leaf (.ret, ⟨[[.b true]], []⟩) := by kernel_rfl
theorem bmax (a b : Int) : (bif decide (a > b) then a else b) = max a b := by
  by_cases h : a > b
  · simp only [h, decide_true, cond_true]; omega
  · simp only [h, decide_false, cond_false]; omega
theorem topN_le {a b : Int} (ha : 0 ≤ a ∧ a < 4294967296) (hb : 0 ≤ b ∧ b < 4294967296) : (max a b < 4294967295 → topN a b = max a b + 1) ∧ (max a b = 4294967295 → topN a b = 4294967295) := by
  unfold topN
  rw [bmax]
  constructor
  · intro h
    simp only [h, decide_true, cond_true]
    exact IntWalk.u32_in _ (by omega)
  · intro h
    simp only [h]
    rfl
section
variable (w : Int) (len : Nat) (r : Nat → List Num) (hr : ∀ i, i < len → 0 ≤ (hdN (r i)).I ∧ (hdN (r i)).I < 4294967296)
theorem body6_eq : Try.f6.body = some body6 := by kernel_rfl
theorem in6 : Within Try.prog 6 Try.f6.ntmps body6 := within_body Try.func6 body6_eq
theorem lp6 : (flat body6).drop 8 = [.block 0 (.loop x6)] ++ (flat body6).drop 9 := by kernel_rfl
theorem in6x : Within Try.prog 6 Try.f6.ntmps x6 := by
  have h : (flat body6)[8]? = some (.block 0 (.loop x6)) := by kernel_rfl
  exact within_loop (within_block (within_at in6 8 h))
def ssQ : Ex → EN → Prop
  | .exit _, _ => True
  | .ret, e => lawR .ret e
  | .normal, _ => True
def ssI (w : Int) (len : Nat) (d : PrS × Int) : Prop := 0 ≤ d.2 ∧ d.2 ≤ len ∧ d.1.who = w ∧ 0 ≤ d.1.b.1 ∧ d.1.b.1 < 4294967296
theorem rowsB_b2 (r : Nat → List Num) (n : Nat) : rowsB [.i .u32, .i .u8] (instR [.i .u32, .i .u8] r) n = true := rowsB_instR rfl r n
include hr in
set_option maxHeartbeats 4000000 in
theorem ss_loop (hl : len ≤ 40) (d : PrS × Int) (hd : ssI w len d) : HT Try.prog Try.f6.ntmps 0 (.loop x6) 7 (ssL.tm (ssN w len r d.1 d.1.b d.2)) (ssL.heap (ssN w len r d.1 d.1.b d.2)) (QX ⟨none, [(0, ssE)], some (lawT 4)⟩ ssQ) := by
  refine HT.loopX sdTab mixed (n := 300) in6x ssL _ _ (fun d : PrS × Int => ssN w len r d.1 d.1.b d.2) (ssI w len) (fun d => ((len : Int) - d.2).toNat) (fun _ => ssQ) (Nat.zero_le _) ?_ d hd
  rintro ⟨p, i⟩ ⟨h0, h1, h2, h3, h4⟩ τ0
  dsimp only at h0 h1 h2 h3 h4
  refine holds_of_eq (ss_x w len r p p.b i τ0) (holds_ite (fun hlt => ?_) fun hge => holds_leaf trivial)
  have hlt : i < (len : Int) := of_decide_eq_true hlt
  have hm : decide (0 ≤ i ∧ i < (len : Int)) = true := decide_eq_true ⟨h0, hlt⟩
  have hri := hr i.toNat (by omega)
  have e1 : IntKind.i64.wrap (i + 1) = i + 1 := IntWalk.i64_in _ (by omega)
  refine holds_must hm (holds_must hm (holds_defI fun z0 e0 => holds_defI fun z1 ez1 => holds_must (rowsB_i _ _ _) (holds_must (rowsB_i _ _ _) (holds_defE fun e2 he => ?_))))
  have hp : prOf e2 = p := by rw [he]; exact prOf_on _ p
  have ha : e2.ai 1 0 = z0 := by rw [he]; rfl
  have hb : e2.ai 1 1 = z1 := by rw [he]; rfl
  simp only [hp, ha, hb]
  rw [← e0] at hri
  have ht := topN_le hri ⟨h3, h4⟩
  have hw : ∀ z : Int, z = z0 → p.b.1 < 4294967295 → z0 < 4294967295 → IntKind.u32.wrap ((bif decide (p.b.1 > z) then p.b.1 else z) + 1) = topN z0 p.b.1 := by
    rintro z rfl q1 q2
    rw [bmax, IntWalk.u32_in _ (by omega), ht.1 (by omega)]
    omega
  repeat' with_reducible (first | refine holds_must hm ?_ | refine holds_must (rowsB_i _ _ _) ?_ | refine holds_must (rowsB_b2 _ _) ?_ | refine holds_inI ?_ | refine holds_inB ?_ | refine holds_ite (fun _ => ?_) (fun _ => ?_))
  all_goals refine holds_leaf ?_
  all_goals try (exfalso; have hw := hw _ e0.symm; clear he ez1 hd hr hm; (simp only [PrS.start, or_self, or_false, false_or, or_true, true_or, and_self, and_false, false_and, eq_self, Bool.false_eq_true, Bool.true_eq_false, decide_eq_true_eq, decide_eq_false_iff_not, beq_iff_eq, bne_iff_ne, beq_eq_false_iff_ne, bne_eq_false_iff_eq, Bool.not_eq_true', Bool.not_eq_false', Bool.and_eq_true, Bool.and_eq_false_iff, Bool.or_eq_true, Bool.or_eq_false_iff, ne_eq, not_true_eq_false, not_false_eq_true, true_and, and_true, not_true, Bool.not_true, Bool.not_false] at *) <;> first | omega | (have := hw (by omega) (by omega); omega))
  all_goals (refine ⟨(p.start (z0, z1), i + 1), ⟨by show 0 ≤ i + 1; omega, by show i + 1 ≤ (len : Int); omega, h2, show 0 ≤ topN z0 p.b.1 ∧ topN z0 p.b.1 < 4294967296 by omega⟩, by show ((len : Int) - (i + 1)).toNat < ((len : Int) - i).toNat; omega, ⟨⟨rfl, trivial, trivial, trivial, e1, trivial⟩, ?_⟩, fun _ _ h => h⟩
             (repeat' (first | exact trivial | exact rfl | exact TS.eqv_refl _ _ | exact len_app _ _ | exact rows_appI | exact fun _ _ => eqvL_refl _ _ | exact fun i _ => eqvL_rowNums rfl _ i | apply And.intro)))
def prNew (w : Int) (x : I3) : PrS := ⟨w, x, (0, 0, 0), (0, 0, 0), (0, 0), (0, 0), [], [], false, false, (0, 0, 0), false, false⟩
def ssR : Ex → EN → Prop
  | .normal, e => len ≤ 40 ∧ ssL.eqv e (ssN w len r (prNew w (4, 0, 0)) (0, 0) 0)
  | .ret, e => lawR .ret e
  | .exit _, _ => True
include hr in
theorem ss_ht (hw : 0 ≤ w) : HT Try.prog Try.f6.ntmps 0 body6 1 (ssT.tm ⟨[[.i w], []], [.lst len r]⟩) (ssT.heap ⟨[[.i w], []], [.lst len r]⟩) (QX ⟨none, [], some (lawT 4)⟩ lawR) := by
  refine HT.cutX 8 (t1 := ssL) (R1 := ssR w len r) (HTL.runX sdTab mixed (n := 300) (by decide) (within_take in6 8) (Nat.zero_le _) fun τ0 => holds_of_eq (ss_pre w len r τ0) (holds_ite (fun h => holds_leaf rfl) (fun h => holds_must (rowsB_b2 _ _) (holds_leaf ⟨?_, ?_⟩)))) ?_ ?_
  · have := of_decide_eq_false h
    omega
  · (repeat' (first | exact trivial | exact rfl | exact TS.eqv_refl _ _ | exact len_app _ _ | exact rows_appI | exact fun _ _ => eqvL_refl _ _ | exact fun i _ => eqvL_rowNums rfl _ i | apply And.intro)); all_goals exact fun i hi => absurd hi (by simp [lnS, ON.len, hdO, tlO, ssN, prNew, PrS.on])
  · rintro en ⟨hl, he⟩
    refine HTg.pre (WP := wpL Try.prog _) (fun h hq => wpL_mono h hq) he (HTL.loopThen lp6 (ss_loop w len r hr hl (prNew w (4, 0, 0), 0) ⟨Int.le_refl _, by simp, rfl, Int.le_refl _, show (0 : Int) < 4294967296 by decide⟩) ?_ ?_)
    · intro en _
      exact HTL.runX sdTab mixed (n := 300) (by decide) (within_drop in6 9) (Nat.zero_le _) fun τ0 => holds_of_eq (ss_tail τ0) (holds_leaf rfl)
    · exact fun en h => h
  · exact fun en h => h
end
theorem pk31 : pkT Try.prog 8 31 = some [.int .u32, .int .u8] := by kernel_rfl
theorem ss_c (W : World) (w : Int) (hd : Option Addr × Nat × Nat) (n : Nat → Nat → Int) (b : Nat → Nat → Bool) (hw : 0 ≤ w) (hs : sliceOf W hd hd.2.1 2 (fun i => skel (n i) (b i) [.int .u32, .int .u8] 0)) (hr : ∀ i, i < hd.2.1 → 0 ≤ n i 0 ∧ n i 0 < 4294967296) :
    Calls Try.prog 6 #[.int .u8 w, .slice hd.1 hd.2.1 hd.2.2] W fun e W' => e = .returned (.bool true) ∧ Below W.heap.size W W' :=
  law_htX (args := [.int .u8 (.sym w), .sl 0]) (l := ssT.objs ⟨[[.i w], []], [.lst hd.2.1 fun i => [.i (n i 0), .i (n i 1)]]⟩) (m := 1) (hdr := fun _ => hd) Try.func6 body6_eq (by kernel_rfl) (by kernel_rfl)
    (fun p hp => by rw [List.mem_singleton.1 hp]; exact ⟨Nat.zero_lt_one, _, _, _, rfl, hs⟩) (ss_ht w hd.2.1 _ hr hw) (fun E' hE => by simp [denL, den, SI.v, (hE 0 Nat.zero_lt_one).2.1])
set_option maxRecDepth 100000 in
theorem starts_lifted (os : Os) (started : os.Started) (H : Type) (enc : TypeId × Value → H) :
    ReturnsInHanded {} Try.checked os 6 .any (Rows.synodStartsSpec.pre6 enc Try.prog Try.f6 Rows.synodStartsRow.domain false) (Rows.synodStartsSpec.post enc Try.prog Try.f6 false true false false) := by
  refine law_lifted (C := Try.checked) Try.own started (by kernel_rfl) Try.func6
    (ChangeSpec.witness6 (enc := enc) (C := Try.checked) false ⟨#[], #[.int .u8 0, .slice none 0 0], []⟩ 8 (by kernel_rfl) (by kernel_rfl) (by kernel_rfl) (by kernel_rfl))
    Try.laidOut ?_ (B := 4) (by kernel_rfl) (by kernel_rfl) rfl ?_ ?_
  · intro t ht
    rw [Try.params6] at ht
    have : t = 5 ∨ t = 48 := by
      simp at ht
      first | exact ht | omega
    rcases this with rfl | rfl <;> exact ⟨by kernel_rfl, of_decide_eq_true (by kernel_rfl)⟩
  · intro ds h
    rw [Try.params6] at h
    match ds, h with
    | [d1, d2], _ => rfl
  · intro W base args ds p hval hA hlt
    rw [Try.params6] at hA hval
    obtain ⟨v0, v1, d0, d1, p0, p1, rfl, rfl, rfl, h0, h1⟩ := trodAll_two hA
    obtain ⟨w, rfl, _, _, ww⟩ := open_int Try.underlying5 (hval 0 5 v0 rfl rfl) h0
    obtain ⟨hd, n, b, rfl, _, hs, hwf⟩ := open_rows Try.underlying48 pk31 (by kernel_rfl) (by decide) (hval 1 48 v1 rfl rfl) h1
    exact ss_c W w hd n b (wf_u8 ww).1 hs fun i hi => wf_u32 (hwf i hi).1

theorem synodStarts_holds : Rows.SynodStartsSaid :=
  OpenClaim.holds_of_wide 6 Try.f6 rfl rfl rfl rfl rfl rfl rfl ⟨rfl, rfl, rfl, rfl, rfl⟩ rfl rfl rfl rfl rfl (by kernel_rfl) Try.func6 (by kernel_rfl)
    (of_decide_eq_true (by kernel_rfl)) (by unfold Func.isWrapper; rw [if_neg (by decide +kernel)]; exact ⟨rfl, rfl⟩)
    (fun os started H enc _ => starts_lifted os started H enc)
end Go.Proofs.Ytlcgnjcfihablaa
