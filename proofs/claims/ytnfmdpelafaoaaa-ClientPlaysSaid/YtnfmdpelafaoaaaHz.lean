/- Texts merged: a claim has at most 60 files.
   Conditions: none. -/
import Derived.Test.YtnfmdpelafaoaaaHd
import Derived.Carry
set_option linter.unusedSimpArgs false
set_option linter.unusedVariables false
namespace Go.Proofs.Ytnfmdpelafaoaaa
open Go.Eng Go.RowKit Go.ChangeShapes Go.WideShapes
set_option maxRecDepth 100000
theorem cp_tail (id sq : Int) (o : OpS) (bz : Bool) (ct rt : Int) (an : Nat) (r : Nat → List Num) (τ0 : Tm) : codeT Try.prog eeT 300 5 Try.f5.ntmps (Eng.ofL ((flat body5).drop 8)) (cpE.tm ⟨[[], []], cpO id sq o bz ct rt an r⟩ ++ τ0) (cpE.heap ⟨[[], []], cpO id sq o bz ct rt an r⟩) 7 (outX 1 ⟨none, [], some (lawT 4)⟩) =
  .must (rowsB [.i .u8, .i .u32, .i .u8, .i .u8, .i .u8, .s, .i .u8, .s] (instR [.i .u8, .i .u32, .i .u8, .i .u8, .i .u8, .s, .i .u8, .s] r) an) (.must (decide ((an : Int) ≤ 100000000)) (.defI (an : Int) fun z0 => .ite bz
  (.defI (IntKind.i64.wrap (ct + 1)) fun z1 => .defI (z1.tmod 3) fun z2 => .ite (decide (z2 > 0)) (.ite (!bz) (.leaf (.ret, ⟨[[.b (bz == false)]], []⟩)) (.leaf (.ret, ⟨[[.b (bz == true)]], []⟩))) (.ite bz (.defI
  (IntKind.u8.wrap (20 + id)) fun z3 => .ite bz (.defI (IntKind.u8.wrap (20 + id)) fun z4 => .ite bz (.defI (IntKind.u8.wrap (20 + id)) fun z5 => .ite bz (.defI (IntKind.u8.wrap (20 + id)) fun z6 => .ite bz (.defI
  (IntKind.u8.wrap (20 + id)) fun z7 => .ite (!bz) (.leaf (.ret, ⟨[[.b (bz == false)]], []⟩)) (.leaf (.ret, ⟨[[.b (bz == true)]], []⟩))) (.ite (!bz) (.leaf (.ret, ⟨[[.b (bz == false)]], []⟩)) (.leaf (.ret, ⟨[[.b (bz ==
  true)]], []⟩)))) (.ite bz (.defI (IntKind.u8.wrap (20 + id)) fun z8 => .ite (!bz) (.leaf (.ret, ⟨[[.b (bz == false)]], []⟩)) (.leaf (.ret, ⟨[[.b (bz == true)]], []⟩))) (.ite (!bz) (.leaf (.ret, ⟨[[.b (bz == false)]],
  []⟩)) (.leaf (.ret, ⟨[[.b (bz == true)]], []⟩))))) (.ite bz (.defI (IntKind.u8.wrap (20 + id)) fun z9 => .ite bz (.defI (IntKind.u8.wrap (20 + id)) fun z10 => .ite (!bz) (.leaf (.ret, ⟨[[.b (bz == false)]], []⟩)) (.leaf
  (.ret, ⟨[[.b (bz == true)]], []⟩))) (.ite (!bz) (.leaf (.ret, ⟨[[.b (bz == false)]], []⟩)) (.leaf (.ret, ⟨[[.b (bz == true)]], []⟩)))) (.ite bz (.defI (IntKind.u8.wrap (20 + id)) fun z11 => .ite (!bz) (.leaf (.ret, ⟨[[.b
  (bz == false)]], []⟩)) (.leaf (.ret, ⟨[[.b (bz == true)]], []⟩))) (.ite (!bz) (.leaf (.ret, ⟨[[.b (bz == false)]], []⟩)) (.leaf (.ret, ⟨[[.b (bz == true)]], []⟩)))))) (.ite bz (.defI (IntKind.u8.wrap (20 + id)) fun z12
  => .ite bz (.defI (IntKind.u8.wrap (20 + id)) fun z13 => .ite bz (.defI (IntKind.u8.wrap (20 + id)) fun z14 => .ite (!bz) (.leaf (.ret, ⟨[[.b (bz == false)]], []⟩)) (.leaf (.ret, ⟨[[.b (bz == true)]], []⟩))) (.ite (!bz)
  (.leaf (.ret, ⟨[[.b (bz == false)]], []⟩)) (.leaf (.ret, ⟨[[.b (bz == true)]], []⟩)))) (.ite bz (.defI (IntKind.u8.wrap (20 + id)) fun z15 => .ite (!bz) (.leaf (.ret, ⟨[[.b (bz == false)]], []⟩)) (.leaf (.ret, ⟨[[.b (bz
  == true)]], []⟩))) (.ite (!bz) (.leaf (.ret, ⟨[[.b (bz == false)]], []⟩)) (.leaf (.ret, ⟨[[.b (bz == true)]], []⟩))))) (.ite bz (.defI (IntKind.u8.wrap (20 + id)) fun z16 => .ite bz (.defI (IntKind.u8.wrap (20 + id)) fun
  z17 => .ite (!bz) (.leaf (.ret, ⟨[[.b (bz == false)]], []⟩)) (.leaf (.ret, ⟨[[.b (bz == true)]], []⟩))) (.ite (!bz) (.leaf (.ret, ⟨[[.b (bz == false)]], []⟩)) (.leaf (.ret, ⟨[[.b (bz == true)]], []⟩)))) (.ite bz (.defI
  (IntKind.u8.wrap (20 + id)) fun z18 => .ite (!bz) (.leaf (.ret, ⟨[[.b (bz == false)]], []⟩)) (.leaf (.ret, ⟨[[.b (bz == true)]], []⟩))) (.ite (!bz) (.leaf (.ret, ⟨[[.b (bz == false)]], []⟩)) (.leaf (.ret, ⟨[[.b (bz ==
  true)]], []⟩))))))) (.ite bz (.defI (IntKind.u8.wrap (20 + id)) fun z19 => .ite bz (.defI (IntKind.u8.wrap (20 + id)) fun z20 => .ite bz (.defI (IntKind.u8.wrap (20 + id)) fun z21 => .ite bz (.defI (IntKind.u8.wrap (20 +
  id)) fun z22 => .ite (!bz) (.leaf (.ret, ⟨[[.b (bz == false)]], []⟩)) (.leaf (.ret, ⟨[[.b (bz == true)]], []⟩))) (.ite (!bz) (.leaf (.ret, ⟨[[.b (bz == false)]], []⟩)) (.leaf (.ret, ⟨[[.b (bz == true)]], []⟩)))) (.ite bz
  (.defI (IntKind.u8.wrap (20 + id)) fun z23 => .ite (!bz) (.leaf (.ret, ⟨[[.b (bz == false)]], []⟩)) (.leaf (.ret, ⟨[[.b (bz == true)]], []⟩))) (.ite (!bz) (.leaf (.ret, ⟨[[.b (bz == false)]], []⟩)) (.leaf (.ret, ⟨[[.b
  (bz == true)]], []⟩))))) (.ite bz (.defI (IntKind.u8.wrap (20 + id)) fun z24 => .ite bz (.defI (IntKind.u8.wrap (20 + id)) fun z25 => .ite (!bz) (.leaf (.ret, ⟨[[.b (bz == false)]], []⟩)) (.leaf (.ret, ⟨[[.b (bz ==
  true)]], []⟩))) (.ite (!bz) (.leaf (.ret, ⟨[[.b (bz == false)]], []⟩)) (.leaf (.ret, ⟨[[.b (bz == true)]], []⟩)))) (.ite bz (.defI (IntKind.u8.wrap (20 + id)) fun z26 => .ite (!bz) (.leaf (.ret, ⟨[[.b (bz == false)]],
  []⟩)) (.leaf (.ret, ⟨[[.b (bz == true)]], []⟩))) (.ite (!bz) (.leaf (.ret, ⟨[[.b (bz == false)]], []⟩)) (.leaf (.ret, ⟨[[.b (bz == true)]], []⟩)))))) (.ite bz (.defI (IntKind.u8.wrap (20 + id)) fun z27 => .ite bz (.defI
  (IntKind.u8.wrap (20 + id)) fun z28 => .ite bz (.defI (IntKind.u8.wrap (20 + id)) fun z29 => .ite (!bz) (.leaf (.ret, ⟨[[.b (bz == false)]], []⟩)) (.leaf (.ret, ⟨[[.b (bz == true)]], []⟩))) (.ite (!bz) (.leaf (.ret,
  ⟨[[.b (bz == false)]], []⟩)) (.leaf (.ret, ⟨[[.b (bz == true)]], []⟩)))) (.ite bz (.defI (IntKind.u8.wrap (20 + id)) fun z30 => .ite (!bz) (.leaf (.ret, ⟨[[.b (bz == false)]], []⟩)) (.leaf (.ret, ⟨[[.b (bz == true)]],
  []⟩))) (.ite (!bz) (.leaf (.ret, ⟨[[.b (bz == false)]], []⟩)) (.leaf (.ret, ⟨[[.b (bz == true)]], []⟩))))) (.ite bz (.defI (IntKind.u8.wrap (20 + id)) fun z31 => .ite bz (.defI (IntKind.u8.wrap (20 + id)) fun z32 => .ite
  (!bz) (.leaf (.ret, ⟨[[.b (bz == false)]], []⟩)) (.leaf (.ret, ⟨[[.b (bz == true)]], []⟩))) (.ite (!bz) (.leaf (.ret, ⟨[[.b (bz == false)]], []⟩)) (.leaf (.ret, ⟨[[.b (bz == true)]], []⟩)))) (.ite bz (.defI
  (IntKind.u8.wrap (20 + id)) fun z33 => .ite (!bz) (.leaf (.ret, ⟨[[.b (bz == false)]], []⟩)) (.leaf (.ret, ⟨[[.b (bz == true)]], []⟩))) (.ite (!bz) (.leaf (.ret, ⟨[[.b (bz == false)]], []⟩)) (.leaf (.ret, ⟨[[.b (bz ==
  true)]], []⟩))))))))) (.defI (IntKind.u32.wrap (sq + 1)) fun z34 => .ite (!isOpB (opE ⟨[[.i id, .i z34, .i 5, .i 0, .i 0, .s (ByteArray.mk #[])]], []⟩ 0 0)) (.defI (IntKind.i64.wrap (ct + 1)) fun z35 => .defI (z35.tmod
  3) fun z36 => .ite (decide (z36 > 0)) (.ite (!bz) (.leaf (.ret, ⟨[[.b (bz == false)]], []⟩)) (.leaf (.ret, ⟨[[.b (bz == true)]], []⟩))) (.ite bz (.defI (IntKind.u8.wrap (20 + id)) fun z37 => .ite bz (.defI
  (IntKind.u8.wrap (20 + id)) fun z38 => .ite bz (.defI (IntKind.u8.wrap (20 + id)) fun z39 => .ite bz (.defI (IntKind.u8.wrap (20 + id)) fun z40 => .ite bz (.defI (IntKind.u8.wrap (20 + id)) fun z41 => .ite (!bz) (.leaf
  (.ret, ⟨[[.b (bz == false)]], []⟩)) (.leaf (.ret, ⟨[[.b (bz == true)]], []⟩))) (.ite (!bz) (.leaf (.ret, ⟨[[.b (bz == false)]], []⟩)) (.leaf (.ret, ⟨[[.b (bz == true)]], []⟩)))) (.ite bz (.defI (IntKind.u8.wrap (20 +
  id)) fun z42 => .ite (!bz) (.leaf (.ret, ⟨[[.b (bz == false)]], []⟩)) (.leaf (.ret, ⟨[[.b (bz == true)]], []⟩))) (.ite (!bz) (.leaf (.ret, ⟨[[.b (bz == false)]], []⟩)) (.leaf (.ret, ⟨[[.b (bz == true)]], []⟩))))) (.ite
  bz (.defI (IntKind.u8.wrap (20 + id)) fun z43 => .ite bz (.defI (IntKind.u8.wrap (20 + id)) fun z44 => .ite (!bz) (.leaf (.ret, ⟨[[.b (bz == false)]], []⟩)) (.leaf (.ret, ⟨[[.b (bz == true)]], []⟩))) (.ite (!bz) (.leaf
  (.ret, ⟨[[.b (bz == false)]], []⟩)) (.leaf (.ret, ⟨[[.b (bz == true)]], []⟩)))) (.ite bz (.defI (IntKind.u8.wrap (20 + id)) fun z45 => .ite (!bz) (.leaf (.ret, ⟨[[.b (bz == false)]], []⟩)) (.leaf (.ret, ⟨[[.b (bz ==
  true)]], []⟩))) (.ite (!bz) (.leaf (.ret, ⟨[[.b (bz == false)]], []⟩)) (.leaf (.ret, ⟨[[.b (bz == true)]], []⟩)))))) (.ite bz (.defI (IntKind.u8.wrap (20 + id)) fun z46 => .ite bz (.defI (IntKind.u8.wrap (20 + id)) fun
  z47 => .ite bz (.defI (IntKind.u8.wrap (20 + id)) fun z48 => .ite (!bz) (.leaf (.ret, ⟨[[.b (bz == false)]], []⟩)) (.leaf (.ret, ⟨[[.b (bz == true)]], []⟩))) (.ite (!bz) (.leaf (.ret, ⟨[[.b (bz == false)]], []⟩)) (.leaf
  (.ret, ⟨[[.b (bz == true)]], []⟩)))) (.ite bz (.defI (IntKind.u8.wrap (20 + id)) fun z49 => .ite (!bz) (.leaf (.ret, ⟨[[.b (bz == false)]], []⟩)) (.leaf (.ret, ⟨[[.b (bz == true)]], []⟩))) (.ite (!bz) (.leaf (.ret, ⟨[[.b
  (bz == false)]], []⟩)) (.leaf (.ret, ⟨[[.b (bz == true)]], []⟩))))) (.ite bz (.defI (IntKind.u8.wrap (20 + id)) fun z50 => .ite bz (.defI (IntKind.u8.wrap (20 + id)) fun z51 => .ite (!bz) (.leaf (.ret, ⟨[[.b (bz ==
  false)]], []⟩)) (.leaf (.ret, ⟨[[.b (bz == true)]], []⟩))) (.ite (!bz) (.leaf (.ret, ⟨[[.b (bz == false)]], []⟩)) (.leaf (.ret, ⟨[[.b (bz == true)]], []⟩)))) (.ite bz (.defI (IntKind.u8.wrap (20 + id)) fun z52 => .ite
  (!bz) (.leaf (.ret, ⟨[[.b (bz == false)]], []⟩)) (.leaf (.ret, ⟨[[.b (bz == true)]], []⟩))) (.ite (!bz) (.leaf (.ret, ⟨[[.b (bz == false)]], []⟩)) (.leaf (.ret, ⟨[[.b (bz == true)]], []⟩))))))) (.ite bz (.defI
  (IntKind.u8.wrap (20 + id)) fun z53 => .ite bz (.defI (IntKind.u8.wrap (20 + id)) fun z54 => .ite bz (.defI (IntKind.u8.wrap (20 + id)) fun z55 => .ite bz (.defI (IntKind.u8.wrap (20 + id)) fun z56 => .ite (!bz) (.leaf
  (.ret, ⟨[[.b (bz == false)]], []⟩)) (.leaf (.ret, ⟨[[.b (bz == true)]], []⟩))) (.ite (!bz) (.leaf (.ret, ⟨[[.b (bz == false)]], []⟩)) (.leaf (.ret, ⟨[[.b (bz == true)]], []⟩)))) (.ite bz (.defI (IntKind.u8.wrap (20 +
  id)) fun z57 => .ite (!bz) (.leaf (.ret, ⟨[[.b (bz == false)]], []⟩)) (.leaf (.ret, ⟨[[.b (bz == true)]], []⟩))) (.ite (!bz) (.leaf (.ret, ⟨[[.b (bz == false)]], []⟩)) (.leaf (.ret, ⟨[[.b (bz == true)]], []⟩))))) (.ite
  bz (.defI (IntKind.u8.wrap (20 + id)) fun z58 => .ite bz (.defI (IntKind.u8.wrap (20 + id)) fun z59 => .ite (!bz) (.leaf (.ret, ⟨[[.b (bz == false)]], []⟩)) (.leaf (.ret, ⟨[[.b (bz == true)]], []⟩))) (.ite (!bz) (.leaf
  (.ret, ⟨[[.b (bz == false)]], []⟩)) (.leaf (.ret, ⟨[[.b (bz == true)]], []⟩)))) (.ite bz (.defI (IntKind.u8.wrap (20 + id)) fun z60 => .ite (!bz) (.leaf (.ret, ⟨[[.b (bz == false)]], []⟩)) (.leaf (.ret, ⟨[[.b (bz ==
  true)]], []⟩))) (.ite (!bz) (.leaf (.ret, ⟨[[.b (bz == false)]], []⟩)) (.leaf (.ret, ⟨[[.b (bz == true)]], []⟩)))))) (.ite bz (.defI (IntKind.u8.wrap (20 + id)) fun z61 => .ite bz (.defI (IntKind.u8.wrap (20 + id)) fun
  z62 => .ite bz (.defI (IntKind.u8.wrap (20 + id)) fun z63 => .ite (!bz) (.leaf (.ret, ⟨[[.b (bz == false)]], []⟩)) (.leaf (.ret, ⟨[[.b (bz == true)]], []⟩))) (.ite (!bz) (.leaf (.ret, ⟨[[.b (bz == false)]], []⟩)) (.leaf
  (.ret, ⟨[[.b (bz == true)]], []⟩)))) (.ite bz (.defI (IntKind.u8.wrap (20 + id)) fun z64 => .ite (!bz) (.leaf (.ret, ⟨[[.b (bz == false)]], []⟩)) (.leaf (.ret, ⟨[[.b (bz == true)]], []⟩))) (.ite (!bz) (.leaf (.ret, ⟨[[.b
  (bz == false)]], []⟩)) (.leaf (.ret, ⟨[[.b (bz == true)]], []⟩))))) (.ite bz (.defI (IntKind.u8.wrap (20 + id)) fun z65 => .ite bz (.defI (IntKind.u8.wrap (20 + id)) fun z66 => .ite (!bz) (.leaf (.ret, ⟨[[.b (bz ==
  false)]], []⟩)) (.leaf (.ret, ⟨[[.b (bz == true)]], []⟩))) (.ite (!bz) (.leaf (.ret, ⟨[[.b (bz == false)]], []⟩)) (.leaf (.ret, ⟨[[.b (bz == true)]], []⟩)))) (.ite bz (.defI (IntKind.u8.wrap (20 + id)) fun z67 => .ite
  (!bz) (.leaf (.ret, ⟨[[.b (bz == false)]], []⟩)) (.leaf (.ret, ⟨[[.b (bz == true)]], []⟩))) (.ite (!bz) (.leaf (.ret, ⟨[[.b (bz == false)]], []⟩)) (.leaf (.ret, ⟨[[.b (bz == true)]], []⟩))))))))) (.defI (IntKind.u8.wrap
  (20 + id)) fun z68 => .defI (IntKind.u8.wrap (20 + id)) fun z69 => .defI (IntKind.u8.wrap (20 + id)) fun z70 => .defI (IntKind.u8.wrap (20 + id)) fun z71 => .defI (IntKind.u8.wrap (20 + id)) fun z72 => .defI
  (IntKind.i64.wrap (ct + 1)) fun z73 => .defI (z73.tmod 3) fun z74 => .ite (decide (z74 > 0)) (.ite (!bz) (.leaf (.ret, ⟨[[.b (bz == false)]], []⟩)) (.leaf (.ret, ⟨[[.b (bz == true)]], []⟩))) (.defI (IntKind.u8.wrap (20 +
  id)) fun z75 => .defI (IntKind.u8.wrap (20 + id)) fun z76 => .defI (IntKind.u8.wrap (20 + id)) fun z77 => .defI (IntKind.u8.wrap (20 + id)) fun z78 => .defI (IntKind.u8.wrap (20 + id)) fun z79 => .ite (!bz) (.leaf (.ret,
  ⟨[[.b (bz == false)]], []⟩)) (.leaf (.ret, ⟨[[.b (bz == true)]], []⟩))))))) := by kernel_rfl
theorem rowsB_ins (r : Nat → List Num) (n : Nat) : rowsB [.i .u8, .i .u32, .i .u8, .i .u8, .i .u8, .s, .i .u8, .s] (instR [.i .u8, .i .u32, .i .u8, .i .u8, .i .u8, .s, .i .u8, .s] r) n = true := rowsB_instR rfl r n
theorem in5 : Within Try.prog 5 Try.f5.ntmps body5 := within_body Try.func5 (by kernel_rfl)
theorem lp5 : (flat body5).drop 7 = [.block 0 (.loop x5)] ++ (flat body5).drop 8 := by kernel_rfl
theorem in5x : Within Try.prog 5 Try.f5.ntmps x5 := by
  have h : (flat body5)[7]? = some (.block 0 (.loop x5)) := by kernel_rfl
  exact within_loop (within_block (within_at in5 7 h))
theorem bl5 : (flat x5).drop 2 = [.block 1 y5] ++ (flat x5).drop 3 := by kernel_rfl
theorem in5y : Within Try.prog 5 Try.f5.ntmps y5 := by
  have h : (flat x5)[2]? = some (.block 1 y5) := by kernel_rfl
  exact within_block (within_at in5x 2 h)
theorem sp5 : (flat y5).drop 3 = [(flat y5).getD 3 .skip] ++ (flat y5).drop 4 := by kernel_rfl
theorem in5w : Within Try.prog 5 Try.f5.ntmps (Eng.ofL [(flat y5).getD 3 .skip]) := by
  have h : (flat y5)[3]? = some ((flat y5).getD 3 .skip) := by kernel_rfl
  exact within_flat in5y fun x hx => by
    rw [List.mem_singleton.1 hx]
    exact List.mem_of_getElem? h
section
variable (id sq : Int) (o : OpS) (bz : Bool) (ct rt : Int) (an : Nat) (r : Nat → List Num)
theorem cp_tl (hn : (an : Int) ≤ 60) (τ0 : Tm) : (codeT Try.prog eeT 300 5 Try.f5.ntmps (Eng.ofL ((flat body5).drop 8)) (cpE.tm ⟨[[], []], cpO id sq o bz ct rt an r⟩ ++ τ0) (cpE.heap ⟨[[], []], cpO id sq o bz ct rt an r⟩) 7 (outX 1 ⟨none, [], some (lawT 4)⟩)).Holds fun r => lawR r.1 r.2 := by
  refine holds_of_eq (cp_tail id sq o bz ct rt an r τ0) ?_
  have hca : decide ((an : Int) ≤ 100000000) = true := decide_eq_true (by omega)
  have hr := rowsB_ins r an
  cases bz
  · (repeat' with_reducible (first | refine holds_inI ?_ | refine holds_inE ?_ | refine holds_must hr ?_ | refine holds_must hca ?_ | refine holds_must (raB_ok _ _) ?_ | refine holds_must (rowsB_ins _ _) ?_ | refine holds_ite (fun h => absurd h (by decide)) (fun _ => ?_) | refine holds_ite (fun _ => ?_) (fun h => absurd h (by decide)) | refine holds_ite (fun _ => ?_) (fun _ => ?_)))
    all_goals exact holds_leaf rfl
  · (repeat' with_reducible (first | refine holds_inI ?_ | refine holds_inE ?_ | refine holds_must hr ?_ | refine holds_must hca ?_ | refine holds_must (raB_ok _ _) ?_ | refine holds_must (rowsB_ins _ _) ?_ | refine holds_ite (fun h => absurd h (by decide)) (fun _ => ?_) | refine holds_ite (fun _ => ?_) (fun h => absurd h (by decide)) | refine holds_ite (fun _ => ?_) (fun _ => ?_)))
    all_goals exact holds_leaf rfl
/-- Behind a step. -/
theorem cp_cc (i : Int) (h0 : 0 ≤ i) (h60 : i ≤ 60) (hK : cpK ⟨id, sq, o, bz, ct, rt, an, r⟩ (i + 1)) (τ0 : Tm) : (codeT Try.prog eeT 300 5 Try.f5.ntmps (Eng.ofL ((flat y5).drop 4)) (cpL.tm (cpN id sq o bz ct rt an r i) ++ τ0) (cpL.heap (cpN id sq o bz ct rt an r i)) 7 (outX 1 ⟨some cpL, [], some (lawT 4)⟩)).Holds fun r' => r'.1 = .normal ∧ cpL.eqv r'.2 (cpN id sq o bz ct rt an r i) := by
  obtain ⟨k1, k2, k3, k4, k5, k6, k7, k8, k9, k10⟩ := hK
  dsimp only at k6 k10
  refine holds_of_eq (cp_c id sq o bz ct rt an r i τ0) ?_
  have hca : decide ((an : Int) ≤ 100000000) = true := decide_eq_true (by omega)
  have hr := rowsB_ins r an
  have hz : ((an : Int)).toNat = an := Int.toNat_natCast an
  have key : ∀ e, e = (⟨[[.u], [.u]], [.lst an (raN r), .lst an (raN r)]⟩ : EN) → anEq e := fun e he => by
    rw [he]
    exact ⟨rfl, show (an : Int) ≤ 100000000 by omega, fun i _ k _ => rfl⟩
  cases bz
  · cases k6 rfl
    refine holds_ite (fun _ => ?_) (fun h => absurd h (by decide))
    refine holds_ite (fun h => absurd h (by decide)) (fun _ => ?_)
    refine holds_ite (fun h => absurd h (by decide)) (fun _ => ?_)
    refine holds_must (raB_ok _ _) (holds_must hca (holds_inI ?_))
    rw [hz]
    refine holds_must (raB_ok _ _) (holds_must (raB_ok _ _) (holds_defE fun e he => holds_must (decide_eq_true (key e he)) ?_))
    refine holds_must (raB_ok _ _) (holds_must (raB_ok _ _) (holds_leaf ⟨rfl, ?_⟩))
    (repeat' (first | exact trivial | exact rfl | exact TS.eqv_refl _ _ | exact len_app _ _ | exact rows_appI | exact fun _ _ => eqvL_refl _ _ | exact fun i _ => eqvL_rowNums rfl _ i | apply And.intro))
  · refine holds_ite (fun h => absurd h (by decide)) (fun _ => ?_)
    simp only [beq_self_eq_true, ba_self, Bool.and_self, Bool.not_true]
    refine holds_ite (fun h => absurd h (by decide)) (fun _ => ?_)
    refine holds_ite (fun h => absurd h (by decide)) (fun _ => ?_)
    refine holds_must (raB_ok _ _) (holds_must hca (holds_inI ?_))
    rw [hz]
    refine holds_must (raB_ok _ _) (holds_must (raB_ok _ _) (holds_defE fun e he => holds_must (decide_eq_true (key e he)) ?_))
    refine holds_must (raB_ok _ _) (holds_must (raB_ok _ _) (holds_leaf ⟨rfl, ?_⟩))
    (repeat' (first | exact trivial | exact rfl | exact TS.eqv_refl _ _ | exact len_app _ _ | exact rows_appI | exact fun _ _ => eqvL_refl _ _ | exact fun i _ => eqvL_rowNums rfl _ i | apply And.intro))
end
def qStep : List QK := [.i .i64, .i .u8, .i .u32, .i .u8, .i .u8, .i .u8, .s, .i .u8, .i .u8, .i .u8, .i .u32, .i .u32, .i .u8, .i .u32, .i .u8, .b, .i .u8, .i .u8, .i .i64, .i .u8, .i .u32, .b, .s, .s, .s, .s, .b, .s, .s, .s, .s, .b, .s, .s, .s, .s, .b, .s, .s, .s, .s, .b, .s, .s, .s, .s, .b, .s, .s, .s, .s, .i .u32, .i .u8, .s, .i .u32, .i .u8, .s, .i .u32, .i .u8, .s, .i .u32, .i .u32, .i .u8, .i .u32, .i .u8, .i .u8, .i .u8, .s, .sl 52 51, .i .i64, .i .u32, .sl 52 51, .i .u32, .b, .s, .s, .s, .s, .b, .s, .s, .s, .s, .b, .s, .s, .s, .s, .b, .s, .s, .s, .s, .b, .s, .s, .s, .s, .b, .s, .s, .s, .s, .i .u32, .i .u8, .s, .i .u32, .i .u8, .s, .i .u32, .i .u8, .s, .i .u32, .i .u32, .i .u8, .i .u32, .i .u8, .i .u8, .i .u8, .s, .sl 52 51, .i .u32, .i .u32, .i .u8, .i .u32, .i .u8, .i .u8, .i .u8, .s, .i .u32, .i .u8, .i .u32, .i .u8, .i .u8, .i .u8, .s, .i .u8, .s, .i .u8, .s]
def qEnt : List QK := [.i .u32, .i .u32, .i .u8, .i .u32, .i .u8, .i .u8, .i .u8, .s]
def nthQ : Nat → List QC → QC
  | 0, q => hdQ q
  | n + 1, q => nthQ n (tlQ q)
theorem qall_nth {P : Program} {H : Type} {enc : TypeId × Value → H} {w : World} {base : Nat} {spare : Nat → Bool} {held : Bool} : ∀ (l : List QK) (q : List QC) (n : Nat) (k : QK), qall P enc w base spare held l q → l[n]? = some k → k.ok P enc w base spare held (nthQ n q)
  | [], _, _, _, _, h => by simp at h
  | k0 :: l, q, 0, k, h, e => by
    simp at e
    subst e
    exact h.1
  | k0 :: l, q, n + 1, k, h, e => qall_nth l (tlQ q) n k h.2 (by simpa using e)
section
variable (hd : Option Addr × Nat × Nat) (q0 : Nat → List QC) (p0 p1 p2 : Nat → Nat → List QC)
def cC (j n : Nat) : Num := (nthQ n (q0 j)).x
def hA (j : Nat) : Option Addr × Nat × Nat := (nthQ 68 (q0 j)).h
def hB (j : Nat) : Option Addr × Nat × Nat := (nthQ 71 (q0 j)).h
def hC (j : Nat) : Option Addr × Nat × Nat := (nthQ 120 (q0 j)).h
def fO : RoF := ⟨hd, 140, fun j => qvals qStep (q0 j)⟩
def fI (h : Option Addr × Nat × Nat) (p : Nat → List QC) : RoF := ⟨h, 8, fun m => qvals qEnt (p m)⟩
def cpF (f : RoF) : Prop := f = fO hd q0 ∨ ∃ j, j < hd.2.1 ∧ (f = fI (hA q0 j) (p0 j) ∨ f = fI (hB q0 j) (p1 j) ∨ f = fI (hC q0 j) (p2 j))
def cpC (E : Env) : Prop := E.hdr 0 = hd
theorem cpC_keep : CKeep (cpC hd) 1 := fun E E' h hc => by
  unfold cpC at hc ⊢
  rw [(h 0 Nat.zero_lt_one).2.1, hc]
theorem slIf_den (E : Env) (i : Int) (j k : Nat) (h : Option Addr × Nat × Nat) (e : (j : Int) = i → E.hdr k = h) : den E (.slIf (decide ((j : Int) = i)) k h) = .slice h.1 h.2.1 h.2.2 := by
  by_cases e0 : (j : Int) = i
  · rw [decide_eq_true e0]
    simp only [den, e e0]
  · rw [decide_eq_false e0]
    rfl
set_option maxHeartbeats 4000000 in
theorem row_den (E : Env) (k : Nat) (i : Int) (j : Nat) (e : (j : Int) = i → E.hdr k = hA q0 j ∧ E.hdr (k + 1) = hB q0 j ∧ E.hdr (k + 2) = hC q0 j) : denL E (cpRow k (cC q0) (hA q0) (hB q0) (hC q0) i j) = qvals qStep (q0 j) := by
  have e0 := slIf_den E i j (k + 0) (hA q0 j) fun h => (e h).1
  have e1 := slIf_den E i j (k + 1) (hB q0 j) fun h => (e h).2.1
  have e2 := slIf_den E i j (k + 2) (hC q0 j) fun h => (e h).2.2
  unfold cpRow
  simp only [denL, e0, e1, e2]
  rfl
end
section
variable (no n0 n1 n2 : Nat) (c : Nat → Nat → Num) (h0 h1 h2 : Nat → Option Addr × Nat × Nat) (s0 s1 s2 : Nat → List Num) (id sq : Int) (o : OpS) (bz : Bool) (ct rt : Int) (an : Nat) (r : Nat → List Num) (i : Int)
theorem cp_ah (τ0 : Tm) : (codeT Try.prog eeT 300 5 Try.f5.ntmps (Eng.ofL ((flat x5).take 2)) (cpL.tm (cpN id sq o bz ct rt an r i) ++ τ0) ((0, some (.lst (.sym (no : Int)) 140 (cpRow 1 c h0 h1 h2 (-1)) none)) :: cpL.heap (cpN id sq o bz ct rt an r i)) 7 (outX 1 ⟨some cpL, [(0, cpE)], some (lawT 4)⟩)).Holds fun r' => match r'.1 with
    | .normal => i < (no : Int) ∧ cpL.eqv r'.2 (cpN id sq o bz ct rt an r i)
    | .exit _ => cpE.eqv r'.2 ⟨[[], []], cpO id sq o bz ct rt an r⟩
    | .ret => False := by
  refine holds_of_eq (cp_a no c h0 h1 h2 id sq o bz ct rt an r i τ0) (holds_ite (fun h => ?_) fun _ => ?_)
  · refine holds_must (raB_ok _ _) (holds_must (raB_ok _ _) (holds_leaf ⟨of_decide_eq_true h, ?_⟩))
    (repeat' (first | exact trivial | exact rfl | exact TS.eqv_refl _ _ | exact len_app _ _ | exact rows_appI | exact fun _ _ => eqvL_refl _ _ | exact fun i _ => eqvL_rowNums rfl _ i | apply And.intro))
  · refine holds_must (raB_ok _ _) (holds_must (raB_ok _ _) (holds_leaf ?_))
    (repeat' (first | exact trivial | exact rfl | exact TS.eqv_refl _ _ | exact len_app _ _ | exact rows_appI | exact fun _ _ => eqvL_refl _ _ | exact fun i _ => eqvL_rowNums rfl _ i | apply And.intro))
set_option maxHeartbeats 16000000 in
theorem cp_bh (hi : 0 ≤ i) (hlt : i < (no : Int)) (τ0 : Tm) : (codeT Try.prog eeT 300 5 Try.f5.ntmps (Eng.ofL ((flat y5).take 3)) (cpL.tm (cpN id sq o bz ct rt an r i) ++ τ0) (cpNew no n0 n1 n2 8 c h0 h1 h2 s0 s1 s2 i (cpL.heap (cpN id sq o bz ct rt an r i))) 11 (outX 1 ⟨some cpS, [], some (lawT 4)⟩)).Holds fun r' => match r'.1 with
    | .normal => cpS.eqv r'.2 (cpM id sq o bz ct rt an r i (c i.toNat) n0 s0 n1 s1 n2 s2)
    | .exit _ => False
    | .ret => lawR .ret r'.2 := by
  refine holds_of_eq (cp_b1 no n0 n1 n2 c h0 h1 h2 s0 s1 s2 id sq o bz ct rt an r i τ0) ?_
  have hm : decide (0 ≤ i ∧ i < (no : Int)) = true := decide_eq_true ⟨hi, hlt⟩
  have hk : decide ((i.toNat : Int) = i) = true := decide_eq_true (by omega)
  (repeat' with_reducible (first | refine holds_must hm ?_ | refine holds_must hk ?_ | refine holds_inI ?_ | refine holds_must (raB_ok _ _) ?_ | refine holds_must (rbE_ok _ _) ?_ | refine holds_must (rowsB_en _ _) ?_ | refine holds_ite (fun _ => ?_) (fun _ => ?_)))
  all_goals first
    | exact holds_leaf rfl
    | (refine holds_leaf ?_; (repeat' (first | exact trivial | exact rfl | exact TS.eqv_refl _ _ | exact len_app _ _ | exact rows_appI | exact fun _ _ => eqvL_refl _ _ | exact fun i _ => eqvL_rowNums rfl _ i | apply And.intro)); done)
end
theorem QX_wide {p rt : Option TS} {xs : List (Nat × TS)} {R : Ex → EN → Prop} {ex : Ex} {m : Nat} {κ : Tm} {h : Heap} (q : QX ⟨p, [], rt⟩ R ex m κ h) : QX ⟨p, xs, rt⟩ R ex m κ h := by
  obtain ⟨t, en, h1, h2, h3⟩ := q
  cases ex with
  | normal => exact ⟨t, en, h1, h2, h3⟩
  | exit i => cases h1
  | ret => exact ⟨t, en, h1, h2, h3⟩
section
variable (hd : Option Addr × Nat × Nat) (q0 : Nat → List QC) (p0 p1 p2 : Nat → Nat → List QC)
def fEn (d : CpS × Int) : EN := cpNs d.1 d.2
def fIv (d : CpS × Int) : Prop := cpK d.1 d.2 ∧ 0 ≤ d.2 ∧ d.2 ≤ (hd.2.1 : Int)
def fQ : Ex → EN → Prop
  | .exit _, e => ∃ d : CpS, (d.an : Int) ≤ 60 ∧ cpE.eqv e ⟨[[], []], cpO d.id d.sq d.o d.bz d.ct d.rt d.an d.r⟩
  | .ret, e => lawR .ret e
  | .normal, _ => True
def fA (d : CpS × Int) : Ex → EN → Prop
  | .exit _, e => ∃ d : CpS, (d.an : Int) ≤ 60 ∧ cpE.eqv e ⟨[[], []], cpO d.id d.sq d.o d.bz d.ct d.rt d.an d.r⟩
  | .ret, e => lawR .ret e
  | .normal, e => d.2 < (hd.2.1 : Int) ∧ cpL.eqv e (fEn d)
def fB (d : CpS × Int) : Ex → EN → Prop
  | .normal, e => ∃ n0 s0 n1 s1 n2 s2, cpS.eqv e (cpM d.1.id d.1.sq d.1.o d.1.bz d.1.ct d.1.rt d.1.an d.1.r d.2 (cC q0 d.2.toNat) n0 s0 n1 s1 n2 s2)
  | .ret, e => lawR .ret e
  | .exit _, _ => False
theorem cp_new1 (E : Env) (hE : cpC hd E) : ∃ E1, Agree (· < 7) E E1 ∧ ∀ n ∈ [(⟨0, fO hd q0, cpRow 1 (cC q0) (hA q0) (hB q0) (hC q0) (-1)⟩ : New)], n.k < 7 ∧ cpF hd q0 p0 p1 p2 n.f ∧ E1.hdr n.k = n.f.hd ∧
    ∀ E', Agree (· < 7) E1 E' → ∀ j, j < n.f.hd.2.1 → (n.rows j).length = n.f.sz ∧ allScalar (n.rows j) = true ∧ denL E' (n.rows j) = n.f.vals j := by
  refine ⟨E, Agree.refl _ _, fun n hn => ?_⟩
  rw [List.mem_singleton.1 hn]
  exact ⟨by show 0 < 7; decide, .inl rfl, hE, fun E' _ j _ => ⟨rfl, rfl, row_den q0 E' 1 (-1) j fun h => absurd h (by omega)⟩⟩
theorem cp_new2 (i : Int) (hi : 0 ≤ i) (hlt : i < (hd.2.1 : Int)) (E : Env) (hE : cpC hd E) : ∃ E1, Agree (· < 7) E E1 ∧ ∀ n ∈ [(⟨0, fO hd q0, cpRow 8 (cC q0) (hA q0) (hB q0) (hC q0) i⟩ : New), ⟨8, fI (hA q0 i.toNat) (p0 i.toNat), instR rEnt fun m => nQ (p0 i.toNat m)⟩, ⟨9, fI (hB q0 i.toNat) (p1 i.toNat), instR rEnt fun m => nQ (p1 i.toNat m)⟩, ⟨10, fI (hC q0 i.toNat) (p2 i.toNat), instR rEnt fun m => nQ (p2 i.toNat m)⟩], n.k < 11 ∧ cpF hd q0 p0 p1 p2 n.f ∧ E1.hdr n.k = n.f.hd ∧
    ∀ E', Agree (· < 11) E1 E' → ∀ j, j < n.f.hd.2.1 → (n.rows j).length = n.f.sz ∧ allScalar (n.rows j) = true ∧ denL E' (n.rows j) = n.f.vals j := by
  have hE : E.hdr 0 = hd := hE
  have hj : i.toNat < hd.2.1 := by omega
  let E1 : Env := ((E.put 8 0 (hA q0 i.toNat) []).put 9 0 (hB q0 i.toNat) []).put 10 0 (hC q0 i.toNat) []
  have a8 : E1.hdr 8 = hA q0 i.toNat := rfl
  have a9 : E1.hdr 9 = hB q0 i.toNat := rfl
  have a10 : E1.hdr 10 = hC q0 i.toNat := rfl
  have a0 : E1.hdr 0 = hd := hE
  refine ⟨E1, ?_, fun n hn => ?_⟩
  · exact ((Env.put_agree (A := fun x => x < 7) E (by decide) _ _ _).trans (Env.put_agree (A := fun x => x < 7) _ (by decide) _ _ _) fun _ h => h).trans (Env.put_agree (A := fun x => x < 7) _ (by decide) _ _ _) fun _ h => h
  have inner : ∀ (k : Nat) (h : Option Addr × Nat × Nat) (p : Nat → List QC), k < 11 → E1.hdr k = h → cpF hd q0 p0 p1 p2 (fI h p) → k < 11 ∧ cpF hd q0 p0 p1 p2 (fI h p) ∧ E1.hdr k = (fI h p).hd ∧
      ∀ E', Agree (· < 11) E1 E' → ∀ j, j < (fI h p).hd.2.1 → (instR rEnt (fun m => nQ (p m)) j).length = 8 ∧ allScalar (instR rEnt (fun m => nQ (p m)) j) = true ∧ denL E' (instR rEnt (fun m => nQ (p m)) j) = (fI h p).vals j := fun k h p hk he hf =>
    ⟨hk, hf, he, fun E' _ j _ => ⟨instL_length _ _, instL_scalar _ _, (qvals_inst (l := qEnt) (p j) rfl E').symm⟩⟩
  rcases List.mem_cons.1 hn with rfl | hn
  · refine ⟨by show 0 < 11; decide, .inl rfl, a0, fun E' hE' j _ => ⟨rfl, rfl, row_den q0 E' 8 i j fun h => ?_⟩⟩
    have hji : i.toNat = j := by omega
    rw [(hE' 8 (by decide)).2.1, (hE' 9 (by decide)).2.1, (hE' 10 (by decide)).2.1, ← hji]
    exact ⟨a8, a9, a10⟩
  · rcases List.mem_cons.1 hn with rfl | hn
    · exact inner 8 _ _ (by decide) a8 (.inr ⟨_, hj, .inl rfl⟩)
    · rcases List.mem_cons.1 hn with rfl | hn
      · exact inner 9 _ _ (by decide) a9 (.inr ⟨_, hj, .inr (.inl rfl)⟩)
      · rw [List.mem_singleton.1 hn]
        exact inner 10 _ _ (by decide) a10 (.inr ⟨_, hj, .inr (.inr rfl)⟩)
theorem cp_heapL (d : CpS) (i : Int) (c : Nat → Num) (n0 : Nat) (s0 : Nat → List Num) (n1 : Nat) (s1 : Nat → List Num) (n2 : Nat) (s2 : Nat → List Num) : litsH cpS.hp (cpSL d.bz).hp (cpM d.id d.sq d.o d.bz d.ct d.rt d.an d.r i c n0 s0 n1 s1 n2 s2).o := by
  obtain ⟨id, sq, o, bz, ct, rt, an, r⟩ := d
  cases bz
  all_goals (refine ⟨rfl, .inr ⟨_, _, rfl, rfl, ?_⟩, rfl, .inl rfl, rfl, .inl rfl, rfl, .inr ⟨_, _, rfl, rfl, ?_⟩, rfl, .inl rfl, rfl, .inl rfl, rfl, .inl rfl, rfl, .inl rfl, rfl, .inl rfl, rfl, .inl rfl, trivial⟩
             all_goals exact ⟨.inl rfl, .inl rfl, .inl rfl, .inl rfl, .inl rfl, .inl rfl, .inl rfl, .inl rfl, .inr rfl, .inl rfl, .inl rfl, trivial⟩)
theorem holds_mono {R : Type} {t : Tree R} {Q Q' : R → Prop} (h : t.Holds Q) (hq : ∀ r, Q r → Q' r) : t.Holds Q' := by
  obtain ⟨r, h1, h2⟩ := h
  exact ⟨r, h1, hq r h2⟩
theorem HTL_wide {nt b : Nat} {l : List Code} {m : Nat} {κ : Tm} {h : Heap} {p rt : Option TS} {xs : List (Nat × TS)} {R : Ex → EN → Prop} (hc : HTL Try.prog nt b l m κ h (QX ⟨p, [], rt⟩ R)) : HTL Try.prog nt b l m κ h (QX ⟨p, xs, rt⟩ R) := by
  intro E a w hS
  refine wpL_mono (hc E a w hS) ?_
  rintro e a' w' ⟨ex, m', κ', h', E', rfl, q, s, x⟩
  exact ⟨ex, m', κ', h', E', rfl, QX_wide q, s, x⟩
def fR (d : CpS × Int) : Ex → EN → Prop
  | .normal, e => ∃ d', fIv hd d' ∧ ((hd.2.1 : Int) - d'.2).toNat < ((hd.2.1 : Int) - d.2).toNat ∧ cpL.eqv e (fEn d') ∧ ∀ ex e, fQ ex e → fQ ex e
  | ex, e => fQ ex e
theorem cp_round (hlen : hd.2.1 ≤ 60) (hwf : ∀ j, j < hd.2.1 → 0 ≤ (cC q0 j 131).I) (d : CpS × Int) (hI : fIv hd d) : HH (cpF hd q0 p0 p1 p2) (cpC hd) Try.f5.ntmps 1 (x5.wp Try.prog) 7 (cpL.tm (fEn d)) (cpL.heap (fEn d)) (QX ⟨some cpL, [(0, cpE)], some (lawT 4)⟩ (fR hd d)) := by
  obtain ⟨hK, h0, h1⟩ := hI
  have han : (d.1.an : Int) ≤ 60 := by have := hK.2.2.2.2.2.2.2.2.2; omega
  refine HH.cutG (cpC_keep hd) 2 (t1 := cpL) (p1 := ⟨some cpL, [(0, cpE)], some (lawT 4)⟩) (R1 := fA hd d) rfl ?_ ?_ ?_
  · refine HH.reveal (WP := fun Q a w => Go.Eng.wpL Try.prog ((flat x5).take 2) Q a w) (fun h hq => wpL_mono h hq) (m' := 7) [⟨0, fO hd q0, cpRow 1 (cC q0) (hA q0) (hB q0) (hC q0) (-1)⟩] (by decide) (by decide) (fun E hE => cp_new1 hd q0 p0 p1 p2 E hE) (HTL.runX eeTab mixed (n := 300) (by decide) (within_take in5x 2) (by decide) fun τ0 => ?_)
    refine holds_mono (cp_ah hd.2.1 (cC q0) (hA q0) (hB q0) (hC q0) d.1.id d.1.sq d.1.o d.1.bz d.1.ct d.1.rt d.1.an d.1.r d.2 τ0) ?_
    rintro ⟨ex, en⟩ h
    cases ex with
    | normal => exact h
    | exit _ => exact ⟨d.1, han, h⟩
    | ret => exact h.elim
  · rintro en ⟨hlt, he⟩
    refine HH.pre (WP := fun Q a w => Go.Eng.wpL Try.prog ((flat x5).drop 2) Q a w) (fun h hq => wpL_mono h hq) he ?_
    rw [bl5]
    refine HH.appG (t1 := cpL) (p1 := ⟨some cpL, [], some (lawT 4)⟩) (R1 := cpG d.2) (cpC_keep hd) rfl (HH.one (HH.blockX ?_)) ?_ ?_
    · refine HH.cutG (cpC_keep hd) 3 (t1 := cpS) (p1 := ⟨some cpS, [], some (lawT 4)⟩) (R1 := fB q0 d) rfl ?_ ?_ ?_
      · refine HH.reveal (WP := fun Q a w => Go.Eng.wpL Try.prog ((flat y5).take 3) Q a w) (fun h hq => wpL_mono h hq) (m' := 11) [⟨0, fO hd q0, cpRow 8 (cC q0) (hA q0) (hB q0) (hC q0) d.2⟩, ⟨8, fI (hA q0 d.2.toNat) (p0 d.2.toNat), instR rEnt fun m => nQ (p0 d.2.toNat m)⟩, ⟨9, fI (hB q0 d.2.toNat) (p1 d.2.toNat), instR rEnt fun m => nQ (p1 d.2.toNat m)⟩, ⟨10, fI (hC q0 d.2.toNat) (p2 d.2.toNat), instR rEnt fun m => nQ (p2 d.2.toNat m)⟩] (by decide) (by decide) (fun E hE => cp_new2 hd q0 p0 p1 p2 d.2 h0 hlt E hE) (HTL.runX eeTab mixed (n := 300) (by decide) (within_take in5y 3) (by decide) fun τ0 => ?_)
        refine holds_mono (cp_bh hd.2.1 (hA q0 d.2.toNat).2.1 (hB q0 d.2.toNat).2.1 (hC q0 d.2.toNat).2.1 (cC q0) (hA q0) (hB q0) (hC q0) (fun m => nQ (p0 d.2.toNat m)) (fun m => nQ (p1 d.2.toNat m)) (fun m => nQ (p2 d.2.toNat m)) d.1.id d.1.sq d.1.o d.1.bz d.1.ct d.1.rt d.1.an d.1.r d.2 h0 hlt τ0) ?_
        rintro ⟨ex, en⟩ h
        cases ex with
        | normal => exact ⟨_, _, _, _, _, _, h⟩
        | exit _ => exact h.elim
        | ret => exact h
      · rintro en ⟨n0, s0, n1, s1, n2, s2, he⟩
        rw [sp5]
        refine HH.appG (t1 := cpL) (p1 := ⟨some cpL, [], some (lawT 4)⟩) (R1 := cpG d.2) (cpC_keep hd) rfl ?_ ?_ ?_
        · refine HTg.hh (WP := fun Q a w => Go.Eng.wpL Try.prog [(flat y5).getD 3 .skip] Q a w) (fun h hq => wpL_mono h hq) (HTg.pre (WP := fun Q a w => Go.Eng.wpL Try.prog [(flat y5).getD 3 .skip] Q a w) (fun h hq => wpL_mono h hq) he ?_)
          refine HTg.heapD (WP := fun Q a w => Go.Eng.wpL Try.prog [(flat y5).getD 3 .skip] Q a w) (fun h hq => wpL_mono h hq) (h' := (cpSL d.1.bz).heap (cpM d.1.id d.1.sq d.1.o d.1.bz d.1.ct d.1.rt d.1.an d.1.r d.2 (cC q0 d.2.toNat) n0 s0 n1 s1 n2 s2)) (litsH_gt (cp_heapL d.1 d.2 (cC q0 d.2.toNat) n0 s0 n1 s1 n2 s2)) ?_
          refine HTL.runX eeTab mixed (n := 300) (by decide) in5w (by decide) fun τ0 => ?_
          have hq := hwf d.2.toNat (by omega)
          obtain ⟨⟨id, sq, o, bz, ct, rt, an, r⟩, i⟩ := d
          cases bz
          · exact cp_f id sq o ct rt an r i (cC q0 i.toNat) n0 s0 n1 s1 n2 s2 h0 (by have : i ≤ (hd.2.1 : Int) := h1; omega) hK τ0
          · exact cp_t id sq o ct rt an r i (cC q0 i.toNat) n0 s0 n1 s1 n2 s2 h0 (by have : i ≤ (hd.2.1 : Int) := h1; omega) hq hK τ0
        · rintro en ⟨d', hK', he⟩
          refine HTg.hh (WP := fun Q a w => Go.Eng.wpL Try.prog ((flat y5).drop 4) Q a w) (fun h hq => wpL_mono h hq) (HTg.pre (WP := fun Q a w => Go.Eng.wpL Try.prog ((flat y5).drop 4) Q a w) (fun h hq => wpL_mono h hq) he (HTL.runX eeTab mixed (n := 300) (by decide) (within_drop in5y 4) (by decide) fun τ0 => ?_))
          refine holds_mono (cp_cc d'.id d'.sq d'.o d'.bz d'.ct d'.rt d'.an d'.r d.2 h0 (by omega) hK' τ0) ?_
          rintro ⟨ex, en⟩ ⟨h1, h2⟩
          cases h1
          exact ⟨d', hK', h2⟩
        · intro ex t en hn g1 g2
          cases ex with
          | normal => exact absurd trivial hn
          | exit _ => cases g1
          | ret => exact ⟨g1, g2⟩
      · intro ex t en hn g1 g2
        cases ex with
        | normal => exact absurd trivial hn
        | exit _ => cases g1
        | ret => exact ⟨g1, g2⟩
    · rintro en ⟨d', hK', he⟩
      refine HTg.hh (WP := fun Q a w => Go.Eng.wpL Try.prog ((flat x5).drop 3) Q a w) (fun h hq => wpL_mono h hq) (HTg.pre (WP := fun Q a w => Go.Eng.wpL Try.prog ((flat x5).drop 3) Q a w) (fun h hq => wpL_mono h hq) he (HTL_wide (HTL.runX eeTab mixed (n := 300) (by decide) (within_drop in5x 3) (by decide) fun τ0 => ?_)))
      have iw : IntKind.i64.wrap (d.2 + 1) = d.2 + 1 := IntWalk.i64_in _ (by omega)
      refine holds_of_eq (cp_d d'.id d'.sq d'.o d'.bz d'.ct d'.rt d'.an d'.r d.2 τ0) (holds_inI ?_)
      rw [iw]
      refine holds_must (raB_ok _ _) (holds_must (raB_ok _ _) (holds_leaf ⟨(d', d.2 + 1), ⟨hK', by show 0 ≤ d.2 + 1; omega, by show d.2 + 1 ≤ (hd.2.1 : Int); omega⟩, by show ((hd.2.1 : Int) - (d.2 + 1)).toNat < ((hd.2.1 : Int) - d.2).toNat; omega, ?_, fun _ _ h => h⟩))
      (repeat' (first | exact trivial | exact rfl | exact TS.eqv_refl _ _ | exact len_app _ _ | exact rows_appI | exact fun _ _ => eqvL_refl _ _ | exact fun i _ => eqvL_rowNums rfl _ i | apply And.intro))
    · intro ex t en hn g1 g2
      cases ex with
      | normal => exact absurd trivial hn
      | exit _ => cases g1
      | ret => exact ⟨g1, g2⟩
  · intro ex t en hn g1 g2
    cases ex with
    | normal => exact absurd trivial hn
    | exit _ => exact ⟨g1, g2⟩
    | ret => exact ⟨g1, g2⟩
end
section
variable (hd : Option Addr × Nat × Nat) (q0 : Nat → List QC) (p0 p1 p2 : Nat → Nat → List QC)
theorem cp_loop (hlen : hd.2.1 ≤ 60) (hwf : ∀ j, j < hd.2.1 → 0 ≤ (cC q0 j 131).I) (d : CpS × Int) (hI : fIv hd d) : HH (cpF hd q0 p0 p1 p2) (cpC hd) Try.f5.ntmps 1 ((Code.loop x5).wp Try.prog) 7 (cpL.tm (fEn d)) (cpL.heap (fEn d)) (QX ⟨none, [(0, cpE)], some (lawT 4)⟩ fQ) := by
  refine HH.loop (cpC_keep hd) cpL _ _ fEn (fIv hd) (fun d => ((hd.2.1 : Int) - d.2).toNat) (fun _ => fQ) (fun d hI => ?_) d hI
  refine HH.mono (WP := fun Q a w => x5.wp Try.prog Q a w) (fun h hq => wp_mono h hq) (cp_round hd q0 p0 p1 p2 hlen hwf d hI) fun ex m κ h q => QX.mono (fun e he => ?_) q
  cases ex <;> exact he
def fP : Ex → EN → Prop
  | .normal, e => hd.2.1 ≤ 60 ∧ ∃ d : CpS, cpK d 0 ∧ cpL.eqv e (fEn (d, 0))
  | .ret, e => lawR .ret e
  | .exit _, _ => True
theorem cp_hh (id : Int) (hwf : ∀ j, j < hd.2.1 → 0 ≤ (cC q0 j 131).I) : HH (cpF hd q0 p0 p1 p2) (cpC hd) Try.f5.ntmps 1 (body5.wp Try.prog) 1 (argTm 0 [.int .u8 (.sym id), .sl 0]) [] (QX ⟨none, [], some (lawT 4)⟩ lawR) := by
  refine HH.cutG (cpC_keep hd) 7 (t1 := cpL) (p1 := ⟨some cpL, [], some (lawT 4)⟩) (R1 := fP hd) rfl ?_ ?_ ?_
  · refine HH.reveal (WP := fun Q a w => Go.Eng.wpL Try.prog ((flat body5).take 7) Q a w) (fun h hq => wpL_mono h hq) (m' := 1) [⟨0, fO hd q0, cpRow 1 (cC q0) (hA q0) (hB q0) (hC q0) (-1)⟩] (by decide) (by decide) (fun E hE => ⟨E, Agree.refl _ _, fun n hn => ?_⟩) (HTL.runX eeTab mixed (n := 300) (by decide) (within_take in5 7) (by decide) fun τ0 => holds_of_eq (cp_pre id hd.2.1 (cC q0) (hA q0) (hB q0) (hC q0) τ0) (holds_ite (fun _ => holds_leaf rfl) fun h => ?_))
    · rw [List.mem_singleton.1 hn]
      exact ⟨by show 0 < 1; decide, .inl rfl, hE, fun E' _ j _ => ⟨rfl, rfl, row_den q0 E' 1 (-1) j fun h => absurd h (by omega)⟩⟩
    · have hl : hd.2.1 ≤ 60 := by have := of_decide_eq_false h; omega
      refine holds_inI (holds_inI (holds_inI (holds_inI ?_)))
      obtain ⟨x, hx1, hx2, hx3, hx4⟩ : ∃ x : Int, 1 ≤ x ∧ x ≤ 3 ∧ (bif decide (3 < (bif decide (1 > id) then 1 else id)) then 3 else (bif decide (1 > id) then 1 else id)) = x ∧ (bif decide ((bif decide (3 < id) then 3 else id) > 1) then (bif decide (3 < id) then 3 else id) else 1) = x := by
        by_cases a : id < 1
        · refine ⟨1, by decide, by decide, ?_, ?_⟩
          · rw [decide_eq_true (show 1 > id from a)]; rfl
          · rw [decide_eq_false (show ¬ 3 < id by omega)]; simp only [cond_false]; rw [decide_eq_false (show ¬ id > 1 by omega)]; rfl
        · by_cases b : 3 < id
          · refine ⟨3, by decide, by decide, ?_, ?_⟩
            · rw [decide_eq_false (show ¬ 1 > id by omega)]; simp only [cond_false]; rw [decide_eq_true b]; rfl
            · rw [decide_eq_true b]; rfl
          · refine ⟨id, by omega, by omega, ?_, ?_⟩
            · rw [decide_eq_false (show ¬ 1 > id by omega)]; simp only [cond_false]; rw [decide_eq_false b]; rfl
            · rw [decide_eq_false b]; simp only [cond_false]
              by_cases e : id > 1
              · rw [decide_eq_true e]; rfl
              · rw [decide_eq_false e]; simp only [cond_false]; omega
      rw [hx3, hx4]
      refine holds_leaf ⟨hl, ⟨x, 0, oZ, false, 0, 0, 0, fun _ => []⟩, ⟨hx1, hx2, Int.le_refl _, Int.le_refl _, Int.le_refl _, fun _ => rfl, Int.le_refl _, Int.le_refl _, rfl, Int.le_refl _⟩, ?_⟩
      (repeat' (first | exact trivial | exact rfl | exact TS.eqv_refl _ _ | exact len_app _ _ | exact rows_appI | exact fun _ _ => eqvL_refl _ _ | exact fun i _ => eqvL_rowNums rfl _ i | apply And.intro))
  · rintro en ⟨hl, d, hK, he⟩
    refine HH.pre (WP := fun Q a w => Go.Eng.wpL Try.prog ((flat body5).drop 7) Q a w) (fun h hq => wpL_mono h hq) he (HH.loopThen (cpC_keep hd) lp5 (cp_loop hd q0 p0 p1 p2 hl hwf (d, 0) ⟨hK, Int.le_refl _, Int.natCast_nonneg _⟩) ?_ ?_)
    · rintro en ⟨d', hn, he⟩
      exact HTg.hh (WP := fun Q a w => Go.Eng.wpL Try.prog ((flat body5).drop 8) Q a w) (fun h hq => wpL_mono h hq) (HTg.pre (WP := fun Q a w => Go.Eng.wpL Try.prog ((flat body5).drop 8) Q a w) (fun h hq => wpL_mono h hq) he (HTL.runX eeTab mixed (n := 300) (by decide) (within_drop in5 8) (by decide) fun τ0 => cp_tl d'.id d'.sq d'.o d'.bz d'.ct d'.rt d'.an d'.r hn τ0))
    · exact fun en h => h
  · intro ex t en hn h1 h2
    cases ex with
    | normal => exact absurd trivial hn
    | exit _ => cases h1
    | ret => exact ⟨h1, h2⟩
end
theorem qk69 : qkT Try.prog 24 69 = some qStep := by kernel_rfl
theorem qk51 : qkT Try.prog 24 51 = some qEnt := by kernel_rfl
theorem cp_in {H : Type} {enc : TypeId × Value → H} (W : World) (hd : Option Addr × Nat × Nat) (q0 : Nat → List QC) (hall : ∀ i, i < hd.2.1 → qall Try.prog enc W 0 (fun _ => true) true qStep (q0 i)) (n : Nat) (hn : qStep[n]? = some (.sl 52 51)) :
    ∃ q : Nat → Nat → List QC, ∀ j, j < hd.2.1 → rowsV W (nthQ n (q0 j)).h 8 (fun m => qvals qEnt (q j m)) := by
  have inner : ∀ j, ∃ q : Nat → List QC, j < hd.2.1 → rowsV W (nthQ n (q0 j)).h 8 (fun m => qvals qEnt (q m)) := fun j => by
    by_cases hj : j < hd.2.1
    · obtain ⟨hu, fuel, x, hx⟩ := qall_nth qStep (q0 j) n _ (hall j hj) hn
      obtain ⟨q, _, _, hq⟩ := open_cellsQ (hd := (nthQ n (q0 j)).h) hu qk51 (by kernel_rfl) (by decide) hx
      exact ⟨q, fun _ => hq⟩
    · exact ⟨fun _ => [], fun h => absurd h hj⟩
  obtain ⟨q, hq⟩ := Classical.axiomOfChoice inner
  exact ⟨q, hq⟩
theorem cp_c5 {H : Type} {enc : TypeId × Value → H} (W : World) (id : Int) (hd : Option Addr × Nat × Nat) (q0 : Nat → List QC) (hall : ∀ i, i < hd.2.1 → qall Try.prog enc W 0 (fun _ => true) true qStep (q0 i)) (hs : rowsV W hd 140 (fun i => qvals qStep (q0 i))) :
    Calls Try.prog 5 #[.int .u8 id, .slice hd.1 hd.2.1 hd.2.2] W fun e W' => e = .returned (.bool true) ∧ Below W.heap.size W W' := by
  obtain ⟨p0, g0⟩ := cp_in W hd q0 hall 68 rfl
  obtain ⟨p1, g1⟩ := cp_in W hd q0 hall 71 rfl
  obtain ⟨p2, g2⟩ := cp_in W hd q0 hall 120 rfl
  have hwf : ∀ j, j < hd.2.1 → 0 ≤ (cC q0 j 131).I := fun j hj => by
    have h : (Lit.int .u32 (nthQ 131 (q0 j)).x.I).wf = true := qall_nth qStep (q0 j) 131 (.i .u32) (hall j hj) rfl
    show 0 ≤ (nthQ 131 (q0 j)).x.I
    have z : IntKind.u32.min = 0 := rfl
    simp [Lit.wf] at h
    omega
  refine law_hh (F := cpF hd q0 p0 p1 p2) (C := cpC hd) (args := [.int .u8 (.sym id), .sl 0]) (m := 1) (b := 1) (hdr := fun _ => hd) Try.func5 (by kernel_rfl) (by kernel_rfl) (by kernel_rfl) ?_ rfl (cp_hh hd q0 p0 p1 p2 id hwf) (fun E' hE => by simp [denL, den, (hE 0 Nat.zero_lt_one).2.1, SI.v])
  rintro f (rfl | ⟨j, hj, rfl | rfl | rfl⟩)
  · exact hs
  · exact g0 j hj
  · exact g1 j hj
  · exact g2 j hj
set_option maxRecDepth 100000 in
theorem plays_lifted (os : Os) (started : os.Started) (H : Type) (enc : TypeId × Value → H) :
    ReturnsInHanded {} Try.checked os 5 .any (Rows.clientPlaysSpec.pre6 enc Try.prog Try.f5 Rows.clientPlaysRow.domain false) (Rows.clientPlaysSpec.post enc Try.prog Try.f5 false true false false) := by
  refine law_lifted (C := Try.checked) Try.own started (by kernel_rfl) Try.func5
    (ChangeSpec.witness6 (enc := enc) (C := Try.checked) false ⟨#[], #[.int .u8 0, .slice none 0 0], []⟩ 8 (by kernel_rfl) (by kernel_rfl) (by kernel_rfl) (by kernel_rfl))
    Try.laidOut ?_ (B := 4) (by kernel_rfl) (by kernel_rfl) rfl ?_ ?_
  · intro t ht
    rw [Try.params5] at ht
    have : t = 5 ∨ t = 65 := by
      simp at ht
      first | exact ht | omega | (rcases ht with h | h | h <;> simp [h]) | grind
    rcases this with rfl | rfl <;> exact ⟨by kernel_rfl, of_decide_eq_true (by kernel_rfl)⟩
  · intro ds h
    rw [Try.params5] at h
    match ds, h with
    | [d1, d2], _ => rfl
  · intro W base args ds p hval hA hlt
    rw [Try.params5] at hA hval
    obtain ⟨v0, v1, d0, d1, p0, p1, rfl, rfl, rfl, h0, h1⟩ := trodAll_two hA
    obtain ⟨id, rfl, _, _, wi⟩ := open_int Try.underlying5 (hval 0 5 v0 rfl rfl) h0
    obtain ⟨hd, q, rfl, _, hall, hs⟩ := open_rowsQ Try.underlying65 qk69 (by kernel_rfl) (by decide) (hval 1 65 v1 rfl rfl) h1
    exact cp_c5 W id hd q hall hs

theorem clientPlays_holds : Rows.ClientPlaysSaid :=
  OpenClaim.holds_of_wide 5 Try.f5 rfl rfl rfl rfl rfl rfl rfl ⟨rfl, rfl, rfl, rfl, rfl⟩ rfl rfl rfl rfl rfl (by kernel_rfl) Try.func5 (by kernel_rfl)
    (of_decide_eq_true (by kernel_rfl)) (by unfold Func.isWrapper; rw [if_neg (by decide +kernel)]; exact ⟨rfl, rfl⟩)
    (fun os started H enc _ => plays_lifted os started H enc)
end Go.Proofs.Ytnfmdpelafaoaaa
