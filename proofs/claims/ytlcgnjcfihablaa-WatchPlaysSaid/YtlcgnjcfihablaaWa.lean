/- Reports: who reported, by the program and by the reference.
   Conditions: none. -/
import Derived.Test.YtlcgnjcfihablaaSs
set_option linter.unusedSimpArgs false
set_option linter.unusedVariables false
namespace Go.Proofs.Ytlcgnjcfihablaa
open Go.Eng Go.RowKit Go.ChangeShapes Go.WideShapes
set_option maxRecDepth 100000
def b25 : List TV := [.b, .b, .b, .b, .b, .b, .b, .b, .b, .b, .b, .b, .b, .b, .b, .b, .b, .b, .b, .b, .b, .b, .b, .b, .b]
def on25 (m : Nat → Bool) : List Num := [.b (m 0), .b (m 1), .b (m 2), .b (m 3), .b (m 4), .b (m 5), .b (m 6), .b (m 7), .b (m 8), .b (m 9), .b (m 10), .b (m 11), .b (m 12), .b (m 13), .b (m 14), .b (m 15), .b (m 16), .b (m 17), .b (m 18), .b (m 19), .b (m 20), .b (m 21), .b (m 22), .b (m 23), .b (m 24)]
noncomputable def body34 : Code := Try.f34.body.getD .skip
noncomputable def x34 : Code := lp ((flat body34).getD 5 .skip)
noncomputable def body35 : Code := Try.f35.body.getD .skip
noncomputable def x35 : Code := lp ((flat body35).getD 3 .skip)
def ofT : TS := ⟨[0, 1], [.one (.ptr 0 0), .one (.i .i64)], [(0, .box b25)], 1⟩
def ofH : List (Nat × TO) := [(0, .box b25), (1, .lst none [.i .i64] (some 2)), (2, .tok)]
def ofL : TS := ⟨[5, 16, 17], [.one (.sl 1), .agg [.b, .b, .b, .b, .b], .one (.i .i64)], ofH, 3⟩
def ofE : TS := ⟨[5], [.one (.sl 1)], ofH, 3⟩
def ofR : TS := ⟨[4], [.one (.sl 1)], ofH, 3⟩
def rofL : TS := ⟨[0, 1, 5, 6], [.one (.ptr 0 0), .one (.i .i64), .one (.sl 1), .one (.i .i64)], ofH, 3⟩
def ofO (m : Nat → Bool) (l : List Int) : List ON := [.box (on25 m), .lst l.length (rowI l), .tok]
def ofN (g : Nat → Bool) : Nat → List Int
  | 0 => []
  | n + 1 => if g n then ofN g n ++ [(n : Int)] else ofN g n
def ofS (m : Nat → Bool) (a : Int) : List Int := if 0 ≤ a ∧ a < 5 then ofN (fun i => m (5 * a.toNat + i)) 5 else []
theorem of_pre (m : Nat → Bool) (a : Int) (τ0 : Tm) : codeT Try.prog noTab 300 34 Try.f34.ntmps (Eng.ofL ((flat body34).take 5)) (ofT.tm ⟨[[], [.i a]], [.box (on25 m)]⟩ ++ τ0) (ofT.heap ⟨[[], [.i a]], [.box (on25 m)]⟩) 1 (outX 1 ⟨some ofL, [], some ofR⟩) =
  .ite (decide (a ≥ 0)) (.ite (!decide (a < 5)) (.leaf (.ret, ⟨[[.u]], [.box (on25 m), .lst 0 fun (x : Nat) => [], .tok]⟩)) (.ite (decide (a = 0)) (.leaf (.normal, ⟨[[.u], [.b (m 0), .b (m 1), .b (m 2), .b (m 3), .b (m
  4)], [.i 0]], [.box (on25 m), .lst 0 fun (x : Nat) => [], .tok]⟩)) (.ite (decide (a = 1)) (.leaf (.normal, ⟨[[.u], [.b (m 5), .b (m 6), .b (m 7), .b (m 8), .b (m 9)], [.i 0]], [.box (on25 m), .lst 0 fun (x : Nat) => [],
  .tok]⟩)) (.ite (decide (a = 2)) (.leaf (.normal, ⟨[[.u], [.b (m 10), .b (m 11), .b (m 12), .b (m 13), .b (m 14)], [.i 0]], [.box (on25 m), .lst 0 fun (x : Nat) => [], .tok]⟩)) (.ite (decide (a = 3)) (.leaf (.normal,
  ⟨[[.u], [.b (m 15), .b (m 16), .b (m 17), .b (m 18), .b (m 19)], [.i 0]], [.box (on25 m), .lst 0 fun (x : Nat) => [], .tok]⟩)) (.ite (decide (a = 4)) (.leaf (.normal, ⟨[[.u], [.b (m 20), .b (m 21), .b (m 22), .b (m 23),
  .b (m 24)], [.i 0]], [.box (on25 m), .lst 0 fun (x : Nat) => [], .tok]⟩)) (.must false (.fail "index")))))))) (.leaf (.ret, ⟨[[.u]], [.box (on25 m), .lst 0 fun (x : Nat) => [], .tok]⟩)) := by kernel_rfl
theorem of_x (m g : Nat → Bool) (l : List Int) (i : Int) (τ0 : Tm) : codeT Try.prog noTab 300 34 Try.f34.ntmps x34 (ofL.tm ⟨[[], [.b (g 0), .b (g 1), .b (g 2), .b (g 3), .b (g 4)], [.i i]], ofO m l⟩ ++ τ0) (ofL.heap ⟨[[], [.b (g 0), .b (g 1), .b (g 2), .b (g 3), .b (g 4)], [.i i]], ofO m l⟩) 3 (outX 1 ⟨some ofL, [(0, ofE)], some ofR⟩) =
  .ite (decide (i < 5)) (.ite (decide (i = 0)) (.ite (g 0) (.must (decide (((l.length : Int) + 1) * 8 ≤ 1099511627776 ∧ (l.length : Int) + 1 ≤ 1099511627776)) (.defI (IntKind.i64.wrap (i + 1)) fun z0 => .must (rowsB [.i
  .i64] (catRows (.sym (l.length : Int)) (instR [.i .i64] (rowI l)) (chunk 1 [.int .i64 (.sym i)])) ((l.length : Int) + 1).toNat) (.leaf (.normal, ⟨[[.u], [.b (g 0), .b (g 1), .b (g 2), .b (g 3), .b (g 4)], [.i z0]], [.box
  (on25 m), .lst ((l.length : Int) + 1).toNat (rowNums [.i .i64] (catRows (.sym (l.length : Int)) (instR [.i .i64] (rowI l)) (chunk 1 [.int .i64 (.sym i)]))), .tok]⟩)))) (.defI (IntKind.i64.wrap (i + 1)) fun z1 => .must
  (rowsB [.i .i64] (instR [.i .i64] (rowI l)) l.length) (.leaf (.normal, ⟨[[.u], [.b (g 0), .b (g 1), .b (g 2), .b (g 3), .b (g 4)], [.i z1]], ofO m l⟩)))) (.ite (decide (i = 1)) (.ite (g 1) (.must (decide (((l.length :
  Int) + 1) * 8 ≤ 1099511627776 ∧ (l.length : Int) + 1 ≤ 1099511627776)) (.defI (IntKind.i64.wrap (i + 1)) fun z2 => .must (rowsB [.i .i64] (catRows (.sym (l.length : Int)) (instR [.i .i64] (rowI l)) (chunk 1 [.int .i64
  (.sym i)])) ((l.length : Int) + 1).toNat) (.leaf (.normal, ⟨[[.u], [.b (g 0), .b (g 1), .b (g 2), .b (g 3), .b (g 4)], [.i z2]], [.box (on25 m), .lst ((l.length : Int) + 1).toNat (rowNums [.i .i64] (catRows (.sym
  (l.length : Int)) (instR [.i .i64] (rowI l)) (chunk 1 [.int .i64 (.sym i)]))), .tok]⟩)))) (.defI (IntKind.i64.wrap (i + 1)) fun z3 => .must (rowsB [.i .i64] (instR [.i .i64] (rowI l)) l.length) (.leaf (.normal, ⟨[[.u],
  [.b (g 0), .b (g 1), .b (g 2), .b (g 3), .b (g 4)], [.i z3]], ofO m l⟩)))) (.ite (decide (i = 2)) (.ite (g 2) (.must (decide (((l.length : Int) + 1) * 8 ≤ 1099511627776 ∧ (l.length : Int) + 1 ≤ 1099511627776)) (.defI
  (IntKind.i64.wrap (i + 1)) fun z4 => .must (rowsB [.i .i64] (catRows (.sym (l.length : Int)) (instR [.i .i64] (rowI l)) (chunk 1 [.int .i64 (.sym i)])) ((l.length : Int) + 1).toNat) (.leaf (.normal, ⟨[[.u], [.b (g 0), .b
  (g 1), .b (g 2), .b (g 3), .b (g 4)], [.i z4]], [.box (on25 m), .lst ((l.length : Int) + 1).toNat (rowNums [.i .i64] (catRows (.sym (l.length : Int)) (instR [.i .i64] (rowI l)) (chunk 1 [.int .i64 (.sym i)]))),
  .tok]⟩)))) (.defI (IntKind.i64.wrap (i + 1)) fun z5 => .must (rowsB [.i .i64] (instR [.i .i64] (rowI l)) l.length) (.leaf (.normal, ⟨[[.u], [.b (g 0), .b (g 1), .b (g 2), .b (g 3), .b (g 4)], [.i z5]], ofO m l⟩)))) (.ite
  (decide (i = 3)) (.ite (g 3) (.must (decide (((l.length : Int) + 1) * 8 ≤ 1099511627776 ∧ (l.length : Int) + 1 ≤ 1099511627776)) (.defI (IntKind.i64.wrap (i + 1)) fun z6 => .must (rowsB [.i .i64] (catRows (.sym (l.length
  : Int)) (instR [.i .i64] (rowI l)) (chunk 1 [.int .i64 (.sym i)])) ((l.length : Int) + 1).toNat) (.leaf (.normal, ⟨[[.u], [.b (g 0), .b (g 1), .b (g 2), .b (g 3), .b (g 4)], [.i z6]], [.box (on25 m), .lst ((l.length :
  Int) + 1).toNat (rowNums [.i .i64] (catRows (.sym (l.length : Int)) (instR [.i .i64] (rowI l)) (chunk 1 [.int .i64 (.sym i)]))), .tok]⟩)))) (.defI (IntKind.i64.wrap (i + 1)) fun z7 => .must (rowsB [.i .i64] (instR [.i
  .i64] (rowI l)) l.length) (.leaf (.normal, ⟨[[.u], [.b (g 0), .b (g 1), .b (g 2), .b (g 3), .b (g 4)], [.i z7]], ofO m l⟩)))) (.ite (decide (i = 4)) (.ite (g 4) (.must (decide (((l.length : Int) + 1) * 8 ≤ 1099511627776
  ∧ (l.length : Int) + 1 ≤ 1099511627776)) (.defI (IntKind.i64.wrap (i + 1)) fun z8 => .must (rowsB [.i .i64] (catRows (.sym (l.length : Int)) (instR [.i .i64] (rowI l)) (chunk 1 [.int .i64 (.sym i)])) ((l.length : Int) +
  1).toNat) (.leaf (.normal, ⟨[[.u], [.b (g 0), .b (g 1), .b (g 2), .b (g 3), .b (g 4)], [.i z8]], [.box (on25 m), .lst ((l.length : Int) + 1).toNat (rowNums [.i .i64] (catRows (.sym (l.length : Int)) (instR [.i .i64]
  (rowI l)) (chunk 1 [.int .i64 (.sym i)]))), .tok]⟩)))) (.defI (IntKind.i64.wrap (i + 1)) fun z9 => .must (rowsB [.i .i64] (instR [.i .i64] (rowI l)) l.length) (.leaf (.normal, ⟨[[.u], [.b (g 0), .b (g 1), .b (g 2), .b (g
  3), .b (g 4)], [.i z9]], ofO m l⟩)))) (.must false (.fail "index"))))))) (.must (rowsB [.i .i64] (instR [.i .i64] (rowI l)) l.length) (.leaf (.exit 0, ⟨[[.u]], ofO m l⟩))) := by kernel_rfl
theorem of_tail (m : Nat → Bool) (l : List Int) (τ0 : Tm) : codeT Try.prog noTab 300 34 Try.f34.ntmps (Eng.ofL ((flat body34).drop 6)) (ofE.tm ⟨[[]], ofO m l⟩ ++ τ0) (ofE.heap ⟨[[]], ofO m l⟩) 3 (outX 1 ⟨none, [], some ofR⟩) =
  .must (rowsB [.i .i64] (instR [.i .i64] (rowI l)) l.length) (.leaf (.ret, ⟨[[.u]], ofO m l⟩)) := by kernel_rfl
theorem rof_pre (m : Nat → Bool) (a : Int) (τ0 : Tm) : codeT Try.prog noTab 300 35 Try.f35.ntmps (Eng.ofL ((flat body35).take 3)) (ofT.tm ⟨[[], [.i a]], [.box (on25 m)]⟩ ++ τ0) (ofT.heap ⟨[[], [.i a]], [.box (on25 m)]⟩) 1 (outX 1 ⟨some rofL, [], some ofR⟩) =
  .leaf (.normal, ⟨[[.u], [.i a], [.u], [.i 0]], [.box (on25 m), .lst 0 fun (x : Nat) => [], .tok]⟩) := by kernel_rfl
theorem rof_x (m : Nat → Bool) (l : List Int) (a i : Int) (τ0 : Tm) : codeT Try.prog noTab 300 35 Try.f35.ntmps x35 (rofL.tm ⟨[[], [.i a], [], [.i i]], ofO m l⟩ ++ τ0) (rofL.heap ⟨[[], [.i a], [], [.i i]], ofO m l⟩) 3 (outX 1 ⟨some rofL, [(0, ofE)], some ofR⟩) =
  .ite (decide (i < 5)) (.ite (decide (a ≥ 0)) (.ite (decide (a < 5)) (.ite (decide (a = 0)) (.ite (decide (i = 0)) (.ite (m 0) (.must (decide (((l.length : Int) + 1) * 8 ≤ 1099511627776 ∧ (l.length : Int) + 1 ≤
  1099511627776)) (.defI (IntKind.i64.wrap (i + 1)) fun z0 => .must (rowsB [.i .i64] (catRows (.sym (l.length : Int)) (instR [.i .i64] (rowI l)) (chunk 1 [.int .i64 (.sym i)])) ((l.length : Int) + 1).toNat) (.leaf
  (.normal, ⟨[[.u], [.i a], [.u], [.i z0]], [.box (on25 m), .lst ((l.length : Int) + 1).toNat (rowNums [.i .i64] (catRows (.sym (l.length : Int)) (instR [.i .i64] (rowI l)) (chunk 1 [.int .i64 (.sym i)]))), .tok]⟩))))
  (.defI (IntKind.i64.wrap (i + 1)) fun z1 => .must (rowsB [.i .i64] (instR [.i .i64] (rowI l)) l.length) (.leaf (.normal, ⟨[[.u], [.i a], [.u], [.i z1]], ofO m l⟩)))) (.ite (decide (i = 1)) (.ite (m 1) (.must (decide
  (((l.length : Int) + 1) * 8 ≤ 1099511627776 ∧ (l.length : Int) + 1 ≤ 1099511627776)) (.defI (IntKind.i64.wrap (i + 1)) fun z2 => .must (rowsB [.i .i64] (catRows (.sym (l.length : Int)) (instR [.i .i64] (rowI l)) (chunk 1
  [.int .i64 (.sym i)])) ((l.length : Int) + 1).toNat) (.leaf (.normal, ⟨[[.u], [.i a], [.u], [.i z2]], [.box (on25 m), .lst ((l.length : Int) + 1).toNat (rowNums [.i .i64] (catRows (.sym (l.length : Int)) (instR [.i .i64]
  (rowI l)) (chunk 1 [.int .i64 (.sym i)]))), .tok]⟩)))) (.defI (IntKind.i64.wrap (i + 1)) fun z3 => .must (rowsB [.i .i64] (instR [.i .i64] (rowI l)) l.length) (.leaf (.normal, ⟨[[.u], [.i a], [.u], [.i z3]], ofO m l⟩))))
  (.ite (decide (i = 2)) (.ite (m 2) (.must (decide (((l.length : Int) + 1) * 8 ≤ 1099511627776 ∧ (l.length : Int) + 1 ≤ 1099511627776)) (.defI (IntKind.i64.wrap (i + 1)) fun z4 => .must (rowsB [.i .i64] (catRows (.sym
  (l.length : Int)) (instR [.i .i64] (rowI l)) (chunk 1 [.int .i64 (.sym i)])) ((l.length : Int) + 1).toNat) (.leaf (.normal, ⟨[[.u], [.i a], [.u], [.i z4]], [.box (on25 m), .lst ((l.length : Int) + 1).toNat (rowNums [.i
  .i64] (catRows (.sym (l.length : Int)) (instR [.i .i64] (rowI l)) (chunk 1 [.int .i64 (.sym i)]))), .tok]⟩)))) (.defI (IntKind.i64.wrap (i + 1)) fun z5 => .must (rowsB [.i .i64] (instR [.i .i64] (rowI l)) l.length)
  (.leaf (.normal, ⟨[[.u], [.i a], [.u], [.i z5]], ofO m l⟩)))) (.ite (decide (i = 3)) (.ite (m 3) (.must (decide (((l.length : Int) + 1) * 8 ≤ 1099511627776 ∧ (l.length : Int) + 1 ≤ 1099511627776)) (.defI
  (IntKind.i64.wrap (i + 1)) fun z6 => .must (rowsB [.i .i64] (catRows (.sym (l.length : Int)) (instR [.i .i64] (rowI l)) (chunk 1 [.int .i64 (.sym i)])) ((l.length : Int) + 1).toNat) (.leaf (.normal, ⟨[[.u], [.i a], [.u],
  [.i z6]], [.box (on25 m), .lst ((l.length : Int) + 1).toNat (rowNums [.i .i64] (catRows (.sym (l.length : Int)) (instR [.i .i64] (rowI l)) (chunk 1 [.int .i64 (.sym i)]))), .tok]⟩)))) (.defI (IntKind.i64.wrap (i + 1))
  fun z7 => .must (rowsB [.i .i64] (instR [.i .i64] (rowI l)) l.length) (.leaf (.normal, ⟨[[.u], [.i a], [.u], [.i z7]], ofO m l⟩)))) (.ite (decide (i = 4)) (.ite (m 4) (.must (decide (((l.length : Int) + 1) * 8 ≤
  1099511627776 ∧ (l.length : Int) + 1 ≤ 1099511627776)) (.defI (IntKind.i64.wrap (i + 1)) fun z8 => .must (rowsB [.i .i64] (catRows (.sym (l.length : Int)) (instR [.i .i64] (rowI l)) (chunk 1 [.int .i64 (.sym i)]))
  ((l.length : Int) + 1).toNat) (.leaf (.normal, ⟨[[.u], [.i a], [.u], [.i z8]], [.box (on25 m), .lst ((l.length : Int) + 1).toNat (rowNums [.i .i64] (catRows (.sym (l.length : Int)) (instR [.i .i64] (rowI l)) (chunk 1
  [.int .i64 (.sym i)]))), .tok]⟩)))) (.defI (IntKind.i64.wrap (i + 1)) fun z9 => .must (rowsB [.i .i64] (instR [.i .i64] (rowI l)) l.length) (.leaf (.normal, ⟨[[.u], [.i a], [.u], [.i z9]], ofO m l⟩)))) (.must false
  (.fail "index"))))))) (.ite (decide (a = 1)) (.ite (decide (i = 0)) (.ite (m 5) (.must (decide (((l.length : Int) + 1) * 8 ≤ 1099511627776 ∧ (l.length : Int) + 1 ≤ 1099511627776)) (.defI (IntKind.i64.wrap (i + 1)) fun
  z10 => .must (rowsB [.i .i64] (catRows (.sym (l.length : Int)) (instR [.i .i64] (rowI l)) (chunk 1 [.int .i64 (.sym i)])) ((l.length : Int) + 1).toNat) (.leaf (.normal, ⟨[[.u], [.i a], [.u], [.i z10]], [.box (on25 m),
  .lst ((l.length : Int) + 1).toNat (rowNums [.i .i64] (catRows (.sym (l.length : Int)) (instR [.i .i64] (rowI l)) (chunk 1 [.int .i64 (.sym i)]))), .tok]⟩)))) (.defI (IntKind.i64.wrap (i + 1)) fun z11 => .must (rowsB [.i
  .i64] (instR [.i .i64] (rowI l)) l.length) (.leaf (.normal, ⟨[[.u], [.i a], [.u], [.i z11]], ofO m l⟩)))) (.ite (decide (i = 1)) (.ite (m 6) (.must (decide (((l.length : Int) + 1) * 8 ≤ 1099511627776 ∧ (l.length : Int) +
  1 ≤ 1099511627776)) (.defI (IntKind.i64.wrap (i + 1)) fun z12 => .must (rowsB [.i .i64] (catRows (.sym (l.length : Int)) (instR [.i .i64] (rowI l)) (chunk 1 [.int .i64 (.sym i)])) ((l.length : Int) + 1).toNat) (.leaf
  (.normal, ⟨[[.u], [.i a], [.u], [.i z12]], [.box (on25 m), .lst ((l.length : Int) + 1).toNat (rowNums [.i .i64] (catRows (.sym (l.length : Int)) (instR [.i .i64] (rowI l)) (chunk 1 [.int .i64 (.sym i)]))), .tok]⟩))))
  (.defI (IntKind.i64.wrap (i + 1)) fun z13 => .must (rowsB [.i .i64] (instR [.i .i64] (rowI l)) l.length) (.leaf (.normal, ⟨[[.u], [.i a], [.u], [.i z13]], ofO m l⟩)))) (.ite (decide (i = 2)) (.ite (m 7) (.must (decide
  (((l.length : Int) + 1) * 8 ≤ 1099511627776 ∧ (l.length : Int) + 1 ≤ 1099511627776)) (.defI (IntKind.i64.wrap (i + 1)) fun z14 => .must (rowsB [.i .i64] (catRows (.sym (l.length : Int)) (instR [.i .i64] (rowI l)) (chunk
  1 [.int .i64 (.sym i)])) ((l.length : Int) + 1).toNat) (.leaf (.normal, ⟨[[.u], [.i a], [.u], [.i z14]], [.box (on25 m), .lst ((l.length : Int) + 1).toNat (rowNums [.i .i64] (catRows (.sym (l.length : Int)) (instR [.i
  .i64] (rowI l)) (chunk 1 [.int .i64 (.sym i)]))), .tok]⟩)))) (.defI (IntKind.i64.wrap (i + 1)) fun z15 => .must (rowsB [.i .i64] (instR [.i .i64] (rowI l)) l.length) (.leaf (.normal, ⟨[[.u], [.i a], [.u], [.i z15]], ofO
  m l⟩)))) (.ite (decide (i = 3)) (.ite (m 8) (.must (decide (((l.length : Int) + 1) * 8 ≤ 1099511627776 ∧ (l.length : Int) + 1 ≤ 1099511627776)) (.defI (IntKind.i64.wrap (i + 1)) fun z16 => .must (rowsB [.i .i64] (catRows
  (.sym (l.length : Int)) (instR [.i .i64] (rowI l)) (chunk 1 [.int .i64 (.sym i)])) ((l.length : Int) + 1).toNat) (.leaf (.normal, ⟨[[.u], [.i a], [.u], [.i z16]], [.box (on25 m), .lst ((l.length : Int) + 1).toNat
  (rowNums [.i .i64] (catRows (.sym (l.length : Int)) (instR [.i .i64] (rowI l)) (chunk 1 [.int .i64 (.sym i)]))), .tok]⟩)))) (.defI (IntKind.i64.wrap (i + 1)) fun z17 => .must (rowsB [.i .i64] (instR [.i .i64] (rowI l))
  l.length) (.leaf (.normal, ⟨[[.u], [.i a], [.u], [.i z17]], ofO m l⟩)))) (.ite (decide (i = 4)) (.ite (m 9) (.must (decide (((l.length : Int) + 1) * 8 ≤ 1099511627776 ∧ (l.length : Int) + 1 ≤ 1099511627776)) (.defI
  (IntKind.i64.wrap (i + 1)) fun z18 => .must (rowsB [.i .i64] (catRows (.sym (l.length : Int)) (instR [.i .i64] (rowI l)) (chunk 1 [.int .i64 (.sym i)])) ((l.length : Int) + 1).toNat) (.leaf (.normal, ⟨[[.u], [.i a],
  [.u], [.i z18]], [.box (on25 m), .lst ((l.length : Int) + 1).toNat (rowNums [.i .i64] (catRows (.sym (l.length : Int)) (instR [.i .i64] (rowI l)) (chunk 1 [.int .i64 (.sym i)]))), .tok]⟩)))) (.defI (IntKind.i64.wrap (i +
  1)) fun z19 => .must (rowsB [.i .i64] (instR [.i .i64] (rowI l)) l.length) (.leaf (.normal, ⟨[[.u], [.i a], [.u], [.i z19]], ofO m l⟩)))) (.must false (.fail "index"))))))) (.ite (decide (a = 2)) (.ite (decide (i = 0))
  (.ite (m 10) (.must (decide (((l.length : Int) + 1) * 8 ≤ 1099511627776 ∧ (l.length : Int) + 1 ≤ 1099511627776)) (.defI (IntKind.i64.wrap (i + 1)) fun z20 => .must (rowsB [.i .i64] (catRows (.sym (l.length : Int)) (instR
  [.i .i64] (rowI l)) (chunk 1 [.int .i64 (.sym i)])) ((l.length : Int) + 1).toNat) (.leaf (.normal, ⟨[[.u], [.i a], [.u], [.i z20]], [.box (on25 m), .lst ((l.length : Int) + 1).toNat (rowNums [.i .i64] (catRows (.sym
  (l.length : Int)) (instR [.i .i64] (rowI l)) (chunk 1 [.int .i64 (.sym i)]))), .tok]⟩)))) (.defI (IntKind.i64.wrap (i + 1)) fun z21 => .must (rowsB [.i .i64] (instR [.i .i64] (rowI l)) l.length) (.leaf (.normal, ⟨[[.u],
  [.i a], [.u], [.i z21]], ofO m l⟩)))) (.ite (decide (i = 1)) (.ite (m 11) (.must (decide (((l.length : Int) + 1) * 8 ≤ 1099511627776 ∧ (l.length : Int) + 1 ≤ 1099511627776)) (.defI (IntKind.i64.wrap (i + 1)) fun z22 =>
  .must (rowsB [.i .i64] (catRows (.sym (l.length : Int)) (instR [.i .i64] (rowI l)) (chunk 1 [.int .i64 (.sym i)])) ((l.length : Int) + 1).toNat) (.leaf (.normal, ⟨[[.u], [.i a], [.u], [.i z22]], [.box (on25 m), .lst
  ((l.length : Int) + 1).toNat (rowNums [.i .i64] (catRows (.sym (l.length : Int)) (instR [.i .i64] (rowI l)) (chunk 1 [.int .i64 (.sym i)]))), .tok]⟩)))) (.defI (IntKind.i64.wrap (i + 1)) fun z23 => .must (rowsB [.i .i64]
  (instR [.i .i64] (rowI l)) l.length) (.leaf (.normal, ⟨[[.u], [.i a], [.u], [.i z23]], ofO m l⟩)))) (.ite (decide (i = 2)) (.ite (m 12) (.must (decide (((l.length : Int) + 1) * 8 ≤ 1099511627776 ∧ (l.length : Int) + 1 ≤
  1099511627776)) (.defI (IntKind.i64.wrap (i + 1)) fun z24 => .must (rowsB [.i .i64] (catRows (.sym (l.length : Int)) (instR [.i .i64] (rowI l)) (chunk 1 [.int .i64 (.sym i)])) ((l.length : Int) + 1).toNat) (.leaf
  (.normal, ⟨[[.u], [.i a], [.u], [.i z24]], [.box (on25 m), .lst ((l.length : Int) + 1).toNat (rowNums [.i .i64] (catRows (.sym (l.length : Int)) (instR [.i .i64] (rowI l)) (chunk 1 [.int .i64 (.sym i)]))), .tok]⟩))))
  (.defI (IntKind.i64.wrap (i + 1)) fun z25 => .must (rowsB [.i .i64] (instR [.i .i64] (rowI l)) l.length) (.leaf (.normal, ⟨[[.u], [.i a], [.u], [.i z25]], ofO m l⟩)))) (.ite (decide (i = 3)) (.ite (m 13) (.must (decide
  (((l.length : Int) + 1) * 8 ≤ 1099511627776 ∧ (l.length : Int) + 1 ≤ 1099511627776)) (.defI (IntKind.i64.wrap (i + 1)) fun z26 => .must (rowsB [.i .i64] (catRows (.sym (l.length : Int)) (instR [.i .i64] (rowI l)) (chunk
  1 [.int .i64 (.sym i)])) ((l.length : Int) + 1).toNat) (.leaf (.normal, ⟨[[.u], [.i a], [.u], [.i z26]], [.box (on25 m), .lst ((l.length : Int) + 1).toNat (rowNums [.i .i64] (catRows (.sym (l.length : Int)) (instR [.i
  .i64] (rowI l)) (chunk 1 [.int .i64 (.sym i)]))), .tok]⟩)))) (.defI (IntKind.i64.wrap (i + 1)) fun z27 => .must (rowsB [.i .i64] (instR [.i .i64] (rowI l)) l.length) (.leaf (.normal, ⟨[[.u], [.i a], [.u], [.i z27]], ofO
  m l⟩)))) (.ite (decide (i = 4)) (.ite (m 14) (.must (decide (((l.length : Int) + 1) * 8 ≤ 1099511627776 ∧ (l.length : Int) + 1 ≤ 1099511627776)) (.defI (IntKind.i64.wrap (i + 1)) fun z28 => .must (rowsB [.i .i64]
  (catRows (.sym (l.length : Int)) (instR [.i .i64] (rowI l)) (chunk 1 [.int .i64 (.sym i)])) ((l.length : Int) + 1).toNat) (.leaf (.normal, ⟨[[.u], [.i a], [.u], [.i z28]], [.box (on25 m), .lst ((l.length : Int) +
  1).toNat (rowNums [.i .i64] (catRows (.sym (l.length : Int)) (instR [.i .i64] (rowI l)) (chunk 1 [.int .i64 (.sym i)]))), .tok]⟩)))) (.defI (IntKind.i64.wrap (i + 1)) fun z29 => .must (rowsB [.i .i64] (instR [.i .i64]
  (rowI l)) l.length) (.leaf (.normal, ⟨[[.u], [.i a], [.u], [.i z29]], ofO m l⟩)))) (.must false (.fail "index"))))))) (.ite (decide (a = 3)) (.ite (decide (i = 0)) (.ite (m 15) (.must (decide (((l.length : Int) + 1) * 8
  ≤ 1099511627776 ∧ (l.length : Int) + 1 ≤ 1099511627776)) (.defI (IntKind.i64.wrap (i + 1)) fun z30 => .must (rowsB [.i .i64] (catRows (.sym (l.length : Int)) (instR [.i .i64] (rowI l)) (chunk 1 [.int .i64 (.sym i)]))
  ((l.length : Int) + 1).toNat) (.leaf (.normal, ⟨[[.u], [.i a], [.u], [.i z30]], [.box (on25 m), .lst ((l.length : Int) + 1).toNat (rowNums [.i .i64] (catRows (.sym (l.length : Int)) (instR [.i .i64] (rowI l)) (chunk 1
  [.int .i64 (.sym i)]))), .tok]⟩)))) (.defI (IntKind.i64.wrap (i + 1)) fun z31 => .must (rowsB [.i .i64] (instR [.i .i64] (rowI l)) l.length) (.leaf (.normal, ⟨[[.u], [.i a], [.u], [.i z31]], ofO m l⟩)))) (.ite (decide (i
  = 1)) (.ite (m 16) (.must (decide (((l.length : Int) + 1) * 8 ≤ 1099511627776 ∧ (l.length : Int) + 1 ≤ 1099511627776)) (.defI (IntKind.i64.wrap (i + 1)) fun z32 => .must (rowsB [.i .i64] (catRows (.sym (l.length : Int))
  (instR [.i .i64] (rowI l)) (chunk 1 [.int .i64 (.sym i)])) ((l.length : Int) + 1).toNat) (.leaf (.normal, ⟨[[.u], [.i a], [.u], [.i z32]], [.box (on25 m), .lst ((l.length : Int) + 1).toNat (rowNums [.i .i64] (catRows
  (.sym (l.length : Int)) (instR [.i .i64] (rowI l)) (chunk 1 [.int .i64 (.sym i)]))), .tok]⟩)))) (.defI (IntKind.i64.wrap (i + 1)) fun z33 => .must (rowsB [.i .i64] (instR [.i .i64] (rowI l)) l.length) (.leaf (.normal,
  ⟨[[.u], [.i a], [.u], [.i z33]], ofO m l⟩)))) (.ite (decide (i = 2)) (.ite (m 17) (.must (decide (((l.length : Int) + 1) * 8 ≤ 1099511627776 ∧ (l.length : Int) + 1 ≤ 1099511627776)) (.defI (IntKind.i64.wrap (i + 1)) fun
  z34 => .must (rowsB [.i .i64] (catRows (.sym (l.length : Int)) (instR [.i .i64] (rowI l)) (chunk 1 [.int .i64 (.sym i)])) ((l.length : Int) + 1).toNat) (.leaf (.normal, ⟨[[.u], [.i a], [.u], [.i z34]], [.box (on25 m),
  .lst ((l.length : Int) + 1).toNat (rowNums [.i .i64] (catRows (.sym (l.length : Int)) (instR [.i .i64] (rowI l)) (chunk 1 [.int .i64 (.sym i)]))), .tok]⟩)))) (.defI (IntKind.i64.wrap (i + 1)) fun z35 => .must (rowsB [.i
  .i64] (instR [.i .i64] (rowI l)) l.length) (.leaf (.normal, ⟨[[.u], [.i a], [.u], [.i z35]], ofO m l⟩)))) (.ite (decide (i = 3)) (.ite (m 18) (.must (decide (((l.length : Int) + 1) * 8 ≤ 1099511627776 ∧ (l.length : Int)
  + 1 ≤ 1099511627776)) (.defI (IntKind.i64.wrap (i + 1)) fun z36 => .must (rowsB [.i .i64] (catRows (.sym (l.length : Int)) (instR [.i .i64] (rowI l)) (chunk 1 [.int .i64 (.sym i)])) ((l.length : Int) + 1).toNat) (.leaf
  (.normal, ⟨[[.u], [.i a], [.u], [.i z36]], [.box (on25 m), .lst ((l.length : Int) + 1).toNat (rowNums [.i .i64] (catRows (.sym (l.length : Int)) (instR [.i .i64] (rowI l)) (chunk 1 [.int .i64 (.sym i)]))), .tok]⟩))))
  (.defI (IntKind.i64.wrap (i + 1)) fun z37 => .must (rowsB [.i .i64] (instR [.i .i64] (rowI l)) l.length) (.leaf (.normal, ⟨[[.u], [.i a], [.u], [.i z37]], ofO m l⟩)))) (.ite (decide (i = 4)) (.ite (m 19) (.must (decide
  (((l.length : Int) + 1) * 8 ≤ 1099511627776 ∧ (l.length : Int) + 1 ≤ 1099511627776)) (.defI (IntKind.i64.wrap (i + 1)) fun z38 => .must (rowsB [.i .i64] (catRows (.sym (l.length : Int)) (instR [.i .i64] (rowI l)) (chunk
  1 [.int .i64 (.sym i)])) ((l.length : Int) + 1).toNat) (.leaf (.normal, ⟨[[.u], [.i a], [.u], [.i z38]], [.box (on25 m), .lst ((l.length : Int) + 1).toNat (rowNums [.i .i64] (catRows (.sym (l.length : Int)) (instR [.i
  .i64] (rowI l)) (chunk 1 [.int .i64 (.sym i)]))), .tok]⟩)))) (.defI (IntKind.i64.wrap (i + 1)) fun z39 => .must (rowsB [.i .i64] (instR [.i .i64] (rowI l)) l.length) (.leaf (.normal, ⟨[[.u], [.i a], [.u], [.i z39]], ofO
  m l⟩)))) (.must false (.fail "index"))))))) (.ite (decide (a = 4)) (.ite (decide (i = 0)) (.ite (m 20) (.must (decide (((l.length : Int) + 1) * 8 ≤ 1099511627776 ∧ (l.length : Int) + 1 ≤ 1099511627776)) (.defI
  (IntKind.i64.wrap (i + 1)) fun z40 => .must (rowsB [.i .i64] (catRows (.sym (l.length : Int)) (instR [.i .i64] (rowI l)) (chunk 1 [.int .i64 (.sym i)])) ((l.length : Int) + 1).toNat) (.leaf (.normal, ⟨[[.u], [.i a],
  [.u], [.i z40]], [.box (on25 m), .lst ((l.length : Int) + 1).toNat (rowNums [.i .i64] (catRows (.sym (l.length : Int)) (instR [.i .i64] (rowI l)) (chunk 1 [.int .i64 (.sym i)]))), .tok]⟩)))) (.defI (IntKind.i64.wrap (i +
  1)) fun z41 => .must (rowsB [.i .i64] (instR [.i .i64] (rowI l)) l.length) (.leaf (.normal, ⟨[[.u], [.i a], [.u], [.i z41]], ofO m l⟩)))) (.ite (decide (i = 1)) (.ite (m 21) (.must (decide (((l.length : Int) + 1) * 8 ≤
  1099511627776 ∧ (l.length : Int) + 1 ≤ 1099511627776)) (.defI (IntKind.i64.wrap (i + 1)) fun z42 => .must (rowsB [.i .i64] (catRows (.sym (l.length : Int)) (instR [.i .i64] (rowI l)) (chunk 1 [.int .i64 (.sym i)]))
  ((l.length : Int) + 1).toNat) (.leaf (.normal, ⟨[[.u], [.i a], [.u], [.i z42]], [.box (on25 m), .lst ((l.length : Int) + 1).toNat (rowNums [.i .i64] (catRows (.sym (l.length : Int)) (instR [.i .i64] (rowI l)) (chunk 1
  [.int .i64 (.sym i)]))), .tok]⟩)))) (.defI (IntKind.i64.wrap (i + 1)) fun z43 => .must (rowsB [.i .i64] (instR [.i .i64] (rowI l)) l.length) (.leaf (.normal, ⟨[[.u], [.i a], [.u], [.i z43]], ofO m l⟩)))) (.ite (decide (i
  = 2)) (.ite (m 22) (.must (decide (((l.length : Int) + 1) * 8 ≤ 1099511627776 ∧ (l.length : Int) + 1 ≤ 1099511627776)) (.defI (IntKind.i64.wrap (i + 1)) fun z44 => .must (rowsB [.i .i64] (catRows (.sym (l.length : Int))
  (instR [.i .i64] (rowI l)) (chunk 1 [.int .i64 (.sym i)])) ((l.length : Int) + 1).toNat) (.leaf (.normal, ⟨[[.u], [.i a], [.u], [.i z44]], [.box (on25 m), .lst ((l.length : Int) + 1).toNat (rowNums [.i .i64] (catRows
  (.sym (l.length : Int)) (instR [.i .i64] (rowI l)) (chunk 1 [.int .i64 (.sym i)]))), .tok]⟩)))) (.defI (IntKind.i64.wrap (i + 1)) fun z45 => .must (rowsB [.i .i64] (instR [.i .i64] (rowI l)) l.length) (.leaf (.normal,
  ⟨[[.u], [.i a], [.u], [.i z45]], ofO m l⟩)))) (.ite (decide (i = 3)) (.ite (m 23) (.must (decide (((l.length : Int) + 1) * 8 ≤ 1099511627776 ∧ (l.length : Int) + 1 ≤ 1099511627776)) (.defI (IntKind.i64.wrap (i + 1)) fun
  z46 => .must (rowsB [.i .i64] (catRows (.sym (l.length : Int)) (instR [.i .i64] (rowI l)) (chunk 1 [.int .i64 (.sym i)])) ((l.length : Int) + 1).toNat) (.leaf (.normal, ⟨[[.u], [.i a], [.u], [.i z46]], [.box (on25 m),
  .lst ((l.length : Int) + 1).toNat (rowNums [.i .i64] (catRows (.sym (l.length : Int)) (instR [.i .i64] (rowI l)) (chunk 1 [.int .i64 (.sym i)]))), .tok]⟩)))) (.defI (IntKind.i64.wrap (i + 1)) fun z47 => .must (rowsB [.i
  .i64] (instR [.i .i64] (rowI l)) l.length) (.leaf (.normal, ⟨[[.u], [.i a], [.u], [.i z47]], ofO m l⟩)))) (.ite (decide (i = 4)) (.ite (m 24) (.must (decide (((l.length : Int) + 1) * 8 ≤ 1099511627776 ∧ (l.length : Int)
  + 1 ≤ 1099511627776)) (.defI (IntKind.i64.wrap (i + 1)) fun z48 => .must (rowsB [.i .i64] (catRows (.sym (l.length : Int)) (instR [.i .i64] (rowI l)) (chunk 1 [.int .i64 (.sym i)])) ((l.length : Int) + 1).toNat) (.leaf
  (.normal, ⟨[[.u], [.i a], [.u], [.i z48]], [.box (on25 m), .lst ((l.length : Int) + 1).toNat (rowNums [.i .i64] (catRows (.sym (l.length : Int)) (instR [.i .i64] (rowI l)) (chunk 1 [.int .i64 (.sym i)]))), .tok]⟩))))
  (.defI (IntKind.i64.wrap (i + 1)) fun z49 => .must (rowsB [.i .i64] (instR [.i .i64] (rowI l)) l.length) (.leaf (.normal, ⟨[[.u], [.i a], [.u], [.i z49]], ofO m l⟩)))) (.must false (.fail "index"))))))) (.must false
  (.fail "index"))))))) (.must (rowsB [.i .i64] (instR [.i .i64] (rowI l)) l.length) (.leaf (.exit 0, ⟨[[.u]], ofO m l⟩)))) (.must (rowsB [.i .i64] (instR [.i .i64] (rowI l)) l.length) (.leaf (.exit 0, ⟨[[.u]], ofO m
  l⟩)))) (.must (rowsB [.i .i64] (instR [.i .i64] (rowI l)) l.length) (.leaf (.exit 0, ⟨[[.u]], ofO m l⟩))) := by kernel_rfl
theorem rof_tail (m : Nat → Bool) (l : List Int) (τ0 : Tm) : codeT Try.prog noTab 300 35 Try.f35.ntmps (Eng.ofL ((flat body35).drop 4)) (ofE.tm ⟨[[]], ofO m l⟩ ++ τ0) (ofE.heap ⟨[[]], ofO m l⟩) 3 (outX 1 ⟨none, [], some ofR⟩) =
  .must (rowsB [.i .i64] (instR [.i .i64] (rowI l)) l.length) (.leaf (.ret, ⟨[[.u]], ofO m l⟩)) := by kernel_rfl
end Go.Proofs.Ytlcgnjcfihablaa
