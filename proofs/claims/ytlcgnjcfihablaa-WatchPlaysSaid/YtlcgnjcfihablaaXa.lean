/- WatchPlays: the body, its trees.
   Conditions: none. -/
import Derived.Test.YtlcgnjcfihablaaWk
import Derived.Test.YtlcgnjcfihablaaEngAf
set_option linter.unusedSimpArgs false
set_option linter.unusedVariables false
namespace Go.Proofs.Ytlcgnjcfihablaa
open Go.Eng Go.RowKit Go.ChangeShapes Go.WideShapes
set_option maxRecDepth 100000
noncomputable def body7 : Code := Try.f7.body.getD .skip
noncomputable def x7 : Code := lp ((flat body7).getD 7 .skip)
def wpT : TS := ⟨[0], [.one (.sl 0)], [], 1⟩
def wpL : TS := ⟨[0, 3, 4, 5], [.one (.sl 0), .one (.ptr 1 0), .one (.ptr 2 0), .one (.i .i64)], [(1, .box i5), (2, .box i5)], 3⟩
def wpE : TS := ⟨[], [], [], 1⟩
def wpN (c d : Nat → Int) (i : Int) : EN := ⟨[[], [], [], [.i i]], [.box (on5 c), .box (on5 d)]⟩
def wpOut (i : Int) (k : Nat) (hh : Nat → Option Addr × Nat × Nat) (j : Nat) : List AV := [.slIf (decide ((j : Int) = i)) k (hh j)]
def wpHp (no n : Nat) (k : Nat) (hh : Nat → Option Addr × Nat × Nat) (s : Nat → List Num) (i : Int) (h : Heap) : Heap := (0, some (.lst (.sym (no : Int)) 1 (wpOut i k hh) none)) :: (k, some (.lst (.sym (n : Int)) 1 (instR [.i .i64] s) none)) :: h
theorem wp_pre (no : Nat) (hh : Nat → Option Addr × Nat × Nat) (τ0 : Tm) : codeT Try.prog wkT 300 7 Try.f7.ntmps (Eng.ofL ((flat body7).take 7)) (wpT.tm ⟨[[]], []⟩ ++ τ0) ((0, some (.lst (.sym (no : Int)) 1 (wpOut (-1) 0 hh) none)) :: wpT.heap ⟨[[]], []⟩) 1 (outX 1 ⟨some wpL, [], some (lawT 2)⟩) =
  .ite (decide ((no : Int) > 60)) (.leaf (.ret, ⟨[[.b true]], []⟩)) (.leaf (.normal, ⟨[[.u], [.u], [.u], [.i 0]], [.box [.i 0, .i 0, .i 0, .i 0, .i 0], .box [.i 0, .i 0, .i 0, .i 0, .i 0]]⟩)) := by kernel_rfl
theorem wp_x (c d : Nat → Int) (no n : Nat) (hh : Nat → Option Addr × Nat × Nat) (s : Nat → List Num) (i : Int) (τ0 : Tm) : codeT Try.prog wkT 300 7 Try.f7.ntmps x7 (wpL.tm (wpN c d i) ++ τ0) (wpHp no n 3 hh s i (wpL.heap (wpN c d i))) 4 (outX 1 ⟨some wpL, [(0, wpE)], some (lawT 2)⟩) =
  .ite (decide (i < (no : Int))) (.must (decide (0 ≤ i ∧ i < (no : Int))) (.must (decide (0 ≤ i ∧ i < (no : Int))) (.must (decide ((i.toNat : Int) = i)) (.ite (decide ((n : Int) > 12)) (.leaf (.ret, ⟨[[.b true]], []⟩))
  (.must (decide (0 ≤ i ∧ i < (no : Int))) (.must (decide (0 ≤ i ∧ i < (no : Int))) (.must (decide ((i.toNat : Int) = i)) (.must (decide ((0 + (n : Int)) * 8 ≤ 1099511627776 ∧ 0 + (n : Int) ≤ 1099511627776)) (.must (rowsB
  [.i .i64] (catRows (.lit 0) (fun (x : Nat) => []) (instR [.i .i64] s)) (0 + (n : Int)).toNat) (.defE ⟨[[.u], [.u]], [.box [.i (c 0), .i (c 1), .i (c 2), .i (c 3), .i (c 4)], .lst (0 + (n : Int)).toNat (rowNums [.i .i64]
  (catRows (.lit 0) (fun (x : Nat) => []) (instR [.i .i64] s)))]⟩ fun e0 => .must (decide (((e0.ln 1) : Int) ≤ 1099511627776)) (.must (decide (ok5 (tkCs e0))) (.defI (wtC (tkB e0) (tkCs e0) 0) fun z1 => .defI (wtC (tkB e0)
  (tkCs e0) 1) fun z2 => .defI (wtC (tkB e0) (tkCs e0) 2) fun z3 => .defI (wtC (tkB e0) (tkCs e0) 3) fun z4 => .defI (wtC (tkB e0) (tkCs e0) 4) fun z5 => .defI ((wtL (tkB e0) (tkCs e0) 5).length : Int) fun z6 => .must
  (decide (0 ≤ i ∧ i < (no : Int))) (.must (decide (0 ≤ i ∧ i < (no : Int))) (.must (decide ((i.toNat : Int) = i)) (.must (rowsB [.i .i64] (instR [.i .i64] s) n) (.defE ⟨[[.u], [.u]], [.box [.i (d 0), .i (d 1), .i (d 2),
  .i (d 3), .i (d 4)], .lst n (rowNums [.i .i64] (instR [.i .i64] s))]⟩ fun e7 => .must (decide (((e7.ln 1) : Int) ≤ 1099511627776)) (.must (decide (ok5 (tkCs e7))) (.defI (wtC (tkB e7) (tkCs e7) 0) fun z8 => .defI (wtC
  (tkB e7) (tkCs e7) 1) fun z9 => .defI (wtC (tkB e7) (tkCs e7) 2) fun z10 => .defI (wtC (tkB e7) (tkCs e7) 3) fun z11 => .defI (wtC (tkB e7) (tkCs e7) 4) fun z12 => .defI ((wtL (tkB e7) (tkCs e7) 5).length : Int) fun z13
  => .must (rowsB [.i .i64] (instR [.i .i64] (rowI ((wtL (tkB e0) (tkCs e0) 5)))) z6.toNat) (.must (rowsB [.i .i64] (instR [.i .i64] (rowI ((wtL (tkB e7) (tkCs e7) 5)))) z13.toNat) (.defE ⟨[[.u], [.u]], [.lst z6.toNat
  (rowNums [.i .i64] (instR [.i .i64] (rowI ((wtL (tkB e0) (tkCs e0) 5))))), .lst z13.toNat (rowNums [.i .i64] (instR [.i .i64] (rowI ((wtL (tkB e7) (tkCs e7) 5)))))]⟩ fun e14 => .must (decide (e14.ln 0 ≤ 5)) (.ite
  (!decide (iqP (e14.ln 0) (e14.ln 1) (e14.rw 0) (e14.rw 1))) (.leaf (.ret, ⟨[[.b false]], []⟩)) (.ite (z1 != z8) (.leaf (.ret, ⟨[[.b false]], []⟩)) (.ite (z2 != z9) (.leaf (.ret, ⟨[[.b false]], []⟩)) (.ite (z3 != z10)
  (.leaf (.ret, ⟨[[.b false]], []⟩)) (.ite (z4 != z11) (.leaf (.ret, ⟨[[.b false]], []⟩)) (.ite (z5 != z12) (.leaf (.ret, ⟨[[.b false]], []⟩)) (.defI (IntKind.i64.wrap (i + 1)) fun z15 => .leaf (.normal, ⟨[[.u], [.u],
  [.u], [.i z15]], [.box [.i z1, .i z2, .i z3, .i z4, .i z5], .box [.i z8, .i z9, .i z10, .i z11, .i z12]]⟩)))))))))))))))))))))))))))) (.leaf (.exit 0, ⟨[], []⟩)) := by kernel_rfl
theorem wp_tail (τ0 : Tm) : codeT Try.prog wkT 300 7 Try.f7.ntmps (Eng.ofL ((flat body7).drop 8)) (wpE.tm ⟨[], []⟩ ++ τ0) (wpE.heap ⟨[], []⟩) 1 (outX 1 ⟨none, [], some (lawT 2)⟩) =
  .leaf (.ret, ⟨[[.b true]], []⟩) := by kernel_rfl
end Go.Proofs.Ytlcgnjcfihablaa
