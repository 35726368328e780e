/- ReportsAlone: one report alone, however often, marks nothing; two clear.
   Conditions: none. -/
import Derived.Test.YtlcgnjcfihablaaWd
set_option linter.unusedSimpArgs false
set_option linter.unusedVariables false
namespace Go.Proofs.Ytlcgnjcfihablaa
open Go.Eng Go.RowKit Go.ChangeShapes Go.WideShapes
set_option maxRecDepth 100000
noncomputable def body9 : Code := Try.f9.body.getD .skip
noncomputable def x9 : Code := lp ((flat body9).getD 6 .skip)
def alT : TS := ⟨[0, 1, 2], [.one (.i .u8), .one (.i .u8), .one (.i .u8)], [], 0⟩
def alL : TS := ⟨[2, 7, 8, 9, 10], [.one (.i .u8), .one (.i .i64), .one (.i .i64), .one (.ptr 0 0), .one (.i .i64)], [(0, .box b25)], 1⟩
def alE : TS := ⟨[7, 8, 9], [.one (.i .i64), .one (.i .i64), .one (.ptr 0 0)], [(0, .box b25)], 1⟩
def alN (t f a i : Int) (m : Nat → Bool) : EN := ⟨[[.i t], [.i f], [.i a], [], [.i i]], [.box (on25 m)]⟩
def alO (f a : Int) (m : Nat → Bool) : EN := ⟨[[.i f], [.i a], []], [.box (on25 m)]⟩
theorem al_pre (f a t : Int) (τ0 : Tm) : codeT Try.prog wdT 300 9 Try.f9.ntmps (Eng.ofL ((flat body9).take 6)) (alT.tm ⟨[[.i f], [.i a], [.i t]], []⟩ ++ τ0) (alT.heap ⟨[[.i f], [.i a], [.i t]], []⟩) 0 (outX 0 ⟨some alL, [], some (lawT 6)⟩) =
  .defI (f.tmod 5) fun z0 => .defI (IntKind.i64.wrap z0) fun z1 => .defI (a.tmod 5) fun z2 => .defI (IntKind.i64.wrap z2) fun z3 => .leaf (.normal, ⟨[[.i t], [.i z1], [.i z3], [.u], [.i 0]], [.box [.b false, .b false, .b
  false, .b false, .b false, .b false, .b false, .b false, .b false, .b false, .b false, .b false, .b false, .b false, .b false, .b false, .b false, .b false, .b false, .b false, .b false, .b false, .b false, .b false, .b
  false]]⟩) := by kernel_rfl
theorem al_x (t f a i : Int) (m : Nat → Bool) (τ0 : Tm) : codeT Try.prog wdT 300 9 Try.f9.ntmps x9 (alL.tm (alN t f a i m) ++ τ0) (alL.heap (alN t f a i m)) 1 (outX 0 ⟨some alL, [(0, alE)], some (lawT 6)⟩) =
  .defI (t.tmod 20) fun z0 => .defI (IntKind.i64.wrap z0) fun z1 => .ite (decide (i ≤ z1)) (.defE ⟨[[.u], [.i f], [.i a]], [.box (on25 m)]⟩ fun e2 => .defB ((adS (ofM e2) (e2.ai 1 0) (e2.ai 2 0)).snd 0) fun z3 => .defB
  ((adS (ofM e2) (e2.ai 1 0) (e2.ai 2 0)).snd 1) fun z4 => .defB ((adS (ofM e2) (e2.ai 1 0) (e2.ai 2 0)).snd 2) fun z5 => .defB ((adS (ofM e2) (e2.ai 1 0) (e2.ai 2 0)).snd 3) fun z6 => .defB ((adS (ofM e2) (e2.ai 1 0)
  (e2.ai 2 0)).snd 4) fun z7 => .defB ((adS (ofM e2) (e2.ai 1 0) (e2.ai 2 0)).snd 5) fun z8 => .defB ((adS (ofM e2) (e2.ai 1 0) (e2.ai 2 0)).snd 6) fun z9 => .defB ((adS (ofM e2) (e2.ai 1 0) (e2.ai 2 0)).snd 7) fun z10 =>
  .defB ((adS (ofM e2) (e2.ai 1 0) (e2.ai 2 0)).snd 8) fun z11 => .defB ((adS (ofM e2) (e2.ai 1 0) (e2.ai 2 0)).snd 9) fun z12 => .defB ((adS (ofM e2) (e2.ai 1 0) (e2.ai 2 0)).snd 10) fun z13 => .defB ((adS (ofM e2) (e2.ai
  1 0) (e2.ai 2 0)).snd 11) fun z14 => .defB ((adS (ofM e2) (e2.ai 1 0) (e2.ai 2 0)).snd 12) fun z15 => .defB ((adS (ofM e2) (e2.ai 1 0) (e2.ai 2 0)).snd 13) fun z16 => .defB ((adS (ofM e2) (e2.ai 1 0) (e2.ai 2 0)).snd 14)
  fun z17 => .defB ((adS (ofM e2) (e2.ai 1 0) (e2.ai 2 0)).snd 15) fun z18 => .defB ((adS (ofM e2) (e2.ai 1 0) (e2.ai 2 0)).snd 16) fun z19 => .defB ((adS (ofM e2) (e2.ai 1 0) (e2.ai 2 0)).snd 17) fun z20 => .defB ((adS
  (ofM e2) (e2.ai 1 0) (e2.ai 2 0)).snd 18) fun z21 => .defB ((adS (ofM e2) (e2.ai 1 0) (e2.ai 2 0)).snd 19) fun z22 => .defB ((adS (ofM e2) (e2.ai 1 0) (e2.ai 2 0)).snd 20) fun z23 => .defB ((adS (ofM e2) (e2.ai 1 0)
  (e2.ai 2 0)).snd 21) fun z24 => .defB ((adS (ofM e2) (e2.ai 1 0) (e2.ai 2 0)).snd 22) fun z25 => .defB ((adS (ofM e2) (e2.ai 1 0) (e2.ai 2 0)).snd 23) fun z26 => .defB ((adS (ofM e2) (e2.ai 1 0) (e2.ai 2 0)).snd 24) fun
  z27 => .ite (adS (ofM e2) (e2.ai 1 0) (e2.ai 2 0)).fst (.leaf (.ret, ⟨[[.b false]], []⟩)) (.defI (IntKind.i64.wrap (i + 1)) fun z28 => .leaf (.normal, ⟨[[.i t], [.i f], [.i a], [.u], [.i z28]], [.box [.b z3, .b z4, .b
  z5, .b z6, .b z7, .b z8, .b z9, .b z10, .b z11, .b z12, .b z13, .b z14, .b z15, .b z16, .b z17, .b z18, .b z19, .b z20, .b z21, .b z22, .b z23, .b z24, .b z25, .b z26, .b z27]]⟩))) (.leaf (.exit 0, ⟨[[.i f], [.i a],
  [.u]], [.box (on25 m)]⟩)) := by kernel_rfl
theorem al_tail (f a : Int) (m : Nat → Bool) (τ0 : Tm) : codeT Try.prog wdT 300 9 Try.f9.ntmps (Eng.ofL ((flat body9).drop 7)) (alE.tm (alO f a m) ++ τ0) (alE.heap (alO f a m)) 1 (outX 0 ⟨none, [], some (lawT 6)⟩) =
  .ite (f == a) (.defE ⟨[[.u], [.i a]], [.box (on25 m)]⟩ fun e0 => .defB (ofM e0 0) fun z1 => .defB (ofM e0 1) fun z2 => .defB (ofM e0 2) fun z3 => .defB (ofM e0 3) fun z4 => .defB (ofM e0 4) fun z5 => .defB (ofM e0 5) fun
  z6 => .defB (ofM e0 6) fun z7 => .defB (ofM e0 7) fun z8 => .defB (ofM e0 8) fun z9 => .defB (ofM e0 9) fun z10 => .defB (ofM e0 10) fun z11 => .defB (ofM e0 11) fun z12 => .defB (ofM e0 12) fun z13 => .defB (ofM e0 13)
  fun z14 => .defB (ofM e0 14) fun z15 => .defB (ofM e0 15) fun z16 => .defB (ofM e0 16) fun z17 => .defB (ofM e0 17) fun z18 => .defB (ofM e0 18) fun z19 => .defB (ofM e0 19) fun z20 => .defB (ofM e0 20) fun z21 => .defB
  (ofM e0 21) fun z22 => .defB (ofM e0 22) fun z23 => .defB (ofM e0 23) fun z24 => .defB (ofM e0 24) fun z25 => .defI ((ofS (ofM e0) (e0.ai 1 0)).length : Int) fun z26 => .ite (z26 != 0) (.leaf (.ret, ⟨[[.b false]], []⟩))
  (.defI (IntKind.i64.wrap (f + 1)) fun z27 => .defI (z27.tmod 5) fun z28 => .ite (z28 == a) (.defI (IntKind.i64.wrap (z28 + 1)) fun z29 => .defI (z29.tmod 5) fun z30 => .ite (f == a) (.leaf (.ret, ⟨[[.b true]], []⟩))
  (.ite (z30 == f) (.leaf (.ret, ⟨[[.b true]], []⟩)) (.defE ⟨[[.u], [.i z30], [.i a]], [.box [.b z1, .b z2, .b z3, .b z4, .b z5, .b z6, .b z7, .b z8, .b z9, .b z10, .b z11, .b z12, .b z13, .b z14, .b z15, .b z16, .b z17,
  .b z18, .b z19, .b z20, .b z21, .b z22, .b z23, .b z24, .b z25]]⟩ fun e31 => .defB ((adS (ofM e31) (e31.ai 1 0) (e31.ai 2 0)).snd 0) fun z32 => .defB ((adS (ofM e31) (e31.ai 1 0) (e31.ai 2 0)).snd 1) fun z33 => .defB
  ((adS (ofM e31) (e31.ai 1 0) (e31.ai 2 0)).snd 2) fun z34 => .defB ((adS (ofM e31) (e31.ai 1 0) (e31.ai 2 0)).snd 3) fun z35 => .defB ((adS (ofM e31) (e31.ai 1 0) (e31.ai 2 0)).snd 4) fun z36 => .defB ((adS (ofM e31)
  (e31.ai 1 0) (e31.ai 2 0)).snd 5) fun z37 => .defB ((adS (ofM e31) (e31.ai 1 0) (e31.ai 2 0)).snd 6) fun z38 => .defB ((adS (ofM e31) (e31.ai 1 0) (e31.ai 2 0)).snd 7) fun z39 => .defB ((adS (ofM e31) (e31.ai 1 0)
  (e31.ai 2 0)).snd 8) fun z40 => .defB ((adS (ofM e31) (e31.ai 1 0) (e31.ai 2 0)).snd 9) fun z41 => .defB ((adS (ofM e31) (e31.ai 1 0) (e31.ai 2 0)).snd 10) fun z42 => .defB ((adS (ofM e31) (e31.ai 1 0) (e31.ai 2 0)).snd
  11) fun z43 => .defB ((adS (ofM e31) (e31.ai 1 0) (e31.ai 2 0)).snd 12) fun z44 => .defB ((adS (ofM e31) (e31.ai 1 0) (e31.ai 2 0)).snd 13) fun z45 => .defB ((adS (ofM e31) (e31.ai 1 0) (e31.ai 2 0)).snd 14) fun z46 =>
  .defB ((adS (ofM e31) (e31.ai 1 0) (e31.ai 2 0)).snd 15) fun z47 => .defB ((adS (ofM e31) (e31.ai 1 0) (e31.ai 2 0)).snd 16) fun z48 => .defB ((adS (ofM e31) (e31.ai 1 0) (e31.ai 2 0)).snd 17) fun z49 => .defB ((adS (ofM
  e31) (e31.ai 1 0) (e31.ai 2 0)).snd 18) fun z50 => .defB ((adS (ofM e31) (e31.ai 1 0) (e31.ai 2 0)).snd 19) fun z51 => .defB ((adS (ofM e31) (e31.ai 1 0) (e31.ai 2 0)).snd 20) fun z52 => .defB ((adS (ofM e31) (e31.ai 1
  0) (e31.ai 2 0)).snd 21) fun z53 => .defB ((adS (ofM e31) (e31.ai 1 0) (e31.ai 2 0)).snd 22) fun z54 => .defB ((adS (ofM e31) (e31.ai 1 0) (e31.ai 2 0)).snd 23) fun z55 => .defB ((adS (ofM e31) (e31.ai 1 0) (e31.ai 2
  0)).snd 24) fun z56 => .ite (adS (ofM e31) (e31.ai 1 0) (e31.ai 2 0)).fst (.defE ⟨[[.u], [.i a]], [.box [.b z32, .b z33, .b z34, .b z35, .b z36, .b z37, .b z38, .b z39, .b z40, .b z41, .b z42, .b z43, .b z44, .b z45, .b
  z46, .b z47, .b z48, .b z49, .b z50, .b z51, .b z52, .b z53, .b z54, .b z55, .b z56]]⟩ fun e57 => .defB (ofM e57 0) fun z58 => .defB (ofM e57 1) fun z59 => .defB (ofM e57 2) fun z60 => .defB (ofM e57 3) fun z61 => .defB
  (ofM e57 4) fun z62 => .defB (ofM e57 5) fun z63 => .defB (ofM e57 6) fun z64 => .defB (ofM e57 7) fun z65 => .defB (ofM e57 8) fun z66 => .defB (ofM e57 9) fun z67 => .defB (ofM e57 10) fun z68 => .defB (ofM e57 11) fun
  z69 => .defB (ofM e57 12) fun z70 => .defB (ofM e57 13) fun z71 => .defB (ofM e57 14) fun z72 => .defB (ofM e57 15) fun z73 => .defB (ofM e57 16) fun z74 => .defB (ofM e57 17) fun z75 => .defB (ofM e57 18) fun z76 =>
  .defB (ofM e57 19) fun z77 => .defB (ofM e57 20) fun z78 => .defB (ofM e57 21) fun z79 => .defB (ofM e57 22) fun z80 => .defB (ofM e57 23) fun z81 => .defB (ofM e57 24) fun z82 => .defI ((ofS (ofM e57) (e57.ai 1
  0)).length : Int) fun z83 => .ite (z83 == 0) (.defE ⟨[[.u], [.i f], [.i a]], [.box [.b z58, .b z59, .b z60, .b z61, .b z62, .b z63, .b z64, .b z65, .b z66, .b z67, .b z68, .b z69, .b z70, .b z71, .b z72, .b z73, .b z74,
  .b z75, .b z76, .b z77, .b z78, .b z79, .b z80, .b z81, .b z82]]⟩ fun e84 => .defB ((adS (ofM e84) (e84.ai 1 0) (e84.ai 2 0)).snd 0) fun z85 => .defB ((adS (ofM e84) (e84.ai 1 0) (e84.ai 2 0)).snd 1) fun z86 => .defB
  ((adS (ofM e84) (e84.ai 1 0) (e84.ai 2 0)).snd 2) fun z87 => .defB ((adS (ofM e84) (e84.ai 1 0) (e84.ai 2 0)).snd 3) fun z88 => .defB ((adS (ofM e84) (e84.ai 1 0) (e84.ai 2 0)).snd 4) fun z89 => .defB ((adS (ofM e84)
  (e84.ai 1 0) (e84.ai 2 0)).snd 5) fun z90 => .defB ((adS (ofM e84) (e84.ai 1 0) (e84.ai 2 0)).snd 6) fun z91 => .defB ((adS (ofM e84) (e84.ai 1 0) (e84.ai 2 0)).snd 7) fun z92 => .defB ((adS (ofM e84) (e84.ai 1 0)
  (e84.ai 2 0)).snd 8) fun z93 => .defB ((adS (ofM e84) (e84.ai 1 0) (e84.ai 2 0)).snd 9) fun z94 => .defB ((adS (ofM e84) (e84.ai 1 0) (e84.ai 2 0)).snd 10) fun z95 => .defB ((adS (ofM e84) (e84.ai 1 0) (e84.ai 2 0)).snd
  11) fun z96 => .defB ((adS (ofM e84) (e84.ai 1 0) (e84.ai 2 0)).snd 12) fun z97 => .defB ((adS (ofM e84) (e84.ai 1 0) (e84.ai 2 0)).snd 13) fun z98 => .defB ((adS (ofM e84) (e84.ai 1 0) (e84.ai 2 0)).snd 14) fun z99 =>
  .defB ((adS (ofM e84) (e84.ai 1 0) (e84.ai 2 0)).snd 15) fun z100 => .defB ((adS (ofM e84) (e84.ai 1 0) (e84.ai 2 0)).snd 16) fun z101 => .defB ((adS (ofM e84) (e84.ai 1 0) (e84.ai 2 0)).snd 17) fun z102 => .defB ((adS
  (ofM e84) (e84.ai 1 0) (e84.ai 2 0)).snd 18) fun z103 => .defB ((adS (ofM e84) (e84.ai 1 0) (e84.ai 2 0)).snd 19) fun z104 => .defB ((adS (ofM e84) (e84.ai 1 0) (e84.ai 2 0)).snd 20) fun z105 => .defB ((adS (ofM e84)
  (e84.ai 1 0) (e84.ai 2 0)).snd 21) fun z106 => .defB ((adS (ofM e84) (e84.ai 1 0) (e84.ai 2 0)).snd 22) fun z107 => .defB ((adS (ofM e84) (e84.ai 1 0) (e84.ai 2 0)).snd 23) fun z108 => .defB ((adS (ofM e84) (e84.ai 1 0)
  (e84.ai 2 0)).snd 24) fun z109 => .leaf (.ret, ⟨[[.b !(adS (ofM e84) (e84.ai 1 0) (e84.ai 2 0)).fst]], []⟩)) (.leaf (.ret, ⟨[[.b false]], []⟩))) (.leaf (.ret, ⟨[[.b false]], []⟩))))) (.ite (f == a) (.leaf (.ret, ⟨[[.b
  true]], []⟩)) (.ite (z28 == f) (.leaf (.ret, ⟨[[.b true]], []⟩)) (.defE ⟨[[.u], [.i z28], [.i a]], [.box [.b z1, .b z2, .b z3, .b z4, .b z5, .b z6, .b z7, .b z8, .b z9, .b z10, .b z11, .b z12, .b z13, .b z14, .b z15, .b
  z16, .b z17, .b z18, .b z19, .b z20, .b z21, .b z22, .b z23, .b z24, .b z25]]⟩ fun e110 => .defB ((adS (ofM e110) (e110.ai 1 0) (e110.ai 2 0)).snd 0) fun z111 => .defB ((adS (ofM e110) (e110.ai 1 0) (e110.ai 2 0)).snd 1)
  fun z112 => .defB ((adS (ofM e110) (e110.ai 1 0) (e110.ai 2 0)).snd 2) fun z113 => .defB ((adS (ofM e110) (e110.ai 1 0) (e110.ai 2 0)).snd 3) fun z114 => .defB ((adS (ofM e110) (e110.ai 1 0) (e110.ai 2 0)).snd 4) fun
  z115 => .defB ((adS (ofM e110) (e110.ai 1 0) (e110.ai 2 0)).snd 5) fun z116 => .defB ((adS (ofM e110) (e110.ai 1 0) (e110.ai 2 0)).snd 6) fun z117 => .defB ((adS (ofM e110) (e110.ai 1 0) (e110.ai 2 0)).snd 7) fun z118 =>
  .defB ((adS (ofM e110) (e110.ai 1 0) (e110.ai 2 0)).snd 8) fun z119 => .defB ((adS (ofM e110) (e110.ai 1 0) (e110.ai 2 0)).snd 9) fun z120 => .defB ((adS (ofM e110) (e110.ai 1 0) (e110.ai 2 0)).snd 10) fun z121 => .defB
  ((adS (ofM e110) (e110.ai 1 0) (e110.ai 2 0)).snd 11) fun z122 => .defB ((adS (ofM e110) (e110.ai 1 0) (e110.ai 2 0)).snd 12) fun z123 => .defB ((adS (ofM e110) (e110.ai 1 0) (e110.ai 2 0)).snd 13) fun z124 => .defB
  ((adS (ofM e110) (e110.ai 1 0) (e110.ai 2 0)).snd 14) fun z125 => .defB ((adS (ofM e110) (e110.ai 1 0) (e110.ai 2 0)).snd 15) fun z126 => .defB ((adS (ofM e110) (e110.ai 1 0) (e110.ai 2 0)).snd 16) fun z127 => .defB
  ((adS (ofM e110) (e110.ai 1 0) (e110.ai 2 0)).snd 17) fun z128 => .defB ((adS (ofM e110) (e110.ai 1 0) (e110.ai 2 0)).snd 18) fun z129 => .defB ((adS (ofM e110) (e110.ai 1 0) (e110.ai 2 0)).snd 19) fun z130 => .defB
  ((adS (ofM e110) (e110.ai 1 0) (e110.ai 2 0)).snd 20) fun z131 => .defB ((adS (ofM e110) (e110.ai 1 0) (e110.ai 2 0)).snd 21) fun z132 => .defB ((adS (ofM e110) (e110.ai 1 0) (e110.ai 2 0)).snd 22) fun z133 => .defB
  ((adS (ofM e110) (e110.ai 1 0) (e110.ai 2 0)).snd 23) fun z134 => .defB ((adS (ofM e110) (e110.ai 1 0) (e110.ai 2 0)).snd 24) fun z135 => .ite (adS (ofM e110) (e110.ai 1 0) (e110.ai 2 0)).fst (.defE ⟨[[.u], [.i a]],
  [.box [.b z111, .b z112, .b z113, .b z114, .b z115, .b z116, .b z117, .b z118, .b z119, .b z120, .b z121, .b z122, .b z123, .b z124, .b z125, .b z126, .b z127, .b z128, .b z129, .b z130, .b z131, .b z132, .b z133, .b
  z134, .b z135]]⟩ fun e136 => .defB (ofM e136 0) fun z137 => .defB (ofM e136 1) fun z138 => .defB (ofM e136 2) fun z139 => .defB (ofM e136 3) fun z140 => .defB (ofM e136 4) fun z141 => .defB (ofM e136 5) fun z142 => .defB
  (ofM e136 6) fun z143 => .defB (ofM e136 7) fun z144 => .defB (ofM e136 8) fun z145 => .defB (ofM e136 9) fun z146 => .defB (ofM e136 10) fun z147 => .defB (ofM e136 11) fun z148 => .defB (ofM e136 12) fun z149 => .defB
  (ofM e136 13) fun z150 => .defB (ofM e136 14) fun z151 => .defB (ofM e136 15) fun z152 => .defB (ofM e136 16) fun z153 => .defB (ofM e136 17) fun z154 => .defB (ofM e136 18) fun z155 => .defB (ofM e136 19) fun z156 =>
  .defB (ofM e136 20) fun z157 => .defB (ofM e136 21) fun z158 => .defB (ofM e136 22) fun z159 => .defB (ofM e136 23) fun z160 => .defB (ofM e136 24) fun z161 => .defI ((ofS (ofM e136) (e136.ai 1 0)).length : Int) fun z162
  => .ite (z162 == 0) (.defE ⟨[[.u], [.i f], [.i a]], [.box [.b z137, .b z138, .b z139, .b z140, .b z141, .b z142, .b z143, .b z144, .b z145, .b z146, .b z147, .b z148, .b z149, .b z150, .b z151, .b z152, .b z153, .b z154,
  .b z155, .b z156, .b z157, .b z158, .b z159, .b z160, .b z161]]⟩ fun e163 => .defB ((adS (ofM e163) (e163.ai 1 0) (e163.ai 2 0)).snd 0) fun z164 => .defB ((adS (ofM e163) (e163.ai 1 0) (e163.ai 2 0)).snd 1) fun z165 =>
  .defB ((adS (ofM e163) (e163.ai 1 0) (e163.ai 2 0)).snd 2) fun z166 => .defB ((adS (ofM e163) (e163.ai 1 0) (e163.ai 2 0)).snd 3) fun z167 => .defB ((adS (ofM e163) (e163.ai 1 0) (e163.ai 2 0)).snd 4) fun z168 => .defB
  ((adS (ofM e163) (e163.ai 1 0) (e163.ai 2 0)).snd 5) fun z169 => .defB ((adS (ofM e163) (e163.ai 1 0) (e163.ai 2 0)).snd 6) fun z170 => .defB ((adS (ofM e163) (e163.ai 1 0) (e163.ai 2 0)).snd 7) fun z171 => .defB ((adS
  (ofM e163) (e163.ai 1 0) (e163.ai 2 0)).snd 8) fun z172 => .defB ((adS (ofM e163) (e163.ai 1 0) (e163.ai 2 0)).snd 9) fun z173 => .defB ((adS (ofM e163) (e163.ai 1 0) (e163.ai 2 0)).snd 10) fun z174 => .defB ((adS (ofM
  e163) (e163.ai 1 0) (e163.ai 2 0)).snd 11) fun z175 => .defB ((adS (ofM e163) (e163.ai 1 0) (e163.ai 2 0)).snd 12) fun z176 => .defB ((adS (ofM e163) (e163.ai 1 0) (e163.ai 2 0)).snd 13) fun z177 => .defB ((adS (ofM
  e163) (e163.ai 1 0) (e163.ai 2 0)).snd 14) fun z178 => .defB ((adS (ofM e163) (e163.ai 1 0) (e163.ai 2 0)).snd 15) fun z179 => .defB ((adS (ofM e163) (e163.ai 1 0) (e163.ai 2 0)).snd 16) fun z180 => .defB ((adS (ofM
  e163) (e163.ai 1 0) (e163.ai 2 0)).snd 17) fun z181 => .defB ((adS (ofM e163) (e163.ai 1 0) (e163.ai 2 0)).snd 18) fun z182 => .defB ((adS (ofM e163) (e163.ai 1 0) (e163.ai 2 0)).snd 19) fun z183 => .defB ((adS (ofM
  e163) (e163.ai 1 0) (e163.ai 2 0)).snd 20) fun z184 => .defB ((adS (ofM e163) (e163.ai 1 0) (e163.ai 2 0)).snd 21) fun z185 => .defB ((adS (ofM e163) (e163.ai 1 0) (e163.ai 2 0)).snd 22) fun z186 => .defB ((adS (ofM
  e163) (e163.ai 1 0) (e163.ai 2 0)).snd 23) fun z187 => .defB ((adS (ofM e163) (e163.ai 1 0) (e163.ai 2 0)).snd 24) fun z188 => .leaf (.ret, ⟨[[.b !(adS (ofM e163) (e163.ai 1 0) (e163.ai 2 0)).fst]], []⟩)) (.leaf (.ret,
  ⟨[[.b false]], []⟩))) (.leaf (.ret, ⟨[[.b false]], []⟩))))))) (.defE ⟨[[.u], [.i a]], [.box (on25 m)]⟩ fun e189 => .defB (ofM e189 0) fun z190 => .defB (ofM e189 1) fun z191 => .defB (ofM e189 2) fun z192 => .defB (ofM
  e189 3) fun z193 => .defB (ofM e189 4) fun z194 => .defB (ofM e189 5) fun z195 => .defB (ofM e189 6) fun z196 => .defB (ofM e189 7) fun z197 => .defB (ofM e189 8) fun z198 => .defB (ofM e189 9) fun z199 => .defB (ofM
  e189 10) fun z200 => .defB (ofM e189 11) fun z201 => .defB (ofM e189 12) fun z202 => .defB (ofM e189 13) fun z203 => .defB (ofM e189 14) fun z204 => .defB (ofM e189 15) fun z205 => .defB (ofM e189 16) fun z206 => .defB
  (ofM e189 17) fun z207 => .defB (ofM e189 18) fun z208 => .defB (ofM e189 19) fun z209 => .defB (ofM e189 20) fun z210 => .defB (ofM e189 21) fun z211 => .defB (ofM e189 22) fun z212 => .defB (ofM e189 23) fun z213 =>
  .defB (ofM e189 24) fun z214 => .defI ((ofS (ofM e189) (e189.ai 1 0)).length : Int) fun z215 => .ite (z215 != 1) (.leaf (.ret, ⟨[[.b false]], []⟩)) (.defI (IntKind.i64.wrap (f + 1)) fun z216 => .defI (z216.tmod 5) fun
  z217 => .ite (z217 == a) (.defI (IntKind.i64.wrap (z217 + 1)) fun z218 => .defI (z218.tmod 5) fun z219 => .ite (f == a) (.leaf (.ret, ⟨[[.b true]], []⟩)) (.ite (z219 == f) (.leaf (.ret, ⟨[[.b true]], []⟩)) (.defE ⟨[[.u],
  [.i z219], [.i a]], [.box [.b z190, .b z191, .b z192, .b z193, .b z194, .b z195, .b z196, .b z197, .b z198, .b z199, .b z200, .b z201, .b z202, .b z203, .b z204, .b z205, .b z206, .b z207, .b z208, .b z209, .b z210, .b
  z211, .b z212, .b z213, .b z214]]⟩ fun e220 => .defB ((adS (ofM e220) (e220.ai 1 0) (e220.ai 2 0)).snd 0) fun z221 => .defB ((adS (ofM e220) (e220.ai 1 0) (e220.ai 2 0)).snd 1) fun z222 => .defB ((adS (ofM e220) (e220.ai
  1 0) (e220.ai 2 0)).snd 2) fun z223 => .defB ((adS (ofM e220) (e220.ai 1 0) (e220.ai 2 0)).snd 3) fun z224 => .defB ((adS (ofM e220) (e220.ai 1 0) (e220.ai 2 0)).snd 4) fun z225 => .defB ((adS (ofM e220) (e220.ai 1 0)
  (e220.ai 2 0)).snd 5) fun z226 => .defB ((adS (ofM e220) (e220.ai 1 0) (e220.ai 2 0)).snd 6) fun z227 => .defB ((adS (ofM e220) (e220.ai 1 0) (e220.ai 2 0)).snd 7) fun z228 => .defB ((adS (ofM e220) (e220.ai 1 0)
  (e220.ai 2 0)).snd 8) fun z229 => .defB ((adS (ofM e220) (e220.ai 1 0) (e220.ai 2 0)).snd 9) fun z230 => .defB ((adS (ofM e220) (e220.ai 1 0) (e220.ai 2 0)).snd 10) fun z231 => .defB ((adS (ofM e220) (e220.ai 1 0)
  (e220.ai 2 0)).snd 11) fun z232 => .defB ((adS (ofM e220) (e220.ai 1 0) (e220.ai 2 0)).snd 12) fun z233 => .defB ((adS (ofM e220) (e220.ai 1 0) (e220.ai 2 0)).snd 13) fun z234 => .defB ((adS (ofM e220) (e220.ai 1 0)
  (e220.ai 2 0)).snd 14) fun z235 => .defB ((adS (ofM e220) (e220.ai 1 0) (e220.ai 2 0)).snd 15) fun z236 => .defB ((adS (ofM e220) (e220.ai 1 0) (e220.ai 2 0)).snd 16) fun z237 => .defB ((adS (ofM e220) (e220.ai 1 0)
  (e220.ai 2 0)).snd 17) fun z238 => .defB ((adS (ofM e220) (e220.ai 1 0) (e220.ai 2 0)).snd 18) fun z239 => .defB ((adS (ofM e220) (e220.ai 1 0) (e220.ai 2 0)).snd 19) fun z240 => .defB ((adS (ofM e220) (e220.ai 1 0)
  (e220.ai 2 0)).snd 20) fun z241 => .defB ((adS (ofM e220) (e220.ai 1 0) (e220.ai 2 0)).snd 21) fun z242 => .defB ((adS (ofM e220) (e220.ai 1 0) (e220.ai 2 0)).snd 22) fun z243 => .defB ((adS (ofM e220) (e220.ai 1 0)
  (e220.ai 2 0)).snd 23) fun z244 => .defB ((adS (ofM e220) (e220.ai 1 0) (e220.ai 2 0)).snd 24) fun z245 => .ite (adS (ofM e220) (e220.ai 1 0) (e220.ai 2 0)).fst (.defE ⟨[[.u], [.i a]], [.box [.b z221, .b z222, .b z223,
  .b z224, .b z225, .b z226, .b z227, .b z228, .b z229, .b z230, .b z231, .b z232, .b z233, .b z234, .b z235, .b z236, .b z237, .b z238, .b z239, .b z240, .b z241, .b z242, .b z243, .b z244, .b z245]]⟩ fun e246 => .defB
  (ofM e246 0) fun z247 => .defB (ofM e246 1) fun z248 => .defB (ofM e246 2) fun z249 => .defB (ofM e246 3) fun z250 => .defB (ofM e246 4) fun z251 => .defB (ofM e246 5) fun z252 => .defB (ofM e246 6) fun z253 => .defB
  (ofM e246 7) fun z254 => .defB (ofM e246 8) fun z255 => .defB (ofM e246 9) fun z256 => .defB (ofM e246 10) fun z257 => .defB (ofM e246 11) fun z258 => .defB (ofM e246 12) fun z259 => .defB (ofM e246 13) fun z260 => .defB
  (ofM e246 14) fun z261 => .defB (ofM e246 15) fun z262 => .defB (ofM e246 16) fun z263 => .defB (ofM e246 17) fun z264 => .defB (ofM e246 18) fun z265 => .defB (ofM e246 19) fun z266 => .defB (ofM e246 20) fun z267 =>
  .defB (ofM e246 21) fun z268 => .defB (ofM e246 22) fun z269 => .defB (ofM e246 23) fun z270 => .defB (ofM e246 24) fun z271 => .defI ((ofS (ofM e246) (e246.ai 1 0)).length : Int) fun z272 => .ite (z272 == 0) (.defE
  ⟨[[.u], [.i f], [.i a]], [.box [.b z247, .b z248, .b z249, .b z250, .b z251, .b z252, .b z253, .b z254, .b z255, .b z256, .b z257, .b z258, .b z259, .b z260, .b z261, .b z262, .b z263, .b z264, .b z265, .b z266, .b z267,
  .b z268, .b z269, .b z270, .b z271]]⟩ fun e273 => .defB ((adS (ofM e273) (e273.ai 1 0) (e273.ai 2 0)).snd 0) fun z274 => .defB ((adS (ofM e273) (e273.ai 1 0) (e273.ai 2 0)).snd 1) fun z275 => .defB ((adS (ofM e273)
  (e273.ai 1 0) (e273.ai 2 0)).snd 2) fun z276 => .defB ((adS (ofM e273) (e273.ai 1 0) (e273.ai 2 0)).snd 3) fun z277 => .defB ((adS (ofM e273) (e273.ai 1 0) (e273.ai 2 0)).snd 4) fun z278 => .defB ((adS (ofM e273)
  (e273.ai 1 0) (e273.ai 2 0)).snd 5) fun z279 => .defB ((adS (ofM e273) (e273.ai 1 0) (e273.ai 2 0)).snd 6) fun z280 => .defB ((adS (ofM e273) (e273.ai 1 0) (e273.ai 2 0)).snd 7) fun z281 => .defB ((adS (ofM e273)
  (e273.ai 1 0) (e273.ai 2 0)).snd 8) fun z282 => .defB ((adS (ofM e273) (e273.ai 1 0) (e273.ai 2 0)).snd 9) fun z283 => .defB ((adS (ofM e273) (e273.ai 1 0) (e273.ai 2 0)).snd 10) fun z284 => .defB ((adS (ofM e273)
  (e273.ai 1 0) (e273.ai 2 0)).snd 11) fun z285 => .defB ((adS (ofM e273) (e273.ai 1 0) (e273.ai 2 0)).snd 12) fun z286 => .defB ((adS (ofM e273) (e273.ai 1 0) (e273.ai 2 0)).snd 13) fun z287 => .defB ((adS (ofM e273)
  (e273.ai 1 0) (e273.ai 2 0)).snd 14) fun z288 => .defB ((adS (ofM e273) (e273.ai 1 0) (e273.ai 2 0)).snd 15) fun z289 => .defB ((adS (ofM e273) (e273.ai 1 0) (e273.ai 2 0)).snd 16) fun z290 => .defB ((adS (ofM e273)
  (e273.ai 1 0) (e273.ai 2 0)).snd 17) fun z291 => .defB ((adS (ofM e273) (e273.ai 1 0) (e273.ai 2 0)).snd 18) fun z292 => .defB ((adS (ofM e273) (e273.ai 1 0) (e273.ai 2 0)).snd 19) fun z293 => .defB ((adS (ofM e273)
  (e273.ai 1 0) (e273.ai 2 0)).snd 20) fun z294 => .defB ((adS (ofM e273) (e273.ai 1 0) (e273.ai 2 0)).snd 21) fun z295 => .defB ((adS (ofM e273) (e273.ai 1 0) (e273.ai 2 0)).snd 22) fun z296 => .defB ((adS (ofM e273)
  (e273.ai 1 0) (e273.ai 2 0)).snd 23) fun z297 => .defB ((adS (ofM e273) (e273.ai 1 0) (e273.ai 2 0)).snd 24) fun z298 => .leaf (.ret, ⟨[[.b !(adS (ofM e273) (e273.ai 1 0) (e273.ai 2 0)).fst]], []⟩)) (.leaf (.ret, ⟨[[.b
  false]], []⟩))) (.leaf (.ret, ⟨[[.b false]], []⟩))))) (.ite (f == a) (.leaf (.ret, ⟨[[.b true]], []⟩)) (.ite (z217 == f) (.leaf (.ret, ⟨[[.b true]], []⟩)) (.defE ⟨[[.u], [.i z217], [.i a]], [.box [.b z190, .b z191, .b
  z192, .b z193, .b z194, .b z195, .b z196, .b z197, .b z198, .b z199, .b z200, .b z201, .b z202, .b z203, .b z204, .b z205, .b z206, .b z207, .b z208, .b z209, .b z210, .b z211, .b z212, .b z213, .b z214]]⟩ fun e299 =>
  .defB ((adS (ofM e299) (e299.ai 1 0) (e299.ai 2 0)).snd 0) fun z300 => .defB ((adS (ofM e299) (e299.ai 1 0) (e299.ai 2 0)).snd 1) fun z301 => .defB ((adS (ofM e299) (e299.ai 1 0) (e299.ai 2 0)).snd 2) fun z302 => .defB
  ((adS (ofM e299) (e299.ai 1 0) (e299.ai 2 0)).snd 3) fun z303 => .defB ((adS (ofM e299) (e299.ai 1 0) (e299.ai 2 0)).snd 4) fun z304 => .defB ((adS (ofM e299) (e299.ai 1 0) (e299.ai 2 0)).snd 5) fun z305 => .defB ((adS
  (ofM e299) (e299.ai 1 0) (e299.ai 2 0)).snd 6) fun z306 => .defB ((adS (ofM e299) (e299.ai 1 0) (e299.ai 2 0)).snd 7) fun z307 => .defB ((adS (ofM e299) (e299.ai 1 0) (e299.ai 2 0)).snd 8) fun z308 => .defB ((adS (ofM
  e299) (e299.ai 1 0) (e299.ai 2 0)).snd 9) fun z309 => .defB ((adS (ofM e299) (e299.ai 1 0) (e299.ai 2 0)).snd 10) fun z310 => .defB ((adS (ofM e299) (e299.ai 1 0) (e299.ai 2 0)).snd 11) fun z311 => .defB ((adS (ofM e299)
  (e299.ai 1 0) (e299.ai 2 0)).snd 12) fun z312 => .defB ((adS (ofM e299) (e299.ai 1 0) (e299.ai 2 0)).snd 13) fun z313 => .defB ((adS (ofM e299) (e299.ai 1 0) (e299.ai 2 0)).snd 14) fun z314 => .defB ((adS (ofM e299)
  (e299.ai 1 0) (e299.ai 2 0)).snd 15) fun z315 => .defB ((adS (ofM e299) (e299.ai 1 0) (e299.ai 2 0)).snd 16) fun z316 => .defB ((adS (ofM e299) (e299.ai 1 0) (e299.ai 2 0)).snd 17) fun z317 => .defB ((adS (ofM e299)
  (e299.ai 1 0) (e299.ai 2 0)).snd 18) fun z318 => .defB ((adS (ofM e299) (e299.ai 1 0) (e299.ai 2 0)).snd 19) fun z319 => .defB ((adS (ofM e299) (e299.ai 1 0) (e299.ai 2 0)).snd 20) fun z320 => .defB ((adS (ofM e299)
  (e299.ai 1 0) (e299.ai 2 0)).snd 21) fun z321 => .defB ((adS (ofM e299) (e299.ai 1 0) (e299.ai 2 0)).snd 22) fun z322 => .defB ((adS (ofM e299) (e299.ai 1 0) (e299.ai 2 0)).snd 23) fun z323 => .defB ((adS (ofM e299)
  (e299.ai 1 0) (e299.ai 2 0)).snd 24) fun z324 => .ite (adS (ofM e299) (e299.ai 1 0) (e299.ai 2 0)).fst (.defE ⟨[[.u], [.i a]], [.box [.b z300, .b z301, .b z302, .b z303, .b z304, .b z305, .b z306, .b z307, .b z308, .b
  z309, .b z310, .b z311, .b z312, .b z313, .b z314, .b z315, .b z316, .b z317, .b z318, .b z319, .b z320, .b z321, .b z322, .b z323, .b z324]]⟩ fun e325 => .defB (ofM e325 0) fun z326 => .defB (ofM e325 1) fun z327 =>
  .defB (ofM e325 2) fun z328 => .defB (ofM e325 3) fun z329 => .defB (ofM e325 4) fun z330 => .defB (ofM e325 5) fun z331 => .defB (ofM e325 6) fun z332 => .defB (ofM e325 7) fun z333 => .defB (ofM e325 8) fun z334 =>
  .defB (ofM e325 9) fun z335 => .defB (ofM e325 10) fun z336 => .defB (ofM e325 11) fun z337 => .defB (ofM e325 12) fun z338 => .defB (ofM e325 13) fun z339 => .defB (ofM e325 14) fun z340 => .defB (ofM e325 15) fun z341
  => .defB (ofM e325 16) fun z342 => .defB (ofM e325 17) fun z343 => .defB (ofM e325 18) fun z344 => .defB (ofM e325 19) fun z345 => .defB (ofM e325 20) fun z346 => .defB (ofM e325 21) fun z347 => .defB (ofM e325 22) fun
  z348 => .defB (ofM e325 23) fun z349 => .defB (ofM e325 24) fun z350 => .defI ((ofS (ofM e325) (e325.ai 1 0)).length : Int) fun z351 => .ite (z351 == 0) (.defE ⟨[[.u], [.i f], [.i a]], [.box [.b z326, .b z327, .b z328,
  .b z329, .b z330, .b z331, .b z332, .b z333, .b z334, .b z335, .b z336, .b z337, .b z338, .b z339, .b z340, .b z341, .b z342, .b z343, .b z344, .b z345, .b z346, .b z347, .b z348, .b z349, .b z350]]⟩ fun e352 => .defB
  ((adS (ofM e352) (e352.ai 1 0) (e352.ai 2 0)).snd 0) fun z353 => .defB ((adS (ofM e352) (e352.ai 1 0) (e352.ai 2 0)).snd 1) fun z354 => .defB ((adS (ofM e352) (e352.ai 1 0) (e352.ai 2 0)).snd 2) fun z355 => .defB ((adS
  (ofM e352) (e352.ai 1 0) (e352.ai 2 0)).snd 3) fun z356 => .defB ((adS (ofM e352) (e352.ai 1 0) (e352.ai 2 0)).snd 4) fun z357 => .defB ((adS (ofM e352) (e352.ai 1 0) (e352.ai 2 0)).snd 5) fun z358 => .defB ((adS (ofM
  e352) (e352.ai 1 0) (e352.ai 2 0)).snd 6) fun z359 => .defB ((adS (ofM e352) (e352.ai 1 0) (e352.ai 2 0)).snd 7) fun z360 => .defB ((adS (ofM e352) (e352.ai 1 0) (e352.ai 2 0)).snd 8) fun z361 => .defB ((adS (ofM e352)
  (e352.ai 1 0) (e352.ai 2 0)).snd 9) fun z362 => .defB ((adS (ofM e352) (e352.ai 1 0) (e352.ai 2 0)).snd 10) fun z363 => .defB ((adS (ofM e352) (e352.ai 1 0) (e352.ai 2 0)).snd 11) fun z364 => .defB ((adS (ofM e352)
  (e352.ai 1 0) (e352.ai 2 0)).snd 12) fun z365 => .defB ((adS (ofM e352) (e352.ai 1 0) (e352.ai 2 0)).snd 13) fun z366 => .defB ((adS (ofM e352) (e352.ai 1 0) (e352.ai 2 0)).snd 14) fun z367 => .defB ((adS (ofM e352)
  (e352.ai 1 0) (e352.ai 2 0)).snd 15) fun z368 => .defB ((adS (ofM e352) (e352.ai 1 0) (e352.ai 2 0)).snd 16) fun z369 => .defB ((adS (ofM e352) (e352.ai 1 0) (e352.ai 2 0)).snd 17) fun z370 => .defB ((adS (ofM e352)
  (e352.ai 1 0) (e352.ai 2 0)).snd 18) fun z371 => .defB ((adS (ofM e352) (e352.ai 1 0) (e352.ai 2 0)).snd 19) fun z372 => .defB ((adS (ofM e352) (e352.ai 1 0) (e352.ai 2 0)).snd 20) fun z373 => .defB ((adS (ofM e352)
  (e352.ai 1 0) (e352.ai 2 0)).snd 21) fun z374 => .defB ((adS (ofM e352) (e352.ai 1 0) (e352.ai 2 0)).snd 22) fun z375 => .defB ((adS (ofM e352) (e352.ai 1 0) (e352.ai 2 0)).snd 23) fun z376 => .defB ((adS (ofM e352)
  (e352.ai 1 0) (e352.ai 2 0)).snd 24) fun z377 => .leaf (.ret, ⟨[[.b !(adS (ofM e352) (e352.ai 1 0) (e352.ai 2 0)).fst]], []⟩)) (.leaf (.ret, ⟨[[.b false]], []⟩))) (.leaf (.ret, ⟨[[.b false]], []⟩))))))) := by kernel_rfl
def mmF (f a : Int) : Nat → Bool := if f = a then fun _ => false else setF (fun _ => false) (5 * a.toNat + f.toNat)
theorem adS_congr {m m' : Nat → Bool} (f a : Int) (h : ∀ k, k < 25 → m k = m' k) : (adS m f a).1 = (adS m' f a).1 ∧ ∀ k, k < 25 → (adS m f a).2 k = (adS m' f a).2 k := by
  have h1 : ∀ k, k < 25 → adM m f a k = adM m' f a k := fun k hk => by
    unfold adM setF
    rw [h k hk]
  unfold adS
  by_cases h0 : adOk f a
  · simp only [if_pos h0, ofS_congr a h1]
    by_cases h2 : (ofS (adM m' f a) a).length < 2
    · simp only [if_pos h2]
      exact ⟨trivial, h1⟩
    · simp only [if_neg h2]
      exact ⟨trivial, clrF_congr a h1⟩
  · simp only [if_neg h0]
    exact ⟨trivial, h⟩
theorem al_1 : ∀ f a : Fin 5, ((adS (fun _ => false) (f.val : Int) (a.val : Int)).1 = false ∧ (∀ k, k < 25 → (adS (fun _ => false) (f.val : Int) (a.val : Int)).2 k = mmF f.val a.val k)) ∧ ((adS (mmF f.val a.val) (f.val : Int) (a.val : Int)).1 = false ∧ ∀ k, k < 25 → (adS (mmF f.val a.val) (f.val : Int) (a.val : Int)).2 k = mmF f.val a.val k) := by decide +kernel
theorem al_2 : ∀ f a : Fin 5, (ofS (mmF f.val a.val) (a.val : Int)).length = if f = a then 0 else 1 := by decide +kernel
theorem al_3 : ∀ f a o : Fin 5, f ≠ a → o ≠ a → o ≠ f → (adS (mmF f.val a.val) (o.val : Int) (a.val : Int)).1 = true ∧ ∀ k, k < 25 → (adS (mmF f.val a.val) (o.val : Int) (a.val : Int)).2 k = false := by decide +kernel
theorem al_4 : ∀ a : Fin 5, (ofS (fun _ => false) (a.val : Int)).length = 0 := by decide +kernel
def fin5 {a : Int} (h : 0 ≤ a ∧ a < 5) : Fin 5 := ⟨a.toNat, by omega⟩
theorem fin5v {a : Int} (h : 0 ≤ a ∧ a < 5) : ((fin5 h).val : Int) = a := by unfold fin5; simp only; omega
theorem ofM_box {e : EN} {u : List (List Num)} {m : Nat → Bool} (he : e = ⟨u, [.box (on25 m)]⟩) : ∀ k, k < 25 → ofM e k = m k := fun k hk => by rw [he]; exact ofM_lt _ _ hk
theorem in9 : Within Try.prog 9 Try.f9.ntmps body9 := within_body Try.func9 (by kernel_rfl)
theorem lp9 : (flat body9).drop 6 = [.block 0 (.loop x9)] ++ (flat body9).drop 7 := by kernel_rfl
theorem in9x : Within Try.prog 9 Try.f9.ntmps x9 := by
  have h : (flat body9)[6]? = some (.block 0 (.loop x9)) := by kernel_rfl
  exact within_loop (within_block (within_at in9 6 h))
def alM (f a : Int) (b : Bool) : Nat → Bool := bif b then mmF f a else fun _ => false
def alQ (f a : Int) : Ex → EN → Prop
  | .exit _, e => alE.eqv e (alO f a (mmF f a))
  | .ret, e => lawR .ret e
  | .normal, _ => True
def alI (d : Int × Bool) : Prop := 0 ≤ d.1 ∧ d.1 ≤ 20 ∧ (d.2 = false → d.1 = 0)
theorem al_add (f a : Int) (hf : 0 ≤ f ∧ f < 5) (ha : 0 ≤ a ∧ a < 5) (b : Bool) {m : Nat → Bool} (h : ∀ k, k < 25 → m k = alM f a b k) : (adS m f a).1 = false ∧ on25 (adS m f a).2 = on25 (mmF f a) := by
  have h1 := al_1 (fin5 hf) (fin5 ha)
  simp only [fin5v] at h1
  obtain ⟨c1, c2⟩ := adS_congr f a h
  cases b
  · exact ⟨c1.trans h1.1.1, on25_congr fun k hk => (c2 k hk).trans (h1.1.2 k hk)⟩
  · exact ⟨c1.trans h1.2.1, on25_congr fun k hk => (c2 k hk).trans (h1.2.2 k hk)⟩
set_option maxHeartbeats 4000000 in
theorem al_loop (t f a : Int) (ht : 0 ≤ t) (hf : 0 ≤ f ∧ f < 5) (ha : 0 ≤ a ∧ a < 5) (d : Int × Bool) (hd : alI d) : HT Try.prog Try.f9.ntmps 0 (.loop x9) 1 (alL.tm (alN t f a d.1 (alM f a d.2))) (alL.heap (alN t f a d.1 (alM f a d.2))) (QX ⟨none, [(0, alE)], some (lawT 6)⟩ (alQ f a)) := by
  refine HT.loopX wdTab mixed (n := 300) in9x alL _ _ (fun d : Int × Bool => alN t f a d.1 (alM f a d.2)) alI (fun d => (20 - d.1).toNat) (fun _ => alQ f a) (Nat.zero_le _) ?_ d hd
  rintro ⟨i, b⟩ ⟨h0, h1, h2⟩ τ0
  dsimp only at h0 h1 h2
  have ht20 : 0 ≤ t.tmod 20 ∧ t.tmod 20 < 20 := ⟨Int.tmod_nonneg _ ht, Int.tmod_lt_of_pos _ (by decide)⟩
  have hw : IntKind.i64.wrap (t.tmod 20) = t.tmod 20 := IntWalk.i64_in _ (by omega)
  refine holds_of_eq (al_x t f a i (alM f a b) τ0) ?_
  (repeat' with_reducible (first | refine holds_inI ?_ | refine holds_inB ?_))
  rw [hw]
  refine holds_ite (fun hlt => holds_defE fun e he => ?_) fun hge => ?_
  · have hlt := of_decide_eq_true hlt
    have e1 : IntKind.i64.wrap (i + 1) = i + 1 := IntWalk.i64_in _ (by omega)
    have hA := al_add f a hf ha b (ofM_box he)
    have x1 : e.ai 1 0 = f := by rw [he]; rfl
    have x2 : e.ai 2 0 = a := by rw [he]; rfl
    simp only [x1, x2]
    (repeat' with_reducible (first | refine holds_inI ?_ | refine holds_inB ?_))
    refine holds_ite (fun h => absurd (hA.1.symm.trans h) (by decide)) fun _ => holds_inI (holds_leaf ⟨(i + 1, true), ⟨by show 0 ≤ i + 1; omega, by show i + 1 ≤ 20; omega, fun h => by cases h⟩, by show (20 - (i + 1)).toNat < (20 - i).toNat; omega, ?_, fun _ _ h => h⟩)
    show alL.eqv _ (alN t f a (i + 1) (mmF f a))
    unfold alN
    rw [e1, ← hA.2]
    (repeat' (first | exact trivial | exact rfl | exact TS.eqv_refl _ _ | exact len_app _ _ | exact rows_appI | exact fun _ _ => eqvL_refl _ _ | exact fun i _ => eqvL_rowNums rfl _ i | apply And.intro))
  · have hge := of_decide_eq_false hge
    cases b
    · have := h2 rfl
      omega
    · refine holds_leaf ?_
      show alE.eqv _ (alO f a (mmF f a))
      (repeat' (first | exact trivial | exact rfl | exact TS.eqv_refl _ _ | exact len_app _ _ | exact rows_appI | exact fun _ _ => eqvL_refl _ _ | exact fun i _ => eqvL_rowNums rfl _ i | apply And.intro))
set_option maxHeartbeats 40000000 in
theorem al_end (f a : Int) (hf : 0 ≤ f ∧ f < 5) (ha : 0 ≤ a ∧ a < 5) : HTL Try.prog Try.f9.ntmps 0 ((flat body9).drop 7) 1 (alE.tm (alO f a (mmF f a))) (alE.heap (alO f a (mmF f a))) (QX ⟨none, [], some (lawT 6)⟩ lawR) := by
  refine HTL.runX wdTab mixed (n := 300) (by decide) (within_drop in9 7) (Nat.zero_le _) fun τ0 => holds_of_eq (al_tail f a (mmF f a) τ0) ?_
  have L2 : (ofS (mmF f a) a).length = if f = a then 0 else 1 := by
    have := al_2 (fin5 hf) (fin5 ha)
    rw [fin5v, fin5v] at this
    rw [this]
    have : fin5 hf = fin5 ha ↔ f = a := by simp only [fin5, Fin.mk.injEq]; omega
    simp only [this]
  have step1 : ∀ (e : EN), e = ⟨[[.u], [.i a]], [.box (on25 (mmF f a))]⟩ → ((ofS (ofM e) (e.ai 1 0)).length : Int) = if f = a then 0 else 1 := fun e he => by
    have x1 : e.ai 1 0 = a := by rw [he]; rfl
    rw [x1, ofS_congr a (ofM_box he), L2]
    split <;> rfl
  by_cases hfa : f = a
  · refine holds_ite (fun _ => holds_defE fun e he => ?_) fun h => absurd hfa (by simpa using h)
    have hL := step1 e he
    rw [if_pos hfa] at hL
    rw [hL]
    (repeat' with_reducible (first | refine holds_inI ?_ | refine holds_inB ?_))
    refine holds_ite (fun h => absurd h (by decide)) fun _ => ?_
    (repeat' with_reducible (first | refine holds_inI ?_ | refine holds_inB ?_))
    have t1 : (f == a) = true := by simpa using hfa
    refine holds_ite (fun _ => ?_) (fun _ => ?_)
    · (repeat' with_reducible (first | refine holds_inI ?_ | refine holds_inB ?_))
      rw [t1]
      exact holds_ite (fun _ => holds_leaf rfl) fun h => absurd h (by decide)
    · rw [t1]
      exact holds_ite (fun _ => holds_leaf rfl) fun h => absurd h (by decide)
  · have fin : ∀ (o : Int) (ho : 0 ≤ o ∧ o < 5), o ≠ a → o ≠ f → ∀ {m : Nat → Bool}, (∀ k, k < 25 → m k = mmF f a k) → (adS m o a).1 = true ∧ ∀ k, k < 25 → (adS m o a).2 k = false := fun o ho h1 h2 m hm => by
      have h3 := al_3 (fin5 hf) (fin5 ha) (fin5 ho) (by simp only [fin5, ne_eq, Fin.mk.injEq]; omega) (by simp only [fin5, ne_eq, Fin.mk.injEq]; omega) (by simp only [fin5, ne_eq, Fin.mk.injEq]; omega)
      simp only [fin5v] at h3
      obtain ⟨c1, c2⟩ := adS_congr o a hm
      exact ⟨c1.trans h3.1, fun k hk => (c2 k hk).trans (h3.2 k hk)⟩
    have fin4 : ∀ {m : Nat → Bool}, (∀ k, k < 25 → m k = false) → (ofS m a).length = 0 := fun hm => by
      have := al_4 (fin5 ha)
      rw [fin5v] at this
      rw [ofS_congr a hm, this]
    have fin5' : ∀ {m : Nat → Bool}, (∀ k, k < 25 → m k = false) → (adS m f a).1 = false := fun hm => (al_add f a hf ha false hm).1
    refine holds_ite (fun h => absurd (by simpa using h) hfa) fun _ => holds_defE fun e he => ?_
    have hL := step1 e he
    rw [if_neg hfa] at hL
    rw [hL]
    (repeat' with_reducible (first | refine holds_inI ?_ | refine holds_inB ?_))
    refine holds_ite (fun h => absurd h (by decide)) fun _ => ?_
    have w1 : IntKind.i64.wrap (f + 1) = f + 1 := IntWalk.i64_in _ (by omega)
    have t1 : (f == a) = false := by simpa using hfa
    have o1 : 0 ≤ (f + 1).tmod 5 ∧ (f + 1).tmod 5 < 5 := ⟨Int.tmod_nonneg _ (by omega), Int.tmod_lt_of_pos _ (by decide)⟩
    have w2 : IntKind.i64.wrap ((f + 1).tmod 5 + 1) = (f + 1).tmod 5 + 1 := IntWalk.i64_in _ (by omega)
    have o2 : 0 ≤ ((f + 1).tmod 5 + 1).tmod 5 ∧ ((f + 1).tmod 5 + 1).tmod 5 < 5 := ⟨Int.tmod_nonneg _ (by omega), Int.tmod_lt_of_pos _ (by decide)⟩
    have n1 : (f + 1).tmod 5 ≠ f := by
      have : f = 0 ∨ f = 1 ∨ f = 2 ∨ f = 3 ∨ f = 4 := by omega
      rcases this with rfl | rfl | rfl | rfl | rfl <;> decide
    have n2 : ((f + 1).tmod 5 + 1).tmod 5 ≠ f := by
      have : f = 0 ∨ f = 1 ∨ f = 2 ∨ f = 3 ∨ f = 4 := by omega
      rcases this with rfl | rfl | rfl | rfl | rfl <;> decide
    have n3 : ((f + 1).tmod 5 + 1).tmod 5 ≠ (f + 1).tmod 5 := by
      have : f = 0 ∨ f = 1 ∨ f = 2 ∨ f = 3 ∨ f = 4 := by omega
      rcases this with rfl | rfl | rfl | rfl | rfl <;> decide
    (repeat' with_reducible (first | refine holds_inI ?_ | refine holds_inB ?_))
    rw [w1]
    simp only [w2]
    refine holds_ite (fun h1 => ?_) (fun h1 => ?_)
    · have h1 : (f + 1).tmod 5 = a := by simpa using h1
      (repeat' with_reducible (first | refine holds_inI ?_ | refine holds_inB ?_))
      rw [t1]
      refine holds_ite (fun h => absurd h (by decide)) fun _ => holds_ite (fun h => absurd (by simpa using h) n2) fun _ => holds_defE fun e2 he2 => ?_
      have x1 : e2.ai 1 0 = (((f + 1).tmod 5 + 1).tmod 5) := by rw [he2]; rfl
      have x2 : e2.ai 2 0 = a := by rw [he2]; rfl
      have M2 : ∀ k, k < 25 → ofM e2 k = mmF f a k := fun k hk => (ofM_box (m := ofM e) he2 k hk).trans (ofM_box he k hk)
      simp only [x1, x2]
      obtain ⟨F1, F2⟩ := fin _ o2 (h1 ▸ n3) n2 M2
      rw [F1]
      (repeat' with_reducible (first | refine holds_inI ?_ | refine holds_inB ?_))
      refine holds_ite (fun _ => ?_) fun h => absurd h (by decide)
      (repeat' with_reducible (first | refine holds_inI ?_ | refine holds_inB ?_))
      refine holds_defE fun e3 he3 => ?_
      have y2 : e3.ai 1 0 = a := by rw [he3]; rfl
      have M3 : ∀ k, k < 25 → ofM e3 k = false := fun k hk => (ofM_box (m := (adS (ofM e2) (((f + 1).tmod 5 + 1).tmod 5) a).2) he3 k hk).trans (F2 k hk)
      simp only [y2, fin4 M3]
      (repeat' with_reducible (first | refine holds_inI ?_ | refine holds_inB ?_))
      refine holds_ite (fun _ => ?_) fun h => absurd h (by decide)
      refine holds_defE fun e4 he4 => ?_
      have z1 : e4.ai 1 0 = f := by rw [he4]; rfl
      have z2 : e4.ai 2 0 = a := by rw [he4]; rfl
      have M4 : ∀ k, k < 25 → ofM e4 k = false := fun k hk => (ofM_box (m := ofM e3) he4 k hk).trans (M3 k hk)
      simp only [z1, z2, fin5' M4]
      (repeat' with_reducible (first | refine holds_inI ?_ | refine holds_inB ?_))
      exact holds_leaf rfl
    · have h1 : (f + 1).tmod 5 ≠ a := by simpa using h1
      rw [t1]
      refine holds_ite (fun h => absurd h (by decide)) fun _ => holds_ite (fun h => absurd (by simpa using h) n1) fun _ => holds_defE fun e2 he2 => ?_
      have x1 : e2.ai 1 0 = ((f + 1).tmod 5) := by rw [he2]; rfl
      have x2 : e2.ai 2 0 = a := by rw [he2]; rfl
      have M2 : ∀ k, k < 25 → ofM e2 k = mmF f a k := fun k hk => (ofM_box (m := ofM e) he2 k hk).trans (ofM_box he k hk)
      simp only [x1, x2]
      obtain ⟨F1, F2⟩ := fin _ o1 h1 n1 M2
      rw [F1]
      (repeat' with_reducible (first | refine holds_inI ?_ | refine holds_inB ?_))
      refine holds_ite (fun _ => ?_) fun h => absurd h (by decide)
      (repeat' with_reducible (first | refine holds_inI ?_ | refine holds_inB ?_))
      refine holds_defE fun e3 he3 => ?_
      have y2 : e3.ai 1 0 = a := by rw [he3]; rfl
      have M3 : ∀ k, k < 25 → ofM e3 k = false := fun k hk => (ofM_box (m := (adS (ofM e2) ((f + 1).tmod 5) a).2) he3 k hk).trans (F2 k hk)
      simp only [y2, fin4 M3]
      (repeat' with_reducible (first | refine holds_inI ?_ | refine holds_inB ?_))
      refine holds_ite (fun _ => ?_) fun h => absurd h (by decide)
      refine holds_defE fun e4 he4 => ?_
      have z1 : e4.ai 1 0 = f := by rw [he4]; rfl
      have z2 : e4.ai 2 0 = a := by rw [he4]; rfl
      have M4 : ∀ k, k < 25 → ofM e4 k = false := fun k hk => (ofM_box (m := ofM e3) he4 k hk).trans (M3 k hk)
      simp only [z1, z2, fin5' M4]
      (repeat' with_reducible (first | refine holds_inI ?_ | refine holds_inB ?_))
      exact holds_leaf rfl
section
variable (f a t : Int) (hf : 0 ≤ f) (ha : 0 ≤ a) (ht : 0 ≤ t)
include hf ha ht in
theorem al_ht : HT Try.prog Try.f9.ntmps 0 body9 0 (alT.tm ⟨[[.i f], [.i a], [.i t]], []⟩) (alT.heap ⟨[[.i f], [.i a], [.i t]], []⟩) (QX ⟨none, [], some (lawT 6)⟩ lawR) := by
  have f5 : 0 ≤ f.tmod 5 ∧ f.tmod 5 < 5 := ⟨Int.tmod_nonneg _ hf, Int.tmod_lt_of_pos _ (by decide)⟩
  have a5 : 0 ≤ a.tmod 5 ∧ a.tmod 5 < 5 := ⟨Int.tmod_nonneg _ ha, Int.tmod_lt_of_pos _ (by decide)⟩
  have wf : IntKind.i64.wrap (f.tmod 5) = f.tmod 5 := IntWalk.i64_in _ (by omega)
  have wa : IntKind.i64.wrap (a.tmod 5) = a.tmod 5 := IntWalk.i64_in _ (by omega)
  refine HT.cutX 6 (t1 := alL) (R1 := fun ex en => match ex with | .normal => alL.eqv en (alN t (f.tmod 5) (a.tmod 5) 0 fun _ => false) | .ret => lawR .ret en | .exit _ => True) (HTL.runX wdTab mixed (n := 300) (by decide) (within_take in9 6) (Nat.zero_le _) fun τ0 => holds_of_eq (al_pre f a t τ0) (holds_inI (holds_inI (holds_inI (holds_inI (holds_leaf ?_)))))) ?_ ?_
  · show alL.eqv _ _
    rw [wf, wa]
    (repeat' (first | exact trivial | exact rfl | exact TS.eqv_refl _ _ | exact len_app _ _ | exact rows_appI | exact fun _ _ => eqvL_refl _ _ | exact fun i _ => eqvL_rowNums rfl _ i | apply And.intro))
  · rintro en he
    refine HTg.pre (WP := wpL Try.prog _) (fun h hq => wpL_mono h hq) he (HTL.loopThen lp9 (al_loop t (f.tmod 5) (a.tmod 5) ht f5 a5 (0, false) ⟨Int.le_refl _, by decide, fun _ => rfl⟩) ?_ ?_)
    · intro en he
      have he : alE.eqv en _ := he
      exact HTg.pre (WP := wpL Try.prog _) (fun h hq => wpL_mono h hq) he (al_end (f.tmod 5) (a.tmod 5) f5 a5)
    · exact fun en h => h
  · exact fun en h => h
end
theorem al_c (W : World) (f a t : Int) (hf : 0 ≤ f) (ha : 0 ≤ a) (ht : 0 ≤ t) :
    Calls Try.prog 9 #[.int .u8 f, .int .u8 a, .int .u8 t] W fun e W' => e = .returned (.bool true) ∧ Below W.heap.size W W' :=
  law_htX (args := [.int .u8 (.sym f), .int .u8 (.sym a), .int .u8 (.sym t)]) (l := []) (m := 0) (hdr := fun _ => default) Try.func9 (by kernel_rfl) (by kernel_rfl) (by kernel_rfl)
    (fun p hp => by cases hp) (al_ht f a t hf ha ht) (fun E' hE => by simp [denL, den, SI.v])
set_option maxRecDepth 100000 in
theorem alone_lifted (os : Os) (started : os.Started) (H : Type) (enc : TypeId × Value → H) :
    ReturnsInHanded {} Try.checked os 9 .any (Rows.reportsAloneSpec.pre6 enc Try.prog Try.f9 Rows.reportsAloneRow.domain false) (Rows.reportsAloneSpec.post enc Try.prog Try.f9 false true false false) := by
  refine law_lifted (C := Try.checked) Try.own started (by kernel_rfl) Try.func9
    (ChangeSpec.witness6 (enc := enc) (C := Try.checked) false ⟨#[], #[.int .u8 0, .int .u8 0, .int .u8 0], []⟩ 8 (by kernel_rfl) (by kernel_rfl) (by kernel_rfl) (by kernel_rfl))
    Try.laidOut ?_ (B := 4) (by kernel_rfl) (by kernel_rfl) rfl ?_ ?_
  · intro t ht
    rw [Try.params9] at ht
    have : t = 5 := by
      simp at ht
      first | exact ht | omega
    rcases this with rfl <;> exact ⟨by kernel_rfl, of_decide_eq_true (by kernel_rfl)⟩
  · intro ds h
    rw [Try.params9] at h
    match ds, h with
    | [d1, d2, d3], _ => rfl
  · intro W base args ds p hval hA hlt
    rw [Try.params9] at hA hval
    obtain ⟨v0, v1, v2, d0, d1, d2, p0, p1, p2, rfl, rfl, rfl, h0, h1, h2⟩ := trodAll_three hA
    obtain ⟨f, rfl, _, _, w0⟩ := open_int Try.underlying5 (hval 0 5 v0 rfl rfl) h0
    obtain ⟨a, rfl, _, _, w1⟩ := open_int Try.underlying5 (hval 1 5 v1 rfl rfl) h1
    obtain ⟨t, rfl, _, _, w2⟩ := open_int Try.underlying5 (hval 2 5 v2 rfl rfl) h2
    exact al_c W f a t (wf_u8 w0).1 (wf_u8 w1).1 (wf_u8 w2).1

theorem reportsAlone_holds : Rows.ReportsAloneSaid :=
  OpenClaim.holds_of_wide 9 Try.f9 rfl rfl rfl rfl rfl rfl rfl ⟨rfl, rfl, rfl, rfl, rfl⟩ rfl rfl rfl rfl rfl (by kernel_rfl) Try.func9 (by kernel_rfl)
    (of_decide_eq_true (by kernel_rfl)) (by unfold Func.isWrapper; rw [if_neg (by decide +kernel)]; exact ⟨rfl, rfl⟩)
    (fun os started H enc _ => alone_lifted os started H enc)
end Go.Proofs.Ytlcgnjcfihablaa
