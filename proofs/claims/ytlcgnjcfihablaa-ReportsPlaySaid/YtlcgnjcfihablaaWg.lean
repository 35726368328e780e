/- ReportsPlay: any row of reports and clearings: what is told is told alike.
   Conditions: none. -/
import Derived.Test.YtlcgnjcfihablaaWf
set_option linter.unusedSimpArgs false
set_option linter.unusedVariables false
namespace Go.Proofs.Ytlcgnjcfihablaa
open Go.Eng Go.RowKit Go.ChangeShapes Go.WideShapes
set_option maxRecDepth 100000
noncomputable def body8 : Code := Try.f8.body.getD .skip
noncomputable def x8 : Code := lp ((flat body8).getD 7 .skip)
def rpH : List (Nat × TO) := [(0, .lst none [.i .i64, .i .i64, .b] none), (1, .box b25), (2, .box b25)]
def rpT : TS := ⟨[0], [.one (.sl 0)], [(0, .lst none [.i .i64, .i .i64, .b] none)], 1⟩
def rpL : TS := ⟨[0, 3, 4, 5], [.one (.sl 0), .one (.ptr 1 0), .one (.ptr 2 0), .one (.i .i64)], rpH, 3⟩
def rpE : TS := ⟨[], [], [], 1⟩
def rpN (n : Nat) (s : Nat → List Num) (m : Nat → Bool) (i : Int) : EN := ⟨[[], [], [], [.i i]], [.lst n s, .box (on25 m), .box (on25 m)]⟩
theorem rp_pre (n : Nat) (s : Nat → List Num) (τ0 : Tm) : codeT Try.prog weT 300 8 Try.f8.ntmps (Eng.ofL ((flat body8).take 7)) (rpT.tm ⟨[[]], [.lst n s]⟩ ++ τ0) (rpT.heap ⟨[[]], [.lst n s]⟩) 1 (outX 0 ⟨some rpL, [], some (lawT 2)⟩) =
  .ite (decide ((n : Int) > 60)) (.leaf (.ret, ⟨[[.b true]], []⟩)) (.must (rowsB [.i .i64, .i .i64, .b] (instR [.i .i64, .i .i64, .b] s) n) (.leaf (.normal, ⟨[[.u], [.u], [.u], [.i 0]], [.lst n (rowNums [.i .i64, .i .i64,
  .b] (instR [.i .i64, .i .i64, .b] s)), .box [.b false, .b false, .b false, .b false, .b false, .b false, .b false, .b false, .b false, .b false, .b false, .b false, .b false, .b false, .b false, .b false, .b false, .b
  false, .b false, .b false, .b false, .b false, .b false, .b false, .b false], .box [.b false, .b false, .b false, .b false, .b false, .b false, .b false, .b false, .b false, .b false, .b false, .b false, .b false, .b
  false, .b false, .b false, .b false, .b false, .b false, .b false, .b false, .b false, .b false, .b false, .b false]]⟩))) := by kernel_rfl
theorem rp_x (n : Nat) (s : Nat → List Num) (m : Nat → Bool) (i : Int) (τ0 : Tm) : codeT Try.prog weT 300 8 Try.f8.ntmps x8 (rpL.tm (rpN n s m i) ++ τ0) (rpL.heap (rpN n s m i)) 3 (outX 0 ⟨some rpL, [(0, rpE)], some (lawT 2)⟩) =
  .ite (decide (i < (n : Int))) (.must (decide (0 ≤ i ∧ i < (n : Int))) (.must (decide (0 ≤ i ∧ i < (n : Int))) (.defI (hdN (s i.toNat)).I fun z0 => .defI (hdN (tlN (s i.toNat))).I fun z1 => .ite (hdN (tlN (tlN (s
  i.toNat)))).B (.defE ⟨[[.u], [.i z1]], [.box (on25 m)]⟩ fun e2 => .defB (clrF (ofM e2) (e2.ai 1 0) 0) fun z3 => .defB (clrF (ofM e2) (e2.ai 1 0) 1) fun z4 => .defB (clrF (ofM e2) (e2.ai 1 0) 2) fun z5 => .defB (clrF (ofM
  e2) (e2.ai 1 0) 3) fun z6 => .defB (clrF (ofM e2) (e2.ai 1 0) 4) fun z7 => .defB (clrF (ofM e2) (e2.ai 1 0) 5) fun z8 => .defB (clrF (ofM e2) (e2.ai 1 0) 6) fun z9 => .defB (clrF (ofM e2) (e2.ai 1 0) 7) fun z10 => .defB
  (clrF (ofM e2) (e2.ai 1 0) 8) fun z11 => .defB (clrF (ofM e2) (e2.ai 1 0) 9) fun z12 => .defB (clrF (ofM e2) (e2.ai 1 0) 10) fun z13 => .defB (clrF (ofM e2) (e2.ai 1 0) 11) fun z14 => .defB (clrF (ofM e2) (e2.ai 1 0) 12)
  fun z15 => .defB (clrF (ofM e2) (e2.ai 1 0) 13) fun z16 => .defB (clrF (ofM e2) (e2.ai 1 0) 14) fun z17 => .defB (clrF (ofM e2) (e2.ai 1 0) 15) fun z18 => .defB (clrF (ofM e2) (e2.ai 1 0) 16) fun z19 => .defB (clrF (ofM
  e2) (e2.ai 1 0) 17) fun z20 => .defB (clrF (ofM e2) (e2.ai 1 0) 18) fun z21 => .defB (clrF (ofM e2) (e2.ai 1 0) 19) fun z22 => .defB (clrF (ofM e2) (e2.ai 1 0) 20) fun z23 => .defB (clrF (ofM e2) (e2.ai 1 0) 21) fun z24
  => .defB (clrF (ofM e2) (e2.ai 1 0) 22) fun z25 => .defB (clrF (ofM e2) (e2.ai 1 0) 23) fun z26 => .defB (clrF (ofM e2) (e2.ai 1 0) 24) fun z27 => .defE ⟨[[.u], [.i z1]], [.box (on25 m)]⟩ fun e28 => .defB (clrF (ofM e28)
  (e28.ai 1 0) 0) fun z29 => .defB (clrF (ofM e28) (e28.ai 1 0) 1) fun z30 => .defB (clrF (ofM e28) (e28.ai 1 0) 2) fun z31 => .defB (clrF (ofM e28) (e28.ai 1 0) 3) fun z32 => .defB (clrF (ofM e28) (e28.ai 1 0) 4) fun z33
  => .defB (clrF (ofM e28) (e28.ai 1 0) 5) fun z34 => .defB (clrF (ofM e28) (e28.ai 1 0) 6) fun z35 => .defB (clrF (ofM e28) (e28.ai 1 0) 7) fun z36 => .defB (clrF (ofM e28) (e28.ai 1 0) 8) fun z37 => .defB (clrF (ofM e28)
  (e28.ai 1 0) 9) fun z38 => .defB (clrF (ofM e28) (e28.ai 1 0) 10) fun z39 => .defB (clrF (ofM e28) (e28.ai 1 0) 11) fun z40 => .defB (clrF (ofM e28) (e28.ai 1 0) 12) fun z41 => .defB (clrF (ofM e28) (e28.ai 1 0) 13) fun
  z42 => .defB (clrF (ofM e28) (e28.ai 1 0) 14) fun z43 => .defB (clrF (ofM e28) (e28.ai 1 0) 15) fun z44 => .defB (clrF (ofM e28) (e28.ai 1 0) 16) fun z45 => .defB (clrF (ofM e28) (e28.ai 1 0) 17) fun z46 => .defB (clrF
  (ofM e28) (e28.ai 1 0) 18) fun z47 => .defB (clrF (ofM e28) (e28.ai 1 0) 19) fun z48 => .defB (clrF (ofM e28) (e28.ai 1 0) 20) fun z49 => .defB (clrF (ofM e28) (e28.ai 1 0) 21) fun z50 => .defB (clrF (ofM e28) (e28.ai 1
  0) 22) fun z51 => .defB (clrF (ofM e28) (e28.ai 1 0) 23) fun z52 => .defB (clrF (ofM e28) (e28.ai 1 0) 24) fun z53 => .defE ⟨[[.u], [.i (-1)]], [.box [.b z3, .b z4, .b z5, .b z6, .b z7, .b z8, .b z9, .b z10, .b z11, .b
  z12, .b z13, .b z14, .b z15, .b z16, .b z17, .b z18, .b z19, .b z20, .b z21, .b z22, .b z23, .b z24, .b z25, .b z26, .b z27]]⟩ fun e54 => .defB (ofM e54 0) fun z55 => .defB (ofM e54 1) fun z56 => .defB (ofM e54 2) fun
  z57 => .defB (ofM e54 3) fun z58 => .defB (ofM e54 4) fun z59 => .defB (ofM e54 5) fun z60 => .defB (ofM e54 6) fun z61 => .defB (ofM e54 7) fun z62 => .defB (ofM e54 8) fun z63 => .defB (ofM e54 9) fun z64 => .defB (ofM
  e54 10) fun z65 => .defB (ofM e54 11) fun z66 => .defB (ofM e54 12) fun z67 => .defB (ofM e54 13) fun z68 => .defB (ofM e54 14) fun z69 => .defB (ofM e54 15) fun z70 => .defB (ofM e54 16) fun z71 => .defB (ofM e54 17)
  fun z72 => .defB (ofM e54 18) fun z73 => .defB (ofM e54 19) fun z74 => .defB (ofM e54 20) fun z75 => .defB (ofM e54 21) fun z76 => .defB (ofM e54 22) fun z77 => .defB (ofM e54 23) fun z78 => .defB (ofM e54 24) fun z79 =>
  .defI ((ofS (ofM e54) (e54.ai 1 0)).length : Int) fun z80 => .defE ⟨[[.u], [.i (-1)]], [.box [.b z29, .b z30, .b z31, .b z32, .b z33, .b z34, .b z35, .b z36, .b z37, .b z38, .b z39, .b z40, .b z41, .b z42, .b z43, .b
  z44, .b z45, .b z46, .b z47, .b z48, .b z49, .b z50, .b z51, .b z52, .b z53]]⟩ fun e81 => .defB (ofM e81 0) fun z82 => .defB (ofM e81 1) fun z83 => .defB (ofM e81 2) fun z84 => .defB (ofM e81 3) fun z85 => .defB (ofM e81
  4) fun z86 => .defB (ofM e81 5) fun z87 => .defB (ofM e81 6) fun z88 => .defB (ofM e81 7) fun z89 => .defB (ofM e81 8) fun z90 => .defB (ofM e81 9) fun z91 => .defB (ofM e81 10) fun z92 => .defB (ofM e81 11) fun z93 =>
  .defB (ofM e81 12) fun z94 => .defB (ofM e81 13) fun z95 => .defB (ofM e81 14) fun z96 => .defB (ofM e81 15) fun z97 => .defB (ofM e81 16) fun z98 => .defB (ofM e81 17) fun z99 => .defB (ofM e81 18) fun z100 => .defB
  (ofM e81 19) fun z101 => .defB (ofM e81 20) fun z102 => .defB (ofM e81 21) fun z103 => .defB (ofM e81 22) fun z104 => .defB (ofM e81 23) fun z105 => .defB (ofM e81 24) fun z106 => .defI ((ofS (ofM e81) (e81.ai 1
  0)).length : Int) fun z107 => .must (rowsB [.i .i64] (instR [.i .i64] (rowI ((ofS (ofM e54) (e54.ai 1 0))))) z80.toNat) (.must (rowsB [.i .i64] (instR [.i .i64] (rowI ((ofS (ofM e81) (e81.ai 1 0))))) z107.toNat) (.defE
  ⟨[[.u], [.u]], [.lst z80.toNat (rowNums [.i .i64] (instR [.i .i64] (rowI ((ofS (ofM e54) (e54.ai 1 0)))))), .lst z107.toNat (rowNums [.i .i64] (instR [.i .i64] (rowI ((ofS (ofM e81) (e81.ai 1 0))))))]⟩ fun e108 => .must
  (decide (e108.ln 0 ≤ 5)) (.ite (!decide (iqP (e108.ln 0) (e108.ln 1) (e108.rw 0) (e108.rw 1))) (.leaf (.ret, ⟨[[.b false]], []⟩)) (.defE ⟨[[.u], [.i 0]], [.box [.b z55, .b z56, .b z57, .b z58, .b z59, .b z60, .b z61, .b
  z62, .b z63, .b z64, .b z65, .b z66, .b z67, .b z68, .b z69, .b z70, .b z71, .b z72, .b z73, .b z74, .b z75, .b z76, .b z77, .b z78, .b z79]]⟩ fun e109 => .defB (ofM e109 0) fun z110 => .defB (ofM e109 1) fun z111 =>
  .defB (ofM e109 2) fun z112 => .defB (ofM e109 3) fun z113 => .defB (ofM e109 4) fun z114 => .defB (ofM e109 5) fun z115 => .defB (ofM e109 6) fun z116 => .defB (ofM e109 7) fun z117 => .defB (ofM e109 8) fun z118 =>
  .defB (ofM e109 9) fun z119 => .defB (ofM e109 10) fun z120 => .defB (ofM e109 11) fun z121 => .defB (ofM e109 12) fun z122 => .defB (ofM e109 13) fun z123 => .defB (ofM e109 14) fun z124 => .defB (ofM e109 15) fun z125
  => .defB (ofM e109 16) fun z126 => .defB (ofM e109 17) fun z127 => .defB (ofM e109 18) fun z128 => .defB (ofM e109 19) fun z129 => .defB (ofM e109 20) fun z130 => .defB (ofM e109 21) fun z131 => .defB (ofM e109 22) fun
  z132 => .defB (ofM e109 23) fun z133 => .defB (ofM e109 24) fun z134 => .defI ((ofS (ofM e109) (e109.ai 1 0)).length : Int) fun z135 => .defE ⟨[[.u], [.i 0]], [.box [.b z82, .b z83, .b z84, .b z85, .b z86, .b z87, .b
  z88, .b z89, .b z90, .b z91, .b z92, .b z93, .b z94, .b z95, .b z96, .b z97, .b z98, .b z99, .b z100, .b z101, .b z102, .b z103, .b z104, .b z105, .b z106]]⟩ fun e136 => .defB (ofM e136 0) fun z137 => .defB (ofM e136 1)
  fun z138 => .defB (ofM e136 2) fun z139 => .defB (ofM e136 3) fun z140 => .defB (ofM e136 4) fun z141 => .defB (ofM e136 5) fun z142 => .defB (ofM e136 6) fun z143 => .defB (ofM e136 7) fun z144 => .defB (ofM e136 8) fun
  z145 => .defB (ofM e136 9) fun z146 => .defB (ofM e136 10) fun z147 => .defB (ofM e136 11) fun z148 => .defB (ofM e136 12) fun z149 => .defB (ofM e136 13) fun z150 => .defB (ofM e136 14) fun z151 => .defB (ofM e136 15)
  fun z152 => .defB (ofM e136 16) fun z153 => .defB (ofM e136 17) fun z154 => .defB (ofM e136 18) fun z155 => .defB (ofM e136 19) fun z156 => .defB (ofM e136 20) fun z157 => .defB (ofM e136 21) fun z158 => .defB (ofM e136
  22) fun z159 => .defB (ofM e136 23) fun z160 => .defB (ofM e136 24) fun z161 => .defI ((ofS (ofM e136) (e136.ai 1 0)).length : Int) fun z162 => .must (rowsB [.i .i64] (instR [.i .i64] (rowI ((ofS (ofM e109) (e109.ai 1
  0))))) z135.toNat) (.must (rowsB [.i .i64] (instR [.i .i64] (rowI ((ofS (ofM e136) (e136.ai 1 0))))) z162.toNat) (.defE ⟨[[.u], [.u]], [.lst z135.toNat (rowNums [.i .i64] (instR [.i .i64] (rowI ((ofS (ofM e109) (e109.ai
  1 0)))))), .lst z162.toNat (rowNums [.i .i64] (instR [.i .i64] (rowI ((ofS (ofM e136) (e136.ai 1 0))))))]⟩ fun e163 => .must (decide (e163.ln 0 ≤ 5)) (.ite (!decide (iqP (e163.ln 0) (e163.ln 1) (e163.rw 0) (e163.rw 1)))
  (.leaf (.ret, ⟨[[.b false]], []⟩)) (.defE ⟨[[.u], [.i 1]], [.box [.b z110, .b z111, .b z112, .b z113, .b z114, .b z115, .b z116, .b z117, .b z118, .b z119, .b z120, .b z121, .b z122, .b z123, .b z124, .b z125, .b z126,
  .b z127, .b z128, .b z129, .b z130, .b z131, .b z132, .b z133, .b z134]]⟩ fun e164 => .defB (ofM e164 0) fun z165 => .defB (ofM e164 1) fun z166 => .defB (ofM e164 2) fun z167 => .defB (ofM e164 3) fun z168 => .defB (ofM
  e164 4) fun z169 => .defB (ofM e164 5) fun z170 => .defB (ofM e164 6) fun z171 => .defB (ofM e164 7) fun z172 => .defB (ofM e164 8) fun z173 => .defB (ofM e164 9) fun z174 => .defB (ofM e164 10) fun z175 => .defB (ofM
  e164 11) fun z176 => .defB (ofM e164 12) fun z177 => .defB (ofM e164 13) fun z178 => .defB (ofM e164 14) fun z179 => .defB (ofM e164 15) fun z180 => .defB (ofM e164 16) fun z181 => .defB (ofM e164 17) fun z182 => .defB
  (ofM e164 18) fun z183 => .defB (ofM e164 19) fun z184 => .defB (ofM e164 20) fun z185 => .defB (ofM e164 21) fun z186 => .defB (ofM e164 22) fun z187 => .defB (ofM e164 23) fun z188 => .defB (ofM e164 24) fun z189 =>
  .defI ((ofS (ofM e164) (e164.ai 1 0)).length : Int) fun z190 => .defE ⟨[[.u], [.i 1]], [.box [.b z137, .b z138, .b z139, .b z140, .b z141, .b z142, .b z143, .b z144, .b z145, .b z146, .b z147, .b z148, .b z149, .b z150,
  .b z151, .b z152, .b z153, .b z154, .b z155, .b z156, .b z157, .b z158, .b z159, .b z160, .b z161]]⟩ fun e191 => .defB (ofM e191 0) fun z192 => .defB (ofM e191 1) fun z193 => .defB (ofM e191 2) fun z194 => .defB (ofM
  e191 3) fun z195 => .defB (ofM e191 4) fun z196 => .defB (ofM e191 5) fun z197 => .defB (ofM e191 6) fun z198 => .defB (ofM e191 7) fun z199 => .defB (ofM e191 8) fun z200 => .defB (ofM e191 9) fun z201 => .defB (ofM
  e191 10) fun z202 => .defB (ofM e191 11) fun z203 => .defB (ofM e191 12) fun z204 => .defB (ofM e191 13) fun z205 => .defB (ofM e191 14) fun z206 => .defB (ofM e191 15) fun z207 => .defB (ofM e191 16) fun z208 => .defB
  (ofM e191 17) fun z209 => .defB (ofM e191 18) fun z210 => .defB (ofM e191 19) fun z211 => .defB (ofM e191 20) fun z212 => .defB (ofM e191 21) fun z213 => .defB (ofM e191 22) fun z214 => .defB (ofM e191 23) fun z215 =>
  .defB (ofM e191 24) fun z216 => .defI ((ofS (ofM e191) (e191.ai 1 0)).length : Int) fun z217 => .must (rowsB [.i .i64] (instR [.i .i64] (rowI ((ofS (ofM e164) (e164.ai 1 0))))) z190.toNat) (.must (rowsB [.i .i64] (instR
  [.i .i64] (rowI ((ofS (ofM e191) (e191.ai 1 0))))) z217.toNat) (.defE ⟨[[.u], [.u]], [.lst z190.toNat (rowNums [.i .i64] (instR [.i .i64] (rowI ((ofS (ofM e164) (e164.ai 1 0)))))), .lst z217.toNat (rowNums [.i .i64]
  (instR [.i .i64] (rowI ((ofS (ofM e191) (e191.ai 1 0))))))]⟩ fun e218 => .must (decide (e218.ln 0 ≤ 5)) (.ite (!decide (iqP (e218.ln 0) (e218.ln 1) (e218.rw 0) (e218.rw 1))) (.leaf (.ret, ⟨[[.b false]], []⟩)) (.defE
  ⟨[[.u], [.i 2]], [.box [.b z165, .b z166, .b z167, .b z168, .b z169, .b z170, .b z171, .b z172, .b z173, .b z174, .b z175, .b z176, .b z177, .b z178, .b z179, .b z180, .b z181, .b z182, .b z183, .b z184, .b z185, .b
  z186, .b z187, .b z188, .b z189]]⟩ fun e219 => .defB (ofM e219 0) fun z220 => .defB (ofM e219 1) fun z221 => .defB (ofM e219 2) fun z222 => .defB (ofM e219 3) fun z223 => .defB (ofM e219 4) fun z224 => .defB (ofM e219 5)
  fun z225 => .defB (ofM e219 6) fun z226 => .defB (ofM e219 7) fun z227 => .defB (ofM e219 8) fun z228 => .defB (ofM e219 9) fun z229 => .defB (ofM e219 10) fun z230 => .defB (ofM e219 11) fun z231 => .defB (ofM e219 12)
  fun z232 => .defB (ofM e219 13) fun z233 => .defB (ofM e219 14) fun z234 => .defB (ofM e219 15) fun z235 => .defB (ofM e219 16) fun z236 => .defB (ofM e219 17) fun z237 => .defB (ofM e219 18) fun z238 => .defB (ofM e219
  19) fun z239 => .defB (ofM e219 20) fun z240 => .defB (ofM e219 21) fun z241 => .defB (ofM e219 22) fun z242 => .defB (ofM e219 23) fun z243 => .defB (ofM e219 24) fun z244 => .defI ((ofS (ofM e219) (e219.ai 1 0)).length
  : Int) fun z245 => .defE ⟨[[.u], [.i 2]], [.box [.b z192, .b z193, .b z194, .b z195, .b z196, .b z197, .b z198, .b z199, .b z200, .b z201, .b z202, .b z203, .b z204, .b z205, .b z206, .b z207, .b z208, .b z209, .b z210,
  .b z211, .b z212, .b z213, .b z214, .b z215, .b z216]]⟩ fun e246 => .defB (ofM e246 0) fun z247 => .defB (ofM e246 1) fun z248 => .defB (ofM e246 2) fun z249 => .defB (ofM e246 3) fun z250 => .defB (ofM e246 4) fun z251
  => .defB (ofM e246 5) fun z252 => .defB (ofM e246 6) fun z253 => .defB (ofM e246 7) fun z254 => .defB (ofM e246 8) fun z255 => .defB (ofM e246 9) fun z256 => .defB (ofM e246 10) fun z257 => .defB (ofM e246 11) fun z258
  => .defB (ofM e246 12) fun z259 => .defB (ofM e246 13) fun z260 => .defB (ofM e246 14) fun z261 => .defB (ofM e246 15) fun z262 => .defB (ofM e246 16) fun z263 => .defB (ofM e246 17) fun z264 => .defB (ofM e246 18) fun
  z265 => .defB (ofM e246 19) fun z266 => .defB (ofM e246 20) fun z267 => .defB (ofM e246 21) fun z268 => .defB (ofM e246 22) fun z269 => .defB (ofM e246 23) fun z270 => .defB (ofM e246 24) fun z271 => .defI ((ofS (ofM
  e246) (e246.ai 1 0)).length : Int) fun z272 => .must (rowsB [.i .i64] (instR [.i .i64] (rowI ((ofS (ofM e219) (e219.ai 1 0))))) z245.toNat) (.must (rowsB [.i .i64] (instR [.i .i64] (rowI ((ofS (ofM e246) (e246.ai 1
  0))))) z272.toNat) (.defE ⟨[[.u], [.u]], [.lst z245.toNat (rowNums [.i .i64] (instR [.i .i64] (rowI ((ofS (ofM e219) (e219.ai 1 0)))))), .lst z272.toNat (rowNums [.i .i64] (instR [.i .i64] (rowI ((ofS (ofM e246) (e246.ai
  1 0))))))]⟩ fun e273 => .must (decide (e273.ln 0 ≤ 5)) (.ite (!decide (iqP (e273.ln 0) (e273.ln 1) (e273.rw 0) (e273.rw 1))) (.leaf (.ret, ⟨[[.b false]], []⟩)) (.defE ⟨[[.u], [.i 3]], [.box [.b z220, .b z221, .b z222, .b
  z223, .b z224, .b z225, .b z226, .b z227, .b z228, .b z229, .b z230, .b z231, .b z232, .b z233, .b z234, .b z235, .b z236, .b z237, .b z238, .b z239, .b z240, .b z241, .b z242, .b z243, .b z244]]⟩ fun e274 => .defB (ofM
  e274 0) fun z275 => .defB (ofM e274 1) fun z276 => .defB (ofM e274 2) fun z277 => .defB (ofM e274 3) fun z278 => .defB (ofM e274 4) fun z279 => .defB (ofM e274 5) fun z280 => .defB (ofM e274 6) fun z281 => .defB (ofM
  e274 7) fun z282 => .defB (ofM e274 8) fun z283 => .defB (ofM e274 9) fun z284 => .defB (ofM e274 10) fun z285 => .defB (ofM e274 11) fun z286 => .defB (ofM e274 12) fun z287 => .defB (ofM e274 13) fun z288 => .defB (ofM
  e274 14) fun z289 => .defB (ofM e274 15) fun z290 => .defB (ofM e274 16) fun z291 => .defB (ofM e274 17) fun z292 => .defB (ofM e274 18) fun z293 => .defB (ofM e274 19) fun z294 => .defB (ofM e274 20) fun z295 => .defB
  (ofM e274 21) fun z296 => .defB (ofM e274 22) fun z297 => .defB (ofM e274 23) fun z298 => .defB (ofM e274 24) fun z299 => .defI ((ofS (ofM e274) (e274.ai 1 0)).length : Int) fun z300 => .defE ⟨[[.u], [.i 3]], [.box [.b
  z247, .b z248, .b z249, .b z250, .b z251, .b z252, .b z253, .b z254, .b z255, .b z256, .b z257, .b z258, .b z259, .b z260, .b z261, .b z262, .b z263, .b z264, .b z265, .b z266, .b z267, .b z268, .b z269, .b z270, .b
  z271]]⟩ fun e301 => .defB (ofM e301 0) fun z302 => .defB (ofM e301 1) fun z303 => .defB (ofM e301 2) fun z304 => .defB (ofM e301 3) fun z305 => .defB (ofM e301 4) fun z306 => .defB (ofM e301 5) fun z307 => .defB (ofM
  e301 6) fun z308 => .defB (ofM e301 7) fun z309 => .defB (ofM e301 8) fun z310 => .defB (ofM e301 9) fun z311 => .defB (ofM e301 10) fun z312 => .defB (ofM e301 11) fun z313 => .defB (ofM e301 12) fun z314 => .defB (ofM
  e301 13) fun z315 => .defB (ofM e301 14) fun z316 => .defB (ofM e301 15) fun z317 => .defB (ofM e301 16) fun z318 => .defB (ofM e301 17) fun z319 => .defB (ofM e301 18) fun z320 => .defB (ofM e301 19) fun z321 => .defB
  (ofM e301 20) fun z322 => .defB (ofM e301 21) fun z323 => .defB (ofM e301 22) fun z324 => .defB (ofM e301 23) fun z325 => .defB (ofM e301 24) fun z326 => .defI ((ofS (ofM e301) (e301.ai 1 0)).length : Int) fun z327 =>
  .must (rowsB [.i .i64] (instR [.i .i64] (rowI ((ofS (ofM e274) (e274.ai 1 0))))) z300.toNat) (.must (rowsB [.i .i64] (instR [.i .i64] (rowI ((ofS (ofM e301) (e301.ai 1 0))))) z327.toNat) (.defE ⟨[[.u], [.u]], [.lst
  z300.toNat (rowNums [.i .i64] (instR [.i .i64] (rowI ((ofS (ofM e274) (e274.ai 1 0)))))), .lst z327.toNat (rowNums [.i .i64] (instR [.i .i64] (rowI ((ofS (ofM e301) (e301.ai 1 0))))))]⟩ fun e328 => .must (decide (e328.ln
  0 ≤ 5)) (.ite (!decide (iqP (e328.ln 0) (e328.ln 1) (e328.rw 0) (e328.rw 1))) (.leaf (.ret, ⟨[[.b false]], []⟩)) (.defE ⟨[[.u], [.i 4]], [.box [.b z275, .b z276, .b z277, .b z278, .b z279, .b z280, .b z281, .b z282, .b
  z283, .b z284, .b z285, .b z286, .b z287, .b z288, .b z289, .b z290, .b z291, .b z292, .b z293, .b z294, .b z295, .b z296, .b z297, .b z298, .b z299]]⟩ fun e329 => .defB (ofM e329 0) fun z330 => .defB (ofM e329 1) fun
  z331 => .defB (ofM e329 2) fun z332 => .defB (ofM e329 3) fun z333 => .defB (ofM e329 4) fun z334 => .defB (ofM e329 5) fun z335 => .defB (ofM e329 6) fun z336 => .defB (ofM e329 7) fun z337 => .defB (ofM e329 8) fun
  z338 => .defB (ofM e329 9) fun z339 => .defB (ofM e329 10) fun z340 => .defB (ofM e329 11) fun z341 => .defB (ofM e329 12) fun z342 => .defB (ofM e329 13) fun z343 => .defB (ofM e329 14) fun z344 => .defB (ofM e329 15)
  fun z345 => .defB (ofM e329 16) fun z346 => .defB (ofM e329 17) fun z347 => .defB (ofM e329 18) fun z348 => .defB (ofM e329 19) fun z349 => .defB (ofM e329 20) fun z350 => .defB (ofM e329 21) fun z351 => .defB (ofM e329
  22) fun z352 => .defB (ofM e329 23) fun z353 => .defB (ofM e329 24) fun z354 => .defI ((ofS (ofM e329) (e329.ai 1 0)).length : Int) fun z355 => .defE ⟨[[.u], [.i 4]], [.box [.b z302, .b z303, .b z304, .b z305, .b z306,
  .b z307, .b z308, .b z309, .b z310, .b z311, .b z312, .b z313, .b z314, .b z315, .b z316, .b z317, .b z318, .b z319, .b z320, .b z321, .b z322, .b z323, .b z324, .b z325, .b z326]]⟩ fun e356 => .defB (ofM e356 0) fun
  z357 => .defB (ofM e356 1) fun z358 => .defB (ofM e356 2) fun z359 => .defB (ofM e356 3) fun z360 => .defB (ofM e356 4) fun z361 => .defB (ofM e356 5) fun z362 => .defB (ofM e356 6) fun z363 => .defB (ofM e356 7) fun
  z364 => .defB (ofM e356 8) fun z365 => .defB (ofM e356 9) fun z366 => .defB (ofM e356 10) fun z367 => .defB (ofM e356 11) fun z368 => .defB (ofM e356 12) fun z369 => .defB (ofM e356 13) fun z370 => .defB (ofM e356 14)
  fun z371 => .defB (ofM e356 15) fun z372 => .defB (ofM e356 16) fun z373 => .defB (ofM e356 17) fun z374 => .defB (ofM e356 18) fun z375 => .defB (ofM e356 19) fun z376 => .defB (ofM e356 20) fun z377 => .defB (ofM e356
  21) fun z378 => .defB (ofM e356 22) fun z379 => .defB (ofM e356 23) fun z380 => .defB (ofM e356 24) fun z381 => .defI ((ofS (ofM e356) (e356.ai 1 0)).length : Int) fun z382 => .must (rowsB [.i .i64] (instR [.i .i64]
  (rowI ((ofS (ofM e329) (e329.ai 1 0))))) z355.toNat) (.must (rowsB [.i .i64] (instR [.i .i64] (rowI ((ofS (ofM e356) (e356.ai 1 0))))) z382.toNat) (.defE ⟨[[.u], [.u]], [.lst z355.toNat (rowNums [.i .i64] (instR [.i
  .i64] (rowI ((ofS (ofM e329) (e329.ai 1 0)))))), .lst z382.toNat (rowNums [.i .i64] (instR [.i .i64] (rowI ((ofS (ofM e356) (e356.ai 1 0))))))]⟩ fun e383 => .must (decide (e383.ln 0 ≤ 5)) (.ite (!decide (iqP (e383.ln 0)
  (e383.ln 1) (e383.rw 0) (e383.rw 1))) (.leaf (.ret, ⟨[[.b false]], []⟩)) (.defE ⟨[[.u], [.i 5]], [.box [.b z330, .b z331, .b z332, .b z333, .b z334, .b z335, .b z336, .b z337, .b z338, .b z339, .b z340, .b z341, .b z342,
  .b z343, .b z344, .b z345, .b z346, .b z347, .b z348, .b z349, .b z350, .b z351, .b z352, .b z353, .b z354]]⟩ fun e384 => .defB (ofM e384 0) fun z385 => .defB (ofM e384 1) fun z386 => .defB (ofM e384 2) fun z387 => .defB
  (ofM e384 3) fun z388 => .defB (ofM e384 4) fun z389 => .defB (ofM e384 5) fun z390 => .defB (ofM e384 6) fun z391 => .defB (ofM e384 7) fun z392 => .defB (ofM e384 8) fun z393 => .defB (ofM e384 9) fun z394 => .defB
  (ofM e384 10) fun z395 => .defB (ofM e384 11) fun z396 => .defB (ofM e384 12) fun z397 => .defB (ofM e384 13) fun z398 => .defB (ofM e384 14) fun z399 => .defB (ofM e384 15) fun z400 => .defB (ofM e384 16) fun z401 =>
  .defB (ofM e384 17) fun z402 => .defB (ofM e384 18) fun z403 => .defB (ofM e384 19) fun z404 => .defB (ofM e384 20) fun z405 => .defB (ofM e384 21) fun z406 => .defB (ofM e384 22) fun z407 => .defB (ofM e384 23) fun z408
  => .defB (ofM e384 24) fun z409 => .defI ((ofS (ofM e384) (e384.ai 1 0)).length : Int) fun z410 => .defE ⟨[[.u], [.i 5]], [.box [.b z357, .b z358, .b z359, .b z360, .b z361, .b z362, .b z363, .b z364, .b z365, .b z366,
  .b z367, .b z368, .b z369, .b z370, .b z371, .b z372, .b z373, .b z374, .b z375, .b z376, .b z377, .b z378, .b z379, .b z380, .b z381]]⟩ fun e411 => .defB (ofM e411 0) fun z412 => .defB (ofM e411 1) fun z413 => .defB
  (ofM e411 2) fun z414 => .defB (ofM e411 3) fun z415 => .defB (ofM e411 4) fun z416 => .defB (ofM e411 5) fun z417 => .defB (ofM e411 6) fun z418 => .defB (ofM e411 7) fun z419 => .defB (ofM e411 8) fun z420 => .defB
  (ofM e411 9) fun z421 => .defB (ofM e411 10) fun z422 => .defB (ofM e411 11) fun z423 => .defB (ofM e411 12) fun z424 => .defB (ofM e411 13) fun z425 => .defB (ofM e411 14) fun z426 => .defB (ofM e411 15) fun z427 =>
  .defB (ofM e411 16) fun z428 => .defB (ofM e411 17) fun z429 => .defB (ofM e411 18) fun z430 => .defB (ofM e411 19) fun z431 => .defB (ofM e411 20) fun z432 => .defB (ofM e411 21) fun z433 => .defB (ofM e411 22) fun z434
  => .defB (ofM e411 23) fun z435 => .defB (ofM e411 24) fun z436 => .defI ((ofS (ofM e411) (e411.ai 1 0)).length : Int) fun z437 => .must (rowsB [.i .i64] (instR [.i .i64] (rowI ((ofS (ofM e384) (e384.ai 1 0)))))
  z410.toNat) (.must (rowsB [.i .i64] (instR [.i .i64] (rowI ((ofS (ofM e411) (e411.ai 1 0))))) z437.toNat) (.defE ⟨[[.u], [.u]], [.lst z410.toNat (rowNums [.i .i64] (instR [.i .i64] (rowI ((ofS (ofM e384) (e384.ai 1
  0)))))), .lst z437.toNat (rowNums [.i .i64] (instR [.i .i64] (rowI ((ofS (ofM e411) (e411.ai 1 0))))))]⟩ fun e438 => .must (decide (e438.ln 0 ≤ 5)) (.ite (!decide (iqP (e438.ln 0) (e438.ln 1) (e438.rw 0) (e438.rw 1)))
  (.leaf (.ret, ⟨[[.b false]], []⟩)) (.defI (IntKind.i64.wrap (i + 1)) fun z439 => .must (rowsB [.i .i64, .i .i64, .b] (instR [.i .i64, .i .i64, .b] s) n) (.leaf (.normal, ⟨[[.u], [.u], [.u], [.i z439]], [.lst n (rowNums
  [.i .i64, .i .i64, .b] (instR [.i .i64, .i .i64, .b] s)), .box [.b z385, .b z386, .b z387, .b z388, .b z389, .b z390, .b z391, .b z392, .b z393, .b z394, .b z395, .b z396, .b z397, .b z398, .b z399, .b z400, .b z401, .b
  z402, .b z403, .b z404, .b z405, .b z406, .b z407, .b z408, .b z409], .box [.b z412, .b z413, .b z414, .b z415, .b z416, .b z417, .b z418, .b z419, .b z420, .b z421, .b z422, .b z423, .b z424, .b z425, .b z426, .b z427,
  .b z428, .b z429, .b z430, .b z431, .b z432, .b z433, .b z434, .b z435, .b z436]]⟩))))))))))))))))))))))))))))))) (.defE ⟨[[.u], [.i z0], [.i z1]], [.box (on25 m)]⟩ fun e440 => .defB ((adS (ofM e440) (e440.ai 1 0)
  (e440.ai 2 0)).snd 0) fun z441 => .defB ((adS (ofM e440) (e440.ai 1 0) (e440.ai 2 0)).snd 1) fun z442 => .defB ((adS (ofM e440) (e440.ai 1 0) (e440.ai 2 0)).snd 2) fun z443 => .defB ((adS (ofM e440) (e440.ai 1 0)
  (e440.ai 2 0)).snd 3) fun z444 => .defB ((adS (ofM e440) (e440.ai 1 0) (e440.ai 2 0)).snd 4) fun z445 => .defB ((adS (ofM e440) (e440.ai 1 0) (e440.ai 2 0)).snd 5) fun z446 => .defB ((adS (ofM e440) (e440.ai 1 0)
  (e440.ai 2 0)).snd 6) fun z447 => .defB ((adS (ofM e440) (e440.ai 1 0) (e440.ai 2 0)).snd 7) fun z448 => .defB ((adS (ofM e440) (e440.ai 1 0) (e440.ai 2 0)).snd 8) fun z449 => .defB ((adS (ofM e440) (e440.ai 1 0)
  (e440.ai 2 0)).snd 9) fun z450 => .defB ((adS (ofM e440) (e440.ai 1 0) (e440.ai 2 0)).snd 10) fun z451 => .defB ((adS (ofM e440) (e440.ai 1 0) (e440.ai 2 0)).snd 11) fun z452 => .defB ((adS (ofM e440) (e440.ai 1 0)
  (e440.ai 2 0)).snd 12) fun z453 => .defB ((adS (ofM e440) (e440.ai 1 0) (e440.ai 2 0)).snd 13) fun z454 => .defB ((adS (ofM e440) (e440.ai 1 0) (e440.ai 2 0)).snd 14) fun z455 => .defB ((adS (ofM e440) (e440.ai 1 0)
  (e440.ai 2 0)).snd 15) fun z456 => .defB ((adS (ofM e440) (e440.ai 1 0) (e440.ai 2 0)).snd 16) fun z457 => .defB ((adS (ofM e440) (e440.ai 1 0) (e440.ai 2 0)).snd 17) fun z458 => .defB ((adS (ofM e440) (e440.ai 1 0)
  (e440.ai 2 0)).snd 18) fun z459 => .defB ((adS (ofM e440) (e440.ai 1 0) (e440.ai 2 0)).snd 19) fun z460 => .defB ((adS (ofM e440) (e440.ai 1 0) (e440.ai 2 0)).snd 20) fun z461 => .defB ((adS (ofM e440) (e440.ai 1 0)
  (e440.ai 2 0)).snd 21) fun z462 => .defB ((adS (ofM e440) (e440.ai 1 0) (e440.ai 2 0)).snd 22) fun z463 => .defB ((adS (ofM e440) (e440.ai 1 0) (e440.ai 2 0)).snd 23) fun z464 => .defB ((adS (ofM e440) (e440.ai 1 0)
  (e440.ai 2 0)).snd 24) fun z465 => .defE ⟨[[.u], [.i z0], [.i z1]], [.box (on25 m)]⟩ fun e466 => .defB ((adS (ofM e466) (e466.ai 1 0) (e466.ai 2 0)).snd 0) fun z467 => .defB ((adS (ofM e466) (e466.ai 1 0) (e466.ai 2
  0)).snd 1) fun z468 => .defB ((adS (ofM e466) (e466.ai 1 0) (e466.ai 2 0)).snd 2) fun z469 => .defB ((adS (ofM e466) (e466.ai 1 0) (e466.ai 2 0)).snd 3) fun z470 => .defB ((adS (ofM e466) (e466.ai 1 0) (e466.ai 2 0)).snd
  4) fun z471 => .defB ((adS (ofM e466) (e466.ai 1 0) (e466.ai 2 0)).snd 5) fun z472 => .defB ((adS (ofM e466) (e466.ai 1 0) (e466.ai 2 0)).snd 6) fun z473 => .defB ((adS (ofM e466) (e466.ai 1 0) (e466.ai 2 0)).snd 7) fun
  z474 => .defB ((adS (ofM e466) (e466.ai 1 0) (e466.ai 2 0)).snd 8) fun z475 => .defB ((adS (ofM e466) (e466.ai 1 0) (e466.ai 2 0)).snd 9) fun z476 => .defB ((adS (ofM e466) (e466.ai 1 0) (e466.ai 2 0)).snd 10) fun z477
  => .defB ((adS (ofM e466) (e466.ai 1 0) (e466.ai 2 0)).snd 11) fun z478 => .defB ((adS (ofM e466) (e466.ai 1 0) (e466.ai 2 0)).snd 12) fun z479 => .defB ((adS (ofM e466) (e466.ai 1 0) (e466.ai 2 0)).snd 13) fun z480 =>
  .defB ((adS (ofM e466) (e466.ai 1 0) (e466.ai 2 0)).snd 14) fun z481 => .defB ((adS (ofM e466) (e466.ai 1 0) (e466.ai 2 0)).snd 15) fun z482 => .defB ((adS (ofM e466) (e466.ai 1 0) (e466.ai 2 0)).snd 16) fun z483 =>
  .defB ((adS (ofM e466) (e466.ai 1 0) (e466.ai 2 0)).snd 17) fun z484 => .defB ((adS (ofM e466) (e466.ai 1 0) (e466.ai 2 0)).snd 18) fun z485 => .defB ((adS (ofM e466) (e466.ai 1 0) (e466.ai 2 0)).snd 19) fun z486 =>
  .defB ((adS (ofM e466) (e466.ai 1 0) (e466.ai 2 0)).snd 20) fun z487 => .defB ((adS (ofM e466) (e466.ai 1 0) (e466.ai 2 0)).snd 21) fun z488 => .defB ((adS (ofM e466) (e466.ai 1 0) (e466.ai 2 0)).snd 22) fun z489 =>
  .defB ((adS (ofM e466) (e466.ai 1 0) (e466.ai 2 0)).snd 23) fun z490 => .defB ((adS (ofM e466) (e466.ai 1 0) (e466.ai 2 0)).snd 24) fun z491 => .ite (!(adS (ofM e440) (e440.ai 1 0) (e440.ai 2 0)).fst == (adS (ofM e466)
  (e466.ai 1 0) (e466.ai 2 0)).fst) (.leaf (.ret, ⟨[[.b false]], []⟩)) (.defE ⟨[[.u], [.i (-1)]], [.box [.b z441, .b z442, .b z443, .b z444, .b z445, .b z446, .b z447, .b z448, .b z449, .b z450, .b z451, .b z452, .b z453,
  .b z454, .b z455, .b z456, .b z457, .b z458, .b z459, .b z460, .b z461, .b z462, .b z463, .b z464, .b z465]]⟩ fun e492 => .defB (ofM e492 0) fun z493 => .defB (ofM e492 1) fun z494 => .defB (ofM e492 2) fun z495 => .defB
  (ofM e492 3) fun z496 => .defB (ofM e492 4) fun z497 => .defB (ofM e492 5) fun z498 => .defB (ofM e492 6) fun z499 => .defB (ofM e492 7) fun z500 => .defB (ofM e492 8) fun z501 => .defB (ofM e492 9) fun z502 => .defB
  (ofM e492 10) fun z503 => .defB (ofM e492 11) fun z504 => .defB (ofM e492 12) fun z505 => .defB (ofM e492 13) fun z506 => .defB (ofM e492 14) fun z507 => .defB (ofM e492 15) fun z508 => .defB (ofM e492 16) fun z509 =>
  .defB (ofM e492 17) fun z510 => .defB (ofM e492 18) fun z511 => .defB (ofM e492 19) fun z512 => .defB (ofM e492 20) fun z513 => .defB (ofM e492 21) fun z514 => .defB (ofM e492 22) fun z515 => .defB (ofM e492 23) fun z516
  => .defB (ofM e492 24) fun z517 => .defI ((ofS (ofM e492) (e492.ai 1 0)).length : Int) fun z518 => .defE ⟨[[.u], [.i (-1)]], [.box [.b z467, .b z468, .b z469, .b z470, .b z471, .b z472, .b z473, .b z474, .b z475, .b
  z476, .b z477, .b z478, .b z479, .b z480, .b z481, .b z482, .b z483, .b z484, .b z485, .b z486, .b z487, .b z488, .b z489, .b z490, .b z491]]⟩ fun e519 => .defB (ofM e519 0) fun z520 => .defB (ofM e519 1) fun z521 =>
  .defB (ofM e519 2) fun z522 => .defB (ofM e519 3) fun z523 => .defB (ofM e519 4) fun z524 => .defB (ofM e519 5) fun z525 => .defB (ofM e519 6) fun z526 => .defB (ofM e519 7) fun z527 => .defB (ofM e519 8) fun z528 =>
  .defB (ofM e519 9) fun z529 => .defB (ofM e519 10) fun z530 => .defB (ofM e519 11) fun z531 => .defB (ofM e519 12) fun z532 => .defB (ofM e519 13) fun z533 => .defB (ofM e519 14) fun z534 => .defB (ofM e519 15) fun z535
  => .defB (ofM e519 16) fun z536 => .defB (ofM e519 17) fun z537 => .defB (ofM e519 18) fun z538 => .defB (ofM e519 19) fun z539 => .defB (ofM e519 20) fun z540 => .defB (ofM e519 21) fun z541 => .defB (ofM e519 22) fun
  z542 => .defB (ofM e519 23) fun z543 => .defB (ofM e519 24) fun z544 => .defI ((ofS (ofM e519) (e519.ai 1 0)).length : Int) fun z545 => .must (rowsB [.i .i64] (instR [.i .i64] (rowI ((ofS (ofM e492) (e492.ai 1 0)))))
  z518.toNat) (.must (rowsB [.i .i64] (instR [.i .i64] (rowI ((ofS (ofM e519) (e519.ai 1 0))))) z545.toNat) (.defE ⟨[[.u], [.u]], [.lst z518.toNat (rowNums [.i .i64] (instR [.i .i64] (rowI ((ofS (ofM e492) (e492.ai 1
  0)))))), .lst z545.toNat (rowNums [.i .i64] (instR [.i .i64] (rowI ((ofS (ofM e519) (e519.ai 1 0))))))]⟩ fun e546 => .must (decide (e546.ln 0 ≤ 5)) (.ite (!decide (iqP (e546.ln 0) (e546.ln 1) (e546.rw 0) (e546.rw 1)))
  (.leaf (.ret, ⟨[[.b false]], []⟩)) (.defE ⟨[[.u], [.i 0]], [.box [.b z493, .b z494, .b z495, .b z496, .b z497, .b z498, .b z499, .b z500, .b z501, .b z502, .b z503, .b z504, .b z505, .b z506, .b z507, .b z508, .b z509,
  .b z510, .b z511, .b z512, .b z513, .b z514, .b z515, .b z516, .b z517]]⟩ fun e547 => .defB (ofM e547 0) fun z548 => .defB (ofM e547 1) fun z549 => .defB (ofM e547 2) fun z550 => .defB (ofM e547 3) fun z551 => .defB (ofM
  e547 4) fun z552 => .defB (ofM e547 5) fun z553 => .defB (ofM e547 6) fun z554 => .defB (ofM e547 7) fun z555 => .defB (ofM e547 8) fun z556 => .defB (ofM e547 9) fun z557 => .defB (ofM e547 10) fun z558 => .defB (ofM
  e547 11) fun z559 => .defB (ofM e547 12) fun z560 => .defB (ofM e547 13) fun z561 => .defB (ofM e547 14) fun z562 => .defB (ofM e547 15) fun z563 => .defB (ofM e547 16) fun z564 => .defB (ofM e547 17) fun z565 => .defB
  (ofM e547 18) fun z566 => .defB (ofM e547 19) fun z567 => .defB (ofM e547 20) fun z568 => .defB (ofM e547 21) fun z569 => .defB (ofM e547 22) fun z570 => .defB (ofM e547 23) fun z571 => .defB (ofM e547 24) fun z572 =>
  .defI ((ofS (ofM e547) (e547.ai 1 0)).length : Int) fun z573 => .defE ⟨[[.u], [.i 0]], [.box [.b z520, .b z521, .b z522, .b z523, .b z524, .b z525, .b z526, .b z527, .b z528, .b z529, .b z530, .b z531, .b z532, .b z533,
  .b z534, .b z535, .b z536, .b z537, .b z538, .b z539, .b z540, .b z541, .b z542, .b z543, .b z544]]⟩ fun e574 => .defB (ofM e574 0) fun z575 => .defB (ofM e574 1) fun z576 => .defB (ofM e574 2) fun z577 => .defB (ofM
  e574 3) fun z578 => .defB (ofM e574 4) fun z579 => .defB (ofM e574 5) fun z580 => .defB (ofM e574 6) fun z581 => .defB (ofM e574 7) fun z582 => .defB (ofM e574 8) fun z583 => .defB (ofM e574 9) fun z584 => .defB (ofM
  e574 10) fun z585 => .defB (ofM e574 11) fun z586 => .defB (ofM e574 12) fun z587 => .defB (ofM e574 13) fun z588 => .defB (ofM e574 14) fun z589 => .defB (ofM e574 15) fun z590 => .defB (ofM e574 16) fun z591 => .defB
  (ofM e574 17) fun z592 => .defB (ofM e574 18) fun z593 => .defB (ofM e574 19) fun z594 => .defB (ofM e574 20) fun z595 => .defB (ofM e574 21) fun z596 => .defB (ofM e574 22) fun z597 => .defB (ofM e574 23) fun z598 =>
  .defB (ofM e574 24) fun z599 => .defI ((ofS (ofM e574) (e574.ai 1 0)).length : Int) fun z600 => .must (rowsB [.i .i64] (instR [.i .i64] (rowI ((ofS (ofM e547) (e547.ai 1 0))))) z573.toNat) (.must (rowsB [.i .i64] (instR
  [.i .i64] (rowI ((ofS (ofM e574) (e574.ai 1 0))))) z600.toNat) (.defE ⟨[[.u], [.u]], [.lst z573.toNat (rowNums [.i .i64] (instR [.i .i64] (rowI ((ofS (ofM e547) (e547.ai 1 0)))))), .lst z600.toNat (rowNums [.i .i64]
  (instR [.i .i64] (rowI ((ofS (ofM e574) (e574.ai 1 0))))))]⟩ fun e601 => .must (decide (e601.ln 0 ≤ 5)) (.ite (!decide (iqP (e601.ln 0) (e601.ln 1) (e601.rw 0) (e601.rw 1))) (.leaf (.ret, ⟨[[.b false]], []⟩)) (.defE
  ⟨[[.u], [.i 1]], [.box [.b z548, .b z549, .b z550, .b z551, .b z552, .b z553, .b z554, .b z555, .b z556, .b z557, .b z558, .b z559, .b z560, .b z561, .b z562, .b z563, .b z564, .b z565, .b z566, .b z567, .b z568, .b
  z569, .b z570, .b z571, .b z572]]⟩ fun e602 => .defB (ofM e602 0) fun z603 => .defB (ofM e602 1) fun z604 => .defB (ofM e602 2) fun z605 => .defB (ofM e602 3) fun z606 => .defB (ofM e602 4) fun z607 => .defB (ofM e602 5)
  fun z608 => .defB (ofM e602 6) fun z609 => .defB (ofM e602 7) fun z610 => .defB (ofM e602 8) fun z611 => .defB (ofM e602 9) fun z612 => .defB (ofM e602 10) fun z613 => .defB (ofM e602 11) fun z614 => .defB (ofM e602 12)
  fun z615 => .defB (ofM e602 13) fun z616 => .defB (ofM e602 14) fun z617 => .defB (ofM e602 15) fun z618 => .defB (ofM e602 16) fun z619 => .defB (ofM e602 17) fun z620 => .defB (ofM e602 18) fun z621 => .defB (ofM e602
  19) fun z622 => .defB (ofM e602 20) fun z623 => .defB (ofM e602 21) fun z624 => .defB (ofM e602 22) fun z625 => .defB (ofM e602 23) fun z626 => .defB (ofM e602 24) fun z627 => .defI ((ofS (ofM e602) (e602.ai 1 0)).length
  : Int) fun z628 => .defE ⟨[[.u], [.i 1]], [.box [.b z575, .b z576, .b z577, .b z578, .b z579, .b z580, .b z581, .b z582, .b z583, .b z584, .b z585, .b z586, .b z587, .b z588, .b z589, .b z590, .b z591, .b z592, .b z593,
  .b z594, .b z595, .b z596, .b z597, .b z598, .b z599]]⟩ fun e629 => .defB (ofM e629 0) fun z630 => .defB (ofM e629 1) fun z631 => .defB (ofM e629 2) fun z632 => .defB (ofM e629 3) fun z633 => .defB (ofM e629 4) fun z634
  => .defB (ofM e629 5) fun z635 => .defB (ofM e629 6) fun z636 => .defB (ofM e629 7) fun z637 => .defB (ofM e629 8) fun z638 => .defB (ofM e629 9) fun z639 => .defB (ofM e629 10) fun z640 => .defB (ofM e629 11) fun z641
  => .defB (ofM e629 12) fun z642 => .defB (ofM e629 13) fun z643 => .defB (ofM e629 14) fun z644 => .defB (ofM e629 15) fun z645 => .defB (ofM e629 16) fun z646 => .defB (ofM e629 17) fun z647 => .defB (ofM e629 18) fun
  z648 => .defB (ofM e629 19) fun z649 => .defB (ofM e629 20) fun z650 => .defB (ofM e629 21) fun z651 => .defB (ofM e629 22) fun z652 => .defB (ofM e629 23) fun z653 => .defB (ofM e629 24) fun z654 => .defI ((ofS (ofM
  e629) (e629.ai 1 0)).length : Int) fun z655 => .must (rowsB [.i .i64] (instR [.i .i64] (rowI ((ofS (ofM e602) (e602.ai 1 0))))) z628.toNat) (.must (rowsB [.i .i64] (instR [.i .i64] (rowI ((ofS (ofM e629) (e629.ai 1
  0))))) z655.toNat) (.defE ⟨[[.u], [.u]], [.lst z628.toNat (rowNums [.i .i64] (instR [.i .i64] (rowI ((ofS (ofM e602) (e602.ai 1 0)))))), .lst z655.toNat (rowNums [.i .i64] (instR [.i .i64] (rowI ((ofS (ofM e629) (e629.ai
  1 0))))))]⟩ fun e656 => .must (decide (e656.ln 0 ≤ 5)) (.ite (!decide (iqP (e656.ln 0) (e656.ln 1) (e656.rw 0) (e656.rw 1))) (.leaf (.ret, ⟨[[.b false]], []⟩)) (.defE ⟨[[.u], [.i 2]], [.box [.b z603, .b z604, .b z605, .b
  z606, .b z607, .b z608, .b z609, .b z610, .b z611, .b z612, .b z613, .b z614, .b z615, .b z616, .b z617, .b z618, .b z619, .b z620, .b z621, .b z622, .b z623, .b z624, .b z625, .b z626, .b z627]]⟩ fun e657 => .defB (ofM
  e657 0) fun z658 => .defB (ofM e657 1) fun z659 => .defB (ofM e657 2) fun z660 => .defB (ofM e657 3) fun z661 => .defB (ofM e657 4) fun z662 => .defB (ofM e657 5) fun z663 => .defB (ofM e657 6) fun z664 => .defB (ofM
  e657 7) fun z665 => .defB (ofM e657 8) fun z666 => .defB (ofM e657 9) fun z667 => .defB (ofM e657 10) fun z668 => .defB (ofM e657 11) fun z669 => .defB (ofM e657 12) fun z670 => .defB (ofM e657 13) fun z671 => .defB (ofM
  e657 14) fun z672 => .defB (ofM e657 15) fun z673 => .defB (ofM e657 16) fun z674 => .defB (ofM e657 17) fun z675 => .defB (ofM e657 18) fun z676 => .defB (ofM e657 19) fun z677 => .defB (ofM e657 20) fun z678 => .defB
  (ofM e657 21) fun z679 => .defB (ofM e657 22) fun z680 => .defB (ofM e657 23) fun z681 => .defB (ofM e657 24) fun z682 => .defI ((ofS (ofM e657) (e657.ai 1 0)).length : Int) fun z683 => .defE ⟨[[.u], [.i 2]], [.box [.b
  z630, .b z631, .b z632, .b z633, .b z634, .b z635, .b z636, .b z637, .b z638, .b z639, .b z640, .b z641, .b z642, .b z643, .b z644, .b z645, .b z646, .b z647, .b z648, .b z649, .b z650, .b z651, .b z652, .b z653, .b
  z654]]⟩ fun e684 => .defB (ofM e684 0) fun z685 => .defB (ofM e684 1) fun z686 => .defB (ofM e684 2) fun z687 => .defB (ofM e684 3) fun z688 => .defB (ofM e684 4) fun z689 => .defB (ofM e684 5) fun z690 => .defB (ofM
  e684 6) fun z691 => .defB (ofM e684 7) fun z692 => .defB (ofM e684 8) fun z693 => .defB (ofM e684 9) fun z694 => .defB (ofM e684 10) fun z695 => .defB (ofM e684 11) fun z696 => .defB (ofM e684 12) fun z697 => .defB (ofM
  e684 13) fun z698 => .defB (ofM e684 14) fun z699 => .defB (ofM e684 15) fun z700 => .defB (ofM e684 16) fun z701 => .defB (ofM e684 17) fun z702 => .defB (ofM e684 18) fun z703 => .defB (ofM e684 19) fun z704 => .defB
  (ofM e684 20) fun z705 => .defB (ofM e684 21) fun z706 => .defB (ofM e684 22) fun z707 => .defB (ofM e684 23) fun z708 => .defB (ofM e684 24) fun z709 => .defI ((ofS (ofM e684) (e684.ai 1 0)).length : Int) fun z710 =>
  .must (rowsB [.i .i64] (instR [.i .i64] (rowI ((ofS (ofM e657) (e657.ai 1 0))))) z683.toNat) (.must (rowsB [.i .i64] (instR [.i .i64] (rowI ((ofS (ofM e684) (e684.ai 1 0))))) z710.toNat) (.defE ⟨[[.u], [.u]], [.lst
  z683.toNat (rowNums [.i .i64] (instR [.i .i64] (rowI ((ofS (ofM e657) (e657.ai 1 0)))))), .lst z710.toNat (rowNums [.i .i64] (instR [.i .i64] (rowI ((ofS (ofM e684) (e684.ai 1 0))))))]⟩ fun e711 => .must (decide (e711.ln
  0 ≤ 5)) (.ite (!decide (iqP (e711.ln 0) (e711.ln 1) (e711.rw 0) (e711.rw 1))) (.leaf (.ret, ⟨[[.b false]], []⟩)) (.defE ⟨[[.u], [.i 3]], [.box [.b z658, .b z659, .b z660, .b z661, .b z662, .b z663, .b z664, .b z665, .b
  z666, .b z667, .b z668, .b z669, .b z670, .b z671, .b z672, .b z673, .b z674, .b z675, .b z676, .b z677, .b z678, .b z679, .b z680, .b z681, .b z682]]⟩ fun e712 => .defB (ofM e712 0) fun z713 => .defB (ofM e712 1) fun
  z714 => .defB (ofM e712 2) fun z715 => .defB (ofM e712 3) fun z716 => .defB (ofM e712 4) fun z717 => .defB (ofM e712 5) fun z718 => .defB (ofM e712 6) fun z719 => .defB (ofM e712 7) fun z720 => .defB (ofM e712 8) fun
  z721 => .defB (ofM e712 9) fun z722 => .defB (ofM e712 10) fun z723 => .defB (ofM e712 11) fun z724 => .defB (ofM e712 12) fun z725 => .defB (ofM e712 13) fun z726 => .defB (ofM e712 14) fun z727 => .defB (ofM e712 15)
  fun z728 => .defB (ofM e712 16) fun z729 => .defB (ofM e712 17) fun z730 => .defB (ofM e712 18) fun z731 => .defB (ofM e712 19) fun z732 => .defB (ofM e712 20) fun z733 => .defB (ofM e712 21) fun z734 => .defB (ofM e712
  22) fun z735 => .defB (ofM e712 23) fun z736 => .defB (ofM e712 24) fun z737 => .defI ((ofS (ofM e712) (e712.ai 1 0)).length : Int) fun z738 => .defE ⟨[[.u], [.i 3]], [.box [.b z685, .b z686, .b z687, .b z688, .b z689,
  .b z690, .b z691, .b z692, .b z693, .b z694, .b z695, .b z696, .b z697, .b z698, .b z699, .b z700, .b z701, .b z702, .b z703, .b z704, .b z705, .b z706, .b z707, .b z708, .b z709]]⟩ fun e739 => .defB (ofM e739 0) fun
  z740 => .defB (ofM e739 1) fun z741 => .defB (ofM e739 2) fun z742 => .defB (ofM e739 3) fun z743 => .defB (ofM e739 4) fun z744 => .defB (ofM e739 5) fun z745 => .defB (ofM e739 6) fun z746 => .defB (ofM e739 7) fun
  z747 => .defB (ofM e739 8) fun z748 => .defB (ofM e739 9) fun z749 => .defB (ofM e739 10) fun z750 => .defB (ofM e739 11) fun z751 => .defB (ofM e739 12) fun z752 => .defB (ofM e739 13) fun z753 => .defB (ofM e739 14)
  fun z754 => .defB (ofM e739 15) fun z755 => .defB (ofM e739 16) fun z756 => .defB (ofM e739 17) fun z757 => .defB (ofM e739 18) fun z758 => .defB (ofM e739 19) fun z759 => .defB (ofM e739 20) fun z760 => .defB (ofM e739
  21) fun z761 => .defB (ofM e739 22) fun z762 => .defB (ofM e739 23) fun z763 => .defB (ofM e739 24) fun z764 => .defI ((ofS (ofM e739) (e739.ai 1 0)).length : Int) fun z765 => .must (rowsB [.i .i64] (instR [.i .i64]
  (rowI ((ofS (ofM e712) (e712.ai 1 0))))) z738.toNat) (.must (rowsB [.i .i64] (instR [.i .i64] (rowI ((ofS (ofM e739) (e739.ai 1 0))))) z765.toNat) (.defE ⟨[[.u], [.u]], [.lst z738.toNat (rowNums [.i .i64] (instR [.i
  .i64] (rowI ((ofS (ofM e712) (e712.ai 1 0)))))), .lst z765.toNat (rowNums [.i .i64] (instR [.i .i64] (rowI ((ofS (ofM e739) (e739.ai 1 0))))))]⟩ fun e766 => .must (decide (e766.ln 0 ≤ 5)) (.ite (!decide (iqP (e766.ln 0)
  (e766.ln 1) (e766.rw 0) (e766.rw 1))) (.leaf (.ret, ⟨[[.b false]], []⟩)) (.defE ⟨[[.u], [.i 4]], [.box [.b z713, .b z714, .b z715, .b z716, .b z717, .b z718, .b z719, .b z720, .b z721, .b z722, .b z723, .b z724, .b z725,
  .b z726, .b z727, .b z728, .b z729, .b z730, .b z731, .b z732, .b z733, .b z734, .b z735, .b z736, .b z737]]⟩ fun e767 => .defB (ofM e767 0) fun z768 => .defB (ofM e767 1) fun z769 => .defB (ofM e767 2) fun z770 => .defB
  (ofM e767 3) fun z771 => .defB (ofM e767 4) fun z772 => .defB (ofM e767 5) fun z773 => .defB (ofM e767 6) fun z774 => .defB (ofM e767 7) fun z775 => .defB (ofM e767 8) fun z776 => .defB (ofM e767 9) fun z777 => .defB
  (ofM e767 10) fun z778 => .defB (ofM e767 11) fun z779 => .defB (ofM e767 12) fun z780 => .defB (ofM e767 13) fun z781 => .defB (ofM e767 14) fun z782 => .defB (ofM e767 15) fun z783 => .defB (ofM e767 16) fun z784 =>
  .defB (ofM e767 17) fun z785 => .defB (ofM e767 18) fun z786 => .defB (ofM e767 19) fun z787 => .defB (ofM e767 20) fun z788 => .defB (ofM e767 21) fun z789 => .defB (ofM e767 22) fun z790 => .defB (ofM e767 23) fun z791
  => .defB (ofM e767 24) fun z792 => .defI ((ofS (ofM e767) (e767.ai 1 0)).length : Int) fun z793 => .defE ⟨[[.u], [.i 4]], [.box [.b z740, .b z741, .b z742, .b z743, .b z744, .b z745, .b z746, .b z747, .b z748, .b z749,
  .b z750, .b z751, .b z752, .b z753, .b z754, .b z755, .b z756, .b z757, .b z758, .b z759, .b z760, .b z761, .b z762, .b z763, .b z764]]⟩ fun e794 => .defB (ofM e794 0) fun z795 => .defB (ofM e794 1) fun z796 => .defB
  (ofM e794 2) fun z797 => .defB (ofM e794 3) fun z798 => .defB (ofM e794 4) fun z799 => .defB (ofM e794 5) fun z800 => .defB (ofM e794 6) fun z801 => .defB (ofM e794 7) fun z802 => .defB (ofM e794 8) fun z803 => .defB
  (ofM e794 9) fun z804 => .defB (ofM e794 10) fun z805 => .defB (ofM e794 11) fun z806 => .defB (ofM e794 12) fun z807 => .defB (ofM e794 13) fun z808 => .defB (ofM e794 14) fun z809 => .defB (ofM e794 15) fun z810 =>
  .defB (ofM e794 16) fun z811 => .defB (ofM e794 17) fun z812 => .defB (ofM e794 18) fun z813 => .defB (ofM e794 19) fun z814 => .defB (ofM e794 20) fun z815 => .defB (ofM e794 21) fun z816 => .defB (ofM e794 22) fun z817
  => .defB (ofM e794 23) fun z818 => .defB (ofM e794 24) fun z819 => .defI ((ofS (ofM e794) (e794.ai 1 0)).length : Int) fun z820 => .must (rowsB [.i .i64] (instR [.i .i64] (rowI ((ofS (ofM e767) (e767.ai 1 0)))))
  z793.toNat) (.must (rowsB [.i .i64] (instR [.i .i64] (rowI ((ofS (ofM e794) (e794.ai 1 0))))) z820.toNat) (.defE ⟨[[.u], [.u]], [.lst z793.toNat (rowNums [.i .i64] (instR [.i .i64] (rowI ((ofS (ofM e767) (e767.ai 1
  0)))))), .lst z820.toNat (rowNums [.i .i64] (instR [.i .i64] (rowI ((ofS (ofM e794) (e794.ai 1 0))))))]⟩ fun e821 => .must (decide (e821.ln 0 ≤ 5)) (.ite (!decide (iqP (e821.ln 0) (e821.ln 1) (e821.rw 0) (e821.rw 1)))
  (.leaf (.ret, ⟨[[.b false]], []⟩)) (.defE ⟨[[.u], [.i 5]], [.box [.b z768, .b z769, .b z770, .b z771, .b z772, .b z773, .b z774, .b z775, .b z776, .b z777, .b z778, .b z779, .b z780, .b z781, .b z782, .b z783, .b z784,
  .b z785, .b z786, .b z787, .b z788, .b z789, .b z790, .b z791, .b z792]]⟩ fun e822 => .defB (ofM e822 0) fun z823 => .defB (ofM e822 1) fun z824 => .defB (ofM e822 2) fun z825 => .defB (ofM e822 3) fun z826 => .defB (ofM
  e822 4) fun z827 => .defB (ofM e822 5) fun z828 => .defB (ofM e822 6) fun z829 => .defB (ofM e822 7) fun z830 => .defB (ofM e822 8) fun z831 => .defB (ofM e822 9) fun z832 => .defB (ofM e822 10) fun z833 => .defB (ofM
  e822 11) fun z834 => .defB (ofM e822 12) fun z835 => .defB (ofM e822 13) fun z836 => .defB (ofM e822 14) fun z837 => .defB (ofM e822 15) fun z838 => .defB (ofM e822 16) fun z839 => .defB (ofM e822 17) fun z840 => .defB
  (ofM e822 18) fun z841 => .defB (ofM e822 19) fun z842 => .defB (ofM e822 20) fun z843 => .defB (ofM e822 21) fun z844 => .defB (ofM e822 22) fun z845 => .defB (ofM e822 23) fun z846 => .defB (ofM e822 24) fun z847 =>
  .defI ((ofS (ofM e822) (e822.ai 1 0)).length : Int) fun z848 => .defE ⟨[[.u], [.i 5]], [.box [.b z795, .b z796, .b z797, .b z798, .b z799, .b z800, .b z801, .b z802, .b z803, .b z804, .b z805, .b z806, .b z807, .b z808,
  .b z809, .b z810, .b z811, .b z812, .b z813, .b z814, .b z815, .b z816, .b z817, .b z818, .b z819]]⟩ fun e849 => .defB (ofM e849 0) fun z850 => .defB (ofM e849 1) fun z851 => .defB (ofM e849 2) fun z852 => .defB (ofM
  e849 3) fun z853 => .defB (ofM e849 4) fun z854 => .defB (ofM e849 5) fun z855 => .defB (ofM e849 6) fun z856 => .defB (ofM e849 7) fun z857 => .defB (ofM e849 8) fun z858 => .defB (ofM e849 9) fun z859 => .defB (ofM
  e849 10) fun z860 => .defB (ofM e849 11) fun z861 => .defB (ofM e849 12) fun z862 => .defB (ofM e849 13) fun z863 => .defB (ofM e849 14) fun z864 => .defB (ofM e849 15) fun z865 => .defB (ofM e849 16) fun z866 => .defB
  (ofM e849 17) fun z867 => .defB (ofM e849 18) fun z868 => .defB (ofM e849 19) fun z869 => .defB (ofM e849 20) fun z870 => .defB (ofM e849 21) fun z871 => .defB (ofM e849 22) fun z872 => .defB (ofM e849 23) fun z873 =>
  .defB (ofM e849 24) fun z874 => .defI ((ofS (ofM e849) (e849.ai 1 0)).length : Int) fun z875 => .must (rowsB [.i .i64] (instR [.i .i64] (rowI ((ofS (ofM e822) (e822.ai 1 0))))) z848.toNat) (.must (rowsB [.i .i64] (instR
  [.i .i64] (rowI ((ofS (ofM e849) (e849.ai 1 0))))) z875.toNat) (.defE ⟨[[.u], [.u]], [.lst z848.toNat (rowNums [.i .i64] (instR [.i .i64] (rowI ((ofS (ofM e822) (e822.ai 1 0)))))), .lst z875.toNat (rowNums [.i .i64]
  (instR [.i .i64] (rowI ((ofS (ofM e849) (e849.ai 1 0))))))]⟩ fun e876 => .must (decide (e876.ln 0 ≤ 5)) (.ite (!decide (iqP (e876.ln 0) (e876.ln 1) (e876.rw 0) (e876.rw 1))) (.leaf (.ret, ⟨[[.b false]], []⟩)) (.defI
  (IntKind.i64.wrap (i + 1)) fun z877 => .must (rowsB [.i .i64, .i .i64, .b] (instR [.i .i64, .i .i64, .b] s) n) (.leaf (.normal, ⟨[[.u], [.u], [.u], [.i z877]], [.lst n (rowNums [.i .i64, .i .i64, .b] (instR [.i .i64, .i
  .i64, .b] s)), .box [.b z823, .b z824, .b z825, .b z826, .b z827, .b z828, .b z829, .b z830, .b z831, .b z832, .b z833, .b z834, .b z835, .b z836, .b z837, .b z838, .b z839, .b z840, .b z841, .b z842, .b z843, .b z844,
  .b z845, .b z846, .b z847], .box [.b z850, .b z851, .b z852, .b z853, .b z854, .b z855, .b z856, .b z857, .b z858, .b z859, .b z860, .b z861, .b z862, .b z863, .b z864, .b z865, .b z866, .b z867, .b z868, .b z869, .b
  z870, .b z871, .b z872, .b z873, .b z874]]⟩))))))))))))))))))))))))))))))))))) (.leaf (.exit 0, ⟨[], []⟩)) := by kernel_rfl
theorem rp_tail (τ0 : Tm) : codeT Try.prog weT 300 8 Try.f8.ntmps (Eng.ofL ((flat body8).drop 8)) (rpE.tm ⟨[], []⟩ ++ τ0) (rpE.heap ⟨[], []⟩) 1 (outX 0 ⟨none, [], some (lawT 2)⟩) =
  .leaf (.ret, ⟨[[.b true]], []⟩) := by kernel_rfl
theorem ofS_len (m : Nat → Bool) (a : Int) : (ofS m a).length ≤ 5 := by
  unfold ofS
  split
  · exact ofN_len _ 5
  · exact Nat.zero_le _
theorem iq_le (m : Nat → Bool) (a : Int) {e : EN} {o : ON} {u : List (List Num)} {r : Nat → List Num} (he : e = ⟨u, [.lst ((ofS m a).length : Int).toNat r, o]⟩) : e.ln 0 ≤ 5 := by
  rw [he]
  exact ofS_len m a
theorem iq_same {L L' : List Int} {e : EN} {u : List (List Num)} (he : e = ⟨u, [.lst (L.length : Int).toNat (rowNums [.i .i64] (instR [.i .i64] (rowI L))), .lst (L'.length : Int).toNat (rowNums [.i .i64] (instR [.i .i64] (rowI L')))]⟩) (h : L = L') : iqP (e.ln 0) (e.ln 1) (e.rw 0) (e.rw 1) := by
  subst h
  rw [he]
  exact ⟨rfl, fun i _ => rfl⟩
theorem rowsB_rp (r : Nat → List Num) (n : Nat) : rowsB [.i .i64, .i .i64, .b] (instR [.i .i64, .i .i64, .b] r) n = true := rowsB_instR rfl r n
theorem in8 : Within Try.prog 8 Try.f8.ntmps body8 := within_body Try.func8 (by kernel_rfl)
theorem lp8 : (flat body8).drop 7 = [.block 0 (.loop x8)] ++ (flat body8).drop 8 := by kernel_rfl
theorem in8x : Within Try.prog 8 Try.f8.ntmps x8 := by
  have h : (flat body8)[7]? = some (.block 0 (.loop x8)) := by kernel_rfl
  exact within_loop (within_block (within_at in8 7 h))
def rpQ : Ex → EN → Prop
  | .exit _, _ => True
  | .ret, e => lawR .ret e
  | .normal, _ => True
abbrev RpD := (Nat → Bool) × Int
def rpI (n : Nat) (d : RpD) : Prop := 0 ≤ d.2 ∧ d.2 ≤ n
section
variable (n : Nat) (s : Nat → List Num)
set_option maxHeartbeats 4000000 in
theorem rp_loop (hl : n ≤ 60) (d : RpD) (hd : rpI n d) : HT Try.prog Try.f8.ntmps 0 (.loop x8) 3 (rpL.tm (rpN n s d.1 d.2)) (rpL.heap (rpN n s d.1 d.2)) (QX ⟨none, [(0, rpE)], some (lawT 2)⟩ rpQ) := by
  refine HT.loopX weTab mixed (n := 300) in8x rpL _ _ (fun d : RpD => rpN n s d.1 d.2) (rpI n) (fun d => ((n : Int) - d.2).toNat) (fun _ => rpQ) (Nat.zero_le _) ?_ d hd
  rintro ⟨m, i⟩ ⟨h0, h1⟩ τ0
  dsimp only at h0 h1
  refine holds_of_eq (rp_x n s m i τ0) (holds_ite (fun hlt => ?_) fun hge => holds_leaf trivial)
  have hlt : i < (n : Int) := of_decide_eq_true hlt
  have hm : decide (0 ≤ i ∧ i < (n : Int)) = true := decide_eq_true ⟨h0, hlt⟩
  have e1 : IntKind.i64.wrap (i + 1) = i + 1 := IntWalk.i64_in _ (by omega)
  have fin : ∀ (mm : Nat → Bool) (lA lB : List Num), lA = on25 mm → lB = on25 mm → ∀ en, rpL.eqv en ⟨[[], [], [], [.i (i + 1)]], [.lst n s, .box lA, .box lB]⟩ → ∃ d' : RpD, rpI n d' ∧ ((n : Int) - d'.2).toNat < ((n : Int) - i).toNat ∧ rpL.eqv en (rpN n s d'.1 d'.2) ∧ ∀ ex e, rpQ ex e → rpQ ex e :=
    fun mm lA lB hA hB en he => ⟨(mm, i + 1), ⟨by show 0 ≤ i + 1; omega, by show i + 1 ≤ (n : Int); omega⟩, by show ((n : Int) - (i + 1)).toNat < ((n : Int) - i).toNat; omega, by subst hA; subst hB; exact he, fun _ _ h => h⟩
  refine holds_must hm (holds_must hm ?_)
  refine holds_defI fun z0 _ => holds_defI fun z1 _ => holds_ite (fun _ => ?_) fun _ => ?_
  · refine holds_defE fun e he => ?_
    have x1 : e.ai 1 0 = z1 := by rw [he]; rfl
    have ME := clrF_congr z1 (ofM_box he)
    rw [x1]
    clear he x1
    (repeat' with_reducible (first | refine holds_inI ?_ | refine holds_inB ?_))
    refine holds_defE fun f hf => ?_
    have x1 : f.ai 1 0 = z1 := by rw [hf]; rfl
    have MF := clrF_congr z1 (ofM_box hf)
    rw [x1]
    clear hf x1
    (repeat' with_reducible (first | refine holds_inI ?_ | refine holds_inB ?_))
    generalize clrF m z1 = mm at ME MF
    refine holds_defE fun A0 hA0 => ?_
    have xA : A0.ai 1 0 = (-1) := by rw [hA0]; rfl
    have MA0 : ∀ k, k < 25 → ofM A0 k = mm k := fun k hk => (ofM_box (m := clrF (ofM e) z1) hA0 k hk).trans (ME k hk)
    rw [xA]
    clear hA0 xA
    (repeat' with_reducible (first | refine holds_inI ?_ | refine holds_inB ?_))
    refine holds_defE fun B0 hB0 => ?_
    have xB : B0.ai 1 0 = (-1) := by rw [hB0]; rfl
    have MB0 : ∀ k, k < 25 → ofM B0 k = mm k := fun k hk => (ofM_box (m := clrF (ofM f) z1) hB0 k hk).trans (MF k hk)
    rw [xB]
    clear hB0 xB
    (repeat' with_reducible (first | refine holds_inI ?_ | refine holds_inB ?_))
    refine holds_must (rowsB_i _ _ _) (holds_must (rowsB_i _ _ _) (holds_defE fun C0 hC0 => ?_))
    refine holds_must (decide_eq_true (iq_le (ofM A0) (-1) hC0)) ?_
    rw [decide_eq_true (iq_same hC0 ((ofS_congr (-1) MA0).trans (ofS_congr (-1) MB0).symm))]
    clear hC0 C0
    refine holds_ite (fun h => absurd h (by decide)) fun _ => ?_
    refine holds_defE fun A1 hA1 => ?_
    have xA : A1.ai 1 0 = 0 := by rw [hA1]; rfl
    have MA1 : ∀ k, k < 25 → ofM A1 k = mm k := fun k hk => (ofM_box (m := ofM A0) hA1 k hk).trans (MA0 k hk)
    rw [xA]
    clear hA1 xA
    (repeat' with_reducible (first | refine holds_inI ?_ | refine holds_inB ?_))
    refine holds_defE fun B1 hB1 => ?_
    have xB : B1.ai 1 0 = 0 := by rw [hB1]; rfl
    have MB1 : ∀ k, k < 25 → ofM B1 k = mm k := fun k hk => (ofM_box (m := ofM B0) hB1 k hk).trans (MB0 k hk)
    rw [xB]
    clear hB1 xB
    (repeat' with_reducible (first | refine holds_inI ?_ | refine holds_inB ?_))
    refine holds_must (rowsB_i _ _ _) (holds_must (rowsB_i _ _ _) (holds_defE fun C1 hC1 => ?_))
    refine holds_must (decide_eq_true (iq_le (ofM A1) 0 hC1)) ?_
    rw [decide_eq_true (iq_same hC1 ((ofS_congr 0 MA1).trans (ofS_congr 0 MB1).symm))]
    clear hC1 C1
    refine holds_ite (fun h => absurd h (by decide)) fun _ => ?_
    refine holds_defE fun A2 hA2 => ?_
    have xA : A2.ai 1 0 = 1 := by rw [hA2]; rfl
    have MA2 : ∀ k, k < 25 → ofM A2 k = mm k := fun k hk => (ofM_box (m := ofM A1) hA2 k hk).trans (MA1 k hk)
    rw [xA]
    clear hA2 xA
    (repeat' with_reducible (first | refine holds_inI ?_ | refine holds_inB ?_))
    refine holds_defE fun B2 hB2 => ?_
    have xB : B2.ai 1 0 = 1 := by rw [hB2]; rfl
    have MB2 : ∀ k, k < 25 → ofM B2 k = mm k := fun k hk => (ofM_box (m := ofM B1) hB2 k hk).trans (MB1 k hk)
    rw [xB]
    clear hB2 xB
    (repeat' with_reducible (first | refine holds_inI ?_ | refine holds_inB ?_))
    refine holds_must (rowsB_i _ _ _) (holds_must (rowsB_i _ _ _) (holds_defE fun C2 hC2 => ?_))
    refine holds_must (decide_eq_true (iq_le (ofM A2) 1 hC2)) ?_
    rw [decide_eq_true (iq_same hC2 ((ofS_congr 1 MA2).trans (ofS_congr 1 MB2).symm))]
    clear hC2 C2
    refine holds_ite (fun h => absurd h (by decide)) fun _ => ?_
    refine holds_defE fun A3 hA3 => ?_
    have xA : A3.ai 1 0 = 2 := by rw [hA3]; rfl
    have MA3 : ∀ k, k < 25 → ofM A3 k = mm k := fun k hk => (ofM_box (m := ofM A2) hA3 k hk).trans (MA2 k hk)
    rw [xA]
    clear hA3 xA
    (repeat' with_reducible (first | refine holds_inI ?_ | refine holds_inB ?_))
    refine holds_defE fun B3 hB3 => ?_
    have xB : B3.ai 1 0 = 2 := by rw [hB3]; rfl
    have MB3 : ∀ k, k < 25 → ofM B3 k = mm k := fun k hk => (ofM_box (m := ofM B2) hB3 k hk).trans (MB2 k hk)
    rw [xB]
    clear hB3 xB
    (repeat' with_reducible (first | refine holds_inI ?_ | refine holds_inB ?_))
    refine holds_must (rowsB_i _ _ _) (holds_must (rowsB_i _ _ _) (holds_defE fun C3 hC3 => ?_))
    refine holds_must (decide_eq_true (iq_le (ofM A3) 2 hC3)) ?_
    rw [decide_eq_true (iq_same hC3 ((ofS_congr 2 MA3).trans (ofS_congr 2 MB3).symm))]
    clear hC3 C3
    refine holds_ite (fun h => absurd h (by decide)) fun _ => ?_
    refine holds_defE fun A4 hA4 => ?_
    have xA : A4.ai 1 0 = 3 := by rw [hA4]; rfl
    have MA4 : ∀ k, k < 25 → ofM A4 k = mm k := fun k hk => (ofM_box (m := ofM A3) hA4 k hk).trans (MA3 k hk)
    rw [xA]
    clear hA4 xA
    (repeat' with_reducible (first | refine holds_inI ?_ | refine holds_inB ?_))
    refine holds_defE fun B4 hB4 => ?_
    have xB : B4.ai 1 0 = 3 := by rw [hB4]; rfl
    have MB4 : ∀ k, k < 25 → ofM B4 k = mm k := fun k hk => (ofM_box (m := ofM B3) hB4 k hk).trans (MB3 k hk)
    rw [xB]
    clear hB4 xB
    (repeat' with_reducible (first | refine holds_inI ?_ | refine holds_inB ?_))
    refine holds_must (rowsB_i _ _ _) (holds_must (rowsB_i _ _ _) (holds_defE fun C4 hC4 => ?_))
    refine holds_must (decide_eq_true (iq_le (ofM A4) 3 hC4)) ?_
    rw [decide_eq_true (iq_same hC4 ((ofS_congr 3 MA4).trans (ofS_congr 3 MB4).symm))]
    clear hC4 C4
    refine holds_ite (fun h => absurd h (by decide)) fun _ => ?_
    refine holds_defE fun A5 hA5 => ?_
    have xA : A5.ai 1 0 = 4 := by rw [hA5]; rfl
    have MA5 : ∀ k, k < 25 → ofM A5 k = mm k := fun k hk => (ofM_box (m := ofM A4) hA5 k hk).trans (MA4 k hk)
    rw [xA]
    clear hA5 xA
    (repeat' with_reducible (first | refine holds_inI ?_ | refine holds_inB ?_))
    refine holds_defE fun B5 hB5 => ?_
    have xB : B5.ai 1 0 = 4 := by rw [hB5]; rfl
    have MB5 : ∀ k, k < 25 → ofM B5 k = mm k := fun k hk => (ofM_box (m := ofM B4) hB5 k hk).trans (MB4 k hk)
    rw [xB]
    clear hB5 xB
    (repeat' with_reducible (first | refine holds_inI ?_ | refine holds_inB ?_))
    refine holds_must (rowsB_i _ _ _) (holds_must (rowsB_i _ _ _) (holds_defE fun C5 hC5 => ?_))
    refine holds_must (decide_eq_true (iq_le (ofM A5) 4 hC5)) ?_
    rw [decide_eq_true (iq_same hC5 ((ofS_congr 4 MA5).trans (ofS_congr 4 MB5).symm))]
    clear hC5 C5
    refine holds_ite (fun h => absurd h (by decide)) fun _ => ?_
    refine holds_defE fun A6 hA6 => ?_
    have xA : A6.ai 1 0 = 5 := by rw [hA6]; rfl
    have MA6 : ∀ k, k < 25 → ofM A6 k = mm k := fun k hk => (ofM_box (m := ofM A5) hA6 k hk).trans (MA5 k hk)
    rw [xA]
    clear hA6 xA
    (repeat' with_reducible (first | refine holds_inI ?_ | refine holds_inB ?_))
    refine holds_defE fun B6 hB6 => ?_
    have xB : B6.ai 1 0 = 5 := by rw [hB6]; rfl
    have MB6 : ∀ k, k < 25 → ofM B6 k = mm k := fun k hk => (ofM_box (m := ofM B5) hB6 k hk).trans (MB5 k hk)
    rw [xB]
    clear hB6 xB
    (repeat' with_reducible (first | refine holds_inI ?_ | refine holds_inB ?_))
    refine holds_must (rowsB_i _ _ _) (holds_must (rowsB_i _ _ _) (holds_defE fun C6 hC6 => ?_))
    refine holds_must (decide_eq_true (iq_le (ofM A6) 5 hC6)) ?_
    rw [decide_eq_true (iq_same hC6 ((ofS_congr 5 MA6).trans (ofS_congr 5 MB6).symm))]
    clear hC6 C6
    refine holds_ite (fun h => absurd h (by decide)) fun _ => ?_
    refine holds_inI (holds_must (rowsB_rp _ _) (holds_leaf ?_))
    refine fin mm (on25 (ofM A6)) (on25 (ofM B6)) (on25_congr MA6) (on25_congr MB6) _ ?_
    rw [e1]
    (repeat' (first | exact trivial | exact rfl | exact TS.eqv_refl _ _ | exact len_app _ _ | exact rows_appI | exact fun _ _ => eqvL_refl _ _ | exact fun i _ => eqvL_rowNums rfl _ i | apply And.intro))
  · refine holds_defE fun e he => ?_
    have x1 : e.ai 1 0 = z0 := by rw [he]; rfl
    have x2 : e.ai 2 0 = z1 := by rw [he]; rfl
    obtain ⟨c1, ME⟩ := adS_congr z0 z1 (ofM_box he)
    rw [x1, x2]
    clear he x1 x2
    (repeat' with_reducible (first | refine holds_inI ?_ | refine holds_inB ?_))
    refine holds_defE fun f hf => ?_
    have x1 : f.ai 1 0 = z0 := by rw [hf]; rfl
    have x2 : f.ai 2 0 = z1 := by rw [hf]; rfl
    obtain ⟨c2, MF⟩ := adS_congr z0 z1 (ofM_box hf)
    rw [x1, x2]
    clear hf x1 x2
    (repeat' with_reducible (first | refine holds_inI ?_ | refine holds_inB ?_))
    rw [c1.trans c2.symm]
    refine holds_ite (fun h => absurd h (by simp)) fun _ => ?_
    clear c1 c2
    generalize (adS m z0 z1).2 = mm at ME MF
    refine holds_defE fun A0 hA0 => ?_
    have xA : A0.ai 1 0 = (-1) := by rw [hA0]; rfl
    have MA0 : ∀ k, k < 25 → ofM A0 k = mm k := fun k hk => (ofM_box (m := (adS (ofM e) z0 z1).2) hA0 k hk).trans (ME k hk)
    rw [xA]
    clear hA0 xA
    (repeat' with_reducible (first | refine holds_inI ?_ | refine holds_inB ?_))
    refine holds_defE fun B0 hB0 => ?_
    have xB : B0.ai 1 0 = (-1) := by rw [hB0]; rfl
    have MB0 : ∀ k, k < 25 → ofM B0 k = mm k := fun k hk => (ofM_box (m := (adS (ofM f) z0 z1).2) hB0 k hk).trans (MF k hk)
    rw [xB]
    clear hB0 xB
    (repeat' with_reducible (first | refine holds_inI ?_ | refine holds_inB ?_))
    refine holds_must (rowsB_i _ _ _) (holds_must (rowsB_i _ _ _) (holds_defE fun C0 hC0 => ?_))
    refine holds_must (decide_eq_true (iq_le (ofM A0) (-1) hC0)) ?_
    rw [decide_eq_true (iq_same hC0 ((ofS_congr (-1) MA0).trans (ofS_congr (-1) MB0).symm))]
    clear hC0 C0
    refine holds_ite (fun h => absurd h (by decide)) fun _ => ?_
    refine holds_defE fun A1 hA1 => ?_
    have xA : A1.ai 1 0 = 0 := by rw [hA1]; rfl
    have MA1 : ∀ k, k < 25 → ofM A1 k = mm k := fun k hk => (ofM_box (m := ofM A0) hA1 k hk).trans (MA0 k hk)
    rw [xA]
    clear hA1 xA
    (repeat' with_reducible (first | refine holds_inI ?_ | refine holds_inB ?_))
    refine holds_defE fun B1 hB1 => ?_
    have xB : B1.ai 1 0 = 0 := by rw [hB1]; rfl
    have MB1 : ∀ k, k < 25 → ofM B1 k = mm k := fun k hk => (ofM_box (m := ofM B0) hB1 k hk).trans (MB0 k hk)
    rw [xB]
    clear hB1 xB
    (repeat' with_reducible (first | refine holds_inI ?_ | refine holds_inB ?_))
    refine holds_must (rowsB_i _ _ _) (holds_must (rowsB_i _ _ _) (holds_defE fun C1 hC1 => ?_))
    refine holds_must (decide_eq_true (iq_le (ofM A1) 0 hC1)) ?_
    rw [decide_eq_true (iq_same hC1 ((ofS_congr 0 MA1).trans (ofS_congr 0 MB1).symm))]
    clear hC1 C1
    refine holds_ite (fun h => absurd h (by decide)) fun _ => ?_
    refine holds_defE fun A2 hA2 => ?_
    have xA : A2.ai 1 0 = 1 := by rw [hA2]; rfl
    have MA2 : ∀ k, k < 25 → ofM A2 k = mm k := fun k hk => (ofM_box (m := ofM A1) hA2 k hk).trans (MA1 k hk)
    rw [xA]
    clear hA2 xA
    (repeat' with_reducible (first | refine holds_inI ?_ | refine holds_inB ?_))
    refine holds_defE fun B2 hB2 => ?_
    have xB : B2.ai 1 0 = 1 := by rw [hB2]; rfl
    have MB2 : ∀ k, k < 25 → ofM B2 k = mm k := fun k hk => (ofM_box (m := ofM B1) hB2 k hk).trans (MB1 k hk)
    rw [xB]
    clear hB2 xB
    (repeat' with_reducible (first | refine holds_inI ?_ | refine holds_inB ?_))
    refine holds_must (rowsB_i _ _ _) (holds_must (rowsB_i _ _ _) (holds_defE fun C2 hC2 => ?_))
    refine holds_must (decide_eq_true (iq_le (ofM A2) 1 hC2)) ?_
    rw [decide_eq_true (iq_same hC2 ((ofS_congr 1 MA2).trans (ofS_congr 1 MB2).symm))]
    clear hC2 C2
    refine holds_ite (fun h => absurd h (by decide)) fun _ => ?_
    refine holds_defE fun A3 hA3 => ?_
    have xA : A3.ai 1 0 = 2 := by rw [hA3]; rfl
    have MA3 : ∀ k, k < 25 → ofM A3 k = mm k := fun k hk => (ofM_box (m := ofM A2) hA3 k hk).trans (MA2 k hk)
    rw [xA]
    clear hA3 xA
    (repeat' with_reducible (first | refine holds_inI ?_ | refine holds_inB ?_))
    refine holds_defE fun B3 hB3 => ?_
    have xB : B3.ai 1 0 = 2 := by rw [hB3]; rfl
    have MB3 : ∀ k, k < 25 → ofM B3 k = mm k := fun k hk => (ofM_box (m := ofM B2) hB3 k hk).trans (MB2 k hk)
    rw [xB]
    clear hB3 xB
    (repeat' with_reducible (first | refine holds_inI ?_ | refine holds_inB ?_))
    refine holds_must (rowsB_i _ _ _) (holds_must (rowsB_i _ _ _) (holds_defE fun C3 hC3 => ?_))
    refine holds_must (decide_eq_true (iq_le (ofM A3) 2 hC3)) ?_
    rw [decide_eq_true (iq_same hC3 ((ofS_congr 2 MA3).trans (ofS_congr 2 MB3).symm))]
    clear hC3 C3
    refine holds_ite (fun h => absurd h (by decide)) fun _ => ?_
    refine holds_defE fun A4 hA4 => ?_
    have xA : A4.ai 1 0 = 3 := by rw [hA4]; rfl
    have MA4 : ∀ k, k < 25 → ofM A4 k = mm k := fun k hk => (ofM_box (m := ofM A3) hA4 k hk).trans (MA3 k hk)
    rw [xA]
    clear hA4 xA
    (repeat' with_reducible (first | refine holds_inI ?_ | refine holds_inB ?_))
    refine holds_defE fun B4 hB4 => ?_
    have xB : B4.ai 1 0 = 3 := by rw [hB4]; rfl
    have MB4 : ∀ k, k < 25 → ofM B4 k = mm k := fun k hk => (ofM_box (m := ofM B3) hB4 k hk).trans (MB3 k hk)
    rw [xB]
    clear hB4 xB
    (repeat' with_reducible (first | refine holds_inI ?_ | refine holds_inB ?_))
    refine holds_must (rowsB_i _ _ _) (holds_must (rowsB_i _ _ _) (holds_defE fun C4 hC4 => ?_))
    refine holds_must (decide_eq_true (iq_le (ofM A4) 3 hC4)) ?_
    rw [decide_eq_true (iq_same hC4 ((ofS_congr 3 MA4).trans (ofS_congr 3 MB4).symm))]
    clear hC4 C4
    refine holds_ite (fun h => absurd h (by decide)) fun _ => ?_
    refine holds_defE fun A5 hA5 => ?_
    have xA : A5.ai 1 0 = 4 := by rw [hA5]; rfl
    have MA5 : ∀ k, k < 25 → ofM A5 k = mm k := fun k hk => (ofM_box (m := ofM A4) hA5 k hk).trans (MA4 k hk)
    rw [xA]
    clear hA5 xA
    (repeat' with_reducible (first | refine holds_inI ?_ | refine holds_inB ?_))
    refine holds_defE fun B5 hB5 => ?_
    have xB : B5.ai 1 0 = 4 := by rw [hB5]; rfl
    have MB5 : ∀ k, k < 25 → ofM B5 k = mm k := fun k hk => (ofM_box (m := ofM B4) hB5 k hk).trans (MB4 k hk)
    rw [xB]
    clear hB5 xB
    (repeat' with_reducible (first | refine holds_inI ?_ | refine holds_inB ?_))
    refine holds_must (rowsB_i _ _ _) (holds_must (rowsB_i _ _ _) (holds_defE fun C5 hC5 => ?_))
    refine holds_must (decide_eq_true (iq_le (ofM A5) 4 hC5)) ?_
    rw [decide_eq_true (iq_same hC5 ((ofS_congr 4 MA5).trans (ofS_congr 4 MB5).symm))]
    clear hC5 C5
    refine holds_ite (fun h => absurd h (by decide)) fun _ => ?_
    refine holds_defE fun A6 hA6 => ?_
    have xA : A6.ai 1 0 = 5 := by rw [hA6]; rfl
    have MA6 : ∀ k, k < 25 → ofM A6 k = mm k := fun k hk => (ofM_box (m := ofM A5) hA6 k hk).trans (MA5 k hk)
    rw [xA]
    clear hA6 xA
    (repeat' with_reducible (first | refine holds_inI ?_ | refine holds_inB ?_))
    refine holds_defE fun B6 hB6 => ?_
    have xB : B6.ai 1 0 = 5 := by rw [hB6]; rfl
    have MB6 : ∀ k, k < 25 → ofM B6 k = mm k := fun k hk => (ofM_box (m := ofM B5) hB6 k hk).trans (MB5 k hk)
    rw [xB]
    clear hB6 xB
    (repeat' with_reducible (first | refine holds_inI ?_ | refine holds_inB ?_))
    refine holds_must (rowsB_i _ _ _) (holds_must (rowsB_i _ _ _) (holds_defE fun C6 hC6 => ?_))
    refine holds_must (decide_eq_true (iq_le (ofM A6) 5 hC6)) ?_
    rw [decide_eq_true (iq_same hC6 ((ofS_congr 5 MA6).trans (ofS_congr 5 MB6).symm))]
    clear hC6 C6
    refine holds_ite (fun h => absurd h (by decide)) fun _ => ?_
    refine holds_inI (holds_must (rowsB_rp _ _) (holds_leaf ?_))
    refine fin mm (on25 (ofM A6)) (on25 (ofM B6)) (on25_congr MA6) (on25_congr MB6) _ ?_
    rw [e1]
    (repeat' (first | exact trivial | exact rfl | exact TS.eqv_refl _ _ | exact len_app _ _ | exact rows_appI | exact fun _ _ => eqvL_refl _ _ | exact fun i _ => eqvL_rowNums rfl _ i | apply And.intro))

def rpZ : Ex → EN → Prop
  | .normal, e => n ≤ 60 ∧ rpL.eqv e (rpN n s (fun _ => false) 0)
  | .ret, e => lawR .ret e
  | .exit _, _ => True
theorem rp_ht : HT Try.prog Try.f8.ntmps 0 body8 1 (rpT.tm ⟨[[]], [.lst n s]⟩) (rpT.heap ⟨[[]], [.lst n s]⟩) (QX ⟨none, [], some (lawT 2)⟩ lawR) := by
  refine HT.cutX 7 (t1 := rpL) (R1 := rpZ n s) (HTL.runX weTab mixed (n := 300) (by decide) (within_take in8 7) (Nat.zero_le _) fun τ0 => holds_of_eq (rp_pre n s τ0) (holds_ite (fun h => holds_leaf rfl) (fun h => holds_must (rowsB_rp _ _) (holds_leaf ⟨?_, ?_⟩)))) ?_ ?_
  · have := of_decide_eq_false h
    omega
  · (repeat' (first | exact trivial | exact rfl | exact TS.eqv_refl _ _ | exact len_app _ _ | exact rows_appI | exact fun _ _ => eqvL_refl _ _ | exact fun i _ => eqvL_rowNums rfl _ i | apply And.intro))
  · rintro en ⟨hl, he⟩
    refine HTg.pre (WP := wpL Try.prog _) (fun h hq => wpL_mono h hq) he (HTL.loopThen lp8 (rp_loop n s hl ((fun _ => false), 0) ⟨Int.le_refl _, Int.natCast_nonneg _⟩) ?_ ?_)
    · intro en _
      exact HTL.runX weTab mixed (n := 300) (by decide) (within_drop in8 8) (Nat.zero_le _) fun τ0 => holds_of_eq (rp_tail τ0) (holds_leaf rfl)
    · exact fun en h => h
  · exact fun en h => h
end
theorem pk71 : pkT Try.prog 8 71 = some [.int .i64, .int .i64, .bool] := by kernel_rfl
def rpR (n : Nat → Nat → Int) (b : Nat → Nat → Bool) : Nat → List Num := fun i => [.i (n i 0), .i (n i 1), .b (b i 2)]
theorem rp_c (W : World) (hd : Option Addr × Nat × Nat) (n : Nat → Nat → Int) (b : Nat → Nat → Bool) (hs : sliceOf W hd hd.2.1 3 (fun i => skel (n i) (b i) [.int .i64, .int .i64, .bool] 0)) :
    Calls Try.prog 8 #[.slice hd.1 hd.2.1 hd.2.2] W fun e W' => e = .returned (.bool true) ∧ Below W.heap.size W W' :=
  law_htX (args := [.sl 0]) (l := rpT.objs ⟨[[]], [.lst hd.2.1 (rpR n b)]⟩) (m := 1) (hdr := fun _ => hd) Try.func8 (by kernel_rfl) (by kernel_rfl) (by kernel_rfl)
    (fun p hp => by rw [List.mem_singleton.1 hp]; exact ⟨Nat.zero_lt_one, _, _, _, rfl, hs⟩) (rp_ht hd.2.1 (rpR n b)) (fun E' hE => by simp [denL, den, SI.v, (hE 0 Nat.zero_lt_one).2.1, skel])
set_option maxRecDepth 100000 in
theorem rplay_lifted (os : Os) (started : os.Started) (H : Type) (enc : TypeId × Value → H) :
    ReturnsInHanded {} Try.checked os 8 .any (Rows.reportsPlaySpec.pre6 enc Try.prog Try.f8 Rows.reportsPlayRow.domain false) (Rows.reportsPlaySpec.post enc Try.prog Try.f8 false true false false) := by
  refine law_lifted (C := Try.checked) Try.own started (by kernel_rfl) Try.func8
    (ChangeSpec.witness6 (enc := enc) (C := Try.checked) false ⟨#[], #[.slice none 0 0], []⟩ 8 (by kernel_rfl) (by kernel_rfl) (by kernel_rfl) (by kernel_rfl))
    Try.laidOut ?_ (B := 4) (by kernel_rfl) (by kernel_rfl) rfl ?_ ?_
  · intro t ht
    rw [Try.params8] at ht
    have : t = 62 := by
      simp at ht
      first | exact ht | omega
    rcases this with rfl <;> exact ⟨by kernel_rfl, of_decide_eq_true (by kernel_rfl)⟩
  · intro ds h
    rw [Try.params8] at h
    match ds, h with
    | [d1], _ => rfl
  · intro W base args ds p hval hA hlt
    rw [Try.params8] at hA hval
    obtain ⟨v0, d0, rfl, rfl, h0⟩ := trodAll_one hA
    obtain ⟨hd, n, b, rfl, _, hs, hwf⟩ := open_rows Try.underlying62 pk71 (by kernel_rfl) (by decide) (hval 0 62 v0 rfl rfl) h0
    exact rp_c W hd n b hs

theorem reportsPlay_holds : Rows.ReportsPlaySaid :=
  OpenClaim.holds_of_wide 8 Try.f8 rfl rfl rfl rfl rfl rfl rfl ⟨rfl, rfl, rfl, rfl, rfl⟩ rfl rfl rfl rfl rfl (by kernel_rfl) Try.func8 (by kernel_rfl)
    (of_decide_eq_true (by kernel_rfl)) (by unfold Func.isWrapper; rw [if_neg (by decide +kernel)]; exact ⟨rfl, rfl⟩)
    (fun os started H enc _ => rplay_lifted os started H enc)
end Go.Proofs.Ytlcgnjcfihablaa
