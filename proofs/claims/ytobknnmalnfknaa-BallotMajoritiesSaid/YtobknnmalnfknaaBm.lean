/- BallotMajorities: of three acceptors two promised one ballot: nothing below it is accepted by two any more: the whole of it.
   Conditions: none. -/
import Derived.Test.YtobknnmalnfknaaBr
set_option linter.unusedSimpArgs false
set_option linter.unusedVariables false
namespace Go.Proofs.Ytobknnmalnfknaa
open Go.Eng Go.RowKit Go.ChangeShapes Go.WideShapes
set_option maxRecDepth 100000
noncomputable def body8 : Code := Try.f8.body.getD .skip
noncomputable def x8 : Code := lp ((flat body8).getD 13 .skip)
theorem r8_pre (len n0 w0 w1 : Int) (n : Nat → Nat → Int) (b : Nat → Nat → Bool) (τ0 : Tm) : codeT Try.prog bdT 300 8 Try.f8.ntmps (ofL ((flat body8).take 13)) ([(0, .int .u32 (.sym n0)), (1, .sl 0), (2, .agg [.int .u8 (.sym w0), .int .u8 (.sym w1)])] ++ τ0) (mkHeap [(0, lstO len n b)]) 1 (outF [6] [1, 6, 7, 8, 17] [21, 51, 29, 37, 45] [0] 1) =
  .ite (decide (len > 60)) (.leaf ⟨.ret, [(6, .bool (.lit true))], [], 0⟩) (.defI (n0.tmod 1000) fun z0 => .defI (IntKind.u32.wrap (z0 + 5)) fun z1 => .defI (w0.tmod 3) fun z2 => .defI (IntKind.i64.wrap z2) fun z3 => .defI
  (w1.tmod 3) fun z4 => .defI (IntKind.i64.wrap z4) fun z5 => .ite (z3 == z5) (.defI (IntKind.i64.wrap (z3 + 1)) fun z6 => .defI (z6.tmod 3) fun z7 => .ite (decide (z3 = 0)) (.defI (bif prOk 0 0 z1 1 then 0 else 0) fun z8
  => .defI (bif prOk 0 0 z1 1 then 0 else 0) fun z9 => .defI (bif prOk 0 0 z1 1 then 0 else 0) fun z10 => .defI (bif prOk 0 0 z1 1 then 0 else 0) fun z11 => .defI (bif prOk 0 0 z1 1 then 0 else 0) fun z12 => .defI (prCode
  0 0 z1 1) fun z13 => .defI (bif prOk 0 0 z1 1 then z1 else 0) fun z14 => .defI (bif prOk 0 0 z1 1 then 1 else 0) fun z15 => .defI 0 fun z16 => .defI 0 fun z17 => .defI 0 fun z18 => .defI 0 fun z19 => .defI 0 fun z20 =>
  .ite (z13 != 0) (.leaf ⟨.ret, [(6, .bool (.lit false))], [], 0⟩) (.ite (decide (z7 = 0)) (.defI (bif prOk z14 z15 z1 1 then z16 else 0) fun z21 => .defI (bif prOk z14 z15 z1 1 then z17 else 0) fun z22 => .defI (bif prOk
  z14 z15 z1 1 then z18 else 0) fun z23 => .defI (bif prOk z14 z15 z1 1 then z19 else 0) fun z24 => .defI (bif prOk z14 z15 z1 1 then z20 else 0) fun z25 => .defI (prCode z14 z15 z1 1) fun z26 => .defI (bif prOk z14 z15 z1
  1 then z1 else z14) fun z27 => .defI (bif prOk z14 z15 z1 1 then 1 else z15) fun z28 => .defI z16 fun z29 => .defI z17 fun z30 => .defI z18 fun z31 => .defI z19 fun z32 => .defI z20 fun z33 => .ite (z26 != 0) (.leaf
  ⟨.ret, [(6, .bool (.lit false))], [], 0⟩) (.leaf ⟨.normal, [(1, .sl 0), (6, .bool (.lit false)), (7, .ptr 21 0), (8, .ptr 51 0), (17, .int .i64 (.lit 0))], [(21, some (.box [.int .u32 (.sym z1), .int .u8 (.lit 1)])),
  (51, some (.box [.ptr 29 0, .ptr 37 0, .ptr 45 0])), (29, some (.box [.int .u32 (.sym z27), .int .u8 (.sym z28), .int .u32 (.sym z29), .int .u8 (.sym z30), .int .u8 (.sym z31), .int .u8 (.sym z32), .int .i64 (.sym
  z33)])), (37, some (.box [.int .u32 (.lit 0), .int .u8 (.lit 0), .int .u32 (.lit 0), .int .u8 (.lit 0), .int .u8 (.lit 0), .int .u8 (.lit 0), .int .i64 (.lit 0)])), (45, some (.box [.int .u32 (.lit 0), .int .u8 (.lit 0),
  .int .u32 (.lit 0), .int .u8 (.lit 0), .int .u8 (.lit 0), .int .u8 (.lit 0), .int .i64 (.lit 0)]))], 0⟩)) (.ite (decide (z7 = 1)) (.defI (bif prOk 0 0 z1 1 then 0 else 0) fun z34 => .defI (bif prOk 0 0 z1 1 then 0 else
  0) fun z35 => .defI (bif prOk 0 0 z1 1 then 0 else 0) fun z36 => .defI (bif prOk 0 0 z1 1 then 0 else 0) fun z37 => .defI (bif prOk 0 0 z1 1 then 0 else 0) fun z38 => .defI (prCode 0 0 z1 1) fun z39 => .defI (bif prOk 0
  0 z1 1 then z1 else 0) fun z40 => .defI (bif prOk 0 0 z1 1 then 1 else 0) fun z41 => .defI 0 fun z42 => .defI 0 fun z43 => .defI 0 fun z44 => .defI 0 fun z45 => .defI 0 fun z46 => .ite (z39 != 0) (.leaf ⟨.ret, [(6, .bool
  (.lit false))], [], 0⟩) (.leaf ⟨.normal, [(1, .sl 0), (6, .bool (.lit false)), (7, .ptr 21 0), (8, .ptr 51 0), (17, .int .i64 (.lit 0))], [(21, some (.box [.int .u32 (.sym z1), .int .u8 (.lit 1)])), (51, some (.box [.ptr
  29 0, .ptr 37 0, .ptr 45 0])), (29, some (.box [.int .u32 (.sym z14), .int .u8 (.sym z15), .int .u32 (.sym z16), .int .u8 (.sym z17), .int .u8 (.sym z18), .int .u8 (.sym z19), .int .i64 (.sym z20)])), (37, some (.box
  [.int .u32 (.sym z40), .int .u8 (.sym z41), .int .u32 (.sym z42), .int .u8 (.sym z43), .int .u8 (.sym z44), .int .u8 (.sym z45), .int .i64 (.sym z46)])), (45, some (.box [.int .u32 (.lit 0), .int .u8 (.lit 0), .int .u32
  (.lit 0), .int .u8 (.lit 0), .int .u8 (.lit 0), .int .u8 (.lit 0), .int .i64 (.lit 0)]))], 0⟩)) (.ite (decide (z7 = 2)) (.defI (bif prOk 0 0 z1 1 then 0 else 0) fun z47 => .defI (bif prOk 0 0 z1 1 then 0 else 0) fun z48
  => .defI (bif prOk 0 0 z1 1 then 0 else 0) fun z49 => .defI (bif prOk 0 0 z1 1 then 0 else 0) fun z50 => .defI (bif prOk 0 0 z1 1 then 0 else 0) fun z51 => .defI (prCode 0 0 z1 1) fun z52 => .defI (bif prOk 0 0 z1 1 then
  z1 else 0) fun z53 => .defI (bif prOk 0 0 z1 1 then 1 else 0) fun z54 => .defI 0 fun z55 => .defI 0 fun z56 => .defI 0 fun z57 => .defI 0 fun z58 => .defI 0 fun z59 => .ite (z52 != 0) (.leaf ⟨.ret, [(6, .bool (.lit
  false))], [], 0⟩) (.leaf ⟨.normal, [(1, .sl 0), (6, .bool (.lit false)), (7, .ptr 21 0), (8, .ptr 51 0), (17, .int .i64 (.lit 0))], [(21, some (.box [.int .u32 (.sym z1), .int .u8 (.lit 1)])), (51, some (.box [.ptr 29 0,
  .ptr 37 0, .ptr 45 0])), (29, some (.box [.int .u32 (.sym z14), .int .u8 (.sym z15), .int .u32 (.sym z16), .int .u8 (.sym z17), .int .u8 (.sym z18), .int .u8 (.sym z19), .int .i64 (.sym z20)])), (37, some (.box [.int
  .u32 (.lit 0), .int .u8 (.lit 0), .int .u32 (.lit 0), .int .u8 (.lit 0), .int .u8 (.lit 0), .int .u8 (.lit 0), .int .i64 (.lit 0)])), (45, some (.box [.int .u32 (.sym z53), .int .u8 (.sym z54), .int .u32 (.sym z55), .int
  .u8 (.sym z56), .int .u8 (.sym z57), .int .u8 (.sym z58), .int .i64 (.sym z59)]))], 0⟩)) (.must false (.fail "index")))))) (.ite (decide (z3 = 1)) (.defI (bif prOk 0 0 z1 1 then 0 else 0) fun z60 => .defI (bif prOk 0 0
  z1 1 then 0 else 0) fun z61 => .defI (bif prOk 0 0 z1 1 then 0 else 0) fun z62 => .defI (bif prOk 0 0 z1 1 then 0 else 0) fun z63 => .defI (bif prOk 0 0 z1 1 then 0 else 0) fun z64 => .defI (prCode 0 0 z1 1) fun z65 =>
  .defI (bif prOk 0 0 z1 1 then z1 else 0) fun z66 => .defI (bif prOk 0 0 z1 1 then 1 else 0) fun z67 => .defI 0 fun z68 => .defI 0 fun z69 => .defI 0 fun z70 => .defI 0 fun z71 => .defI 0 fun z72 => .ite (z65 != 0) (.leaf
  ⟨.ret, [(6, .bool (.lit false))], [], 0⟩) (.ite (decide (z7 = 0)) (.defI (bif prOk 0 0 z1 1 then 0 else 0) fun z73 => .defI (bif prOk 0 0 z1 1 then 0 else 0) fun z74 => .defI (bif prOk 0 0 z1 1 then 0 else 0) fun z75 =>
  .defI (bif prOk 0 0 z1 1 then 0 else 0) fun z76 => .defI (bif prOk 0 0 z1 1 then 0 else 0) fun z77 => .defI (prCode 0 0 z1 1) fun z78 => .defI (bif prOk 0 0 z1 1 then z1 else 0) fun z79 => .defI (bif prOk 0 0 z1 1 then 1
  else 0) fun z80 => .defI 0 fun z81 => .defI 0 fun z82 => .defI 0 fun z83 => .defI 0 fun z84 => .defI 0 fun z85 => .ite (z78 != 0) (.leaf ⟨.ret, [(6, .bool (.lit false))], [], 0⟩) (.leaf ⟨.normal, [(1, .sl 0), (6, .bool
  (.lit false)), (7, .ptr 21 0), (8, .ptr 51 0), (17, .int .i64 (.lit 0))], [(21, some (.box [.int .u32 (.sym z1), .int .u8 (.lit 1)])), (51, some (.box [.ptr 29 0, .ptr 37 0, .ptr 45 0])), (29, some (.box [.int .u32 (.sym
  z79), .int .u8 (.sym z80), .int .u32 (.sym z81), .int .u8 (.sym z82), .int .u8 (.sym z83), .int .u8 (.sym z84), .int .i64 (.sym z85)])), (37, some (.box [.int .u32 (.sym z66), .int .u8 (.sym z67), .int .u32 (.sym z68),
  .int .u8 (.sym z69), .int .u8 (.sym z70), .int .u8 (.sym z71), .int .i64 (.sym z72)])), (45, some (.box [.int .u32 (.lit 0), .int .u8 (.lit 0), .int .u32 (.lit 0), .int .u8 (.lit 0), .int .u8 (.lit 0), .int .u8 (.lit 0),
  .int .i64 (.lit 0)]))], 0⟩)) (.ite (decide (z7 = 1)) (.defI (bif prOk z66 z67 z1 1 then z68 else 0) fun z86 => .defI (bif prOk z66 z67 z1 1 then z69 else 0) fun z87 => .defI (bif prOk z66 z67 z1 1 then z70 else 0) fun
  z88 => .defI (bif prOk z66 z67 z1 1 then z71 else 0) fun z89 => .defI (bif prOk z66 z67 z1 1 then z72 else 0) fun z90 => .defI (prCode z66 z67 z1 1) fun z91 => .defI (bif prOk z66 z67 z1 1 then z1 else z66) fun z92 =>
  .defI (bif prOk z66 z67 z1 1 then 1 else z67) fun z93 => .defI z68 fun z94 => .defI z69 fun z95 => .defI z70 fun z96 => .defI z71 fun z97 => .defI z72 fun z98 => .ite (z91 != 0) (.leaf ⟨.ret, [(6, .bool (.lit false))],
  [], 0⟩) (.leaf ⟨.normal, [(1, .sl 0), (6, .bool (.lit false)), (7, .ptr 21 0), (8, .ptr 51 0), (17, .int .i64 (.lit 0))], [(21, some (.box [.int .u32 (.sym z1), .int .u8 (.lit 1)])), (51, some (.box [.ptr 29 0, .ptr 37
  0, .ptr 45 0])), (29, some (.box [.int .u32 (.lit 0), .int .u8 (.lit 0), .int .u32 (.lit 0), .int .u8 (.lit 0), .int .u8 (.lit 0), .int .u8 (.lit 0), .int .i64 (.lit 0)])), (37, some (.box [.int .u32 (.sym z92), .int .u8
  (.sym z93), .int .u32 (.sym z94), .int .u8 (.sym z95), .int .u8 (.sym z96), .int .u8 (.sym z97), .int .i64 (.sym z98)])), (45, some (.box [.int .u32 (.lit 0), .int .u8 (.lit 0), .int .u32 (.lit 0), .int .u8 (.lit 0),
  .int .u8 (.lit 0), .int .u8 (.lit 0), .int .i64 (.lit 0)]))], 0⟩)) (.ite (decide (z7 = 2)) (.defI (bif prOk 0 0 z1 1 then 0 else 0) fun z99 => .defI (bif prOk 0 0 z1 1 then 0 else 0) fun z100 => .defI (bif prOk 0 0 z1 1
  then 0 else 0) fun z101 => .defI (bif prOk 0 0 z1 1 then 0 else 0) fun z102 => .defI (bif prOk 0 0 z1 1 then 0 else 0) fun z103 => .defI (prCode 0 0 z1 1) fun z104 => .defI (bif prOk 0 0 z1 1 then z1 else 0) fun z105 =>
  .defI (bif prOk 0 0 z1 1 then 1 else 0) fun z106 => .defI 0 fun z107 => .defI 0 fun z108 => .defI 0 fun z109 => .defI 0 fun z110 => .defI 0 fun z111 => .ite (z104 != 0) (.leaf ⟨.ret, [(6, .bool (.lit false))], [], 0⟩)
  (.leaf ⟨.normal, [(1, .sl 0), (6, .bool (.lit false)), (7, .ptr 21 0), (8, .ptr 51 0), (17, .int .i64 (.lit 0))], [(21, some (.box [.int .u32 (.sym z1), .int .u8 (.lit 1)])), (51, some (.box [.ptr 29 0, .ptr 37 0, .ptr
  45 0])), (29, some (.box [.int .u32 (.lit 0), .int .u8 (.lit 0), .int .u32 (.lit 0), .int .u8 (.lit 0), .int .u8 (.lit 0), .int .u8 (.lit 0), .int .i64 (.lit 0)])), (37, some (.box [.int .u32 (.sym z66), .int .u8 (.sym
  z67), .int .u32 (.sym z68), .int .u8 (.sym z69), .int .u8 (.sym z70), .int .u8 (.sym z71), .int .i64 (.sym z72)])), (45, some (.box [.int .u32 (.sym z105), .int .u8 (.sym z106), .int .u32 (.sym z107), .int .u8 (.sym
  z108), .int .u8 (.sym z109), .int .u8 (.sym z110), .int .i64 (.sym z111)]))], 0⟩)) (.must false (.fail "index")))))) (.ite (decide (z3 = 2)) (.defI (bif prOk 0 0 z1 1 then 0 else 0) fun z112 => .defI (bif prOk 0 0 z1 1
  then 0 else 0) fun z113 => .defI (bif prOk 0 0 z1 1 then 0 else 0) fun z114 => .defI (bif prOk 0 0 z1 1 then 0 else 0) fun z115 => .defI (bif prOk 0 0 z1 1 then 0 else 0) fun z116 => .defI (prCode 0 0 z1 1) fun z117 =>
  .defI (bif prOk 0 0 z1 1 then z1 else 0) fun z118 => .defI (bif prOk 0 0 z1 1 then 1 else 0) fun z119 => .defI 0 fun z120 => .defI 0 fun z121 => .defI 0 fun z122 => .defI 0 fun z123 => .defI 0 fun z124 => .ite (z117 !=
  0) (.leaf ⟨.ret, [(6, .bool (.lit false))], [], 0⟩) (.ite (decide (z7 = 0)) (.defI (bif prOk 0 0 z1 1 then 0 else 0) fun z125 => .defI (bif prOk 0 0 z1 1 then 0 else 0) fun z126 => .defI (bif prOk 0 0 z1 1 then 0 else 0)
  fun z127 => .defI (bif prOk 0 0 z1 1 then 0 else 0) fun z128 => .defI (bif prOk 0 0 z1 1 then 0 else 0) fun z129 => .defI (prCode 0 0 z1 1) fun z130 => .defI (bif prOk 0 0 z1 1 then z1 else 0) fun z131 => .defI (bif prOk
  0 0 z1 1 then 1 else 0) fun z132 => .defI 0 fun z133 => .defI 0 fun z134 => .defI 0 fun z135 => .defI 0 fun z136 => .defI 0 fun z137 => .ite (z130 != 0) (.leaf ⟨.ret, [(6, .bool (.lit false))], [], 0⟩) (.leaf ⟨.normal,
  [(1, .sl 0), (6, .bool (.lit false)), (7, .ptr 21 0), (8, .ptr 51 0), (17, .int .i64 (.lit 0))], [(21, some (.box [.int .u32 (.sym z1), .int .u8 (.lit 1)])), (51, some (.box [.ptr 29 0, .ptr 37 0, .ptr 45 0])), (29, some
  (.box [.int .u32 (.sym z131), .int .u8 (.sym z132), .int .u32 (.sym z133), .int .u8 (.sym z134), .int .u8 (.sym z135), .int .u8 (.sym z136), .int .i64 (.sym z137)])), (37, some (.box [.int .u32 (.lit 0), .int .u8 (.lit
  0), .int .u32 (.lit 0), .int .u8 (.lit 0), .int .u8 (.lit 0), .int .u8 (.lit 0), .int .i64 (.lit 0)])), (45, some (.box [.int .u32 (.sym z118), .int .u8 (.sym z119), .int .u32 (.sym z120), .int .u8 (.sym z121), .int .u8
  (.sym z122), .int .u8 (.sym z123), .int .i64 (.sym z124)]))], 0⟩)) (.ite (decide (z7 = 1)) (.defI (bif prOk 0 0 z1 1 then 0 else 0) fun z138 => .defI (bif prOk 0 0 z1 1 then 0 else 0) fun z139 => .defI (bif prOk 0 0 z1 1
  then 0 else 0) fun z140 => .defI (bif prOk 0 0 z1 1 then 0 else 0) fun z141 => .defI (bif prOk 0 0 z1 1 then 0 else 0) fun z142 => .defI (prCode 0 0 z1 1) fun z143 => .defI (bif prOk 0 0 z1 1 then z1 else 0) fun z144 =>
  .defI (bif prOk 0 0 z1 1 then 1 else 0) fun z145 => .defI 0 fun z146 => .defI 0 fun z147 => .defI 0 fun z148 => .defI 0 fun z149 => .defI 0 fun z150 => .ite (z143 != 0) (.leaf ⟨.ret, [(6, .bool (.lit false))], [], 0⟩)
  (.leaf ⟨.normal, [(1, .sl 0), (6, .bool (.lit false)), (7, .ptr 21 0), (8, .ptr 51 0), (17, .int .i64 (.lit 0))], [(21, some (.box [.int .u32 (.sym z1), .int .u8 (.lit 1)])), (51, some (.box [.ptr 29 0, .ptr 37 0, .ptr
  45 0])), (29, some (.box [.int .u32 (.lit 0), .int .u8 (.lit 0), .int .u32 (.lit 0), .int .u8 (.lit 0), .int .u8 (.lit 0), .int .u8 (.lit 0), .int .i64 (.lit 0)])), (37, some (.box [.int .u32 (.sym z144), .int .u8 (.sym
  z145), .int .u32 (.sym z146), .int .u8 (.sym z147), .int .u8 (.sym z148), .int .u8 (.sym z149), .int .i64 (.sym z150)])), (45, some (.box [.int .u32 (.sym z118), .int .u8 (.sym z119), .int .u32 (.sym z120), .int .u8
  (.sym z121), .int .u8 (.sym z122), .int .u8 (.sym z123), .int .i64 (.sym z124)]))], 0⟩)) (.ite (decide (z7 = 2)) (.defI (bif prOk z118 z119 z1 1 then z120 else 0) fun z151 => .defI (bif prOk z118 z119 z1 1 then z121 else
  0) fun z152 => .defI (bif prOk z118 z119 z1 1 then z122 else 0) fun z153 => .defI (bif prOk z118 z119 z1 1 then z123 else 0) fun z154 => .defI (bif prOk z118 z119 z1 1 then z124 else 0) fun z155 => .defI (prCode z118
  z119 z1 1) fun z156 => .defI (bif prOk z118 z119 z1 1 then z1 else z118) fun z157 => .defI (bif prOk z118 z119 z1 1 then 1 else z119) fun z158 => .defI z120 fun z159 => .defI z121 fun z160 => .defI z122 fun z161 => .defI
  z123 fun z162 => .defI z124 fun z163 => .ite (z156 != 0) (.leaf ⟨.ret, [(6, .bool (.lit false))], [], 0⟩) (.leaf ⟨.normal, [(1, .sl 0), (6, .bool (.lit false)), (7, .ptr 21 0), (8, .ptr 51 0), (17, .int .i64 (.lit 0))],
  [(21, some (.box [.int .u32 (.sym z1), .int .u8 (.lit 1)])), (51, some (.box [.ptr 29 0, .ptr 37 0, .ptr 45 0])), (29, some (.box [.int .u32 (.lit 0), .int .u8 (.lit 0), .int .u32 (.lit 0), .int .u8 (.lit 0), .int .u8
  (.lit 0), .int .u8 (.lit 0), .int .i64 (.lit 0)])), (37, some (.box [.int .u32 (.lit 0), .int .u8 (.lit 0), .int .u32 (.lit 0), .int .u8 (.lit 0), .int .u8 (.lit 0), .int .u8 (.lit 0), .int .i64 (.lit 0)])), (45, some
  (.box [.int .u32 (.sym z157), .int .u8 (.sym z158), .int .u32 (.sym z159), .int .u8 (.sym z160), .int .u8 (.sym z161), .int .u8 (.sym z162), .int .i64 (.sym z163)]))], 0⟩)) (.must false (.fail "index")))))) (.must false
  (.fail "index"))))) (.ite (decide (z3 = 0)) (.defI (bif prOk 0 0 z1 1 then 0 else 0) fun z164 => .defI (bif prOk 0 0 z1 1 then 0 else 0) fun z165 => .defI (bif prOk 0 0 z1 1 then 0 else 0) fun z166 => .defI (bif prOk 0 0
  z1 1 then 0 else 0) fun z167 => .defI (bif prOk 0 0 z1 1 then 0 else 0) fun z168 => .defI (prCode 0 0 z1 1) fun z169 => .defI (bif prOk 0 0 z1 1 then z1 else 0) fun z170 => .defI (bif prOk 0 0 z1 1 then 1 else 0) fun
  z171 => .defI 0 fun z172 => .defI 0 fun z173 => .defI 0 fun z174 => .defI 0 fun z175 => .defI 0 fun z176 => .ite (z169 != 0) (.leaf ⟨.ret, [(6, .bool (.lit false))], [], 0⟩) (.ite (decide (z5 = 0)) (.defI (bif prOk z170
  z171 z1 1 then z172 else 0) fun z177 => .defI (bif prOk z170 z171 z1 1 then z173 else 0) fun z178 => .defI (bif prOk z170 z171 z1 1 then z174 else 0) fun z179 => .defI (bif prOk z170 z171 z1 1 then z175 else 0) fun z180
  => .defI (bif prOk z170 z171 z1 1 then z176 else 0) fun z181 => .defI (prCode z170 z171 z1 1) fun z182 => .defI (bif prOk z170 z171 z1 1 then z1 else z170) fun z183 => .defI (bif prOk z170 z171 z1 1 then 1 else z171) fun
  z184 => .defI z172 fun z185 => .defI z173 fun z186 => .defI z174 fun z187 => .defI z175 fun z188 => .defI z176 fun z189 => .ite (z182 != 0) (.leaf ⟨.ret, [(6, .bool (.lit false))], [], 0⟩) (.leaf ⟨.normal, [(1, .sl 0),
  (6, .bool (.lit false)), (7, .ptr 21 0), (8, .ptr 51 0), (17, .int .i64 (.lit 0))], [(21, some (.box [.int .u32 (.sym z1), .int .u8 (.lit 1)])), (51, some (.box [.ptr 29 0, .ptr 37 0, .ptr 45 0])), (29, some (.box [.int
  .u32 (.sym z183), .int .u8 (.sym z184), .int .u32 (.sym z185), .int .u8 (.sym z186), .int .u8 (.sym z187), .int .u8 (.sym z188), .int .i64 (.sym z189)])), (37, some (.box [.int .u32 (.lit 0), .int .u8 (.lit 0), .int .u32
  (.lit 0), .int .u8 (.lit 0), .int .u8 (.lit 0), .int .u8 (.lit 0), .int .i64 (.lit 0)])), (45, some (.box [.int .u32 (.lit 0), .int .u8 (.lit 0), .int .u32 (.lit 0), .int .u8 (.lit 0), .int .u8 (.lit 0), .int .u8 (.lit
  0), .int .i64 (.lit 0)]))], 0⟩)) (.ite (decide (z5 = 1)) (.defI (bif prOk 0 0 z1 1 then 0 else 0) fun z190 => .defI (bif prOk 0 0 z1 1 then 0 else 0) fun z191 => .defI (bif prOk 0 0 z1 1 then 0 else 0) fun z192 => .defI
  (bif prOk 0 0 z1 1 then 0 else 0) fun z193 => .defI (bif prOk 0 0 z1 1 then 0 else 0) fun z194 => .defI (prCode 0 0 z1 1) fun z195 => .defI (bif prOk 0 0 z1 1 then z1 else 0) fun z196 => .defI (bif prOk 0 0 z1 1 then 1
  else 0) fun z197 => .defI 0 fun z198 => .defI 0 fun z199 => .defI 0 fun z200 => .defI 0 fun z201 => .defI 0 fun z202 => .ite (z195 != 0) (.leaf ⟨.ret, [(6, .bool (.lit false))], [], 0⟩) (.leaf ⟨.normal, [(1, .sl 0), (6,
  .bool (.lit false)), (7, .ptr 21 0), (8, .ptr 51 0), (17, .int .i64 (.lit 0))], [(21, some (.box [.int .u32 (.sym z1), .int .u8 (.lit 1)])), (51, some (.box [.ptr 29 0, .ptr 37 0, .ptr 45 0])), (29, some (.box [.int .u32
  (.sym z170), .int .u8 (.sym z171), .int .u32 (.sym z172), .int .u8 (.sym z173), .int .u8 (.sym z174), .int .u8 (.sym z175), .int .i64 (.sym z176)])), (37, some (.box [.int .u32 (.sym z196), .int .u8 (.sym z197), .int
  .u32 (.sym z198), .int .u8 (.sym z199), .int .u8 (.sym z200), .int .u8 (.sym z201), .int .i64 (.sym z202)])), (45, some (.box [.int .u32 (.lit 0), .int .u8 (.lit 0), .int .u32 (.lit 0), .int .u8 (.lit 0), .int .u8 (.lit
  0), .int .u8 (.lit 0), .int .i64 (.lit 0)]))], 0⟩)) (.ite (decide (z5 = 2)) (.defI (bif prOk 0 0 z1 1 then 0 else 0) fun z203 => .defI (bif prOk 0 0 z1 1 then 0 else 0) fun z204 => .defI (bif prOk 0 0 z1 1 then 0 else 0)
  fun z205 => .defI (bif prOk 0 0 z1 1 then 0 else 0) fun z206 => .defI (bif prOk 0 0 z1 1 then 0 else 0) fun z207 => .defI (prCode 0 0 z1 1) fun z208 => .defI (bif prOk 0 0 z1 1 then z1 else 0) fun z209 => .defI (bif prOk
  0 0 z1 1 then 1 else 0) fun z210 => .defI 0 fun z211 => .defI 0 fun z212 => .defI 0 fun z213 => .defI 0 fun z214 => .defI 0 fun z215 => .ite (z208 != 0) (.leaf ⟨.ret, [(6, .bool (.lit false))], [], 0⟩) (.leaf ⟨.normal,
  [(1, .sl 0), (6, .bool (.lit false)), (7, .ptr 21 0), (8, .ptr 51 0), (17, .int .i64 (.lit 0))], [(21, some (.box [.int .u32 (.sym z1), .int .u8 (.lit 1)])), (51, some (.box [.ptr 29 0, .ptr 37 0, .ptr 45 0])), (29, some
  (.box [.int .u32 (.sym z170), .int .u8 (.sym z171), .int .u32 (.sym z172), .int .u8 (.sym z173), .int .u8 (.sym z174), .int .u8 (.sym z175), .int .i64 (.sym z176)])), (37, some (.box [.int .u32 (.lit 0), .int .u8 (.lit
  0), .int .u32 (.lit 0), .int .u8 (.lit 0), .int .u8 (.lit 0), .int .u8 (.lit 0), .int .i64 (.lit 0)])), (45, some (.box [.int .u32 (.sym z209), .int .u8 (.sym z210), .int .u32 (.sym z211), .int .u8 (.sym z212), .int .u8
  (.sym z213), .int .u8 (.sym z214), .int .i64 (.sym z215)]))], 0⟩)) (.must false (.fail "index")))))) (.ite (decide (z3 = 1)) (.defI (bif prOk 0 0 z1 1 then 0 else 0) fun z216 => .defI (bif prOk 0 0 z1 1 then 0 else 0)
  fun z217 => .defI (bif prOk 0 0 z1 1 then 0 else 0) fun z218 => .defI (bif prOk 0 0 z1 1 then 0 else 0) fun z219 => .defI (bif prOk 0 0 z1 1 then 0 else 0) fun z220 => .defI (prCode 0 0 z1 1) fun z221 => .defI (bif prOk
  0 0 z1 1 then z1 else 0) fun z222 => .defI (bif prOk 0 0 z1 1 then 1 else 0) fun z223 => .defI 0 fun z224 => .defI 0 fun z225 => .defI 0 fun z226 => .defI 0 fun z227 => .defI 0 fun z228 => .ite (z221 != 0) (.leaf ⟨.ret,
  [(6, .bool (.lit false))], [], 0⟩) (.ite (decide (z5 = 0)) (.defI (bif prOk 0 0 z1 1 then 0 else 0) fun z229 => .defI (bif prOk 0 0 z1 1 then 0 else 0) fun z230 => .defI (bif prOk 0 0 z1 1 then 0 else 0) fun z231 =>
  .defI (bif prOk 0 0 z1 1 then 0 else 0) fun z232 => .defI (bif prOk 0 0 z1 1 then 0 else 0) fun z233 => .defI (prCode 0 0 z1 1) fun z234 => .defI (bif prOk 0 0 z1 1 then z1 else 0) fun z235 => .defI (bif prOk 0 0 z1 1
  then 1 else 0) fun z236 => .defI 0 fun z237 => .defI 0 fun z238 => .defI 0 fun z239 => .defI 0 fun z240 => .defI 0 fun z241 => .ite (z234 != 0) (.leaf ⟨.ret, [(6, .bool (.lit false))], [], 0⟩) (.leaf ⟨.normal, [(1, .sl
  0), (6, .bool (.lit false)), (7, .ptr 21 0), (8, .ptr 51 0), (17, .int .i64 (.lit 0))], [(21, some (.box [.int .u32 (.sym z1), .int .u8 (.lit 1)])), (51, some (.box [.ptr 29 0, .ptr 37 0, .ptr 45 0])), (29, some (.box
  [.int .u32 (.sym z235), .int .u8 (.sym z236), .int .u32 (.sym z237), .int .u8 (.sym z238), .int .u8 (.sym z239), .int .u8 (.sym z240), .int .i64 (.sym z241)])), (37, some (.box [.int .u32 (.sym z222), .int .u8 (.sym
  z223), .int .u32 (.sym z224), .int .u8 (.sym z225), .int .u8 (.sym z226), .int .u8 (.sym z227), .int .i64 (.sym z228)])), (45, some (.box [.int .u32 (.lit 0), .int .u8 (.lit 0), .int .u32 (.lit 0), .int .u8 (.lit 0),
  .int .u8 (.lit 0), .int .u8 (.lit 0), .int .i64 (.lit 0)]))], 0⟩)) (.ite (decide (z5 = 1)) (.defI (bif prOk z222 z223 z1 1 then z224 else 0) fun z242 => .defI (bif prOk z222 z223 z1 1 then z225 else 0) fun z243 => .defI
  (bif prOk z222 z223 z1 1 then z226 else 0) fun z244 => .defI (bif prOk z222 z223 z1 1 then z227 else 0) fun z245 => .defI (bif prOk z222 z223 z1 1 then z228 else 0) fun z246 => .defI (prCode z222 z223 z1 1) fun z247 =>
  .defI (bif prOk z222 z223 z1 1 then z1 else z222) fun z248 => .defI (bif prOk z222 z223 z1 1 then 1 else z223) fun z249 => .defI z224 fun z250 => .defI z225 fun z251 => .defI z226 fun z252 => .defI z227 fun z253 => .defI
  z228 fun z254 => .ite (z247 != 0) (.leaf ⟨.ret, [(6, .bool (.lit false))], [], 0⟩) (.leaf ⟨.normal, [(1, .sl 0), (6, .bool (.lit false)), (7, .ptr 21 0), (8, .ptr 51 0), (17, .int .i64 (.lit 0))], [(21, some (.box [.int
  .u32 (.sym z1), .int .u8 (.lit 1)])), (51, some (.box [.ptr 29 0, .ptr 37 0, .ptr 45 0])), (29, some (.box [.int .u32 (.lit 0), .int .u8 (.lit 0), .int .u32 (.lit 0), .int .u8 (.lit 0), .int .u8 (.lit 0), .int .u8 (.lit
  0), .int .i64 (.lit 0)])), (37, some (.box [.int .u32 (.sym z248), .int .u8 (.sym z249), .int .u32 (.sym z250), .int .u8 (.sym z251), .int .u8 (.sym z252), .int .u8 (.sym z253), .int .i64 (.sym z254)])), (45, some (.box
  [.int .u32 (.lit 0), .int .u8 (.lit 0), .int .u32 (.lit 0), .int .u8 (.lit 0), .int .u8 (.lit 0), .int .u8 (.lit 0), .int .i64 (.lit 0)]))], 0⟩)) (.ite (decide (z5 = 2)) (.defI (bif prOk 0 0 z1 1 then 0 else 0) fun z255
  => .defI (bif prOk 0 0 z1 1 then 0 else 0) fun z256 => .defI (bif prOk 0 0 z1 1 then 0 else 0) fun z257 => .defI (bif prOk 0 0 z1 1 then 0 else 0) fun z258 => .defI (bif prOk 0 0 z1 1 then 0 else 0) fun z259 => .defI
  (prCode 0 0 z1 1) fun z260 => .defI (bif prOk 0 0 z1 1 then z1 else 0) fun z261 => .defI (bif prOk 0 0 z1 1 then 1 else 0) fun z262 => .defI 0 fun z263 => .defI 0 fun z264 => .defI 0 fun z265 => .defI 0 fun z266 => .defI
  0 fun z267 => .ite (z260 != 0) (.leaf ⟨.ret, [(6, .bool (.lit false))], [], 0⟩) (.leaf ⟨.normal, [(1, .sl 0), (6, .bool (.lit false)), (7, .ptr 21 0), (8, .ptr 51 0), (17, .int .i64 (.lit 0))], [(21, some (.box [.int
  .u32 (.sym z1), .int .u8 (.lit 1)])), (51, some (.box [.ptr 29 0, .ptr 37 0, .ptr 45 0])), (29, some (.box [.int .u32 (.lit 0), .int .u8 (.lit 0), .int .u32 (.lit 0), .int .u8 (.lit 0), .int .u8 (.lit 0), .int .u8 (.lit
  0), .int .i64 (.lit 0)])), (37, some (.box [.int .u32 (.sym z222), .int .u8 (.sym z223), .int .u32 (.sym z224), .int .u8 (.sym z225), .int .u8 (.sym z226), .int .u8 (.sym z227), .int .i64 (.sym z228)])), (45, some (.box
  [.int .u32 (.sym z261), .int .u8 (.sym z262), .int .u32 (.sym z263), .int .u8 (.sym z264), .int .u8 (.sym z265), .int .u8 (.sym z266), .int .i64 (.sym z267)]))], 0⟩)) (.must false (.fail "index")))))) (.ite (decide (z3 =
  2)) (.defI (bif prOk 0 0 z1 1 then 0 else 0) fun z268 => .defI (bif prOk 0 0 z1 1 then 0 else 0) fun z269 => .defI (bif prOk 0 0 z1 1 then 0 else 0) fun z270 => .defI (bif prOk 0 0 z1 1 then 0 else 0) fun z271 => .defI
  (bif prOk 0 0 z1 1 then 0 else 0) fun z272 => .defI (prCode 0 0 z1 1) fun z273 => .defI (bif prOk 0 0 z1 1 then z1 else 0) fun z274 => .defI (bif prOk 0 0 z1 1 then 1 else 0) fun z275 => .defI 0 fun z276 => .defI 0 fun
  z277 => .defI 0 fun z278 => .defI 0 fun z279 => .defI 0 fun z280 => .ite (z273 != 0) (.leaf ⟨.ret, [(6, .bool (.lit false))], [], 0⟩) (.ite (decide (z5 = 0)) (.defI (bif prOk 0 0 z1 1 then 0 else 0) fun z281 => .defI
  (bif prOk 0 0 z1 1 then 0 else 0) fun z282 => .defI (bif prOk 0 0 z1 1 then 0 else 0) fun z283 => .defI (bif prOk 0 0 z1 1 then 0 else 0) fun z284 => .defI (bif prOk 0 0 z1 1 then 0 else 0) fun z285 => .defI (prCode 0 0
  z1 1) fun z286 => .defI (bif prOk 0 0 z1 1 then z1 else 0) fun z287 => .defI (bif prOk 0 0 z1 1 then 1 else 0) fun z288 => .defI 0 fun z289 => .defI 0 fun z290 => .defI 0 fun z291 => .defI 0 fun z292 => .defI 0 fun z293
  => .ite (z286 != 0) (.leaf ⟨.ret, [(6, .bool (.lit false))], [], 0⟩) (.leaf ⟨.normal, [(1, .sl 0), (6, .bool (.lit false)), (7, .ptr 21 0), (8, .ptr 51 0), (17, .int .i64 (.lit 0))], [(21, some (.box [.int .u32 (.sym
  z1), .int .u8 (.lit 1)])), (51, some (.box [.ptr 29 0, .ptr 37 0, .ptr 45 0])), (29, some (.box [.int .u32 (.sym z287), .int .u8 (.sym z288), .int .u32 (.sym z289), .int .u8 (.sym z290), .int .u8 (.sym z291), .int .u8
  (.sym z292), .int .i64 (.sym z293)])), (37, some (.box [.int .u32 (.lit 0), .int .u8 (.lit 0), .int .u32 (.lit 0), .int .u8 (.lit 0), .int .u8 (.lit 0), .int .u8 (.lit 0), .int .i64 (.lit 0)])), (45, some (.box [.int
  .u32 (.sym z274), .int .u8 (.sym z275), .int .u32 (.sym z276), .int .u8 (.sym z277), .int .u8 (.sym z278), .int .u8 (.sym z279), .int .i64 (.sym z280)]))], 0⟩)) (.ite (decide (z5 = 1)) (.defI (bif prOk 0 0 z1 1 then 0
  else 0) fun z294 => .defI (bif prOk 0 0 z1 1 then 0 else 0) fun z295 => .defI (bif prOk 0 0 z1 1 then 0 else 0) fun z296 => .defI (bif prOk 0 0 z1 1 then 0 else 0) fun z297 => .defI (bif prOk 0 0 z1 1 then 0 else 0) fun
  z298 => .defI (prCode 0 0 z1 1) fun z299 => .defI (bif prOk 0 0 z1 1 then z1 else 0) fun z300 => .defI (bif prOk 0 0 z1 1 then 1 else 0) fun z301 => .defI 0 fun z302 => .defI 0 fun z303 => .defI 0 fun z304 => .defI 0 fun
  z305 => .defI 0 fun z306 => .ite (z299 != 0) (.leaf ⟨.ret, [(6, .bool (.lit false))], [], 0⟩) (.leaf ⟨.normal, [(1, .sl 0), (6, .bool (.lit false)), (7, .ptr 21 0), (8, .ptr 51 0), (17, .int .i64 (.lit 0))], [(21, some
  (.box [.int .u32 (.sym z1), .int .u8 (.lit 1)])), (51, some (.box [.ptr 29 0, .ptr 37 0, .ptr 45 0])), (29, some (.box [.int .u32 (.lit 0), .int .u8 (.lit 0), .int .u32 (.lit 0), .int .u8 (.lit 0), .int .u8 (.lit 0),
  .int .u8 (.lit 0), .int .i64 (.lit 0)])), (37, some (.box [.int .u32 (.sym z300), .int .u8 (.sym z301), .int .u32 (.sym z302), .int .u8 (.sym z303), .int .u8 (.sym z304), .int .u8 (.sym z305), .int .i64 (.sym z306)])),
  (45, some (.box [.int .u32 (.sym z274), .int .u8 (.sym z275), .int .u32 (.sym z276), .int .u8 (.sym z277), .int .u8 (.sym z278), .int .u8 (.sym z279), .int .i64 (.sym z280)]))], 0⟩)) (.ite (decide (z5 = 2)) (.defI (bif
  prOk z274 z275 z1 1 then z276 else 0) fun z307 => .defI (bif prOk z274 z275 z1 1 then z277 else 0) fun z308 => .defI (bif prOk z274 z275 z1 1 then z278 else 0) fun z309 => .defI (bif prOk z274 z275 z1 1 then z279 else 0)
  fun z310 => .defI (bif prOk z274 z275 z1 1 then z280 else 0) fun z311 => .defI (prCode z274 z275 z1 1) fun z312 => .defI (bif prOk z274 z275 z1 1 then z1 else z274) fun z313 => .defI (bif prOk z274 z275 z1 1 then 1 else
  z275) fun z314 => .defI z276 fun z315 => .defI z277 fun z316 => .defI z278 fun z317 => .defI z279 fun z318 => .defI z280 fun z319 => .ite (z312 != 0) (.leaf ⟨.ret, [(6, .bool (.lit false))], [], 0⟩) (.leaf ⟨.normal, [(1,
  .sl 0), (6, .bool (.lit false)), (7, .ptr 21 0), (8, .ptr 51 0), (17, .int .i64 (.lit 0))], [(21, some (.box [.int .u32 (.sym z1), .int .u8 (.lit 1)])), (51, some (.box [.ptr 29 0, .ptr 37 0, .ptr 45 0])), (29, some
  (.box [.int .u32 (.lit 0), .int .u8 (.lit 0), .int .u32 (.lit 0), .int .u8 (.lit 0), .int .u8 (.lit 0), .int .u8 (.lit 0), .int .i64 (.lit 0)])), (37, some (.box [.int .u32 (.lit 0), .int .u8 (.lit 0), .int .u32 (.lit
  0), .int .u8 (.lit 0), .int .u8 (.lit 0), .int .u8 (.lit 0), .int .i64 (.lit 0)])), (45, some (.box [.int .u32 (.sym z313), .int .u8 (.sym z314), .int .u32 (.sym z315), .int .u8 (.sym z316), .int .u8 (.sym z317), .int
  .u8 (.sym z318), .int .i64 (.sym z319)]))], 0⟩)) (.must false (.fail "index")))))) (.must false (.fail "index")))))) := by kernel_rfl

theorem r8_tail (τ0 : Tm) : codeT Try.prog bdT 300 8 Try.f8.ntmps (ofL ((flat body8).drop 14)) ([] ++ τ0) (mkHeap []) 0 (outF [6] [6] [] [] 0) =
  .leaf ⟨.ret, [(6, .bool (.lit true))], [], 0⟩ := by kernel_rfl

theorem r8_x (len i bn : Int) (n : Nat → Nat → Int) (b : Nat → Nat → Bool) (pn pw an aw k o v qn qw cn cw l p u rn rw dn dw m q s : Int) (τ0 : Tm) : codeT Try.prog bdT 300 8 Try.f8.ntmps x8 ([(1, .sl 0), (6, .bool (.lit false)), (7, .ptr 1 0), (8, .ptr 2 0), (17, .int .i64 (.sym i))] ++ τ0) (mkHeap [(0, lstO len n b), (1, .box [.int .u32 (.sym bn), .int .u8 (.lit 1)]), (2, .box [.ptr 3 0, .ptr 4 0, .ptr 5 0]), (3, .box (box7 pn pw an aw k o v)), (4, .box (box7 qn qw cn cw l p u)), (5, .box (box7 rn rw dn dw m q s))]) 6 (outF [6] [1, 6, 7, 8, 17] [3, 4, 5] [0, 1, 2] 6) =
  .ite (decide (i < len)) (.must (decide (0 ≤ i ∧ i < len)) (.must (decide (0 ≤ i ∧ i < len)) (.defI (n i.toNat 1) fun z0 => .defI (n i.toNat 2) fun z1 => .defI (z1.tmod 3) fun z2 => .must (bn != 0) (.defI (z0.tmod bn) fun
  z3 => .defI (IntKind.u32.wrap (z3 + 1)) fun z4 => .ite (!lessB z4 z2 bn 1) (.defI (IntKind.i64.wrap (i + 1)) fun z5 => .leaf ⟨.normal, [(1, .sl 0), (6, .bool (.lit false)), (7, .ptr 1 0), (8, .ptr 2 0), (17, .int .i64
  (.sym z5))], [(3, some (.box [.int .u32 (.sym pn), .int .u8 (.sym pw), .int .u32 (.sym an), .int .u8 (.sym aw), .int .u8 (.sym k), .int .u8 (.sym o), .int .i64 (.sym v)])), (4, some (.box [.int .u32 (.sym qn), .int .u8
  (.sym qw), .int .u32 (.sym cn), .int .u8 (.sym cw), .int .u8 (.sym l), .int .u8 (.sym p), .int .i64 (.sym u)])), (5, some (.box [.int .u32 (.sym rn), .int .u8 (.sym rw), .int .u32 (.sym dn), .int .u8 (.sym dw), .int .u8
  (.sym m), .int .u8 (.sym q), .int .i64 (.sym s)]))], 0⟩) (.defI (acCode pn pw z4 z2 4 0 0) fun z6 => .defI (bif acOk pn pw z4 z2 4 0 0 then z4 else pn) fun z7 => .defI (bif acOk pn pw z4 z2 4 0 0 then z2 else pw) fun z8
  => .defI (bif acOk pn pw z4 z2 4 0 0 then z4 else an) fun z9 => .defI (bif acOk pn pw z4 z2 4 0 0 then z2 else aw) fun z10 => .defI (bif acOk pn pw z4 z2 4 0 0 then 4 else k) fun z11 => .defI (bif acOk pn pw z4 z2 4 0 0
  then 0 else o) fun z12 => .defI (bif acOk pn pw z4 z2 4 0 0 then 0 else v) fun z13 => .ite (z6 == 0) (.defI (acCode qn qw z4 z2 4 0 0) fun z14 => .defI (bif acOk qn qw z4 z2 4 0 0 then z4 else qn) fun z15 => .defI (bif
  acOk qn qw z4 z2 4 0 0 then z2 else qw) fun z16 => .defI (bif acOk qn qw z4 z2 4 0 0 then z4 else cn) fun z17 => .defI (bif acOk qn qw z4 z2 4 0 0 then z2 else cw) fun z18 => .defI (bif acOk qn qw z4 z2 4 0 0 then 4 else
  l) fun z19 => .defI (bif acOk qn qw z4 z2 4 0 0 then 0 else p) fun z20 => .defI (bif acOk qn qw z4 z2 4 0 0 then 0 else u) fun z21 => .ite (z14 == 0) (.defI (acCode rn rw z4 z2 4 0 0) fun z22 => .defI (bif acOk rn rw z4
  z2 4 0 0 then z4 else rn) fun z23 => .defI (bif acOk rn rw z4 z2 4 0 0 then z2 else rw) fun z24 => .defI (bif acOk rn rw z4 z2 4 0 0 then z4 else dn) fun z25 => .defI (bif acOk rn rw z4 z2 4 0 0 then z2 else dw) fun z26
  => .defI (bif acOk rn rw z4 z2 4 0 0 then 4 else m) fun z27 => .defI (bif acOk rn rw z4 z2 4 0 0 then 0 else q) fun z28 => .defI (bif acOk rn rw z4 z2 4 0 0 then 0 else s) fun z29 => .ite (z22 == 0) (.leaf ⟨.ret, [(6,
  .bool (.lit false))], [], 0⟩) (.leaf ⟨.ret, [(6, .bool (.lit false))], [], 0⟩)) (.defI (acCode rn rw z4 z2 4 0 0) fun z30 => .defI (bif acOk rn rw z4 z2 4 0 0 then z4 else rn) fun z31 => .defI (bif acOk rn rw z4 z2 4 0 0
  then z2 else rw) fun z32 => .defI (bif acOk rn rw z4 z2 4 0 0 then z4 else dn) fun z33 => .defI (bif acOk rn rw z4 z2 4 0 0 then z2 else dw) fun z34 => .defI (bif acOk rn rw z4 z2 4 0 0 then 4 else m) fun z35 => .defI
  (bif acOk rn rw z4 z2 4 0 0 then 0 else q) fun z36 => .defI (bif acOk rn rw z4 z2 4 0 0 then 0 else s) fun z37 => .ite (z30 == 0) (.leaf ⟨.ret, [(6, .bool (.lit false))], [], 0⟩) (.defI (IntKind.i64.wrap (i + 1)) fun z38
  => .leaf ⟨.normal, [(1, .sl 0), (6, .bool (.lit false)), (7, .ptr 1 0), (8, .ptr 2 0), (17, .int .i64 (.sym z38))], [(3, some (.box [.int .u32 (.sym z7), .int .u8 (.sym z8), .int .u32 (.sym z9), .int .u8 (.sym z10), .int
  .u8 (.sym z11), .int .u8 (.sym z12), .int .i64 (.sym z13)])), (4, some (.box [.int .u32 (.sym z15), .int .u8 (.sym z16), .int .u32 (.sym z17), .int .u8 (.sym z18), .int .u8 (.sym z19), .int .u8 (.sym z20), .int .i64
  (.sym z21)])), (5, some (.box [.int .u32 (.sym z31), .int .u8 (.sym z32), .int .u32 (.sym z33), .int .u8 (.sym z34), .int .u8 (.sym z35), .int .u8 (.sym z36), .int .i64 (.sym z37)]))], 0⟩))) (.defI (acCode qn qw z4 z2 4
  0 0) fun z39 => .defI (bif acOk qn qw z4 z2 4 0 0 then z4 else qn) fun z40 => .defI (bif acOk qn qw z4 z2 4 0 0 then z2 else qw) fun z41 => .defI (bif acOk qn qw z4 z2 4 0 0 then z4 else cn) fun z42 => .defI (bif acOk qn
  qw z4 z2 4 0 0 then z2 else cw) fun z43 => .defI (bif acOk qn qw z4 z2 4 0 0 then 4 else l) fun z44 => .defI (bif acOk qn qw z4 z2 4 0 0 then 0 else p) fun z45 => .defI (bif acOk qn qw z4 z2 4 0 0 then 0 else u) fun z46
  => .ite (z39 == 0) (.defI (acCode rn rw z4 z2 4 0 0) fun z47 => .defI (bif acOk rn rw z4 z2 4 0 0 then z4 else rn) fun z48 => .defI (bif acOk rn rw z4 z2 4 0 0 then z2 else rw) fun z49 => .defI (bif acOk rn rw z4 z2 4 0
  0 then z4 else dn) fun z50 => .defI (bif acOk rn rw z4 z2 4 0 0 then z2 else dw) fun z51 => .defI (bif acOk rn rw z4 z2 4 0 0 then 4 else m) fun z52 => .defI (bif acOk rn rw z4 z2 4 0 0 then 0 else q) fun z53 => .defI
  (bif acOk rn rw z4 z2 4 0 0 then 0 else s) fun z54 => .ite (z47 == 0) (.leaf ⟨.ret, [(6, .bool (.lit false))], [], 0⟩) (.defI (IntKind.i64.wrap (i + 1)) fun z55 => .leaf ⟨.normal, [(1, .sl 0), (6, .bool (.lit false)),
  (7, .ptr 1 0), (8, .ptr 2 0), (17, .int .i64 (.sym z55))], [(3, some (.box [.int .u32 (.sym z7), .int .u8 (.sym z8), .int .u32 (.sym z9), .int .u8 (.sym z10), .int .u8 (.sym z11), .int .u8 (.sym z12), .int .i64 (.sym
  z13)])), (4, some (.box [.int .u32 (.sym z40), .int .u8 (.sym z41), .int .u32 (.sym z42), .int .u8 (.sym z43), .int .u8 (.sym z44), .int .u8 (.sym z45), .int .i64 (.sym z46)])), (5, some (.box [.int .u32 (.sym z48), .int
  .u8 (.sym z49), .int .u32 (.sym z50), .int .u8 (.sym z51), .int .u8 (.sym z52), .int .u8 (.sym z53), .int .i64 (.sym z54)]))], 0⟩)) (.defI (acCode rn rw z4 z2 4 0 0) fun z56 => .defI (bif acOk rn rw z4 z2 4 0 0 then z4
  else rn) fun z57 => .defI (bif acOk rn rw z4 z2 4 0 0 then z2 else rw) fun z58 => .defI (bif acOk rn rw z4 z2 4 0 0 then z4 else dn) fun z59 => .defI (bif acOk rn rw z4 z2 4 0 0 then z2 else dw) fun z60 => .defI (bif
  acOk rn rw z4 z2 4 0 0 then 4 else m) fun z61 => .defI (bif acOk rn rw z4 z2 4 0 0 then 0 else q) fun z62 => .defI (bif acOk rn rw z4 z2 4 0 0 then 0 else s) fun z63 => .ite (z56 == 0) (.defI (IntKind.i64.wrap (i + 1))
  fun z64 => .leaf ⟨.normal, [(1, .sl 0), (6, .bool (.lit false)), (7, .ptr 1 0), (8, .ptr 2 0), (17, .int .i64 (.sym z64))], [(3, some (.box [.int .u32 (.sym z7), .int .u8 (.sym z8), .int .u32 (.sym z9), .int .u8 (.sym
  z10), .int .u8 (.sym z11), .int .u8 (.sym z12), .int .i64 (.sym z13)])), (4, some (.box [.int .u32 (.sym z40), .int .u8 (.sym z41), .int .u32 (.sym z42), .int .u8 (.sym z43), .int .u8 (.sym z44), .int .u8 (.sym z45),
  .int .i64 (.sym z46)])), (5, some (.box [.int .u32 (.sym z57), .int .u8 (.sym z58), .int .u32 (.sym z59), .int .u8 (.sym z60), .int .u8 (.sym z61), .int .u8 (.sym z62), .int .i64 (.sym z63)]))], 0⟩) (.defI
  (IntKind.i64.wrap (i + 1)) fun z65 => .leaf ⟨.normal, [(1, .sl 0), (6, .bool (.lit false)), (7, .ptr 1 0), (8, .ptr 2 0), (17, .int .i64 (.sym z65))], [(3, some (.box [.int .u32 (.sym z7), .int .u8 (.sym z8), .int .u32
  (.sym z9), .int .u8 (.sym z10), .int .u8 (.sym z11), .int .u8 (.sym z12), .int .i64 (.sym z13)])), (4, some (.box [.int .u32 (.sym z40), .int .u8 (.sym z41), .int .u32 (.sym z42), .int .u8 (.sym z43), .int .u8 (.sym
  z44), .int .u8 (.sym z45), .int .i64 (.sym z46)])), (5, some (.box [.int .u32 (.sym z57), .int .u8 (.sym z58), .int .u32 (.sym z59), .int .u8 (.sym z60), .int .u8 (.sym z61), .int .u8 (.sym z62), .int .i64 (.sym
  z63)]))], 0⟩)))))))) (.leaf ⟨.exit 2, [(1, .sl 0), (6, .bool (.lit false)), (7, .ptr 1 0), (8, .ptr 2 0), (17, .int .i64 (.sym i))], [(3, some (.box [.int .u32 (.sym pn), .int .u8 (.sym pw), .int .u32 (.sym an), .int .u8
  (.sym aw), .int .u8 (.sym k), .int .u8 (.sym o), .int .i64 (.sym v)])), (4, some (.box [.int .u32 (.sym qn), .int .u8 (.sym qw), .int .u32 (.sym cn), .int .u8 (.sym cw), .int .u8 (.sym l), .int .u8 (.sym p), .int .i64
  (.sym u)])), (5, some (.box [.int .u32 (.sym rn), .int .u8 (.sym rw), .int .u32 (.sym dn), .int .u8 (.sym dw), .int .u8 (.sym m), .int .u8 (.sym q), .int .i64 (.sym s)]))], 0⟩) := by kernel_rfl


structure D8 where
  x : A7
  y : A7
  z : A7
def hi8 (bn : Int) (d : A7) : Prop := lessB d.pn d.pw bn 1 = false
def D8.inv (bn : Int) (d : D8) : Prop := (hi8 bn d.x ∧ hi8 bn d.y) ∨ (hi8 bn d.x ∧ hi8 bn d.z) ∨ (hi8 bn d.y ∧ hi8 bn d.z)
section
variable (len bn : Int) (n : Nat → Nat → Int) (b : Nat → Nat → Bool)
def K8 (i : Int) : Tm := [(1, .sl 0), (6, .bool (.lit false)), (7, .ptr 1 0), (8, .ptr 2 0), (17, .int .i64 (.sym i))]
def L8 (d : D8) : List (Nat × AObj) := [(0, lstO len n b), (1, .box [.int .u32 (.sym bn), .int .u8 (.lit 1)]), (2, .box [.ptr 3 0, .ptr 4 0, .ptr 5 0]), (3, .box d.x.box), (4, .box d.y.box), (5, .box d.z.box)]
theorem in8 : Within Try.prog 8 Try.f8.ntmps body8 := ⟨Try.f8, body8, Try.func8, by kernel_rfl, rfl, fun _ h => h⟩
theorem in8x : Within Try.prog 8 Try.f8.ntmps x8 := by
  have h : (flat body8)[13]? = some (.block 2 (.loop x8)) := by kernel_rfl
  exact within_loop (within_block (within_at in8 13 h))
abbrev R8 (i : Int) (ex : Ex) (m : Nat) (κ : Tm) (h : Heap) : Prop := (ex = .normal ∧ ∃ d' : D8, d'.inv bn ∧ m = 6 ∧ κ = K8 (i + 1) ∧ h = mkHeap (L8 len bn n b d')) ∨ ex = .exit 2
theorem nx8 {i i' : Int} {d : D8} {pn pw an aw k o v qn qw cn cw l p u rn rw dn dw m q s : Int} (hi : i' = i + 1) (h : D8.inv bn ⟨⟨pn, pw, an, aw, k, o, v⟩, ⟨qn, qw, cn, cw, l, p, u⟩, ⟨rn, rw, dn, dw, m, q, s⟩⟩) : ∃ m' φ κ' h', (∀ k, k < 0 → φ k = k) ∧
    Reset isNil (· < m') φ [(1, .sl 0), (6, .bool (.lit false)), (7, .ptr 1 0), (8, .ptr 2 0), (17, .int .i64 (.sym i'))] (fzH .normal [0, 1, 2] (mkHeap (L8 len bn n b d))
      [(3, some (.box [.int .u32 (.sym pn), .int .u8 (.sym pw), .int .u32 (.sym an), .int .u8 (.sym aw), .int .u8 (.sym k), .int .u8 (.sym o), .int .i64 (.sym v)])),
       (4, some (.box [.int .u32 (.sym qn), .int .u8 (.sym qw), .int .u32 (.sym cn), .int .u8 (.sym cw), .int .u8 (.sym l), .int .u8 (.sym p), .int .i64 (.sym u)])),
       (5, some (.box [.int .u32 (.sym rn), .int .u8 (.sym rw), .int .u32 (.sym dn), .int .u8 (.sym dw), .int .u8 (.sym m), .int .u8 (.sym q), .int .i64 (.sym s)]))]) κ' h' ∧
    R8 len bn n b i .normal m' κ' h' := by
  subst hi
  exact ⟨6, id, _, _, fun _ h => absurd h (Nat.not_lt_zero _), Reset.of (l := L8 len bn n b ⟨⟨pn, pw, an, aw, k, o, v⟩, ⟨qn, qw, cn, cw, l, p, u⟩, ⟨rn, rw, dn, dw, m, q, s⟩⟩) (κ' := K8 (i + 1))
    ⟨⟨⟨_, rfl, fun _ _ => rfl⟩, rfl⟩, ⟨⟨_, rfl, fun _ _ => rfl⟩, rfl⟩, ⟨⟨_, rfl, fun _ _ => rfl⟩, rfl⟩, ⟨⟨_, rfl, fun _ _ => rfl⟩, rfl⟩, ⟨⟨_, rfl, fun _ _ => rfl⟩, rfl⟩, trivial⟩
    ⟨⟨rfl, .inl ⟨_, rfl, sameLst rfl (rows5 n b)⟩⟩, ⟨rfl, .inl ⟨_, rfl, Eng.sameBox rfl (fun _ _ => rfl) rfl⟩⟩, ⟨rfl, .inl ⟨_, rfl, Eng.sameBox rfl (fun _ _ => rfl) rfl⟩⟩, ⟨rfl, .inl ⟨_, rfl, Eng.sameBox rfl (fun _ _ => rfl) rfl⟩⟩, ⟨rfl, .inl ⟨_, rfl, Eng.sameBox rfl (fun _ _ => rfl) rfl⟩⟩, ⟨rfl, .inl ⟨_, rfl, Eng.sameBox rfl (fun _ _ => rfl) rfl⟩⟩, trivial⟩ rfl, .inl ⟨rfl, _, h, rfl, rfl, rfl⟩⟩
theorem ex8 {i : Int} {τ : Tm} {h0 h1 : Heap} : ∃ m' φ κ' h', (∀ k, k < 0 → φ k = k) ∧ Reset isNil (· < m') φ τ (fzH (.exit 2) [0, 1, 2] h0 h1) κ' h' ∧ R8 len bn n b i (.exit 2) m' κ' h' :=
  ⟨0, id, _, _, fun _ h => absurd h (Nat.not_lt_zero _), Reset.of (l := []) (κ' := []) trivial trivial rfl, .inr rfl⟩
theorem under8 {bn cn cw pn pw x y z : Int} (hl : lessB cn cw bn 1 = true) (h : lessB pn pw bn 1 = false) : acOk pn pw cn cw x y z = false := by
  have : lessB cn cw pn pw = true := by
    simp [lessB] at *
    omega
  simp [acOk, this]

theorem x8_ht (i : Int) (d : D8) (hd : d.inv bn) (hbn : 5 ≤ bn) (h0 : 0 ≤ i) (h1 : i < 60) : HT Try.prog Try.f8.ntmps 0 x8 6 (K8 i) (mkHeap (L8 len bn n b d)) (R8 len bn n b i) := by
  refine HT.runF bdTab mixed (n := 300) in8x [6] [1, 6, 7, 8, 17] [3, 4, 5] [0, 1, 2] (len := 6) (Nat.zero_le _) rfl fun τ0 => holds_of_eq (r8_x len i bn n b d.x.pn d.x.pw d.x.an d.x.aw d.x.k d.x.o d.x.v d.y.pn d.y.pw d.y.an d.y.aw d.y.k d.y.o d.y.v d.z.pn d.z.pw d.z.an d.z.aw d.z.k d.z.o d.z.v τ0) ?_
  obtain ⟨⟨pn, pw, an, aw, k, o, v⟩, ⟨qn, qw, cn, cw, l, p, u⟩, ⟨rn, rw, dn, dw, m, q, s⟩⟩ := d
  dsimp only
  have hw : IntKind.i64.wrap (i + 1) = i + 1 := IntWalk.i64_in _ (by omega)
  refine holds_ite (fun hlt => ?_) fun _ => holds_leaf (ex8 len bn n b)
  have hlt : i < len := of_decide_eq_true hlt
  have hm : decide (0 ≤ i ∧ i < len) = true := decide_eq_true ⟨h0, hlt⟩
  refine holds_must hm (holds_must hm (holds_defI fun z0 e0 => holds_defI fun z1 e1 => holds_defI fun z2 e2 => holds_must (by simp; omega) (holds_defI fun z3 e3 => holds_defI fun z4 e4 => ?_)))
  clear e0 e1 e2 e3 e4
  refine holds_ite (fun _ => holds_defI fun z5 e5 => holds_leaf (nx8 len bn n b (by rw [← hw]; exact e5) hd)) fun hless => ?_
  have hless : lessB z4 z2 bn 1 = true := by simpa using hless
  have no : ∀ {pn pw : Int}, lessB pn pw bn 1 = false → acOk pn pw z4 z2 4 0 0 = false ∧ acCode pn pw z4 z2 4 0 0 ≠ 0 := fun h => ⟨under8 hless h, ac_no (under8 hless h)⟩
  have two : ∀ pn pw, (acOk pn pw z4 z2 4 0 0 = true ∧ acCode pn pw z4 z2 4 0 0 = 0) ∨ (acOk pn pw z4 z2 4 0 0 = false ∧ acCode pn pw z4 z2 4 0 0 ≠ 0) := fun pn pw => by
    cases h : acOk pn pw z4 z2 4 0 0 with
    | true => exact .inl ⟨rfl, (ac_yes h).1⟩
    | false => exact .inr ⟨rfl, ac_no h⟩
  rcases hd with ⟨g1, g2⟩ | ⟨g1, g2⟩ | ⟨g1, g2⟩
  · obtain ⟨a1, a2⟩ := no g1
    obtain ⟨b1, b2⟩ := no g2
    dsimp only at a1 a2 b1 b2
    rcases two rn rw with ⟨c1, c2⟩ | ⟨c1, c2⟩
    all_goals
      repeat' (first | (refine holds_defI fun z e => ?_; (try simp only [a1, b1, c1, cond_true, cond_false] at e); subst e) | refine holds_ite (fun h => ?_) (fun h => ?_) | refine holds_leaf ?_)
      all_goals first | exact nx8 len bn n b hw (.inl ⟨g1, g2⟩) | skip
      all_goals (simp [a2, b2, c2] at *; done)
  · obtain ⟨a1, a2⟩ := no g1
    obtain ⟨b1, b2⟩ := no g2
    dsimp only at a1 a2 b1 b2
    rcases two qn qw with ⟨c1, c2⟩ | ⟨c1, c2⟩
    all_goals
      repeat' (first | (refine holds_defI fun z e => ?_; (try simp only [a1, b1, c1, cond_true, cond_false] at e); subst e) | refine holds_ite (fun h => ?_) (fun h => ?_) | refine holds_leaf ?_)
      all_goals first | exact nx8 len bn n b hw (.inr (.inl ⟨g1, g2⟩)) | skip
      all_goals (simp [a2, b2, c2] at *; done)
  · obtain ⟨a1, a2⟩ := no g1
    obtain ⟨b1, b2⟩ := no g2
    dsimp only at a1 a2 b1 b2
    rcases two pn pw with ⟨c1, c2⟩ | ⟨c1, c2⟩
    all_goals
      repeat' (first | (refine holds_defI fun z e => ?_; (try simp only [a1, b1, c1, cond_true, cond_false] at e); subst e) | refine holds_ite (fun h => ?_) (fun h => ?_) | refine holds_leaf ?_)
      all_goals first | exact nx8 len bn n b hw (.inr (.inr ⟨g1, g2⟩)) | skip
      all_goals (simp [a2, b2, c2] at *; done)
theorem loop8_ht (hl : len ≤ 60) (hbn : 5 ≤ bn) (i : Int) (d : D8) (hi : 0 ≤ i) (hd : d.inv bn) : HT Try.prog Try.f8.ntmps 0 (.loop x8) 6 (K8 i) (mkHeap (L8 len bn n b d)) fun ex _ _ _ => ex = .exit 2 := by
  refine HT.loop (D := Int × D8) (fun q => (len - q.1).toNat) (fun _ => 6) (fun q => K8 q.1) (fun q => mkHeap (L8 len bn n b q.2)) (fun q => 0 ≤ q.1 ∧ q.2.inv bn) (fun _ ex _ _ _ => ex = .exit 2) ?_ (i, d) ⟨hi, hd⟩
  rintro ⟨i, d⟩ ⟨hi, hd⟩
  dsimp only at hi hd ⊢
  by_cases hlt : i < len
  · refine (x8_ht len bn n b i d hd hbn hi (by omega)).mono ?_
    rintro ex m κ h (⟨rfl, d', hd', rfl, rfl, rfl⟩ | rfl)
    · exact ⟨(i + 1, d'), ⟨by show 0 ≤ i + 1; omega, hd'⟩, by show (len - (i + 1)).toNat < (len - i).toNat; omega, rfl, rfl, rfl, fun _ _ _ _ h => h⟩
    · rfl
  · refine HT.runF bdTab mixed (n := 300) in8x [6] [1, 6, 7, 8, 17] [3, 4, 5] [0, 1, 2] (len := 6) (Nat.zero_le _) rfl fun τ0 => holds_of_eq (r8_x len i bn n b d.x.pn d.x.pw d.x.an d.x.aw d.x.k d.x.o d.x.v d.y.pn d.y.pw d.y.an d.y.aw d.y.k d.y.o d.y.v d.z.pn d.z.pw d.z.an d.z.aw d.z.k d.z.o d.z.v τ0) ?_
    refine holds_ite (fun h => absurd (of_decide_eq_true h) hlt) fun _ => holds_leaf ?_
    exact ⟨0, id, _, _, fun _ h => absurd h (Nat.not_lt_zero _), Reset.of (l := []) (κ' := []) trivial trivial rfl, rfl⟩
abbrev S8 (ex : Ex) (m : Nat) (κ : Tm) (h : Heap) : Prop := (ex = .normal ∧ len ≤ 60 ∧ ∃ bn d, 5 ≤ bn ∧ D8.inv bn d ∧ m = 6 ∧ κ = K8 0 ∧ h = mkHeap (L8 len bn n b d)) ∨ (ex = .ret ∧ tfind 6 κ = some (.bool (.lit true)))
theorem fin8 {bn : Int} {pn pw an aw k o v qn qw cn cw l p u rn rw dn dw m q s : SI} (hl : len ≤ 60) (hb : 5 ≤ bn) (h : D8.inv bn ⟨⟨pn.v, pw.v, an.v, aw.v, k.v, o.v, v.v⟩, ⟨qn.v, qw.v, cn.v, cw.v, l.v, p.v, u.v⟩, ⟨rn.v, rw.v, dn.v, dw.v, m.v, q.v, s.v⟩⟩) : ∃ m' φ κ' h', (∀ k, k < 0 → φ k = k) ∧
    Reset isNil (· < m') φ [(1, .sl 0), (6, .bool (.lit false)), (7, .ptr 21 0), (8, .ptr 51 0), (17, .int .i64 (.lit 0))] (fzH .normal [0] (mkHeap [(0, lstO len n b)])
      [(21, some (.box [.int .u32 (.sym bn), .int .u8 (.lit 1)])), (51, some (.box [.ptr 29 0, .ptr 37 0, .ptr 45 0])),
       (29, some (.box [.int .u32 pn, .int .u8 pw, .int .u32 an, .int .u8 aw, .int .u8 k, .int .u8 o, .int .i64 v])),
       (37, some (.box [.int .u32 qn, .int .u8 qw, .int .u32 cn, .int .u8 cw, .int .u8 l, .int .u8 p, .int .i64 u])),
       (45, some (.box [.int .u32 rn, .int .u8 rw, .int .u32 dn, .int .u8 dw, .int .u8 m, .int .u8 q, .int .i64 s]))]) κ' h' ∧
    S8 len n b .normal m' κ' h' :=
  ⟨6, lkN [0, 21, 51, 29, 37, 45], _, _, fun _ h => absurd h (Nat.not_lt_zero _), Reset.of (l := L8 len bn n b ⟨⟨pn.v, pw.v, an.v, aw.v, k.v, o.v, v.v⟩, ⟨qn.v, qw.v, cn.v, cw.v, l.v, p.v, u.v⟩, ⟨rn.v, rw.v, dn.v, dw.v, m.v, q.v, s.v⟩⟩) (κ' := K8 0)
    ⟨⟨⟨_, rfl, fun _ _ => rfl⟩, rfl⟩, ⟨⟨_, rfl, fun _ _ => rfl⟩, rfl⟩, ⟨⟨_, rfl, fun _ _ => rfl⟩, rfl⟩, ⟨⟨_, rfl, fun _ _ => rfl⟩, rfl⟩, ⟨⟨_, rfl, fun _ _ => rfl⟩, rfl⟩, trivial⟩
    ⟨⟨rfl, .inl ⟨_, rfl, sameLst rfl (rows5 n b)⟩⟩, ⟨rfl, .inl ⟨_, rfl, Eng.sameBox rfl (fun _ _ => rfl) rfl⟩⟩, ⟨rfl, .inl ⟨_, rfl, Eng.sameBox rfl (fun _ _ => rfl) rfl⟩⟩, ⟨rfl, .inl ⟨_, rfl, Eng.sameBox rfl (fun _ _ => rfl) rfl⟩⟩, ⟨rfl, .inl ⟨_, rfl, Eng.sameBox rfl (fun _ _ => rfl) rfl⟩⟩, ⟨rfl, .inl ⟨_, rfl, Eng.sameBox rfl (fun _ _ => rfl) rfl⟩⟩, trivial⟩ rfl, .inl ⟨rfl, hl, _, _, hb, h, rfl, rfl, rfl⟩⟩
theorem mz (a : Int) : lessB a 1 a 1 = false := less_self a 1
set_option maxHeartbeats 1000000 in
theorem pre8_ht (n0 w0 w1 : Int) (g0 : 0 ≤ n0) (g1 : 0 ≤ w0) (g2 : 0 ≤ w1) : HTL Try.prog Try.f8.ntmps 0 ((flat body8).take 13) 1 [(0, .int .u32 (.sym n0)), (1, .sl 0), (2, .agg [.int .u8 (.sym w0), .int .u8 (.sym w1)])] (mkHeap [(0, lstO len n b)]) (S8 len n b) := by
  refine HTL.runF bdTab mixed (n := 300) (by decide) (within_take in8 13) [6] [1, 6, 7, 8, 17] [21, 51, 29, 37, 45] [0] (len := 1) (Nat.zero_le _) rfl fun τ0 => holds_of_eq (r8_pre len n0 w0 w1 n b τ0) ?_
  refine holds_ite (fun h => holds_leaf ?_) fun h => ?_
  · exact ⟨0, id, _, _, fun _ h => absurd h (Nat.not_lt_zero _), Reset.of (l := []) (κ' := [(6, .bool (.lit true))]) ⟨⟨⟨_, rfl, fun _ _ => rfl⟩, rfl⟩, trivial⟩ trivial rfl, .inr ⟨rfl, rfl⟩⟩
  · have hl : len ≤ 60 := by simpa using h
    refine holds_defI fun z0 e0 => holds_defI fun z1 e1 => holds_defI fun z2 e2 => holds_defI fun z3 e3 => holds_defI fun z4 e4 => holds_defI fun z5 e5 => ?_
    have t0 := tmod_in 1000 g0 (by decide)
    have t2 := tmod_in 3 g1 (by decide)
    have t4 := tmod_in 3 g2 (by decide)
    rw [← e0] at t0
    rw [← e2] at t2
    rw [← e4] at t4
    rw [IntWalk.u32_in _ (by omega)] at e1
    rw [IntWalk.i64_in _ (by omega)] at e3 e5
    have hb : 5 ≤ z1 := by omega
    have k1 : isB z1 1 = true := by simp [isB]; omega
    have k2 : lessB z1 1 0 0 = false := by simp [lessB]; omega
    have p1 : prOk 0 0 z1 1 = true := by simp [prOk, k1, k2]
    have p2 : prCode 0 0 z1 1 = 0 := by simp [prCode, k1, k2]
    have t3 : 0 ≤ z3 ∧ z3 < 3 := by omega
    have t5 : 0 ≤ z5 ∧ z5 < 3 := by omega
    clear e0 e1 e2 e3 e4 e5 t0 t2 t4 k1 k2
    refine holds_ite (fun he => holds_defI fun z6 e6 => holds_defI fun z7 e7 => ?_) fun he => ?_
    · rw [IntWalk.i64_in _ (by omega)] at e6
      rw [Int.tmod_eq_emod_of_nonneg (by omega)] at e7
      repeat' (first | (refine holds_defI fun z e => ?_; (try simp only [p1, p2, cond_true, cond_false] at e); subst e) | refine holds_ite (fun h => ?_) (fun h => ?_) | refine holds_must ?_ ?_ | refine holds_leaf ?_)
      all_goals first | exact fin8 len n b hl hb (.inl ⟨mz _, mz _⟩) | exact fin8 len n b hl hb (.inr (.inl ⟨mz _, mz _⟩)) | exact fin8 len n b hl hb (.inr (.inr ⟨mz _, mz _⟩)) | (exfalso; simp at *; done) | (exfalso; simp at *; omega)
    · repeat' (first | (refine holds_defI fun z e => ?_; (try simp only [p1, p2, cond_true, cond_false] at e); subst e) | refine holds_ite (fun h => ?_) (fun h => ?_) | refine holds_must ?_ ?_ | refine holds_leaf ?_)
      all_goals first | exact fin8 len n b hl hb (.inl ⟨mz _, mz _⟩) | exact fin8 len n b hl hb (.inr (.inl ⟨mz _, mz _⟩)) | exact fin8 len n b hl hb (.inr (.inr ⟨mz _, mz _⟩)) | (exfalso; simp at *; done) | (exfalso; simp at *; omega)
theorem maj_ht (n0 w0 w1 : Int) (g0 : 0 ≤ n0) (g1 : 0 ≤ w0) (g2 : 0 ≤ w1) : HT Try.prog Try.f8.ntmps 0 body8 1 [(0, .int .u32 (.sym n0)), (1, .sl 0), (2, .agg [.int .u8 (.sym w0), .int .u8 (.sym w1)])] (mkHeap [(0, lstO len n b)]) fun ex m' κ' h' => ex = .ret ∧ tfind 6 κ' = some (.bool (.lit true)) := by
  refine HT.cut 13 (R := S8 len n b) (pre8_ht len n b n0 w0 w1 g0 g1 g2) ?_ ?_
  · rintro m κ h (⟨_, hl, bn, d, hb, hd, rfl, rfl, rfl⟩ | ⟨h, _⟩)
    · have e : (flat body8).drop 13 = [.block 2 (.loop x8)] ++ (flat body8).drop 14 := by kernel_rfl
      rw [e]
      refine HTL.append (R := fun ex _ _ _ => ex = .normal) (HTL.one (HT.block ((loop8_ht len bn n b hl hb 0 d (Int.le_refl 0) hd).mono ?_))) ?_ fun ex _ _ _ q hn => normal_no q hn
      · rintro ex m κ h rfl
        rfl
      · intro m κ h _
        refine HTL.drop (HTL.runF bdTab mixed (n := 300) (by decide) (within_drop in8 14) [6] [6] [] [] (len := 0) (Nat.zero_le _) rfl fun τ0 => holds_of_eq (r8_tail τ0) (holds_leaf ?_))
        exact ⟨0, id, _, _, fun _ h => absurd h (Nat.not_lt_zero _), Reset.of (l := []) (κ' := [(6, .bool (.lit true))]) ⟨⟨⟨_, rfl, fun _ _ => rfl⟩, rfl⟩, trivial⟩ trivial rfl, rfl, rfl⟩
    · cases h
  · rintro ex m κ h (⟨rfl, _⟩ | h) hn
    · exact absurd trivial hn
    · exact h
end
theorem res8 : Try.f8.results.toList = [.tmp 6] := by kernel_rfl
theorem le8 : Nat.ble 3 Try.f8.ntmps = true := by kernel_rfl
theorem body8_eq : Try.f8.body = some body8 := by kernel_rfl
theorem pk51 : pkT Try.prog 8 51 = some [.int .u8, .int .u8] := by kernel_rfl
theorem maj_c {W : World} {hd : Option Addr × Nat × Nat} {n : Nat → Nat → Int} {b : Nat → Nat → Bool} (h : sliceOf W hd hd.2.1 6 (stepRows n b)) (n0 w0 w1 : Int) (g0 : 0 ≤ n0) (g1 : 0 ≤ w0) (g2 : 0 ≤ w1) :
    Calls Try.prog 8 #[.int .u32 n0, .slice hd.1 hd.2.1 hd.2.2, .agg #[.int .u8 w0, .int .u8 w1]] W fun e W' => e = .returned (.bool true) ∧ Below W.heap.size W W' := by
  refine law_ht (args := [.int .u32 (.sym n0), .sl 0, .agg [.int .u8 (.sym w0), .int .u8 (.sym w1)]]) (l := [(0, lstO hd.2.1 n b)]) (m := 1) (hdr := fun _ => hd) Try.func8 body8_eq le8 res8 (fun p hp => ?_) (maj_ht hd.2.1 n b n0 w0 w1 g0 g1 g2) (fun E' hE => ?_)
  · rw [List.mem_singleton.1 hp]
    exact ⟨Nat.zero_lt_one, _, _, _, rfl, h⟩
  · have e := (hE 0 Nat.zero_lt_one).2.1
    simp only [denL, den, e]
    rfl
set_option maxRecDepth 100000 in
theorem maj_lifted (os : Os) (started : os.Started) (H : Type) (enc : TypeId × Value → H) :
    ReturnsInHanded {} Try.checked os 8 .any (Rows.ballotMajoritiesSpec.pre6 enc Try.prog Try.f8 Rows.ballotMajoritiesRow.domain false) (Rows.ballotMajoritiesSpec.post enc Try.prog Try.f8 false true false false) := by
  refine law_lifted (C := Try.checked) Try.own started (by kernel_rfl) Try.func8
    (ChangeSpec.witness6 (enc := enc) (C := Try.checked) false ⟨#[], #[.int .u32 0, .slice none 0 0, .agg #[.int .u8 0, .int .u8 0]], []⟩ 8 (by kernel_rfl) (by kernel_rfl) (by kernel_rfl) (by kernel_rfl))
    Try.laidOut ?_ (B := 4) (by kernel_rfl) (by kernel_rfl) rfl ?_ ?_
  · intro t ht
    rw [Try.params8] at ht
    have : t = 27 ∨ t = 22 ∨ t = 51 := by
      simp at ht
      first | exact ht | omega
    rcases this with rfl | rfl | rfl <;> exact ⟨by kernel_rfl, of_decide_eq_true (by kernel_rfl)⟩
  · intro ds h
    rw [Try.params8] at h
    match ds, h with
    | [d1, d2, d3], _ => rfl
  · intro W base args ds p hval hA hlt
    rw [Try.params8] at hA hval
    obtain ⟨v0, v1, v2, d0, d1, d2, p0, p1, p2, rfl, rfl, rfl, h0, h1, h2⟩ := trodAll_three hA
    obtain ⟨n0, rfl, _, _, wn⟩ := open_int Try.underlying27 (hval 0 27 v0 rfl rfl) h0
    obtain ⟨hd, n, b, rfl, _, hs, _⟩ := open_rows Try.underlying22 pk35 cells35 (by decide) (hval 1 22 v1 rfl rfl) h1
    obtain ⟨u, _, wu, hu⟩ := open_plainA Try.underlying51 pk51 (hval 2 51 v2 rfl rfl) h2
    rw [hu default]
    exact maj_c hs n0 (u 0) (u 1) (wf_u32 wn).1 (wf_u8 wu.1).1 (wf_u8 wu.2.1).1

theorem ballotMajorities_holds : Rows.BallotMajoritiesSaid :=
  OpenClaim.holds_of_wide 8 Try.f8 rfl rfl rfl rfl rfl rfl rfl ⟨rfl, rfl, rfl, rfl, rfl⟩ rfl rfl rfl rfl rfl (by kernel_rfl) Try.func8 (by kernel_rfl)
    (of_decide_eq_true (by kernel_rfl)) (by unfold Func.isWrapper; rw [if_neg (by decide +kernel)]; exact ⟨rfl, rfl⟩)
    (fun os started H enc _ => maj_lifted os started H enc)


end Go.Proofs.Ytobknnmalnfknaa
