/- MapsBounds: epochs, weights, hosts at their bounds and beyond.
   Conditions: none. -/
import Derived.Test.YtobknnmalnfknaaMe
set_option linter.unusedSimpArgs false
set_option linter.unusedVariables false
namespace Go.Proofs.Ytobknnmalnfknaa
open Go.Eng Go.RowKit Go.Joins Go.ChangeShapes Go.WideShapes
set_option maxRecDepth 100000
noncomputable def body11 : Code := Try.f11.body.getD .skip
theorem in11 : Within Try.prog 11 Try.f11.ntmps body11 := ⟨Try.f11, body11, Try.func11, by kernel_rfl, rfl, fun _ h => h⟩
theorem b_pre (e w h a : Int) (τ0 : Tm) : codeT Try.prog mcT 300 11 Try.f11.ntmps (ofL ((flat body11).take 6)) (argTm 0 [.int .u32 (.sym e), .int .i64 (.sym w), .int .u8 (.sym h), .int .u8 (.sym a)] ++ τ0) (mkHeap []) 0 (outF [8] [0, 1, 2, 8, 9, 10] [4] [] 0) =
  .defI (a.tmod 5) fun z0 => .leaf ⟨.normal, [(0, .int .u32 (.sym e)), (1, .int .i64 (.sym w)), (2, .int .u8 (.sym h)), (8, .bool (.lit false)), (9, .ptr 4 0), (10, .int .u8 (.sym z0))], [(4, some (.box [.int .u32 (.sym
  e), .bool (.lit true), .int .i64 (.lit 8), .int .u8 (.lit 0), .bool (.lit true), .int .i64 (.lit 8), .int .u8 (.lit 1), .bool (.lit true), .int .i64 (.lit 8), .int .u8 (.lit 2), .bool (.lit true), .int .i64 (.lit 8),
  .int .u8 (.lit 3), .bool (.lit true), .int .i64 (.lit 8), .int .u8 (.lit 0)]))], 0⟩ := by kernel_rfl

theorem b_0 (e w h : Int) (τ0 : Tm) : codeT Try.prog mcT 300 11 Try.f11.ntmps (ofL ((flat body11).drop 6)) ([(0, .int .u32 (.sym e)), (1, .int .i64 (.sym w)), (2, .int .u8 (.sym h)), (8, .bool (.lit false)), (9, .ptr 0 0), (10, .int .u8 (.lit 0))] ++ τ0) (mkHeap [(0, .box [.int .u32 (.sym e), .bool (.lit true), .int .i64 (.lit 8), .int .u8 (.lit 0), .bool (.lit true), .int .i64 (.lit 8), .int .u8 (.lit 1), .bool (.lit true), .int .i64 (.lit 8), .int .u8 (.lit 2), .bool (.lit true), .int .i64 (.lit 8), .int .u8 (.lit 3), .bool (.lit true), .int .i64 (.lit 8), .int .u8 (.lit 0)])]) 1 (outF [8] [] [] [] 1) =
  .ite (decide (e ≥ 1)) (.ite (decide (e ≤ 60)) (.ite (decide (w ≥ 0)) (.ite (decide (w ≤ 16)) (.defB (apOk e w h 8 1 8 2 8 3 8 0 4 0 0) fun z0 => .defI (bif z0 then e + 1 else 0) fun z1 => .defI (bif z0 then w else 0) fun
  z2 => .defI (bif z0 then h else 0) fun z3 => .defI (bif z0 then 8 else 0) fun z4 => .defI (bif z0 then 1 else 0) fun z5 => .defI (bif z0 then 8 else 0) fun z6 => .defI (bif z0 then 2 else 0) fun z7 => .defI (bif z0 then
  8 else 0) fun z8 => .defI (bif z0 then 3 else 0) fun z9 => .defI (bif z0 then 8 else 0) fun z10 => .defI (bif z0 then 0 else 0) fun z11 => .defI (bif z0 then 0 else 40) fun z12 => .ite (isMapB e w h 8 1 8 2 8 3 8 0 ==
  decide (h < 8)) (.ite (decide (h < 8)) (.ite ((z12 == 0) == decide (e < 60)) (.ite (z12 != 0) (.leaf ⟨.ret, [(8, .bool (.lit true))], [], 0⟩) (.defI (IntKind.u32.wrap (e + 1)) fun z13 => .ite (z1 == z13) (.leaf ⟨.ret,
  [(8, .bool (.sym ((bif z0 then true else false) == true && (z2 == w && z3 == h) && ((bif z0 then true else false) == true && (z4 == 8 && z5 == 1) && ((bif z0 then true else false) == true && (z6 == 8 && z7 == 2) && ((bif
  z0 then true else false) == true && (z8 == 8 && z9 == 3) && ((bif z0 then true else false) == true && (z10 == 8 && z11 == 0))))))))], [], 0⟩) (.leaf ⟨.ret, [(8, .bool (.lit false))], [], 0⟩))) (.leaf ⟨.ret, [(8, .bool
  (.lit false))], [], 0⟩)) (.ite ((z12 == 0) == false) (.ite (z12 != 0) (.leaf ⟨.ret, [(8, .bool (.lit true))], [], 0⟩) (.defI (IntKind.u32.wrap (e + 1)) fun z14 => .ite (z1 == z14) (.leaf ⟨.ret, [(8, .bool (.sym ((bif z0
  then true else false) == true && (z2 == w && z3 == h) && ((bif z0 then true else false) == true && (z4 == 8 && z5 == 1) && ((bif z0 then true else false) == true && (z6 == 8 && z7 == 2) && ((bif z0 then true else false)
  == true && (z8 == 8 && z9 == 3) && ((bif z0 then true else false) == true && (z10 == 8 && z11 == 0))))))))], [], 0⟩) (.leaf ⟨.ret, [(8, .bool (.lit false))], [], 0⟩))) (.leaf ⟨.ret, [(8, .bool (.lit false))], [], 0⟩)))
  (.leaf ⟨.ret, [(8, .bool (.lit false))], [], 0⟩)) (.defB (apOk e w h 8 1 8 2 8 3 8 0 4 0 0) fun z15 => .defI (bif z15 then e + 1 else 0) fun z16 => .defI (bif z15 then w else 0) fun z17 => .defI (bif z15 then h else 0)
  fun z18 => .defI (bif z15 then 8 else 0) fun z19 => .defI (bif z15 then 1 else 0) fun z20 => .defI (bif z15 then 8 else 0) fun z21 => .defI (bif z15 then 2 else 0) fun z22 => .defI (bif z15 then 8 else 0) fun z23 =>
  .defI (bif z15 then 3 else 0) fun z24 => .defI (bif z15 then 8 else 0) fun z25 => .defI (bif z15 then 0 else 0) fun z26 => .defI (bif z15 then 0 else 40) fun z27 => .ite (isMapB e w h 8 1 8 2 8 3 8 0 == false) (.ite
  ((z27 == 0) == false) (.ite (z27 != 0) (.leaf ⟨.ret, [(8, .bool (.lit true))], [], 0⟩) (.defI (IntKind.u32.wrap (e + 1)) fun z28 => .ite (z16 == z28) (.leaf ⟨.ret, [(8, .bool (.sym ((bif z15 then true else false) == true
  && (z17 == w && z18 == h) && ((bif z15 then true else false) == true && (z19 == 8 && z20 == 1) && ((bif z15 then true else false) == true && (z21 == 8 && z22 == 2) && ((bif z15 then true else false) == true && (z23 == 8
  && z24 == 3) && ((bif z15 then true else false) == true && (z25 == 8 && z26 == 0))))))))], [], 0⟩) (.leaf ⟨.ret, [(8, .bool (.lit false))], [], 0⟩))) (.leaf ⟨.ret, [(8, .bool (.lit false))], [], 0⟩)) (.leaf ⟨.ret, [(8,
  .bool (.lit false))], [], 0⟩))) (.defB (apOk e w h 8 1 8 2 8 3 8 0 4 0 0) fun z29 => .defI (bif z29 then e + 1 else 0) fun z30 => .defI (bif z29 then w else 0) fun z31 => .defI (bif z29 then h else 0) fun z32 => .defI
  (bif z29 then 8 else 0) fun z33 => .defI (bif z29 then 1 else 0) fun z34 => .defI (bif z29 then 8 else 0) fun z35 => .defI (bif z29 then 2 else 0) fun z36 => .defI (bif z29 then 8 else 0) fun z37 => .defI (bif z29 then 3
  else 0) fun z38 => .defI (bif z29 then 8 else 0) fun z39 => .defI (bif z29 then 0 else 0) fun z40 => .defI (bif z29 then 0 else 40) fun z41 => .ite (isMapB e w h 8 1 8 2 8 3 8 0 == false) (.ite ((z41 == 0) == false)
  (.ite (z41 != 0) (.leaf ⟨.ret, [(8, .bool (.lit true))], [], 0⟩) (.defI (IntKind.u32.wrap (e + 1)) fun z42 => .ite (z30 == z42) (.leaf ⟨.ret, [(8, .bool (.sym ((bif z29 then true else false) == true && (z31 == w && z32
  == h) && ((bif z29 then true else false) == true && (z33 == 8 && z34 == 1) && ((bif z29 then true else false) == true && (z35 == 8 && z36 == 2) && ((bif z29 then true else false) == true && (z37 == 8 && z38 == 3) &&
  ((bif z29 then true else false) == true && (z39 == 8 && z40 == 0))))))))], [], 0⟩) (.leaf ⟨.ret, [(8, .bool (.lit false))], [], 0⟩))) (.leaf ⟨.ret, [(8, .bool (.lit false))], [], 0⟩)) (.leaf ⟨.ret, [(8, .bool (.lit
  false))], [], 0⟩))) (.defB (apOk e w h 8 1 8 2 8 3 8 0 4 0 0) fun z43 => .defI (bif z43 then e + 1 else 0) fun z44 => .defI (bif z43 then w else 0) fun z45 => .defI (bif z43 then h else 0) fun z46 => .defI (bif z43 then
  8 else 0) fun z47 => .defI (bif z43 then 1 else 0) fun z48 => .defI (bif z43 then 8 else 0) fun z49 => .defI (bif z43 then 2 else 0) fun z50 => .defI (bif z43 then 8 else 0) fun z51 => .defI (bif z43 then 3 else 0) fun
  z52 => .defI (bif z43 then 8 else 0) fun z53 => .defI (bif z43 then 0 else 0) fun z54 => .defI (bif z43 then 0 else 40) fun z55 => .ite (isMapB e w h 8 1 8 2 8 3 8 0 == false) (.ite ((z55 == 0) == false) (.ite (z55 != 0)
  (.leaf ⟨.ret, [(8, .bool (.lit true))], [], 0⟩) (.defI (IntKind.u32.wrap (e + 1)) fun z56 => .ite (z44 == z56) (.leaf ⟨.ret, [(8, .bool (.sym ((bif z43 then true else false) == true && (z45 == w && z46 == h) && ((bif z43
  then true else false) == true && (z47 == 8 && z48 == 1) && ((bif z43 then true else false) == true && (z49 == 8 && z50 == 2) && ((bif z43 then true else false) == true && (z51 == 8 && z52 == 3) && ((bif z43 then true
  else false) == true && (z53 == 8 && z54 == 0))))))))], [], 0⟩) (.leaf ⟨.ret, [(8, .bool (.lit false))], [], 0⟩))) (.leaf ⟨.ret, [(8, .bool (.lit false))], [], 0⟩)) (.leaf ⟨.ret, [(8, .bool (.lit false))], [], 0⟩)))
  (.defB (apOk e w h 8 1 8 2 8 3 8 0 4 0 0) fun z57 => .defI (bif z57 then e + 1 else 0) fun z58 => .defI (bif z57 then w else 0) fun z59 => .defI (bif z57 then h else 0) fun z60 => .defI (bif z57 then 8 else 0) fun z61 =>
  .defI (bif z57 then 1 else 0) fun z62 => .defI (bif z57 then 8 else 0) fun z63 => .defI (bif z57 then 2 else 0) fun z64 => .defI (bif z57 then 8 else 0) fun z65 => .defI (bif z57 then 3 else 0) fun z66 => .defI (bif z57
  then 8 else 0) fun z67 => .defI (bif z57 then 0 else 0) fun z68 => .defI (bif z57 then 0 else 40) fun z69 => .ite (isMapB e w h 8 1 8 2 8 3 8 0 == false) (.ite ((z69 == 0) == false) (.ite (z69 != 0) (.leaf ⟨.ret, [(8,
  .bool (.lit true))], [], 0⟩) (.defI (IntKind.u32.wrap (e + 1)) fun z70 => .ite (z58 == z70) (.leaf ⟨.ret, [(8, .bool (.sym ((bif z57 then true else false) == true && (z59 == w && z60 == h) && ((bif z57 then true else
  false) == true && (z61 == 8 && z62 == 1) && ((bif z57 then true else false) == true && (z63 == 8 && z64 == 2) && ((bif z57 then true else false) == true && (z65 == 8 && z66 == 3) && ((bif z57 then true else false) ==
  true && (z67 == 8 && z68 == 0))))))))], [], 0⟩) (.leaf ⟨.ret, [(8, .bool (.lit false))], [], 0⟩))) (.leaf ⟨.ret, [(8, .bool (.lit false))], [], 0⟩)) (.leaf ⟨.ret, [(8, .bool (.lit false))], [], 0⟩)) := by kernel_rfl

theorem b_1 (e w h : Int) (τ0 : Tm) : codeT Try.prog mcT 300 11 Try.f11.ntmps (ofL ((flat body11).drop 6)) ([(0, .int .u32 (.sym e)), (1, .int .i64 (.sym w)), (2, .int .u8 (.sym h)), (8, .bool (.lit false)), (9, .ptr 0 0), (10, .int .u8 (.lit 1))] ++ τ0) (mkHeap [(0, .box [.int .u32 (.sym e), .bool (.lit true), .int .i64 (.lit 8), .int .u8 (.lit 0), .bool (.lit true), .int .i64 (.lit 8), .int .u8 (.lit 1), .bool (.lit true), .int .i64 (.lit 8), .int .u8 (.lit 2), .bool (.lit true), .int .i64 (.lit 8), .int .u8 (.lit 3), .bool (.lit true), .int .i64 (.lit 8), .int .u8 (.lit 0)])]) 1 (outF [8] [] [] [] 1) =
  .ite (decide (e ≥ 1)) (.ite (decide (e ≤ 60)) (.ite (decide (w ≥ 0)) (.ite (decide (w ≤ 16)) (.defB (apOk e 8 0 w h 8 2 8 3 8 0 4 0 0) fun z0 => .defI (bif z0 then e + 1 else 0) fun z1 => .defI (bif z0 then 8 else 0) fun
  z2 => .defI (bif z0 then 0 else 0) fun z3 => .defI (bif z0 then w else 0) fun z4 => .defI (bif z0 then h else 0) fun z5 => .defI (bif z0 then 8 else 0) fun z6 => .defI (bif z0 then 2 else 0) fun z7 => .defI (bif z0 then
  8 else 0) fun z8 => .defI (bif z0 then 3 else 0) fun z9 => .defI (bif z0 then 8 else 0) fun z10 => .defI (bif z0 then 0 else 0) fun z11 => .defI (bif z0 then 0 else 40) fun z12 => .ite (isMapB e 8 0 w h 8 2 8 3 8 0 ==
  decide (h < 8)) (.ite (decide (h < 8)) (.ite ((z12 == 0) == decide (e < 60)) (.ite (z12 != 0) (.leaf ⟨.ret, [(8, .bool (.lit true))], [], 0⟩) (.defI (IntKind.u32.wrap (e + 1)) fun z13 => .ite (z1 == z13) (.leaf ⟨.ret,
  [(8, .bool (.sym ((bif z0 then true else false) == true && (z2 == 8 && z3 == 0) && ((bif z0 then true else false) == true && (z4 == w && z5 == h) && ((bif z0 then true else false) == true && (z6 == 8 && z7 == 2) && ((bif
  z0 then true else false) == true && (z8 == 8 && z9 == 3) && ((bif z0 then true else false) == true && (z10 == 8 && z11 == 0))))))))], [], 0⟩) (.leaf ⟨.ret, [(8, .bool (.lit false))], [], 0⟩))) (.leaf ⟨.ret, [(8, .bool
  (.lit false))], [], 0⟩)) (.ite ((z12 == 0) == false) (.ite (z12 != 0) (.leaf ⟨.ret, [(8, .bool (.lit true))], [], 0⟩) (.defI (IntKind.u32.wrap (e + 1)) fun z14 => .ite (z1 == z14) (.leaf ⟨.ret, [(8, .bool (.sym ((bif z0
  then true else false) == true && (z2 == 8 && z3 == 0) && ((bif z0 then true else false) == true && (z4 == w && z5 == h) && ((bif z0 then true else false) == true && (z6 == 8 && z7 == 2) && ((bif z0 then true else false)
  == true && (z8 == 8 && z9 == 3) && ((bif z0 then true else false) == true && (z10 == 8 && z11 == 0))))))))], [], 0⟩) (.leaf ⟨.ret, [(8, .bool (.lit false))], [], 0⟩))) (.leaf ⟨.ret, [(8, .bool (.lit false))], [], 0⟩)))
  (.leaf ⟨.ret, [(8, .bool (.lit false))], [], 0⟩)) (.defB (apOk e 8 0 w h 8 2 8 3 8 0 4 0 0) fun z15 => .defI (bif z15 then e + 1 else 0) fun z16 => .defI (bif z15 then 8 else 0) fun z17 => .defI (bif z15 then 0 else 0)
  fun z18 => .defI (bif z15 then w else 0) fun z19 => .defI (bif z15 then h else 0) fun z20 => .defI (bif z15 then 8 else 0) fun z21 => .defI (bif z15 then 2 else 0) fun z22 => .defI (bif z15 then 8 else 0) fun z23 =>
  .defI (bif z15 then 3 else 0) fun z24 => .defI (bif z15 then 8 else 0) fun z25 => .defI (bif z15 then 0 else 0) fun z26 => .defI (bif z15 then 0 else 40) fun z27 => .ite (isMapB e 8 0 w h 8 2 8 3 8 0 == false) (.ite
  ((z27 == 0) == false) (.ite (z27 != 0) (.leaf ⟨.ret, [(8, .bool (.lit true))], [], 0⟩) (.defI (IntKind.u32.wrap (e + 1)) fun z28 => .ite (z16 == z28) (.leaf ⟨.ret, [(8, .bool (.sym ((bif z15 then true else false) == true
  && (z17 == 8 && z18 == 0) && ((bif z15 then true else false) == true && (z19 == w && z20 == h) && ((bif z15 then true else false) == true && (z21 == 8 && z22 == 2) && ((bif z15 then true else false) == true && (z23 == 8
  && z24 == 3) && ((bif z15 then true else false) == true && (z25 == 8 && z26 == 0))))))))], [], 0⟩) (.leaf ⟨.ret, [(8, .bool (.lit false))], [], 0⟩))) (.leaf ⟨.ret, [(8, .bool (.lit false))], [], 0⟩)) (.leaf ⟨.ret, [(8,
  .bool (.lit false))], [], 0⟩))) (.defB (apOk e 8 0 w h 8 2 8 3 8 0 4 0 0) fun z29 => .defI (bif z29 then e + 1 else 0) fun z30 => .defI (bif z29 then 8 else 0) fun z31 => .defI (bif z29 then 0 else 0) fun z32 => .defI
  (bif z29 then w else 0) fun z33 => .defI (bif z29 then h else 0) fun z34 => .defI (bif z29 then 8 else 0) fun z35 => .defI (bif z29 then 2 else 0) fun z36 => .defI (bif z29 then 8 else 0) fun z37 => .defI (bif z29 then 3
  else 0) fun z38 => .defI (bif z29 then 8 else 0) fun z39 => .defI (bif z29 then 0 else 0) fun z40 => .defI (bif z29 then 0 else 40) fun z41 => .ite (isMapB e 8 0 w h 8 2 8 3 8 0 == false) (.ite ((z41 == 0) == false)
  (.ite (z41 != 0) (.leaf ⟨.ret, [(8, .bool (.lit true))], [], 0⟩) (.defI (IntKind.u32.wrap (e + 1)) fun z42 => .ite (z30 == z42) (.leaf ⟨.ret, [(8, .bool (.sym ((bif z29 then true else false) == true && (z31 == 8 && z32
  == 0) && ((bif z29 then true else false) == true && (z33 == w && z34 == h) && ((bif z29 then true else false) == true && (z35 == 8 && z36 == 2) && ((bif z29 then true else false) == true && (z37 == 8 && z38 == 3) &&
  ((bif z29 then true else false) == true && (z39 == 8 && z40 == 0))))))))], [], 0⟩) (.leaf ⟨.ret, [(8, .bool (.lit false))], [], 0⟩))) (.leaf ⟨.ret, [(8, .bool (.lit false))], [], 0⟩)) (.leaf ⟨.ret, [(8, .bool (.lit
  false))], [], 0⟩))) (.defB (apOk e 8 0 w h 8 2 8 3 8 0 4 0 0) fun z43 => .defI (bif z43 then e + 1 else 0) fun z44 => .defI (bif z43 then 8 else 0) fun z45 => .defI (bif z43 then 0 else 0) fun z46 => .defI (bif z43 then
  w else 0) fun z47 => .defI (bif z43 then h else 0) fun z48 => .defI (bif z43 then 8 else 0) fun z49 => .defI (bif z43 then 2 else 0) fun z50 => .defI (bif z43 then 8 else 0) fun z51 => .defI (bif z43 then 3 else 0) fun
  z52 => .defI (bif z43 then 8 else 0) fun z53 => .defI (bif z43 then 0 else 0) fun z54 => .defI (bif z43 then 0 else 40) fun z55 => .ite (isMapB e 8 0 w h 8 2 8 3 8 0 == false) (.ite ((z55 == 0) == false) (.ite (z55 != 0)
  (.leaf ⟨.ret, [(8, .bool (.lit true))], [], 0⟩) (.defI (IntKind.u32.wrap (e + 1)) fun z56 => .ite (z44 == z56) (.leaf ⟨.ret, [(8, .bool (.sym ((bif z43 then true else false) == true && (z45 == 8 && z46 == 0) && ((bif z43
  then true else false) == true && (z47 == w && z48 == h) && ((bif z43 then true else false) == true && (z49 == 8 && z50 == 2) && ((bif z43 then true else false) == true && (z51 == 8 && z52 == 3) && ((bif z43 then true
  else false) == true && (z53 == 8 && z54 == 0))))))))], [], 0⟩) (.leaf ⟨.ret, [(8, .bool (.lit false))], [], 0⟩))) (.leaf ⟨.ret, [(8, .bool (.lit false))], [], 0⟩)) (.leaf ⟨.ret, [(8, .bool (.lit false))], [], 0⟩)))
  (.defB (apOk e 8 0 w h 8 2 8 3 8 0 4 0 0) fun z57 => .defI (bif z57 then e + 1 else 0) fun z58 => .defI (bif z57 then 8 else 0) fun z59 => .defI (bif z57 then 0 else 0) fun z60 => .defI (bif z57 then w else 0) fun z61 =>
  .defI (bif z57 then h else 0) fun z62 => .defI (bif z57 then 8 else 0) fun z63 => .defI (bif z57 then 2 else 0) fun z64 => .defI (bif z57 then 8 else 0) fun z65 => .defI (bif z57 then 3 else 0) fun z66 => .defI (bif z57
  then 8 else 0) fun z67 => .defI (bif z57 then 0 else 0) fun z68 => .defI (bif z57 then 0 else 40) fun z69 => .ite (isMapB e 8 0 w h 8 2 8 3 8 0 == false) (.ite ((z69 == 0) == false) (.ite (z69 != 0) (.leaf ⟨.ret, [(8,
  .bool (.lit true))], [], 0⟩) (.defI (IntKind.u32.wrap (e + 1)) fun z70 => .ite (z58 == z70) (.leaf ⟨.ret, [(8, .bool (.sym ((bif z57 then true else false) == true && (z59 == 8 && z60 == 0) && ((bif z57 then true else
  false) == true && (z61 == w && z62 == h) && ((bif z57 then true else false) == true && (z63 == 8 && z64 == 2) && ((bif z57 then true else false) == true && (z65 == 8 && z66 == 3) && ((bif z57 then true else false) ==
  true && (z67 == 8 && z68 == 0))))))))], [], 0⟩) (.leaf ⟨.ret, [(8, .bool (.lit false))], [], 0⟩))) (.leaf ⟨.ret, [(8, .bool (.lit false))], [], 0⟩)) (.leaf ⟨.ret, [(8, .bool (.lit false))], [], 0⟩)) := by kernel_rfl

theorem b_2 (e w h : Int) (τ0 : Tm) : codeT Try.prog mcT 300 11 Try.f11.ntmps (ofL ((flat body11).drop 6)) ([(0, .int .u32 (.sym e)), (1, .int .i64 (.sym w)), (2, .int .u8 (.sym h)), (8, .bool (.lit false)), (9, .ptr 0 0), (10, .int .u8 (.lit 2))] ++ τ0) (mkHeap [(0, .box [.int .u32 (.sym e), .bool (.lit true), .int .i64 (.lit 8), .int .u8 (.lit 0), .bool (.lit true), .int .i64 (.lit 8), .int .u8 (.lit 1), .bool (.lit true), .int .i64 (.lit 8), .int .u8 (.lit 2), .bool (.lit true), .int .i64 (.lit 8), .int .u8 (.lit 3), .bool (.lit true), .int .i64 (.lit 8), .int .u8 (.lit 0)])]) 1 (outF [8] [] [] [] 1) =
  .ite (decide (e ≥ 1)) (.ite (decide (e ≤ 60)) (.ite (decide (w ≥ 0)) (.ite (decide (w ≤ 16)) (.defB (apOk e 8 0 8 1 w h 8 3 8 0 4 0 0) fun z0 => .defI (bif z0 then e + 1 else 0) fun z1 => .defI (bif z0 then 8 else 0) fun
  z2 => .defI (bif z0 then 0 else 0) fun z3 => .defI (bif z0 then 8 else 0) fun z4 => .defI (bif z0 then 1 else 0) fun z5 => .defI (bif z0 then w else 0) fun z6 => .defI (bif z0 then h else 0) fun z7 => .defI (bif z0 then
  8 else 0) fun z8 => .defI (bif z0 then 3 else 0) fun z9 => .defI (bif z0 then 8 else 0) fun z10 => .defI (bif z0 then 0 else 0) fun z11 => .defI (bif z0 then 0 else 40) fun z12 => .ite (isMapB e 8 0 8 1 w h 8 3 8 0 ==
  decide (h < 8)) (.ite (decide (h < 8)) (.ite ((z12 == 0) == decide (e < 60)) (.ite (z12 != 0) (.leaf ⟨.ret, [(8, .bool (.lit true))], [], 0⟩) (.defI (IntKind.u32.wrap (e + 1)) fun z13 => .ite (z1 == z13) (.leaf ⟨.ret,
  [(8, .bool (.sym ((bif z0 then true else false) == true && (z2 == 8 && z3 == 0) && ((bif z0 then true else false) == true && (z4 == 8 && z5 == 1) && ((bif z0 then true else false) == true && (z6 == w && z7 == h) && ((bif
  z0 then true else false) == true && (z8 == 8 && z9 == 3) && ((bif z0 then true else false) == true && (z10 == 8 && z11 == 0))))))))], [], 0⟩) (.leaf ⟨.ret, [(8, .bool (.lit false))], [], 0⟩))) (.leaf ⟨.ret, [(8, .bool
  (.lit false))], [], 0⟩)) (.ite ((z12 == 0) == false) (.ite (z12 != 0) (.leaf ⟨.ret, [(8, .bool (.lit true))], [], 0⟩) (.defI (IntKind.u32.wrap (e + 1)) fun z14 => .ite (z1 == z14) (.leaf ⟨.ret, [(8, .bool (.sym ((bif z0
  then true else false) == true && (z2 == 8 && z3 == 0) && ((bif z0 then true else false) == true && (z4 == 8 && z5 == 1) && ((bif z0 then true else false) == true && (z6 == w && z7 == h) && ((bif z0 then true else false)
  == true && (z8 == 8 && z9 == 3) && ((bif z0 then true else false) == true && (z10 == 8 && z11 == 0))))))))], [], 0⟩) (.leaf ⟨.ret, [(8, .bool (.lit false))], [], 0⟩))) (.leaf ⟨.ret, [(8, .bool (.lit false))], [], 0⟩)))
  (.leaf ⟨.ret, [(8, .bool (.lit false))], [], 0⟩)) (.defB (apOk e 8 0 8 1 w h 8 3 8 0 4 0 0) fun z15 => .defI (bif z15 then e + 1 else 0) fun z16 => .defI (bif z15 then 8 else 0) fun z17 => .defI (bif z15 then 0 else 0)
  fun z18 => .defI (bif z15 then 8 else 0) fun z19 => .defI (bif z15 then 1 else 0) fun z20 => .defI (bif z15 then w else 0) fun z21 => .defI (bif z15 then h else 0) fun z22 => .defI (bif z15 then 8 else 0) fun z23 =>
  .defI (bif z15 then 3 else 0) fun z24 => .defI (bif z15 then 8 else 0) fun z25 => .defI (bif z15 then 0 else 0) fun z26 => .defI (bif z15 then 0 else 40) fun z27 => .ite (isMapB e 8 0 8 1 w h 8 3 8 0 == false) (.ite
  ((z27 == 0) == false) (.ite (z27 != 0) (.leaf ⟨.ret, [(8, .bool (.lit true))], [], 0⟩) (.defI (IntKind.u32.wrap (e + 1)) fun z28 => .ite (z16 == z28) (.leaf ⟨.ret, [(8, .bool (.sym ((bif z15 then true else false) == true
  && (z17 == 8 && z18 == 0) && ((bif z15 then true else false) == true && (z19 == 8 && z20 == 1) && ((bif z15 then true else false) == true && (z21 == w && z22 == h) && ((bif z15 then true else false) == true && (z23 == 8
  && z24 == 3) && ((bif z15 then true else false) == true && (z25 == 8 && z26 == 0))))))))], [], 0⟩) (.leaf ⟨.ret, [(8, .bool (.lit false))], [], 0⟩))) (.leaf ⟨.ret, [(8, .bool (.lit false))], [], 0⟩)) (.leaf ⟨.ret, [(8,
  .bool (.lit false))], [], 0⟩))) (.defB (apOk e 8 0 8 1 w h 8 3 8 0 4 0 0) fun z29 => .defI (bif z29 then e + 1 else 0) fun z30 => .defI (bif z29 then 8 else 0) fun z31 => .defI (bif z29 then 0 else 0) fun z32 => .defI
  (bif z29 then 8 else 0) fun z33 => .defI (bif z29 then 1 else 0) fun z34 => .defI (bif z29 then w else 0) fun z35 => .defI (bif z29 then h else 0) fun z36 => .defI (bif z29 then 8 else 0) fun z37 => .defI (bif z29 then 3
  else 0) fun z38 => .defI (bif z29 then 8 else 0) fun z39 => .defI (bif z29 then 0 else 0) fun z40 => .defI (bif z29 then 0 else 40) fun z41 => .ite (isMapB e 8 0 8 1 w h 8 3 8 0 == false) (.ite ((z41 == 0) == false)
  (.ite (z41 != 0) (.leaf ⟨.ret, [(8, .bool (.lit true))], [], 0⟩) (.defI (IntKind.u32.wrap (e + 1)) fun z42 => .ite (z30 == z42) (.leaf ⟨.ret, [(8, .bool (.sym ((bif z29 then true else false) == true && (z31 == 8 && z32
  == 0) && ((bif z29 then true else false) == true && (z33 == 8 && z34 == 1) && ((bif z29 then true else false) == true && (z35 == w && z36 == h) && ((bif z29 then true else false) == true && (z37 == 8 && z38 == 3) &&
  ((bif z29 then true else false) == true && (z39 == 8 && z40 == 0))))))))], [], 0⟩) (.leaf ⟨.ret, [(8, .bool (.lit false))], [], 0⟩))) (.leaf ⟨.ret, [(8, .bool (.lit false))], [], 0⟩)) (.leaf ⟨.ret, [(8, .bool (.lit
  false))], [], 0⟩))) (.defB (apOk e 8 0 8 1 w h 8 3 8 0 4 0 0) fun z43 => .defI (bif z43 then e + 1 else 0) fun z44 => .defI (bif z43 then 8 else 0) fun z45 => .defI (bif z43 then 0 else 0) fun z46 => .defI (bif z43 then
  8 else 0) fun z47 => .defI (bif z43 then 1 else 0) fun z48 => .defI (bif z43 then w else 0) fun z49 => .defI (bif z43 then h else 0) fun z50 => .defI (bif z43 then 8 else 0) fun z51 => .defI (bif z43 then 3 else 0) fun
  z52 => .defI (bif z43 then 8 else 0) fun z53 => .defI (bif z43 then 0 else 0) fun z54 => .defI (bif z43 then 0 else 40) fun z55 => .ite (isMapB e 8 0 8 1 w h 8 3 8 0 == false) (.ite ((z55 == 0) == false) (.ite (z55 != 0)
  (.leaf ⟨.ret, [(8, .bool (.lit true))], [], 0⟩) (.defI (IntKind.u32.wrap (e + 1)) fun z56 => .ite (z44 == z56) (.leaf ⟨.ret, [(8, .bool (.sym ((bif z43 then true else false) == true && (z45 == 8 && z46 == 0) && ((bif z43
  then true else false) == true && (z47 == 8 && z48 == 1) && ((bif z43 then true else false) == true && (z49 == w && z50 == h) && ((bif z43 then true else false) == true && (z51 == 8 && z52 == 3) && ((bif z43 then true
  else false) == true && (z53 == 8 && z54 == 0))))))))], [], 0⟩) (.leaf ⟨.ret, [(8, .bool (.lit false))], [], 0⟩))) (.leaf ⟨.ret, [(8, .bool (.lit false))], [], 0⟩)) (.leaf ⟨.ret, [(8, .bool (.lit false))], [], 0⟩)))
  (.defB (apOk e 8 0 8 1 w h 8 3 8 0 4 0 0) fun z57 => .defI (bif z57 then e + 1 else 0) fun z58 => .defI (bif z57 then 8 else 0) fun z59 => .defI (bif z57 then 0 else 0) fun z60 => .defI (bif z57 then 8 else 0) fun z61 =>
  .defI (bif z57 then 1 else 0) fun z62 => .defI (bif z57 then w else 0) fun z63 => .defI (bif z57 then h else 0) fun z64 => .defI (bif z57 then 8 else 0) fun z65 => .defI (bif z57 then 3 else 0) fun z66 => .defI (bif z57
  then 8 else 0) fun z67 => .defI (bif z57 then 0 else 0) fun z68 => .defI (bif z57 then 0 else 40) fun z69 => .ite (isMapB e 8 0 8 1 w h 8 3 8 0 == false) (.ite ((z69 == 0) == false) (.ite (z69 != 0) (.leaf ⟨.ret, [(8,
  .bool (.lit true))], [], 0⟩) (.defI (IntKind.u32.wrap (e + 1)) fun z70 => .ite (z58 == z70) (.leaf ⟨.ret, [(8, .bool (.sym ((bif z57 then true else false) == true && (z59 == 8 && z60 == 0) && ((bif z57 then true else
  false) == true && (z61 == 8 && z62 == 1) && ((bif z57 then true else false) == true && (z63 == w && z64 == h) && ((bif z57 then true else false) == true && (z65 == 8 && z66 == 3) && ((bif z57 then true else false) ==
  true && (z67 == 8 && z68 == 0))))))))], [], 0⟩) (.leaf ⟨.ret, [(8, .bool (.lit false))], [], 0⟩))) (.leaf ⟨.ret, [(8, .bool (.lit false))], [], 0⟩)) (.leaf ⟨.ret, [(8, .bool (.lit false))], [], 0⟩)) := by kernel_rfl

theorem b_3 (e w h : Int) (τ0 : Tm) : codeT Try.prog mcT 300 11 Try.f11.ntmps (ofL ((flat body11).drop 6)) ([(0, .int .u32 (.sym e)), (1, .int .i64 (.sym w)), (2, .int .u8 (.sym h)), (8, .bool (.lit false)), (9, .ptr 0 0), (10, .int .u8 (.lit 3))] ++ τ0) (mkHeap [(0, .box [.int .u32 (.sym e), .bool (.lit true), .int .i64 (.lit 8), .int .u8 (.lit 0), .bool (.lit true), .int .i64 (.lit 8), .int .u8 (.lit 1), .bool (.lit true), .int .i64 (.lit 8), .int .u8 (.lit 2), .bool (.lit true), .int .i64 (.lit 8), .int .u8 (.lit 3), .bool (.lit true), .int .i64 (.lit 8), .int .u8 (.lit 0)])]) 1 (outF [8] [] [] [] 1) =
  .ite (decide (e ≥ 1)) (.ite (decide (e ≤ 60)) (.ite (decide (w ≥ 0)) (.ite (decide (w ≤ 16)) (.defB (apOk e 8 0 8 1 8 2 w h 8 0 4 0 0) fun z0 => .defI (bif z0 then e + 1 else 0) fun z1 => .defI (bif z0 then 8 else 0) fun
  z2 => .defI (bif z0 then 0 else 0) fun z3 => .defI (bif z0 then 8 else 0) fun z4 => .defI (bif z0 then 1 else 0) fun z5 => .defI (bif z0 then 8 else 0) fun z6 => .defI (bif z0 then 2 else 0) fun z7 => .defI (bif z0 then
  w else 0) fun z8 => .defI (bif z0 then h else 0) fun z9 => .defI (bif z0 then 8 else 0) fun z10 => .defI (bif z0 then 0 else 0) fun z11 => .defI (bif z0 then 0 else 40) fun z12 => .ite (isMapB e 8 0 8 1 8 2 w h 8 0 ==
  decide (h < 8)) (.ite (decide (h < 8)) (.ite ((z12 == 0) == decide (e < 60)) (.ite (z12 != 0) (.leaf ⟨.ret, [(8, .bool (.lit true))], [], 0⟩) (.defI (IntKind.u32.wrap (e + 1)) fun z13 => .ite (z1 == z13) (.leaf ⟨.ret,
  [(8, .bool (.sym ((bif z0 then true else false) == true && (z2 == 8 && z3 == 0) && ((bif z0 then true else false) == true && (z4 == 8 && z5 == 1) && ((bif z0 then true else false) == true && (z6 == 8 && z7 == 2) && ((bif
  z0 then true else false) == true && (z8 == w && z9 == h) && ((bif z0 then true else false) == true && (z10 == 8 && z11 == 0))))))))], [], 0⟩) (.leaf ⟨.ret, [(8, .bool (.lit false))], [], 0⟩))) (.leaf ⟨.ret, [(8, .bool
  (.lit false))], [], 0⟩)) (.ite ((z12 == 0) == false) (.ite (z12 != 0) (.leaf ⟨.ret, [(8, .bool (.lit true))], [], 0⟩) (.defI (IntKind.u32.wrap (e + 1)) fun z14 => .ite (z1 == z14) (.leaf ⟨.ret, [(8, .bool (.sym ((bif z0
  then true else false) == true && (z2 == 8 && z3 == 0) && ((bif z0 then true else false) == true && (z4 == 8 && z5 == 1) && ((bif z0 then true else false) == true && (z6 == 8 && z7 == 2) && ((bif z0 then true else false)
  == true && (z8 == w && z9 == h) && ((bif z0 then true else false) == true && (z10 == 8 && z11 == 0))))))))], [], 0⟩) (.leaf ⟨.ret, [(8, .bool (.lit false))], [], 0⟩))) (.leaf ⟨.ret, [(8, .bool (.lit false))], [], 0⟩)))
  (.leaf ⟨.ret, [(8, .bool (.lit false))], [], 0⟩)) (.defB (apOk e 8 0 8 1 8 2 w h 8 0 4 0 0) fun z15 => .defI (bif z15 then e + 1 else 0) fun z16 => .defI (bif z15 then 8 else 0) fun z17 => .defI (bif z15 then 0 else 0)
  fun z18 => .defI (bif z15 then 8 else 0) fun z19 => .defI (bif z15 then 1 else 0) fun z20 => .defI (bif z15 then 8 else 0) fun z21 => .defI (bif z15 then 2 else 0) fun z22 => .defI (bif z15 then w else 0) fun z23 =>
  .defI (bif z15 then h else 0) fun z24 => .defI (bif z15 then 8 else 0) fun z25 => .defI (bif z15 then 0 else 0) fun z26 => .defI (bif z15 then 0 else 40) fun z27 => .ite (isMapB e 8 0 8 1 8 2 w h 8 0 == false) (.ite
  ((z27 == 0) == false) (.ite (z27 != 0) (.leaf ⟨.ret, [(8, .bool (.lit true))], [], 0⟩) (.defI (IntKind.u32.wrap (e + 1)) fun z28 => .ite (z16 == z28) (.leaf ⟨.ret, [(8, .bool (.sym ((bif z15 then true else false) == true
  && (z17 == 8 && z18 == 0) && ((bif z15 then true else false) == true && (z19 == 8 && z20 == 1) && ((bif z15 then true else false) == true && (z21 == 8 && z22 == 2) && ((bif z15 then true else false) == true && (z23 == w
  && z24 == h) && ((bif z15 then true else false) == true && (z25 == 8 && z26 == 0))))))))], [], 0⟩) (.leaf ⟨.ret, [(8, .bool (.lit false))], [], 0⟩))) (.leaf ⟨.ret, [(8, .bool (.lit false))], [], 0⟩)) (.leaf ⟨.ret, [(8,
  .bool (.lit false))], [], 0⟩))) (.defB (apOk e 8 0 8 1 8 2 w h 8 0 4 0 0) fun z29 => .defI (bif z29 then e + 1 else 0) fun z30 => .defI (bif z29 then 8 else 0) fun z31 => .defI (bif z29 then 0 else 0) fun z32 => .defI
  (bif z29 then 8 else 0) fun z33 => .defI (bif z29 then 1 else 0) fun z34 => .defI (bif z29 then 8 else 0) fun z35 => .defI (bif z29 then 2 else 0) fun z36 => .defI (bif z29 then w else 0) fun z37 => .defI (bif z29 then h
  else 0) fun z38 => .defI (bif z29 then 8 else 0) fun z39 => .defI (bif z29 then 0 else 0) fun z40 => .defI (bif z29 then 0 else 40) fun z41 => .ite (isMapB e 8 0 8 1 8 2 w h 8 0 == false) (.ite ((z41 == 0) == false)
  (.ite (z41 != 0) (.leaf ⟨.ret, [(8, .bool (.lit true))], [], 0⟩) (.defI (IntKind.u32.wrap (e + 1)) fun z42 => .ite (z30 == z42) (.leaf ⟨.ret, [(8, .bool (.sym ((bif z29 then true else false) == true && (z31 == 8 && z32
  == 0) && ((bif z29 then true else false) == true && (z33 == 8 && z34 == 1) && ((bif z29 then true else false) == true && (z35 == 8 && z36 == 2) && ((bif z29 then true else false) == true && (z37 == w && z38 == h) &&
  ((bif z29 then true else false) == true && (z39 == 8 && z40 == 0))))))))], [], 0⟩) (.leaf ⟨.ret, [(8, .bool (.lit false))], [], 0⟩))) (.leaf ⟨.ret, [(8, .bool (.lit false))], [], 0⟩)) (.leaf ⟨.ret, [(8, .bool (.lit
  false))], [], 0⟩))) (.defB (apOk e 8 0 8 1 8 2 w h 8 0 4 0 0) fun z43 => .defI (bif z43 then e + 1 else 0) fun z44 => .defI (bif z43 then 8 else 0) fun z45 => .defI (bif z43 then 0 else 0) fun z46 => .defI (bif z43 then
  8 else 0) fun z47 => .defI (bif z43 then 1 else 0) fun z48 => .defI (bif z43 then 8 else 0) fun z49 => .defI (bif z43 then 2 else 0) fun z50 => .defI (bif z43 then w else 0) fun z51 => .defI (bif z43 then h else 0) fun
  z52 => .defI (bif z43 then 8 else 0) fun z53 => .defI (bif z43 then 0 else 0) fun z54 => .defI (bif z43 then 0 else 40) fun z55 => .ite (isMapB e 8 0 8 1 8 2 w h 8 0 == false) (.ite ((z55 == 0) == false) (.ite (z55 != 0)
  (.leaf ⟨.ret, [(8, .bool (.lit true))], [], 0⟩) (.defI (IntKind.u32.wrap (e + 1)) fun z56 => .ite (z44 == z56) (.leaf ⟨.ret, [(8, .bool (.sym ((bif z43 then true else false) == true && (z45 == 8 && z46 == 0) && ((bif z43
  then true else false) == true && (z47 == 8 && z48 == 1) && ((bif z43 then true else false) == true && (z49 == 8 && z50 == 2) && ((bif z43 then true else false) == true && (z51 == w && z52 == h) && ((bif z43 then true
  else false) == true && (z53 == 8 && z54 == 0))))))))], [], 0⟩) (.leaf ⟨.ret, [(8, .bool (.lit false))], [], 0⟩))) (.leaf ⟨.ret, [(8, .bool (.lit false))], [], 0⟩)) (.leaf ⟨.ret, [(8, .bool (.lit false))], [], 0⟩)))
  (.defB (apOk e 8 0 8 1 8 2 w h 8 0 4 0 0) fun z57 => .defI (bif z57 then e + 1 else 0) fun z58 => .defI (bif z57 then 8 else 0) fun z59 => .defI (bif z57 then 0 else 0) fun z60 => .defI (bif z57 then 8 else 0) fun z61 =>
  .defI (bif z57 then 1 else 0) fun z62 => .defI (bif z57 then 8 else 0) fun z63 => .defI (bif z57 then 2 else 0) fun z64 => .defI (bif z57 then w else 0) fun z65 => .defI (bif z57 then h else 0) fun z66 => .defI (bif z57
  then 8 else 0) fun z67 => .defI (bif z57 then 0 else 0) fun z68 => .defI (bif z57 then 0 else 40) fun z69 => .ite (isMapB e 8 0 8 1 8 2 w h 8 0 == false) (.ite ((z69 == 0) == false) (.ite (z69 != 0) (.leaf ⟨.ret, [(8,
  .bool (.lit true))], [], 0⟩) (.defI (IntKind.u32.wrap (e + 1)) fun z70 => .ite (z58 == z70) (.leaf ⟨.ret, [(8, .bool (.sym ((bif z57 then true else false) == true && (z59 == 8 && z60 == 0) && ((bif z57 then true else
  false) == true && (z61 == 8 && z62 == 1) && ((bif z57 then true else false) == true && (z63 == 8 && z64 == 2) && ((bif z57 then true else false) == true && (z65 == w && z66 == h) && ((bif z57 then true else false) ==
  true && (z67 == 8 && z68 == 0))))))))], [], 0⟩) (.leaf ⟨.ret, [(8, .bool (.lit false))], [], 0⟩))) (.leaf ⟨.ret, [(8, .bool (.lit false))], [], 0⟩)) (.leaf ⟨.ret, [(8, .bool (.lit false))], [], 0⟩)) := by kernel_rfl

theorem b_4 (e w h : Int) (τ0 : Tm) : codeT Try.prog mcT 300 11 Try.f11.ntmps (ofL ((flat body11).drop 6)) ([(0, .int .u32 (.sym e)), (1, .int .i64 (.sym w)), (2, .int .u8 (.sym h)), (8, .bool (.lit false)), (9, .ptr 0 0), (10, .int .u8 (.lit 4))] ++ τ0) (mkHeap [(0, .box [.int .u32 (.sym e), .bool (.lit true), .int .i64 (.lit 8), .int .u8 (.lit 0), .bool (.lit true), .int .i64 (.lit 8), .int .u8 (.lit 1), .bool (.lit true), .int .i64 (.lit 8), .int .u8 (.lit 2), .bool (.lit true), .int .i64 (.lit 8), .int .u8 (.lit 3), .bool (.lit true), .int .i64 (.lit 8), .int .u8 (.lit 0)])]) 1 (outF [8] [] [] [] 1) =
  .ite (decide (e ≥ 1)) (.ite (decide (e ≤ 60)) (.ite (decide (w ≥ 0)) (.ite (decide (w ≤ 16)) (.defB (apOk e 8 0 8 1 8 2 8 3 w h 4 0 0) fun z0 => .defI (bif z0 then e + 1 else 0) fun z1 => .defI (bif z0 then 8 else 0) fun
  z2 => .defI (bif z0 then 0 else 0) fun z3 => .defI (bif z0 then 8 else 0) fun z4 => .defI (bif z0 then 1 else 0) fun z5 => .defI (bif z0 then 8 else 0) fun z6 => .defI (bif z0 then 2 else 0) fun z7 => .defI (bif z0 then
  8 else 0) fun z8 => .defI (bif z0 then 3 else 0) fun z9 => .defI (bif z0 then w else 0) fun z10 => .defI (bif z0 then h else 0) fun z11 => .defI (bif z0 then 0 else 40) fun z12 => .ite (isMapB e 8 0 8 1 8 2 8 3 w h ==
  decide (h < 8)) (.ite (decide (h < 8)) (.ite ((z12 == 0) == decide (e < 60)) (.ite (z12 != 0) (.leaf ⟨.ret, [(8, .bool (.lit true))], [], 0⟩) (.defI (IntKind.u32.wrap (e + 1)) fun z13 => .ite (z1 == z13) (.leaf ⟨.ret,
  [(8, .bool (.sym ((bif z0 then true else false) == true && (z2 == 8 && z3 == 0) && ((bif z0 then true else false) == true && (z4 == 8 && z5 == 1) && ((bif z0 then true else false) == true && (z6 == 8 && z7 == 2) && ((bif
  z0 then true else false) == true && (z8 == 8 && z9 == 3) && ((bif z0 then true else false) == true && (z10 == w && z11 == h))))))))], [], 0⟩) (.leaf ⟨.ret, [(8, .bool (.lit false))], [], 0⟩))) (.leaf ⟨.ret, [(8, .bool
  (.lit false))], [], 0⟩)) (.ite ((z12 == 0) == false) (.ite (z12 != 0) (.leaf ⟨.ret, [(8, .bool (.lit true))], [], 0⟩) (.defI (IntKind.u32.wrap (e + 1)) fun z14 => .ite (z1 == z14) (.leaf ⟨.ret, [(8, .bool (.sym ((bif z0
  then true else false) == true && (z2 == 8 && z3 == 0) && ((bif z0 then true else false) == true && (z4 == 8 && z5 == 1) && ((bif z0 then true else false) == true && (z6 == 8 && z7 == 2) && ((bif z0 then true else false)
  == true && (z8 == 8 && z9 == 3) && ((bif z0 then true else false) == true && (z10 == w && z11 == h))))))))], [], 0⟩) (.leaf ⟨.ret, [(8, .bool (.lit false))], [], 0⟩))) (.leaf ⟨.ret, [(8, .bool (.lit false))], [], 0⟩)))
  (.leaf ⟨.ret, [(8, .bool (.lit false))], [], 0⟩)) (.defB (apOk e 8 0 8 1 8 2 8 3 w h 4 0 0) fun z15 => .defI (bif z15 then e + 1 else 0) fun z16 => .defI (bif z15 then 8 else 0) fun z17 => .defI (bif z15 then 0 else 0)
  fun z18 => .defI (bif z15 then 8 else 0) fun z19 => .defI (bif z15 then 1 else 0) fun z20 => .defI (bif z15 then 8 else 0) fun z21 => .defI (bif z15 then 2 else 0) fun z22 => .defI (bif z15 then 8 else 0) fun z23 =>
  .defI (bif z15 then 3 else 0) fun z24 => .defI (bif z15 then w else 0) fun z25 => .defI (bif z15 then h else 0) fun z26 => .defI (bif z15 then 0 else 40) fun z27 => .ite (isMapB e 8 0 8 1 8 2 8 3 w h == false) (.ite
  ((z27 == 0) == false) (.ite (z27 != 0) (.leaf ⟨.ret, [(8, .bool (.lit true))], [], 0⟩) (.defI (IntKind.u32.wrap (e + 1)) fun z28 => .ite (z16 == z28) (.leaf ⟨.ret, [(8, .bool (.sym ((bif z15 then true else false) == true
  && (z17 == 8 && z18 == 0) && ((bif z15 then true else false) == true && (z19 == 8 && z20 == 1) && ((bif z15 then true else false) == true && (z21 == 8 && z22 == 2) && ((bif z15 then true else false) == true && (z23 == 8
  && z24 == 3) && ((bif z15 then true else false) == true && (z25 == w && z26 == h))))))))], [], 0⟩) (.leaf ⟨.ret, [(8, .bool (.lit false))], [], 0⟩))) (.leaf ⟨.ret, [(8, .bool (.lit false))], [], 0⟩)) (.leaf ⟨.ret, [(8,
  .bool (.lit false))], [], 0⟩))) (.defB (apOk e 8 0 8 1 8 2 8 3 w h 4 0 0) fun z29 => .defI (bif z29 then e + 1 else 0) fun z30 => .defI (bif z29 then 8 else 0) fun z31 => .defI (bif z29 then 0 else 0) fun z32 => .defI
  (bif z29 then 8 else 0) fun z33 => .defI (bif z29 then 1 else 0) fun z34 => .defI (bif z29 then 8 else 0) fun z35 => .defI (bif z29 then 2 else 0) fun z36 => .defI (bif z29 then 8 else 0) fun z37 => .defI (bif z29 then 3
  else 0) fun z38 => .defI (bif z29 then w else 0) fun z39 => .defI (bif z29 then h else 0) fun z40 => .defI (bif z29 then 0 else 40) fun z41 => .ite (isMapB e 8 0 8 1 8 2 8 3 w h == false) (.ite ((z41 == 0) == false)
  (.ite (z41 != 0) (.leaf ⟨.ret, [(8, .bool (.lit true))], [], 0⟩) (.defI (IntKind.u32.wrap (e + 1)) fun z42 => .ite (z30 == z42) (.leaf ⟨.ret, [(8, .bool (.sym ((bif z29 then true else false) == true && (z31 == 8 && z32
  == 0) && ((bif z29 then true else false) == true && (z33 == 8 && z34 == 1) && ((bif z29 then true else false) == true && (z35 == 8 && z36 == 2) && ((bif z29 then true else false) == true && (z37 == 8 && z38 == 3) &&
  ((bif z29 then true else false) == true && (z39 == w && z40 == h))))))))], [], 0⟩) (.leaf ⟨.ret, [(8, .bool (.lit false))], [], 0⟩))) (.leaf ⟨.ret, [(8, .bool (.lit false))], [], 0⟩)) (.leaf ⟨.ret, [(8, .bool (.lit
  false))], [], 0⟩))) (.defB (apOk e 8 0 8 1 8 2 8 3 w h 4 0 0) fun z43 => .defI (bif z43 then e + 1 else 0) fun z44 => .defI (bif z43 then 8 else 0) fun z45 => .defI (bif z43 then 0 else 0) fun z46 => .defI (bif z43 then
  8 else 0) fun z47 => .defI (bif z43 then 1 else 0) fun z48 => .defI (bif z43 then 8 else 0) fun z49 => .defI (bif z43 then 2 else 0) fun z50 => .defI (bif z43 then 8 else 0) fun z51 => .defI (bif z43 then 3 else 0) fun
  z52 => .defI (bif z43 then w else 0) fun z53 => .defI (bif z43 then h else 0) fun z54 => .defI (bif z43 then 0 else 40) fun z55 => .ite (isMapB e 8 0 8 1 8 2 8 3 w h == false) (.ite ((z55 == 0) == false) (.ite (z55 != 0)
  (.leaf ⟨.ret, [(8, .bool (.lit true))], [], 0⟩) (.defI (IntKind.u32.wrap (e + 1)) fun z56 => .ite (z44 == z56) (.leaf ⟨.ret, [(8, .bool (.sym ((bif z43 then true else false) == true && (z45 == 8 && z46 == 0) && ((bif z43
  then true else false) == true && (z47 == 8 && z48 == 1) && ((bif z43 then true else false) == true && (z49 == 8 && z50 == 2) && ((bif z43 then true else false) == true && (z51 == 8 && z52 == 3) && ((bif z43 then true
  else false) == true && (z53 == w && z54 == h))))))))], [], 0⟩) (.leaf ⟨.ret, [(8, .bool (.lit false))], [], 0⟩))) (.leaf ⟨.ret, [(8, .bool (.lit false))], [], 0⟩)) (.leaf ⟨.ret, [(8, .bool (.lit false))], [], 0⟩)))
  (.defB (apOk e 8 0 8 1 8 2 8 3 w h 4 0 0) fun z57 => .defI (bif z57 then e + 1 else 0) fun z58 => .defI (bif z57 then 8 else 0) fun z59 => .defI (bif z57 then 0 else 0) fun z60 => .defI (bif z57 then 8 else 0) fun z61 =>
  .defI (bif z57 then 1 else 0) fun z62 => .defI (bif z57 then 8 else 0) fun z63 => .defI (bif z57 then 2 else 0) fun z64 => .defI (bif z57 then 8 else 0) fun z65 => .defI (bif z57 then 3 else 0) fun z66 => .defI (bif z57
  then w else 0) fun z67 => .defI (bif z57 then h else 0) fun z68 => .defI (bif z57 then 0 else 40) fun z69 => .ite (isMapB e 8 0 8 1 8 2 8 3 w h == false) (.ite ((z69 == 0) == false) (.ite (z69 != 0) (.leaf ⟨.ret, [(8,
  .bool (.lit true))], [], 0⟩) (.defI (IntKind.u32.wrap (e + 1)) fun z70 => .ite (z58 == z70) (.leaf ⟨.ret, [(8, .bool (.sym ((bif z57 then true else false) == true && (z59 == 8 && z60 == 0) && ((bif z57 then true else
  false) == true && (z61 == 8 && z62 == 1) && ((bif z57 then true else false) == true && (z63 == 8 && z64 == 2) && ((bif z57 then true else false) == true && (z65 == 8 && z66 == 3) && ((bif z57 then true else false) ==
  true && (z67 == w && z68 == h))))))))], [], 0⟩) (.leaf ⟨.ret, [(8, .bool (.lit false))], [], 0⟩))) (.leaf ⟨.ret, [(8, .bool (.lit false))], [], 0⟩)) (.leaf ⟨.ret, [(8, .bool (.lit false))], [], 0⟩)) := by kernel_rfl

def K11 (e w h : Int) (j : Int) : Tm := [(0, .int .u32 (.sym e)), (1, .int .i64 (.sym w)), (2, .int .u8 (.sym h)), (8, .bool (.lit false)), (9, .ptr 0 0), (10, .int .u8 (.lit j))]
def L11 (e : Int) : List (Nat × AObj) := [(0, .box [.int .u32 (.sym e), .bool (.lit true), .int .i64 (.lit 8), .int .u8 (.lit 0), .bool (.lit true), .int .i64 (.lit 8), .int .u8 (.lit 1), .bool (.lit true), .int .i64 (.lit 8), .int .u8 (.lit 2), .bool (.lit true), .int .i64 (.lit 8), .int .u8 (.lit 3), .bool (.lit true), .int .i64 (.lit 8), .int .u8 (.lit 0)])]
theorem pre11 (e w h a : Int) (ha : 0 ≤ a) : HTL Try.prog Try.f11.ntmps 0 ((flat body11).take 6) 0 (argTm 0 [.int .u32 (.sym e), .int .i64 (.sym w), .int .u8 (.sym h), .int .u8 (.sym a)]) (mkHeap []) fun ex m κ hh => ex = .normal ∧ m = 1 ∧ (∃ j, 0 ≤ j ∧ j < 5 ∧ κ = K11 e w h j) ∧ hh = mkHeap (L11 e) := by
  refine HTL.runF mcTab mixed (n := 300) (by decide) (within_take in11 6) [8] [0, 1, 2, 8, 9, 10] [4] [] (len := 0) (Nat.zero_le _) rfl fun τ0 => holds_of_eq (b_pre e w h a τ0) (holds_defI fun z hz => holds_leaf ?_)
  have g := tmod_in 5 ha (by decide)
  rw [← hz] at g
  exact ⟨1, lkN [4], _, _, fun _ h => absurd h (Nat.not_lt_zero _), Reset.of (l := L11 e) (κ' := K11 e w h z) ⟨⟨⟨_, rfl, fun _ _ => rfl⟩, rfl⟩, ⟨⟨_, rfl, fun _ _ => rfl⟩, rfl⟩, ⟨⟨_, rfl, fun _ _ => rfl⟩, rfl⟩, ⟨⟨_, rfl, fun _ _ => rfl⟩, rfl⟩, ⟨⟨_, rfl, fun _ _ => rfl⟩, rfl⟩, ⟨⟨_, rfl, fun _ _ => rfl⟩, rfl⟩, trivial⟩
    ⟨⟨rfl, .inl ⟨_, rfl, Eng.sameBox rfl (fun _ _ => rfl) rfl⟩⟩, trivial⟩ rfl, rfl, rfl, ⟨z, g.1, g.2, rfl⟩, rfl⟩
theorem rest11_0 (e w h : Int) (he : 0 ≤ e ∧ e < 4294967296) (hh : 0 ≤ h) : HTL Try.prog Try.f11.ntmps 0 ((flat body11).drop 6) 1 (K11 e w h 0) (mkHeap (L11 e)) fun ex m' κ' h' => ex = .ret ∧ tfind 8 κ' = some (.bool (.lit true)) := by
  refine HTL.runF mcTab mixed (n := 300) (by decide) (within_drop in11 6) [8] [] [] [] (len := 1) (Nat.zero_le _) rfl fun τ0 => holds_of_eq (b_0 e w h τ0) ?_
  have hw : e < 60 → IntKind.u32.wrap (e + 1) = e + 1 := fun h => IntWalk.u32_in _ (by omega)
  have hM : isMapB e w h 8 1 8 2 8 3 8 0 = (decide (e ≥ 1) && decide (e ≤ 60) && decide (w ≥ 0) && decide (w ≤ 16) && decide (h < 8)) := by
    apply Bool.eq_iff_iff.2
    simp [isMapB, osdB]
    omega
  have hA : apOk e w h 8 1 8 2 8 3 8 0 4 0 0 = (decide (e ≥ 1) && decide (e ≤ 60) && decide (w ≥ 0) && decide (w ≤ 16) && decide (h < 8) && !(e == 60)) := by
    unfold apOk
    rw [hM]
    simp [isIncB]
  cases hok : apOk e w h 8 1 8 2 8 3 8 0 4 0 0 with
  | true =>
    rw [hok] at hA
    have hA := hA.symm
    simp only [Bool.and_eq_true, decide_eq_true_eq, Bool.not_eq_true', beq_eq_false_iff_ne, ne_eq] at hA
    have hw := hw (by omega)
    have hM : isMapB e w h 8 1 8 2 8 3 8 0 = true := by rw [hM]; simp; omega
    repeat' (first | refine holds_inI ?_ | refine holds_inB ?_ | refine holds_must ?_ ?_ | refine holds_ite (fun h => ?_) (fun h => ?_) | refine holds_leaf (ret_true ?_))
    all_goals simp only [hok, cond_true, hM, hw, decide_eq_true_eq, decide_eq_false_iff_not] at *
    all_goals first | (simp at *; done) | (simp at *; omega)
  | false =>
    rw [hok] at hA
    have hA := hA.symm
    repeat' (first | refine holds_inI ?_ | refine holds_inB ?_ | refine holds_must ?_ ?_ | refine holds_ite (fun h => ?_) (fun h => ?_) | refine holds_leaf (ret_true ?_))
    all_goals simp only [hok, cond_false, hM, decide_eq_true_eq, decide_eq_false_iff_not] at *
    all_goals first | (simp at *; done) | (exfalso; simp at *; omega) | (exfalso; simp_all; omega)
theorem rest11_1 (e w h : Int) (he : 0 ≤ e ∧ e < 4294967296) (hh : 0 ≤ h) : HTL Try.prog Try.f11.ntmps 0 ((flat body11).drop 6) 1 (K11 e w h 1) (mkHeap (L11 e)) fun ex m' κ' h' => ex = .ret ∧ tfind 8 κ' = some (.bool (.lit true)) := by
  refine HTL.runF mcTab mixed (n := 300) (by decide) (within_drop in11 6) [8] [] [] [] (len := 1) (Nat.zero_le _) rfl fun τ0 => holds_of_eq (b_1 e w h τ0) ?_
  have hw : e < 60 → IntKind.u32.wrap (e + 1) = e + 1 := fun h => IntWalk.u32_in _ (by omega)
  have hM : isMapB e 8 0 w h 8 2 8 3 8 0 = (decide (e ≥ 1) && decide (e ≤ 60) && decide (w ≥ 0) && decide (w ≤ 16) && decide (h < 8)) := by
    apply Bool.eq_iff_iff.2
    simp [isMapB, osdB]
    omega
  have hA : apOk e 8 0 w h 8 2 8 3 8 0 4 0 0 = (decide (e ≥ 1) && decide (e ≤ 60) && decide (w ≥ 0) && decide (w ≤ 16) && decide (h < 8) && !(e == 60)) := by
    unfold apOk
    rw [hM]
    simp [isIncB]
  cases hok : apOk e 8 0 w h 8 2 8 3 8 0 4 0 0 with
  | true =>
    rw [hok] at hA
    have hA := hA.symm
    simp only [Bool.and_eq_true, decide_eq_true_eq, Bool.not_eq_true', beq_eq_false_iff_ne, ne_eq] at hA
    have hw := hw (by omega)
    have hM : isMapB e 8 0 w h 8 2 8 3 8 0 = true := by rw [hM]; simp; omega
    repeat' (first | refine holds_inI ?_ | refine holds_inB ?_ | refine holds_must ?_ ?_ | refine holds_ite (fun h => ?_) (fun h => ?_) | refine holds_leaf (ret_true ?_))
    all_goals simp only [hok, cond_true, hM, hw, decide_eq_true_eq, decide_eq_false_iff_not] at *
    all_goals first | (simp at *; done) | (simp at *; omega)
  | false =>
    rw [hok] at hA
    have hA := hA.symm
    repeat' (first | refine holds_inI ?_ | refine holds_inB ?_ | refine holds_must ?_ ?_ | refine holds_ite (fun h => ?_) (fun h => ?_) | refine holds_leaf (ret_true ?_))
    all_goals simp only [hok, cond_false, hM, decide_eq_true_eq, decide_eq_false_iff_not] at *
    all_goals first | (simp at *; done) | (exfalso; simp at *; omega) | (exfalso; simp_all; omega)
theorem rest11_2 (e w h : Int) (he : 0 ≤ e ∧ e < 4294967296) (hh : 0 ≤ h) : HTL Try.prog Try.f11.ntmps 0 ((flat body11).drop 6) 1 (K11 e w h 2) (mkHeap (L11 e)) fun ex m' κ' h' => ex = .ret ∧ tfind 8 κ' = some (.bool (.lit true)) := by
  refine HTL.runF mcTab mixed (n := 300) (by decide) (within_drop in11 6) [8] [] [] [] (len := 1) (Nat.zero_le _) rfl fun τ0 => holds_of_eq (b_2 e w h τ0) ?_
  have hw : e < 60 → IntKind.u32.wrap (e + 1) = e + 1 := fun h => IntWalk.u32_in _ (by omega)
  have hM : isMapB e 8 0 8 1 w h 8 3 8 0 = (decide (e ≥ 1) && decide (e ≤ 60) && decide (w ≥ 0) && decide (w ≤ 16) && decide (h < 8)) := by
    apply Bool.eq_iff_iff.2
    simp [isMapB, osdB]
    omega
  have hA : apOk e 8 0 8 1 w h 8 3 8 0 4 0 0 = (decide (e ≥ 1) && decide (e ≤ 60) && decide (w ≥ 0) && decide (w ≤ 16) && decide (h < 8) && !(e == 60)) := by
    unfold apOk
    rw [hM]
    simp [isIncB]
  cases hok : apOk e 8 0 8 1 w h 8 3 8 0 4 0 0 with
  | true =>
    rw [hok] at hA
    have hA := hA.symm
    simp only [Bool.and_eq_true, decide_eq_true_eq, Bool.not_eq_true', beq_eq_false_iff_ne, ne_eq] at hA
    have hw := hw (by omega)
    have hM : isMapB e 8 0 8 1 w h 8 3 8 0 = true := by rw [hM]; simp; omega
    repeat' (first | refine holds_inI ?_ | refine holds_inB ?_ | refine holds_must ?_ ?_ | refine holds_ite (fun h => ?_) (fun h => ?_) | refine holds_leaf (ret_true ?_))
    all_goals simp only [hok, cond_true, hM, hw, decide_eq_true_eq, decide_eq_false_iff_not] at *
    all_goals first | (simp at *; done) | (simp at *; omega)
  | false =>
    rw [hok] at hA
    have hA := hA.symm
    repeat' (first | refine holds_inI ?_ | refine holds_inB ?_ | refine holds_must ?_ ?_ | refine holds_ite (fun h => ?_) (fun h => ?_) | refine holds_leaf (ret_true ?_))
    all_goals simp only [hok, cond_false, hM, decide_eq_true_eq, decide_eq_false_iff_not] at *
    all_goals first | (simp at *; done) | (exfalso; simp at *; omega) | (exfalso; simp_all; omega)
theorem rest11_3 (e w h : Int) (he : 0 ≤ e ∧ e < 4294967296) (hh : 0 ≤ h) : HTL Try.prog Try.f11.ntmps 0 ((flat body11).drop 6) 1 (K11 e w h 3) (mkHeap (L11 e)) fun ex m' κ' h' => ex = .ret ∧ tfind 8 κ' = some (.bool (.lit true)) := by
  refine HTL.runF mcTab mixed (n := 300) (by decide) (within_drop in11 6) [8] [] [] [] (len := 1) (Nat.zero_le _) rfl fun τ0 => holds_of_eq (b_3 e w h τ0) ?_
  have hw : e < 60 → IntKind.u32.wrap (e + 1) = e + 1 := fun h => IntWalk.u32_in _ (by omega)
  have hM : isMapB e 8 0 8 1 8 2 w h 8 0 = (decide (e ≥ 1) && decide (e ≤ 60) && decide (w ≥ 0) && decide (w ≤ 16) && decide (h < 8)) := by
    apply Bool.eq_iff_iff.2
    simp [isMapB, osdB]
    omega
  have hA : apOk e 8 0 8 1 8 2 w h 8 0 4 0 0 = (decide (e ≥ 1) && decide (e ≤ 60) && decide (w ≥ 0) && decide (w ≤ 16) && decide (h < 8) && !(e == 60)) := by
    unfold apOk
    rw [hM]
    simp [isIncB]
  cases hok : apOk e 8 0 8 1 8 2 w h 8 0 4 0 0 with
  | true =>
    rw [hok] at hA
    have hA := hA.symm
    simp only [Bool.and_eq_true, decide_eq_true_eq, Bool.not_eq_true', beq_eq_false_iff_ne, ne_eq] at hA
    have hw := hw (by omega)
    have hM : isMapB e 8 0 8 1 8 2 w h 8 0 = true := by rw [hM]; simp; omega
    repeat' (first | refine holds_inI ?_ | refine holds_inB ?_ | refine holds_must ?_ ?_ | refine holds_ite (fun h => ?_) (fun h => ?_) | refine holds_leaf (ret_true ?_))
    all_goals simp only [hok, cond_true, hM, hw, decide_eq_true_eq, decide_eq_false_iff_not] at *
    all_goals first | (simp at *; done) | (simp at *; omega)
  | false =>
    rw [hok] at hA
    have hA := hA.symm
    repeat' (first | refine holds_inI ?_ | refine holds_inB ?_ | refine holds_must ?_ ?_ | refine holds_ite (fun h => ?_) (fun h => ?_) | refine holds_leaf (ret_true ?_))
    all_goals simp only [hok, cond_false, hM, decide_eq_true_eq, decide_eq_false_iff_not] at *
    all_goals first | (simp at *; done) | (exfalso; simp at *; omega) | (exfalso; simp_all; omega)
theorem rest11_4 (e w h : Int) (he : 0 ≤ e ∧ e < 4294967296) (hh : 0 ≤ h) : HTL Try.prog Try.f11.ntmps 0 ((flat body11).drop 6) 1 (K11 e w h 4) (mkHeap (L11 e)) fun ex m' κ' h' => ex = .ret ∧ tfind 8 κ' = some (.bool (.lit true)) := by
  refine HTL.runF mcTab mixed (n := 300) (by decide) (within_drop in11 6) [8] [] [] [] (len := 1) (Nat.zero_le _) rfl fun τ0 => holds_of_eq (b_4 e w h τ0) ?_
  have hw : e < 60 → IntKind.u32.wrap (e + 1) = e + 1 := fun h => IntWalk.u32_in _ (by omega)
  have hM : isMapB e 8 0 8 1 8 2 8 3 w h = (decide (e ≥ 1) && decide (e ≤ 60) && decide (w ≥ 0) && decide (w ≤ 16) && decide (h < 8)) := by
    apply Bool.eq_iff_iff.2
    simp [isMapB, osdB]
    omega
  have hA : apOk e 8 0 8 1 8 2 8 3 w h 4 0 0 = (decide (e ≥ 1) && decide (e ≤ 60) && decide (w ≥ 0) && decide (w ≤ 16) && decide (h < 8) && !(e == 60)) := by
    unfold apOk
    rw [hM]
    simp [isIncB]
  cases hok : apOk e 8 0 8 1 8 2 8 3 w h 4 0 0 with
  | true =>
    rw [hok] at hA
    have hA := hA.symm
    simp only [Bool.and_eq_true, decide_eq_true_eq, Bool.not_eq_true', beq_eq_false_iff_ne, ne_eq] at hA
    have hw := hw (by omega)
    have hM : isMapB e 8 0 8 1 8 2 8 3 w h = true := by rw [hM]; simp; omega
    repeat' (first | refine holds_inI ?_ | refine holds_inB ?_ | refine holds_must ?_ ?_ | refine holds_ite (fun h => ?_) (fun h => ?_) | refine holds_leaf (ret_true ?_))
    all_goals simp only [hok, cond_true, hM, hw, decide_eq_true_eq, decide_eq_false_iff_not] at *
    all_goals first | (simp at *; done) | (simp at *; omega)
  | false =>
    rw [hok] at hA
    have hA := hA.symm
    repeat' (first | refine holds_inI ?_ | refine holds_inB ?_ | refine holds_must ?_ ?_ | refine holds_ite (fun h => ?_) (fun h => ?_) | refine holds_leaf (ret_true ?_))
    all_goals simp only [hok, cond_false, hM, decide_eq_true_eq, decide_eq_false_iff_not] at *
    all_goals first | (simp at *; done) | (exfalso; simp at *; omega) | (exfalso; simp_all; omega)
theorem bounds_ht (e w h a : Int) (he : 0 ≤ e ∧ e < 4294967296) (hh : 0 ≤ h) (ha : 0 ≤ a) : HT Try.prog Try.f11.ntmps 0 body11 0 (argTm 0 [.int .u32 (.sym e), .int .i64 (.sym w), .int .u8 (.sym h), .int .u8 (.sym a)]) (mkHeap []) fun ex m' κ' h' => ex = .ret ∧ tfind 8 κ' = some (.bool (.lit true)) := by
  refine HT.cut 6 (pre11 e w h a ha) ?_ fun ex m κ h q hn => normal_no q.1 hn
  rintro m κ h' ⟨_, rfl, ⟨j, h0, h5, rfl⟩, rfl⟩
  have oo : j = 0 ∨ j = 1 ∨ j = 2 ∨ j = 3 ∨ j = 4 := by omega
  rcases oo with rfl | rfl | rfl | rfl | rfl
  · exact rest11_0 e w h he hh
  · exact rest11_1 e w h he hh
  · exact rest11_2 e w h he hh
  · exact rest11_3 e w h he hh
  · exact rest11_4 e w h he hh
theorem res11 : Try.f11.results.toList = [.tmp 8] := by kernel_rfl
theorem le11 : Nat.ble 4 Try.f11.ntmps = true := by kernel_rfl
theorem body11_eq : Try.f11.body = some body11 := by kernel_rfl
theorem bounds_c (W : World) (e w h a : Int) (he : 0 ≤ e ∧ e < 4294967296) (hh : 0 ≤ h) (ha : 0 ≤ a) :
    Calls Try.prog 11 #[.int .u32 e, .int .i64 w, .int .u8 h, .int .u8 a] W fun e W' => e = .returned (.bool true) ∧ Below W.heap.size W W' :=
  law_ht (args := [.int .u32 (.sym e), .int .i64 (.sym w), .int .u8 (.sym h), .int .u8 (.sym a)]) (l := []) (m := 0) (hdr := fun _ => (none, 0, 0)) Try.func11 body11_eq le11 res11 (fun p hp => by cases hp) (bounds_ht e w h a he hh ha) (fun E' hE => rfl)
set_option maxRecDepth 100000 in
theorem bounds_lifted (os : Os) (started : os.Started) (H : Type) (enc : TypeId × Value → H) :
    ReturnsInHanded {} Try.checked os 11 .any (Rows.mapsBoundsSpec.pre6 enc Try.prog Try.f11 Rows.mapsBoundsRow.domain false) (Rows.mapsBoundsSpec.post enc Try.prog Try.f11 false true false false) := by
  refine law_lifted (C := Try.checked) Try.own started (by kernel_rfl) Try.func11
    (ChangeSpec.witness6 (enc := enc) (C := Try.checked) false ⟨#[], #[.int .u32 0, .int .i64 0, .int .u8 0, .int .u8 0], []⟩ 8 (by kernel_rfl) (by kernel_rfl) (by kernel_rfl) (by kernel_rfl))
    Try.laidOut ?_ (B := 4) (by kernel_rfl) (by kernel_rfl) rfl ?_ ?_
  · intro t ht
    rw [Try.params11] at ht
    have : t = 27 ∨ t = 3 ∨ t = 5 := by
      simp at ht
      first | exact ht | omega
    rcases this with rfl | rfl | rfl <;> exact ⟨by kernel_rfl, of_decide_eq_true (by kernel_rfl)⟩
  · intro ds h
    rw [Try.params11] at h
    match ds, h with
    | [d1, d2, d3, d4], _ => rfl
  · intro W base args ds p hval hA hlt
    rw [Try.params11] at hA hval
    obtain ⟨v0, v1, v2, v3, d0, d1, d2, d3, p0, p1, p2, p3, rfl, rfl, rfl, h0, h1, h2, h3⟩ := trodAll_four hA
    obtain ⟨e, rfl, _, _, we⟩ := open_int Try.underlying27 (hval 0 27 v0 rfl rfl) h0
    obtain ⟨w, rfl, _, _, ww⟩ := open_int Try.underlying3 (hval 1 3 v1 rfl rfl) h1
    obtain ⟨h, rfl, _, _, wh⟩ := open_int Try.underlying5 (hval 2 5 v2 rfl rfl) h2
    obtain ⟨a, rfl, _, _, wa⟩ := open_int Try.underlying5 (hval 3 5 v3 rfl rfl) h3
    exact bounds_c W e w h a (wf_u32 we) (wf_u8 wh).1 (wf_u8 wa).1

theorem mapsBounds_holds : Rows.MapsBoundsSaid :=
  OpenClaim.holds_of_wide 11 Try.f11 rfl rfl rfl rfl rfl rfl rfl ⟨rfl, rfl, rfl, rfl, rfl⟩ rfl rfl rfl rfl rfl (by kernel_rfl) Try.func11 (by kernel_rfl)
    (of_decide_eq_true (by kernel_rfl)) (by unfold Func.isWrapper; rw [if_neg (by decide +kernel)]; exact ⟨rfl, rfl⟩)
    (fun os started H enc _ => bounds_lifted os started H enc)
end Go.Proofs.Ytobknnmalnfknaa
