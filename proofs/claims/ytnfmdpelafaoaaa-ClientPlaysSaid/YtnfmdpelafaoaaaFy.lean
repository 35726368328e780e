/- Texts merged: a claim has at most 60 files.
   Conditions: none. -/
import Derived.Test.YtnfmdpelafaoaaaEc
set_option linter.unusedSimpArgs false
set_option linter.unusedVariables false
namespace Go.Proofs.Ytnfmdpelafaoaaa
open Go.Eng Go.RowKit Go.ChangeShapes Go.WideShapes
set_option maxRecDepth 100000
def z16 (c : Nat → Num) (n0 : Nat) (s0 : Nat → List Num) (n1 : Nat) (s1 : Nat → List Num) (n2 : Nat) (s2 : Nat → List Num) : Bool := ((c 3).I == 0) && ((c 4).I == 0 && (c 5).I == 0) && ((c 6).I == 0 && (c 7).I == 0) && !(c 8).B && ((c 9).I == 0 && ((c 10).I == 0 && (c 11).I == 0)) && ((c 12).I == 0) && smE ⟨[stL c 13, zL], [.lst n0 (rnE s0)]⟩ && ((c 62).I == 0) && ((c 63).I == 0) && ((n1 : Int) == 0) && smE ⟨[stL c 65, zL], [.lst n2 (rnE s2)]⟩ && ((c 114).I == 0 && ((c 115).I == 0 && ((c 116).I == 0 && ((c 117).I == 0 && ((c 118).I == 0 && ((c 119).I == 0 && ((c 120).I == 0 && (c 121).S == (ByteArray.mk #[])))))))) && ((c 122).I == 0) && decide ((c 1).I ≥ 10) && decide ((c 1).I < 15) && decide ((c 2).I ≥ 21) && decide ((c 2).I < 24)
def b24 (c : Nat → Num) (n0 : Nat) (s0 : Nat → List Num) (n1 : Nat) (s1 : Nat → List Num) (n2 : Nat) (s2 : Nat → List Num) : Bool := ((c 3).I == 0) && ((c 4).I == 0 && (c 5).I == 0) && ((c 6).I == 0 && (c 7).I == 0) && !(c 8).B && ((c 9).I == 0 && ((c 10).I == 0 && (c 11).I == 0)) && ((c 12).I == 0) && smE ⟨[stL c 13, zL], [.lst n0 (rnE s0)]⟩ && ((c 62).I == 0) && ((c 63).I == 0) && ((n1 : Int) == 0) && smE ⟨[stL c 65, zL], [.lst n2 (rnE s2)]⟩ && ((c 114).I == 0 && ((c 115).I == 0 && ((c 116).I == 0 && ((c 117).I == 0 && ((c 118).I == 0 && ((c 119).I == 0 && ((c 120).I == 0 && (c 121).S == (ByteArray.mk #[])))))))) && ((c 122).I == 0) && decide ((c 1).I ≥ 10) && decide ((c 1).I < 15) && decide ((c 2).I ≥ 21) && decide ((c 2).I < 24) && isOpB (opE ⟨[[.i (c 123).I, .i (c 124).I, .i (c 125).I, .i (c 126).I, .i (c 127).I, .s (c 128).S]], []⟩ 0 0) && ((c 2).I == IntKind.u8.wrap (20 + (c 123).I)) && decide ((c 129).I ≤ 3) && decide (((c 130).S.size : Int) ≤ 80)
def b28 (c : Nat → Num) (n0 : Nat) (s0 : Nat → List Num) (n1 : Nat) (s1 : Nat → List Num) (n2 : Nat) (s2 : Nat → List Num) : Bool := ((c 3).I == 0) && ((c 4).I == 0 && (c 5).I == 0) && ((c 6).I == 0 && (c 7).I == 0) && !(c 8).B && ((c 9).I == 0 && ((c 10).I == 0 && (c 11).I == 0)) && ((c 12).I == 0) && smE ⟨[stL c 13, zL], [.lst n0 (rnE s0)]⟩ && ((c 62).I == 0) && ((c 63).I == 0) && ((n1 : Int) == 0) && smE ⟨[stL c 65, zL], [.lst n2 (rnE s2)]⟩ && ((c 114).I == 0 && ((c 115).I == 0 && ((c 116).I == 0 && ((c 117).I == 0 && ((c 118).I == 0 && ((c 119).I == 0 && ((c 120).I == 0 && (c 121).S == (ByteArray.mk #[])))))))) && ((c 122).I == 0) && decide ((c 1).I ≥ 10) && decide ((c 1).I < 15) && decide ((c 2).I ≥ 21) && decide ((c 2).I < 24) && isOpR (opE ⟨[[.i (c 123).I, .i (c 124).I, .i (c 125).I, .i (c 126).I, .i (c 127).I, .s (c 128).S]], []⟩ 0 0) && ((c 123).I == IntKind.u8.wrap ((c 2).I - 20)) && decide ((c 129).I ≤ 3) && decide (((c 130).S.size : Int) ≤ 80)
theorem m24_16 (c : Nat → Num) (n0 : Nat) (s0 : Nat → List Num) (n1 : Nat) (s1 : Nat → List Num) (n2 : Nat) (s2 : Nat → List Num) : callW Try.prog (codeT Try.prog ecT 400) 24 ((mT (.il .u8 16)).vals (mE c n0 s0 n1 s1 n2 s2)) ((mT (.il .u8 16)).heap (mE c n0 s0 n1 s1 n2 s2)) 3 (outV 3 (tYN 3)) =
  .ite (decide ((c 1).I < 3)) (.ite (decide ((c 1).I ≥ 10)) (.ite (decide ((c 1).I < 15)) (.ite (decide ((c 2).I ≥ 10)) (.ite (decide ((c 1).I ≥ 10)) (.ite (decide ((c 1).I < 15)) (.ite (decide ((c 2).I ≥ 21)) (.ite
  (!decide ((c 2).I < 24)) (.leaf ⟨[[.b false]], []⟩) (.ite ((c 1).I == (c 2).I) (.leaf ⟨[[.b false]], []⟩) (.ite ((n1 : Int) == 0) (.ite ((c 62).I == 0) (.ite ((c 63).I == 0) (.must (rbE s2 n2) (.defE ⟨[stL c 65, zL],
  [.lst n2 (rnE s2)]⟩ fun e0 => .ite ((c 6).I == 0 && (c 7).I == 0) (.must (rbE s0 n0) (.defE ⟨[stL c 13, zL], [.lst n0 (rnE s0)]⟩ fun e1 => .ite (false == ((c 3).I == 0)) (.leaf ⟨[[.b false]], []⟩) (.ite (false == ((c
  4).I == 0 && (c 5).I == 0)) (.leaf ⟨[[.b false]], []⟩) (.ite (false == !(c 8).B) (.leaf ⟨[[.b false]], []⟩) (.ite (false == ((c 9).I == 0 && ((c 10).I == 0 && (c 11).I == 0))) (.leaf ⟨[[.b false]], []⟩) (.ite (false ==
  ((c 12).I == 0)) (.leaf ⟨[[.b false]], []⟩) (.ite (false == smE e1) (.leaf ⟨[[.b false]], []⟩) (.ite (false == smE e0) (.leaf ⟨[[.b false]], []⟩) (.ite (false == ((c 114).I == 0 && ((c 115).I == 0 && ((c 116).I == 0 &&
  ((c 117).I == 0 && ((c 118).I == 0 && ((c 119).I == 0 && ((c 120).I == 0 && (c 121).S == (ByteArray.mk #[]))))))))) (.leaf ⟨[[.b false]], []⟩) (.ite (false == ((c 122).I == 0)) (.leaf ⟨[[.b false]], []⟩) (.ite (decide
  ((c 12).I < 4)) (.ite (isOpB (opE ⟨[[.i (c 123).I, .i (c 124).I, .i (c 125).I, .i (c 126).I, .i (c 127).I, .s (c 128).S]], []⟩ 0 0)) (.defI (IntKind.u8.wrap (20 + (c 123).I)) fun z2 => .ite ((c 2).I == z2) (.ite (decide
  ((c 129).I ≤ 3)) (.leaf ⟨[[.b (decide (((c 130).S.size : Int) ≤ 80))]], []⟩) (.leaf ⟨[[.b false]], []⟩)) (.leaf ⟨[[.b false]], []⟩)) (.leaf ⟨[[.b false]], []⟩)) (.leaf ⟨[[.b false]], []⟩)))))))))))) (.must (rbE s0 n0)
  (.defE ⟨[stL c 13, zL], [.lst n0 (rnE s0)]⟩ fun e3 => .ite (false == ((c 3).I == 0)) (.leaf ⟨[[.b false]], []⟩) (.ite (false == ((c 4).I == 0 && (c 5).I == 0)) (.leaf ⟨[[.b false]], []⟩) (.leaf ⟨[[.b false]], []⟩))))))
  (.ite ((c 6).I == 0 && (c 7).I == 0) (.must (rbE s0 n0) (.defE ⟨[stL c 13, zL], [.lst n0 (rnE s0)]⟩ fun e4 => .ite (false == ((c 3).I == 0)) (.leaf ⟨[[.b false]], []⟩) (.ite (false == ((c 4).I == 0 && (c 5).I == 0))
  (.leaf ⟨[[.b false]], []⟩) (.ite (false == !(c 8).B) (.leaf ⟨[[.b false]], []⟩) (.ite (false == ((c 9).I == 0 && ((c 10).I == 0 && (c 11).I == 0))) (.leaf ⟨[[.b false]], []⟩) (.ite (false == ((c 12).I == 0)) (.leaf ⟨[[.b
  false]], []⟩) (.ite (false == smE e4) (.leaf ⟨[[.b false]], []⟩) (.leaf ⟨[[.b false]], []⟩)))))))) (.must (rbE s0 n0) (.defE ⟨[stL c 13, zL], [.lst n0 (rnE s0)]⟩ fun e5 => .ite (false == ((c 3).I == 0)) (.leaf ⟨[[.b
  false]], []⟩) (.ite (false == ((c 4).I == 0 && (c 5).I == 0)) (.leaf ⟨[[.b false]], []⟩) (.leaf ⟨[[.b false]], []⟩)))))) (.ite ((c 6).I == 0 && (c 7).I == 0) (.must (rbE s0 n0) (.defE ⟨[stL c 13, zL], [.lst n0 (rnE s0)]⟩
  fun e6 => .ite (false == ((c 3).I == 0)) (.leaf ⟨[[.b false]], []⟩) (.ite (false == ((c 4).I == 0 && (c 5).I == 0)) (.leaf ⟨[[.b false]], []⟩) (.ite (false == !(c 8).B) (.leaf ⟨[[.b false]], []⟩) (.ite (false == ((c 9).I
  == 0 && ((c 10).I == 0 && (c 11).I == 0))) (.leaf ⟨[[.b false]], []⟩) (.ite (false == ((c 12).I == 0)) (.leaf ⟨[[.b false]], []⟩) (.ite (false == smE e6) (.leaf ⟨[[.b false]], []⟩) (.leaf ⟨[[.b false]], []⟩))))))))
  (.must (rbE s0 n0) (.defE ⟨[stL c 13, zL], [.lst n0 (rnE s0)]⟩ fun e7 => .ite (false == ((c 3).I == 0)) (.leaf ⟨[[.b false]], []⟩) (.ite (false == ((c 4).I == 0 && (c 5).I == 0)) (.leaf ⟨[[.b false]], []⟩) (.leaf ⟨[[.b
  false]], []⟩)))))) (.ite ((c 6).I == 0 && (c 7).I == 0) (.must (rbE s0 n0) (.defE ⟨[stL c 13, zL], [.lst n0 (rnE s0)]⟩ fun e8 => .ite (false == ((c 3).I == 0)) (.leaf ⟨[[.b false]], []⟩) (.ite (false == ((c 4).I == 0 &&
  (c 5).I == 0)) (.leaf ⟨[[.b false]], []⟩) (.ite (false == !(c 8).B) (.leaf ⟨[[.b false]], []⟩) (.ite (false == ((c 9).I == 0 && ((c 10).I == 0 && (c 11).I == 0))) (.leaf ⟨[[.b false]], []⟩) (.ite (false == ((c 12).I ==
  0)) (.leaf ⟨[[.b false]], []⟩) (.ite (false == smE e8) (.leaf ⟨[[.b false]], []⟩) (.leaf ⟨[[.b false]], []⟩)))))))) (.must (rbE s0 n0) (.defE ⟨[stL c 13, zL], [.lst n0 (rnE s0)]⟩ fun e9 => .ite (false == ((c 3).I == 0))
  (.leaf ⟨[[.b false]], []⟩) (.ite (false == ((c 4).I == 0 && (c 5).I == 0)) (.leaf ⟨[[.b false]], []⟩) (.leaf ⟨[[.b false]], []⟩)))))))) (.leaf ⟨[[.b false]], []⟩)) (.leaf ⟨[[.b false]], []⟩)) (.leaf ⟨[[.b false]], []⟩))
  (.ite (decide ((c 1).I ≥ 10)) (.ite (decide ((c 1).I < 15)) (.ite (decide ((c 2).I ≥ 21)) (.ite (!decide ((c 2).I < 24)) (.leaf ⟨[[.b false]], []⟩) (.ite ((c 1).I == (c 2).I) (.leaf ⟨[[.b false]], []⟩) (.ite ((n1 : Int)
  == 0) (.ite ((c 62).I == 0) (.ite ((c 63).I == 0) (.must (rbE s2 n2) (.defE ⟨[stL c 65, zL], [.lst n2 (rnE s2)]⟩ fun e10 => .ite ((c 6).I == 0 && (c 7).I == 0) (.must (rbE s0 n0) (.defE ⟨[stL c 13, zL], [.lst n0 (rnE
  s0)]⟩ fun e11 => .ite (false == ((c 3).I == 0)) (.leaf ⟨[[.b false]], []⟩) (.ite (false == ((c 4).I == 0 && (c 5).I == 0)) (.leaf ⟨[[.b false]], []⟩) (.ite (false == !(c 8).B) (.leaf ⟨[[.b false]], []⟩) (.ite (false ==
  ((c 9).I == 0 && ((c 10).I == 0 && (c 11).I == 0))) (.leaf ⟨[[.b false]], []⟩) (.ite (false == ((c 12).I == 0)) (.leaf ⟨[[.b false]], []⟩) (.ite (false == smE e11) (.leaf ⟨[[.b false]], []⟩) (.ite (false == smE e10)
  (.leaf ⟨[[.b false]], []⟩) (.ite (false == ((c 114).I == 0 && ((c 115).I == 0 && ((c 116).I == 0 && ((c 117).I == 0 && ((c 118).I == 0 && ((c 119).I == 0 && ((c 120).I == 0 && (c 121).S == (ByteArray.mk #[])))))))))
  (.leaf ⟨[[.b false]], []⟩) (.ite (false == ((c 122).I == 0)) (.leaf ⟨[[.b false]], []⟩) (.ite (decide ((c 12).I < 4)) (.ite (isOpB (opE ⟨[[.i (c 123).I, .i (c 124).I, .i (c 125).I, .i (c 126).I, .i (c 127).I, .s (c
  128).S]], []⟩ 0 0)) (.defI (IntKind.u8.wrap (20 + (c 123).I)) fun z12 => .ite ((c 2).I == z12) (.ite (decide ((c 129).I ≤ 3)) (.leaf ⟨[[.b (decide (((c 130).S.size : Int) ≤ 80))]], []⟩) (.leaf ⟨[[.b false]], []⟩)) (.leaf
  ⟨[[.b false]], []⟩)) (.leaf ⟨[[.b false]], []⟩)) (.leaf ⟨[[.b false]], []⟩)))))))))))) (.must (rbE s0 n0) (.defE ⟨[stL c 13, zL], [.lst n0 (rnE s0)]⟩ fun e13 => .ite (false == ((c 3).I == 0)) (.leaf ⟨[[.b false]], []⟩)
  (.ite (false == ((c 4).I == 0 && (c 5).I == 0)) (.leaf ⟨[[.b false]], []⟩) (.leaf ⟨[[.b false]], []⟩)))))) (.ite ((c 6).I == 0 && (c 7).I == 0) (.must (rbE s0 n0) (.defE ⟨[stL c 13, zL], [.lst n0 (rnE s0)]⟩ fun e14 =>
  .ite (false == ((c 3).I == 0)) (.leaf ⟨[[.b false]], []⟩) (.ite (false == ((c 4).I == 0 && (c 5).I == 0)) (.leaf ⟨[[.b false]], []⟩) (.ite (false == !(c 8).B) (.leaf ⟨[[.b false]], []⟩) (.ite (false == ((c 9).I == 0 &&
  ((c 10).I == 0 && (c 11).I == 0))) (.leaf ⟨[[.b false]], []⟩) (.ite (false == ((c 12).I == 0)) (.leaf ⟨[[.b false]], []⟩) (.ite (false == smE e14) (.leaf ⟨[[.b false]], []⟩) (.leaf ⟨[[.b false]], []⟩)))))))) (.must (rbE
  s0 n0) (.defE ⟨[stL c 13, zL], [.lst n0 (rnE s0)]⟩ fun e15 => .ite (false == ((c 3).I == 0)) (.leaf ⟨[[.b false]], []⟩) (.ite (false == ((c 4).I == 0 && (c 5).I == 0)) (.leaf ⟨[[.b false]], []⟩) (.leaf ⟨[[.b false]],
  []⟩)))))) (.ite ((c 6).I == 0 && (c 7).I == 0) (.must (rbE s0 n0) (.defE ⟨[stL c 13, zL], [.lst n0 (rnE s0)]⟩ fun e16 => .ite (false == ((c 3).I == 0)) (.leaf ⟨[[.b false]], []⟩) (.ite (false == ((c 4).I == 0 && (c 5).I
  == 0)) (.leaf ⟨[[.b false]], []⟩) (.ite (false == !(c 8).B) (.leaf ⟨[[.b false]], []⟩) (.ite (false == ((c 9).I == 0 && ((c 10).I == 0 && (c 11).I == 0))) (.leaf ⟨[[.b false]], []⟩) (.ite (false == ((c 12).I == 0))
  (.leaf ⟨[[.b false]], []⟩) (.ite (false == smE e16) (.leaf ⟨[[.b false]], []⟩) (.leaf ⟨[[.b false]], []⟩)))))))) (.must (rbE s0 n0) (.defE ⟨[stL c 13, zL], [.lst n0 (rnE s0)]⟩ fun e17 => .ite (false == ((c 3).I == 0))
  (.leaf ⟨[[.b false]], []⟩) (.ite (false == ((c 4).I == 0 && (c 5).I == 0)) (.leaf ⟨[[.b false]], []⟩) (.leaf ⟨[[.b false]], []⟩)))))) (.ite ((c 6).I == 0 && (c 7).I == 0) (.must (rbE s0 n0) (.defE ⟨[stL c 13, zL], [.lst
  n0 (rnE s0)]⟩ fun e18 => .ite (false == ((c 3).I == 0)) (.leaf ⟨[[.b false]], []⟩) (.ite (false == ((c 4).I == 0 && (c 5).I == 0)) (.leaf ⟨[[.b false]], []⟩) (.ite (false == !(c 8).B) (.leaf ⟨[[.b false]], []⟩) (.ite
  (false == ((c 9).I == 0 && ((c 10).I == 0 && (c 11).I == 0))) (.leaf ⟨[[.b false]], []⟩) (.ite (false == ((c 12).I == 0)) (.leaf ⟨[[.b false]], []⟩) (.ite (false == smE e18) (.leaf ⟨[[.b false]], []⟩) (.leaf ⟨[[.b
  false]], []⟩)))))))) (.must (rbE s0 n0) (.defE ⟨[stL c 13, zL], [.lst n0 (rnE s0)]⟩ fun e19 => .ite (false == ((c 3).I == 0)) (.leaf ⟨[[.b false]], []⟩) (.ite (false == ((c 4).I == 0 && (c 5).I == 0)) (.leaf ⟨[[.b
  false]], []⟩) (.leaf ⟨[[.b false]], []⟩)))))))) (.leaf ⟨[[.b false]], []⟩)) (.leaf ⟨[[.b false]], []⟩)) (.leaf ⟨[[.b false]], []⟩))) (.ite (decide ((c 1).I ≥ 10)) (.ite (decide ((c 1).I < 15)) (.ite (decide ((c 2).I ≥
  21)) (.ite (!decide ((c 2).I < 24)) (.leaf ⟨[[.b false]], []⟩) (.ite ((c 1).I == (c 2).I) (.leaf ⟨[[.b false]], []⟩) (.ite ((n1 : Int) == 0) (.ite ((c 62).I == 0) (.ite ((c 63).I == 0) (.must (rbE s2 n2) (.defE ⟨[stL c
  65, zL], [.lst n2 (rnE s2)]⟩ fun e20 => .ite ((c 6).I == 0 && (c 7).I == 0) (.must (rbE s0 n0) (.defE ⟨[stL c 13, zL], [.lst n0 (rnE s0)]⟩ fun e21 => .ite (false == ((c 3).I == 0)) (.leaf ⟨[[.b false]], []⟩) (.ite (false
  == ((c 4).I == 0 && (c 5).I == 0)) (.leaf ⟨[[.b false]], []⟩) (.ite (false == !(c 8).B) (.leaf ⟨[[.b false]], []⟩) (.ite (false == ((c 9).I == 0 && ((c 10).I == 0 && (c 11).I == 0))) (.leaf ⟨[[.b false]], []⟩) (.ite
  (false == ((c 12).I == 0)) (.leaf ⟨[[.b false]], []⟩) (.ite (false == smE e21) (.leaf ⟨[[.b false]], []⟩) (.ite (false == smE e20) (.leaf ⟨[[.b false]], []⟩) (.ite (false == ((c 114).I == 0 && ((c 115).I == 0 && ((c
  116).I == 0 && ((c 117).I == 0 && ((c 118).I == 0 && ((c 119).I == 0 && ((c 120).I == 0 && (c 121).S == (ByteArray.mk #[]))))))))) (.leaf ⟨[[.b false]], []⟩) (.ite (false == ((c 122).I == 0)) (.leaf ⟨[[.b false]], []⟩)
  (.ite (decide ((c 12).I < 4)) (.ite (isOpB (opE ⟨[[.i (c 123).I, .i (c 124).I, .i (c 125).I, .i (c 126).I, .i (c 127).I, .s (c 128).S]], []⟩ 0 0)) (.defI (IntKind.u8.wrap (20 + (c 123).I)) fun z22 => .ite ((c 2).I ==
  z22) (.ite (decide ((c 129).I ≤ 3)) (.leaf ⟨[[.b (decide (((c 130).S.size : Int) ≤ 80))]], []⟩) (.leaf ⟨[[.b false]], []⟩)) (.leaf ⟨[[.b false]], []⟩)) (.leaf ⟨[[.b false]], []⟩)) (.leaf ⟨[[.b false]], []⟩))))))))))))
  (.must (rbE s0 n0) (.defE ⟨[stL c 13, zL], [.lst n0 (rnE s0)]⟩ fun e23 => .ite (false == ((c 3).I == 0)) (.leaf ⟨[[.b false]], []⟩) (.ite (false == ((c 4).I == 0 && (c 5).I == 0)) (.leaf ⟨[[.b false]], []⟩) (.leaf ⟨[[.b
  false]], []⟩)))))) (.ite ((c 6).I == 0 && (c 7).I == 0) (.must (rbE s0 n0) (.defE ⟨[stL c 13, zL], [.lst n0 (rnE s0)]⟩ fun e24 => .ite (false == ((c 3).I == 0)) (.leaf ⟨[[.b false]], []⟩) (.ite (false == ((c 4).I == 0 &&
  (c 5).I == 0)) (.leaf ⟨[[.b false]], []⟩) (.ite (false == !(c 8).B) (.leaf ⟨[[.b false]], []⟩) (.ite (false == ((c 9).I == 0 && ((c 10).I == 0 && (c 11).I == 0))) (.leaf ⟨[[.b false]], []⟩) (.ite (false == ((c 12).I ==
  0)) (.leaf ⟨[[.b false]], []⟩) (.ite (false == smE e24) (.leaf ⟨[[.b false]], []⟩) (.leaf ⟨[[.b false]], []⟩)))))))) (.must (rbE s0 n0) (.defE ⟨[stL c 13, zL], [.lst n0 (rnE s0)]⟩ fun e25 => .ite (false == ((c 3).I ==
  0)) (.leaf ⟨[[.b false]], []⟩) (.ite (false == ((c 4).I == 0 && (c 5).I == 0)) (.leaf ⟨[[.b false]], []⟩) (.leaf ⟨[[.b false]], []⟩)))))) (.ite ((c 6).I == 0 && (c 7).I == 0) (.must (rbE s0 n0) (.defE ⟨[stL c 13, zL],
  [.lst n0 (rnE s0)]⟩ fun e26 => .ite (false == ((c 3).I == 0)) (.leaf ⟨[[.b false]], []⟩) (.ite (false == ((c 4).I == 0 && (c 5).I == 0)) (.leaf ⟨[[.b false]], []⟩) (.ite (false == !(c 8).B) (.leaf ⟨[[.b false]], []⟩)
  (.ite (false == ((c 9).I == 0 && ((c 10).I == 0 && (c 11).I == 0))) (.leaf ⟨[[.b false]], []⟩) (.ite (false == ((c 12).I == 0)) (.leaf ⟨[[.b false]], []⟩) (.ite (false == smE e26) (.leaf ⟨[[.b false]], []⟩) (.leaf ⟨[[.b
  false]], []⟩)))))))) (.must (rbE s0 n0) (.defE ⟨[stL c 13, zL], [.lst n0 (rnE s0)]⟩ fun e27 => .ite (false == ((c 3).I == 0)) (.leaf ⟨[[.b false]], []⟩) (.ite (false == ((c 4).I == 0 && (c 5).I == 0)) (.leaf ⟨[[.b
  false]], []⟩) (.leaf ⟨[[.b false]], []⟩)))))) (.ite ((c 6).I == 0 && (c 7).I == 0) (.must (rbE s0 n0) (.defE ⟨[stL c 13, zL], [.lst n0 (rnE s0)]⟩ fun e28 => .ite (false == ((c 3).I == 0)) (.leaf ⟨[[.b false]], []⟩) (.ite
  (false == ((c 4).I == 0 && (c 5).I == 0)) (.leaf ⟨[[.b false]], []⟩) (.ite (false == !(c 8).B) (.leaf ⟨[[.b false]], []⟩) (.ite (false == ((c 9).I == 0 && ((c 10).I == 0 && (c 11).I == 0))) (.leaf ⟨[[.b false]], []⟩)
  (.ite (false == ((c 12).I == 0)) (.leaf ⟨[[.b false]], []⟩) (.ite (false == smE e28) (.leaf ⟨[[.b false]], []⟩) (.leaf ⟨[[.b false]], []⟩)))))))) (.must (rbE s0 n0) (.defE ⟨[stL c 13, zL], [.lst n0 (rnE s0)]⟩ fun e29 =>
  .ite (false == ((c 3).I == 0)) (.leaf ⟨[[.b false]], []⟩) (.ite (false == ((c 4).I == 0 && (c 5).I == 0)) (.leaf ⟨[[.b false]], []⟩) (.leaf ⟨[[.b false]], []⟩)))))))) (.leaf ⟨[[.b false]], []⟩)) (.leaf ⟨[[.b false]],
  []⟩)) (.leaf ⟨[[.b false]], []⟩))) (.ite (decide ((c 1).I ≥ 10)) (.ite (decide ((c 1).I < 15)) (.ite (decide ((c 2).I ≥ 21)) (.ite (!decide ((c 2).I < 24)) (.leaf ⟨[[.b false]], []⟩) (.ite ((c 1).I == (c 2).I) (.leaf
  ⟨[[.b false]], []⟩) (.ite ((n1 : Int) == 0) (.ite ((c 62).I == 0) (.ite ((c 63).I == 0) (.must (rbE s2 n2) (.defE ⟨[stL c 65, zL], [.lst n2 (rnE s2)]⟩ fun e30 => .ite ((c 6).I == 0 && (c 7).I == 0) (.must (rbE s0 n0)
  (.defE ⟨[stL c 13, zL], [.lst n0 (rnE s0)]⟩ fun e31 => .ite (false == ((c 3).I == 0)) (.leaf ⟨[[.b false]], []⟩) (.ite (false == ((c 4).I == 0 && (c 5).I == 0)) (.leaf ⟨[[.b false]], []⟩) (.ite (false == !(c 8).B) (.leaf
  ⟨[[.b false]], []⟩) (.ite (false == ((c 9).I == 0 && ((c 10).I == 0 && (c 11).I == 0))) (.leaf ⟨[[.b false]], []⟩) (.ite (false == ((c 12).I == 0)) (.leaf ⟨[[.b false]], []⟩) (.ite (false == smE e31) (.leaf ⟨[[.b
  false]], []⟩) (.ite (false == smE e30) (.leaf ⟨[[.b false]], []⟩) (.ite (false == ((c 114).I == 0 && ((c 115).I == 0 && ((c 116).I == 0 && ((c 117).I == 0 && ((c 118).I == 0 && ((c 119).I == 0 && ((c 120).I == 0 && (c
  121).S == (ByteArray.mk #[]))))))))) (.leaf ⟨[[.b false]], []⟩) (.ite (false == ((c 122).I == 0)) (.leaf ⟨[[.b false]], []⟩) (.ite (decide ((c 12).I < 4)) (.ite (isOpB (opE ⟨[[.i (c 123).I, .i (c 124).I, .i (c 125).I, .i
  (c 126).I, .i (c 127).I, .s (c 128).S]], []⟩ 0 0)) (.defI (IntKind.u8.wrap (20 + (c 123).I)) fun z32 => .ite ((c 2).I == z32) (.ite (decide ((c 129).I ≤ 3)) (.leaf ⟨[[.b (decide (((c 130).S.size : Int) ≤ 80))]], []⟩)
  (.leaf ⟨[[.b false]], []⟩)) (.leaf ⟨[[.b false]], []⟩)) (.leaf ⟨[[.b false]], []⟩)) (.leaf ⟨[[.b false]], []⟩)))))))))))) (.must (rbE s0 n0) (.defE ⟨[stL c 13, zL], [.lst n0 (rnE s0)]⟩ fun e33 => .ite (false == ((c 3).I
  == 0)) (.leaf ⟨[[.b false]], []⟩) (.ite (false == ((c 4).I == 0 && (c 5).I == 0)) (.leaf ⟨[[.b false]], []⟩) (.leaf ⟨[[.b false]], []⟩)))))) (.ite ((c 6).I == 0 && (c 7).I == 0) (.must (rbE s0 n0) (.defE ⟨[stL c 13, zL],
  [.lst n0 (rnE s0)]⟩ fun e34 => .ite (false == ((c 3).I == 0)) (.leaf ⟨[[.b false]], []⟩) (.ite (false == ((c 4).I == 0 && (c 5).I == 0)) (.leaf ⟨[[.b false]], []⟩) (.ite (false == !(c 8).B) (.leaf ⟨[[.b false]], []⟩)
  (.ite (false == ((c 9).I == 0 && ((c 10).I == 0 && (c 11).I == 0))) (.leaf ⟨[[.b false]], []⟩) (.ite (false == ((c 12).I == 0)) (.leaf ⟨[[.b false]], []⟩) (.ite (false == smE e34) (.leaf ⟨[[.b false]], []⟩) (.leaf ⟨[[.b
  false]], []⟩)))))))) (.must (rbE s0 n0) (.defE ⟨[stL c 13, zL], [.lst n0 (rnE s0)]⟩ fun e35 => .ite (false == ((c 3).I == 0)) (.leaf ⟨[[.b false]], []⟩) (.ite (false == ((c 4).I == 0 && (c 5).I == 0)) (.leaf ⟨[[.b
  false]], []⟩) (.leaf ⟨[[.b false]], []⟩)))))) (.ite ((c 6).I == 0 && (c 7).I == 0) (.must (rbE s0 n0) (.defE ⟨[stL c 13, zL], [.lst n0 (rnE s0)]⟩ fun e36 => .ite (false == ((c 3).I == 0)) (.leaf ⟨[[.b false]], []⟩) (.ite
  (false == ((c 4).I == 0 && (c 5).I == 0)) (.leaf ⟨[[.b false]], []⟩) (.ite (false == !(c 8).B) (.leaf ⟨[[.b false]], []⟩) (.ite (false == ((c 9).I == 0 && ((c 10).I == 0 && (c 11).I == 0))) (.leaf ⟨[[.b false]], []⟩)
  (.ite (false == ((c 12).I == 0)) (.leaf ⟨[[.b false]], []⟩) (.ite (false == smE e36) (.leaf ⟨[[.b false]], []⟩) (.leaf ⟨[[.b false]], []⟩)))))))) (.must (rbE s0 n0) (.defE ⟨[stL c 13, zL], [.lst n0 (rnE s0)]⟩ fun e37 =>
  .ite (false == ((c 3).I == 0)) (.leaf ⟨[[.b false]], []⟩) (.ite (false == ((c 4).I == 0 && (c 5).I == 0)) (.leaf ⟨[[.b false]], []⟩) (.leaf ⟨[[.b false]], []⟩)))))) (.ite ((c 6).I == 0 && (c 7).I == 0) (.must (rbE s0 n0)
  (.defE ⟨[stL c 13, zL], [.lst n0 (rnE s0)]⟩ fun e38 => .ite (false == ((c 3).I == 0)) (.leaf ⟨[[.b false]], []⟩) (.ite (false == ((c 4).I == 0 && (c 5).I == 0)) (.leaf ⟨[[.b false]], []⟩) (.ite (false == !(c 8).B) (.leaf
  ⟨[[.b false]], []⟩) (.ite (false == ((c 9).I == 0 && ((c 10).I == 0 && (c 11).I == 0))) (.leaf ⟨[[.b false]], []⟩) (.ite (false == ((c 12).I == 0)) (.leaf ⟨[[.b false]], []⟩) (.ite (false == smE e38) (.leaf ⟨[[.b
  false]], []⟩) (.leaf ⟨[[.b false]], []⟩)))))))) (.must (rbE s0 n0) (.defE ⟨[stL c 13, zL], [.lst n0 (rnE s0)]⟩ fun e39 => .ite (false == ((c 3).I == 0)) (.leaf ⟨[[.b false]], []⟩) (.ite (false == ((c 4).I == 0 && (c 5).I
  == 0)) (.leaf ⟨[[.b false]], []⟩) (.leaf ⟨[[.b false]], []⟩)))))))) (.leaf ⟨[[.b false]], []⟩)) (.leaf ⟨[[.b false]], []⟩)) (.leaf ⟨[[.b false]], []⟩))) (.ite (decide ((c 1).I ≥ 10)) (.ite (decide ((c 1).I < 15)) (.ite
  (decide ((c 2).I ≥ 10)) (.ite (decide ((c 1).I ≥ 10)) (.ite (decide ((c 1).I < 15)) (.ite (decide ((c 2).I ≥ 21)) (.ite (!decide ((c 2).I < 24)) (.leaf ⟨[[.b false]], []⟩) (.ite ((c 1).I == (c 2).I) (.leaf ⟨[[.b false]],
  []⟩) (.ite ((n1 : Int) == 0) (.ite ((c 62).I == 0) (.ite ((c 63).I == 0) (.must (rbE s2 n2) (.defE ⟨[stL c 65, zL], [.lst n2 (rnE s2)]⟩ fun e40 => .ite ((c 6).I == 0 && (c 7).I == 0) (.must (rbE s0 n0) (.defE ⟨[stL c 13,
  zL], [.lst n0 (rnE s0)]⟩ fun e41 => .ite (false == ((c 3).I == 0)) (.leaf ⟨[[.b false]], []⟩) (.ite (false == ((c 4).I == 0 && (c 5).I == 0)) (.leaf ⟨[[.b false]], []⟩) (.ite (false == !(c 8).B) (.leaf ⟨[[.b false]],
  []⟩) (.ite (false == ((c 9).I == 0 && ((c 10).I == 0 && (c 11).I == 0))) (.leaf ⟨[[.b false]], []⟩) (.ite (false == ((c 12).I == 0)) (.leaf ⟨[[.b false]], []⟩) (.ite (false == smE e41) (.leaf ⟨[[.b false]], []⟩) (.ite
  (false == smE e40) (.leaf ⟨[[.b false]], []⟩) (.ite (false == ((c 114).I == 0 && ((c 115).I == 0 && ((c 116).I == 0 && ((c 117).I == 0 && ((c 118).I == 0 && ((c 119).I == 0 && ((c 120).I == 0 && (c 121).S ==
  (ByteArray.mk #[]))))))))) (.leaf ⟨[[.b false]], []⟩) (.ite (false == ((c 122).I == 0)) (.leaf ⟨[[.b false]], []⟩) (.ite (decide ((c 12).I < 4)) (.ite (isOpB (opE ⟨[[.i (c 123).I, .i (c 124).I, .i (c 125).I, .i (c
  126).I, .i (c 127).I, .s (c 128).S]], []⟩ 0 0)) (.defI (IntKind.u8.wrap (20 + (c 123).I)) fun z42 => .ite ((c 2).I == z42) (.ite (decide ((c 129).I ≤ 3)) (.leaf ⟨[[.b (decide (((c 130).S.size : Int) ≤ 80))]], []⟩) (.leaf
  ⟨[[.b false]], []⟩)) (.leaf ⟨[[.b false]], []⟩)) (.leaf ⟨[[.b false]], []⟩)) (.leaf ⟨[[.b false]], []⟩)))))))))))) (.must (rbE s0 n0) (.defE ⟨[stL c 13, zL], [.lst n0 (rnE s0)]⟩ fun e43 => .ite (false == ((c 3).I == 0))
  (.leaf ⟨[[.b false]], []⟩) (.ite (false == ((c 4).I == 0 && (c 5).I == 0)) (.leaf ⟨[[.b false]], []⟩) (.leaf ⟨[[.b false]], []⟩)))))) (.ite ((c 6).I == 0 && (c 7).I == 0) (.must (rbE s0 n0) (.defE ⟨[stL c 13, zL], [.lst
  n0 (rnE s0)]⟩ fun e44 => .ite (false == ((c 3).I == 0)) (.leaf ⟨[[.b false]], []⟩) (.ite (false == ((c 4).I == 0 && (c 5).I == 0)) (.leaf ⟨[[.b false]], []⟩) (.ite (false == !(c 8).B) (.leaf ⟨[[.b false]], []⟩) (.ite
  (false == ((c 9).I == 0 && ((c 10).I == 0 && (c 11).I == 0))) (.leaf ⟨[[.b false]], []⟩) (.ite (false == ((c 12).I == 0)) (.leaf ⟨[[.b false]], []⟩) (.ite (false == smE e44) (.leaf ⟨[[.b false]], []⟩) (.leaf ⟨[[.b
  false]], []⟩)))))))) (.must (rbE s0 n0) (.defE ⟨[stL c 13, zL], [.lst n0 (rnE s0)]⟩ fun e45 => .ite (false == ((c 3).I == 0)) (.leaf ⟨[[.b false]], []⟩) (.ite (false == ((c 4).I == 0 && (c 5).I == 0)) (.leaf ⟨[[.b
  false]], []⟩) (.leaf ⟨[[.b false]], []⟩)))))) (.ite ((c 6).I == 0 && (c 7).I == 0) (.must (rbE s0 n0) (.defE ⟨[stL c 13, zL], [.lst n0 (rnE s0)]⟩ fun e46 => .ite (false == ((c 3).I == 0)) (.leaf ⟨[[.b false]], []⟩) (.ite
  (false == ((c 4).I == 0 && (c 5).I == 0)) (.leaf ⟨[[.b false]], []⟩) (.ite (false == !(c 8).B) (.leaf ⟨[[.b false]], []⟩) (.ite (false == ((c 9).I == 0 && ((c 10).I == 0 && (c 11).I == 0))) (.leaf ⟨[[.b false]], []⟩)
  (.ite (false == ((c 12).I == 0)) (.leaf ⟨[[.b false]], []⟩) (.ite (false == smE e46) (.leaf ⟨[[.b false]], []⟩) (.leaf ⟨[[.b false]], []⟩)))))))) (.must (rbE s0 n0) (.defE ⟨[stL c 13, zL], [.lst n0 (rnE s0)]⟩ fun e47 =>
  .ite (false == ((c 3).I == 0)) (.leaf ⟨[[.b false]], []⟩) (.ite (false == ((c 4).I == 0 && (c 5).I == 0)) (.leaf ⟨[[.b false]], []⟩) (.leaf ⟨[[.b false]], []⟩)))))) (.ite ((c 6).I == 0 && (c 7).I == 0) (.must (rbE s0 n0)
  (.defE ⟨[stL c 13, zL], [.lst n0 (rnE s0)]⟩ fun e48 => .ite (false == ((c 3).I == 0)) (.leaf ⟨[[.b false]], []⟩) (.ite (false == ((c 4).I == 0 && (c 5).I == 0)) (.leaf ⟨[[.b false]], []⟩) (.ite (false == !(c 8).B) (.leaf
  ⟨[[.b false]], []⟩) (.ite (false == ((c 9).I == 0 && ((c 10).I == 0 && (c 11).I == 0))) (.leaf ⟨[[.b false]], []⟩) (.ite (false == ((c 12).I == 0)) (.leaf ⟨[[.b false]], []⟩) (.ite (false == smE e48) (.leaf ⟨[[.b
  false]], []⟩) (.leaf ⟨[[.b false]], []⟩)))))))) (.must (rbE s0 n0) (.defE ⟨[stL c 13, zL], [.lst n0 (rnE s0)]⟩ fun e49 => .ite (false == ((c 3).I == 0)) (.leaf ⟨[[.b false]], []⟩) (.ite (false == ((c 4).I == 0 && (c 5).I
  == 0)) (.leaf ⟨[[.b false]], []⟩) (.leaf ⟨[[.b false]], []⟩)))))))) (.leaf ⟨[[.b false]], []⟩)) (.leaf ⟨[[.b false]], []⟩)) (.leaf ⟨[[.b false]], []⟩)) (.ite (decide ((c 1).I ≥ 10)) (.ite (decide ((c 1).I < 15)) (.ite
  (decide ((c 2).I ≥ 21)) (.ite (!decide ((c 2).I < 24)) (.leaf ⟨[[.b false]], []⟩) (.ite ((c 1).I == (c 2).I) (.leaf ⟨[[.b false]], []⟩) (.ite ((n1 : Int) == 0) (.ite ((c 62).I == 0) (.ite ((c 63).I == 0) (.must (rbE s2
  n2) (.defE ⟨[stL c 65, zL], [.lst n2 (rnE s2)]⟩ fun e50 => .ite ((c 6).I == 0 && (c 7).I == 0) (.must (rbE s0 n0) (.defE ⟨[stL c 13, zL], [.lst n0 (rnE s0)]⟩ fun e51 => .ite (false == ((c 3).I == 0)) (.leaf ⟨[[.b
  false]], []⟩) (.ite (false == ((c 4).I == 0 && (c 5).I == 0)) (.leaf ⟨[[.b false]], []⟩) (.ite (false == !(c 8).B) (.leaf ⟨[[.b false]], []⟩) (.ite (false == ((c 9).I == 0 && ((c 10).I == 0 && (c 11).I == 0))) (.leaf
  ⟨[[.b false]], []⟩) (.ite (false == ((c 12).I == 0)) (.leaf ⟨[[.b false]], []⟩) (.ite (false == smE e51) (.leaf ⟨[[.b false]], []⟩) (.ite (false == smE e50) (.leaf ⟨[[.b false]], []⟩) (.ite (false == ((c 114).I == 0 &&
  ((c 115).I == 0 && ((c 116).I == 0 && ((c 117).I == 0 && ((c 118).I == 0 && ((c 119).I == 0 && ((c 120).I == 0 && (c 121).S == (ByteArray.mk #[]))))))))) (.leaf ⟨[[.b false]], []⟩) (.ite (false == ((c 122).I == 0))
  (.leaf ⟨[[.b false]], []⟩) (.ite (decide ((c 12).I < 4)) (.ite (isOpB (opE ⟨[[.i (c 123).I, .i (c 124).I, .i (c 125).I, .i (c 126).I, .i (c 127).I, .s (c 128).S]], []⟩ 0 0)) (.defI (IntKind.u8.wrap (20 + (c 123).I)) fun
  z52 => .ite ((c 2).I == z52) (.ite (decide ((c 129).I ≤ 3)) (.leaf ⟨[[.b (decide (((c 130).S.size : Int) ≤ 80))]], []⟩) (.leaf ⟨[[.b false]], []⟩)) (.leaf ⟨[[.b false]], []⟩)) (.leaf ⟨[[.b false]], []⟩)) (.leaf ⟨[[.b
  false]], []⟩)))))))))))) (.must (rbE s0 n0) (.defE ⟨[stL c 13, zL], [.lst n0 (rnE s0)]⟩ fun e53 => .ite (false == ((c 3).I == 0)) (.leaf ⟨[[.b false]], []⟩) (.ite (false == ((c 4).I == 0 && (c 5).I == 0)) (.leaf ⟨[[.b
  false]], []⟩) (.leaf ⟨[[.b false]], []⟩)))))) (.ite ((c 6).I == 0 && (c 7).I == 0) (.must (rbE s0 n0) (.defE ⟨[stL c 13, zL], [.lst n0 (rnE s0)]⟩ fun e54 => .ite (false == ((c 3).I == 0)) (.leaf ⟨[[.b false]], []⟩) (.ite
  (false == ((c 4).I == 0 && (c 5).I == 0)) (.leaf ⟨[[.b false]], []⟩) (.ite (false == !(c 8).B) (.leaf ⟨[[.b false]], []⟩) (.ite (false == ((c 9).I == 0 && ((c 10).I == 0 && (c 11).I == 0))) (.leaf ⟨[[.b false]], []⟩)
  (.ite (false == ((c 12).I == 0)) (.leaf ⟨[[.b false]], []⟩) (.ite (false == smE e54) (.leaf ⟨[[.b false]], []⟩) (.leaf ⟨[[.b false]], []⟩)))))))) (.must (rbE s0 n0) (.defE ⟨[stL c 13, zL], [.lst n0 (rnE s0)]⟩ fun e55 =>
  .ite (false == ((c 3).I == 0)) (.leaf ⟨[[.b false]], []⟩) (.ite (false == ((c 4).I == 0 && (c 5).I == 0)) (.leaf ⟨[[.b false]], []⟩) (.leaf ⟨[[.b false]], []⟩)))))) (.ite ((c 6).I == 0 && (c 7).I == 0) (.must (rbE s0 n0)
  (.defE ⟨[stL c 13, zL], [.lst n0 (rnE s0)]⟩ fun e56 => .ite (false == ((c 3).I == 0)) (.leaf ⟨[[.b false]], []⟩) (.ite (false == ((c 4).I == 0 && (c 5).I == 0)) (.leaf ⟨[[.b false]], []⟩) (.ite (false == !(c 8).B) (.leaf
  ⟨[[.b false]], []⟩) (.ite (false == ((c 9).I == 0 && ((c 10).I == 0 && (c 11).I == 0))) (.leaf ⟨[[.b false]], []⟩) (.ite (false == ((c 12).I == 0)) (.leaf ⟨[[.b false]], []⟩) (.ite (false == smE e56) (.leaf ⟨[[.b
  false]], []⟩) (.leaf ⟨[[.b false]], []⟩)))))))) (.must (rbE s0 n0) (.defE ⟨[stL c 13, zL], [.lst n0 (rnE s0)]⟩ fun e57 => .ite (false == ((c 3).I == 0)) (.leaf ⟨[[.b false]], []⟩) (.ite (false == ((c 4).I == 0 && (c 5).I
  == 0)) (.leaf ⟨[[.b false]], []⟩) (.leaf ⟨[[.b false]], []⟩)))))) (.ite ((c 6).I == 0 && (c 7).I == 0) (.must (rbE s0 n0) (.defE ⟨[stL c 13, zL], [.lst n0 (rnE s0)]⟩ fun e58 => .ite (false == ((c 3).I == 0)) (.leaf ⟨[[.b
  false]], []⟩) (.ite (false == ((c 4).I == 0 && (c 5).I == 0)) (.leaf ⟨[[.b false]], []⟩) (.ite (false == !(c 8).B) (.leaf ⟨[[.b false]], []⟩) (.ite (false == ((c 9).I == 0 && ((c 10).I == 0 && (c 11).I == 0))) (.leaf
  ⟨[[.b false]], []⟩) (.ite (false == ((c 12).I == 0)) (.leaf ⟨[[.b false]], []⟩) (.ite (false == smE e58) (.leaf ⟨[[.b false]], []⟩) (.leaf ⟨[[.b false]], []⟩)))))))) (.must (rbE s0 n0) (.defE ⟨[stL c 13, zL], [.lst n0
  (rnE s0)]⟩ fun e59 => .ite (false == ((c 3).I == 0)) (.leaf ⟨[[.b false]], []⟩) (.ite (false == ((c 4).I == 0 && (c 5).I == 0)) (.leaf ⟨[[.b false]], []⟩) (.leaf ⟨[[.b false]], []⟩)))))))) (.leaf ⟨[[.b false]], []⟩))
  (.leaf ⟨[[.b false]], []⟩)) (.leaf ⟨[[.b false]], []⟩))) (.ite (decide ((c 1).I ≥ 10)) (.ite (decide ((c 1).I < 15)) (.ite (decide ((c 2).I ≥ 21)) (.ite (!decide ((c 2).I < 24)) (.leaf ⟨[[.b false]], []⟩) (.ite ((c 1).I
  == (c 2).I) (.leaf ⟨[[.b false]], []⟩) (.ite ((n1 : Int) == 0) (.ite ((c 62).I == 0) (.ite ((c 63).I == 0) (.must (rbE s2 n2) (.defE ⟨[stL c 65, zL], [.lst n2 (rnE s2)]⟩ fun e60 => .ite ((c 6).I == 0 && (c 7).I == 0)
  (.must (rbE s0 n0) (.defE ⟨[stL c 13, zL], [.lst n0 (rnE s0)]⟩ fun e61 => .ite (false == ((c 3).I == 0)) (.leaf ⟨[[.b false]], []⟩) (.ite (false == ((c 4).I == 0 && (c 5).I == 0)) (.leaf ⟨[[.b false]], []⟩) (.ite (false
  == !(c 8).B) (.leaf ⟨[[.b false]], []⟩) (.ite (false == ((c 9).I == 0 && ((c 10).I == 0 && (c 11).I == 0))) (.leaf ⟨[[.b false]], []⟩) (.ite (false == ((c 12).I == 0)) (.leaf ⟨[[.b false]], []⟩) (.ite (false == smE e61)
  (.leaf ⟨[[.b false]], []⟩) (.ite (false == smE e60) (.leaf ⟨[[.b false]], []⟩) (.ite (false == ((c 114).I == 0 && ((c 115).I == 0 && ((c 116).I == 0 && ((c 117).I == 0 && ((c 118).I == 0 && ((c 119).I == 0 && ((c 120).I
  == 0 && (c 121).S == (ByteArray.mk #[]))))))))) (.leaf ⟨[[.b false]], []⟩) (.ite (false == ((c 122).I == 0)) (.leaf ⟨[[.b false]], []⟩) (.ite (decide ((c 12).I < 4)) (.ite (isOpB (opE ⟨[[.i (c 123).I, .i (c 124).I, .i (c
  125).I, .i (c 126).I, .i (c 127).I, .s (c 128).S]], []⟩ 0 0)) (.defI (IntKind.u8.wrap (20 + (c 123).I)) fun z62 => .ite ((c 2).I == z62) (.ite (decide ((c 129).I ≤ 3)) (.leaf ⟨[[.b (decide (((c 130).S.size : Int) ≤
  80))]], []⟩) (.leaf ⟨[[.b false]], []⟩)) (.leaf ⟨[[.b false]], []⟩)) (.leaf ⟨[[.b false]], []⟩)) (.leaf ⟨[[.b false]], []⟩)))))))))))) (.must (rbE s0 n0) (.defE ⟨[stL c 13, zL], [.lst n0 (rnE s0)]⟩ fun e63 => .ite (false
  == ((c 3).I == 0)) (.leaf ⟨[[.b false]], []⟩) (.ite (false == ((c 4).I == 0 && (c 5).I == 0)) (.leaf ⟨[[.b false]], []⟩) (.leaf ⟨[[.b false]], []⟩)))))) (.ite ((c 6).I == 0 && (c 7).I == 0) (.must (rbE s0 n0) (.defE
  ⟨[stL c 13, zL], [.lst n0 (rnE s0)]⟩ fun e64 => .ite (false == ((c 3).I == 0)) (.leaf ⟨[[.b false]], []⟩) (.ite (false == ((c 4).I == 0 && (c 5).I == 0)) (.leaf ⟨[[.b false]], []⟩) (.ite (false == !(c 8).B) (.leaf ⟨[[.b
  false]], []⟩) (.ite (false == ((c 9).I == 0 && ((c 10).I == 0 && (c 11).I == 0))) (.leaf ⟨[[.b false]], []⟩) (.ite (false == ((c 12).I == 0)) (.leaf ⟨[[.b false]], []⟩) (.ite (false == smE e64) (.leaf ⟨[[.b false]], []⟩)
  (.leaf ⟨[[.b false]], []⟩)))))))) (.must (rbE s0 n0) (.defE ⟨[stL c 13, zL], [.lst n0 (rnE s0)]⟩ fun e65 => .ite (false == ((c 3).I == 0)) (.leaf ⟨[[.b false]], []⟩) (.ite (false == ((c 4).I == 0 && (c 5).I == 0)) (.leaf
  ⟨[[.b false]], []⟩) (.leaf ⟨[[.b false]], []⟩)))))) (.ite ((c 6).I == 0 && (c 7).I == 0) (.must (rbE s0 n0) (.defE ⟨[stL c 13, zL], [.lst n0 (rnE s0)]⟩ fun e66 => .ite (false == ((c 3).I == 0)) (.leaf ⟨[[.b false]], []⟩)
  (.ite (false == ((c 4).I == 0 && (c 5).I == 0)) (.leaf ⟨[[.b false]], []⟩) (.ite (false == !(c 8).B) (.leaf ⟨[[.b false]], []⟩) (.ite (false == ((c 9).I == 0 && ((c 10).I == 0 && (c 11).I == 0))) (.leaf ⟨[[.b false]],
  []⟩) (.ite (false == ((c 12).I == 0)) (.leaf ⟨[[.b false]], []⟩) (.ite (false == smE e66) (.leaf ⟨[[.b false]], []⟩) (.leaf ⟨[[.b false]], []⟩)))))))) (.must (rbE s0 n0) (.defE ⟨[stL c 13, zL], [.lst n0 (rnE s0)]⟩ fun
  e67 => .ite (false == ((c 3).I == 0)) (.leaf ⟨[[.b false]], []⟩) (.ite (false == ((c 4).I == 0 && (c 5).I == 0)) (.leaf ⟨[[.b false]], []⟩) (.leaf ⟨[[.b false]], []⟩)))))) (.ite ((c 6).I == 0 && (c 7).I == 0) (.must (rbE
  s0 n0) (.defE ⟨[stL c 13, zL], [.lst n0 (rnE s0)]⟩ fun e68 => .ite (false == ((c 3).I == 0)) (.leaf ⟨[[.b false]], []⟩) (.ite (false == ((c 4).I == 0 && (c 5).I == 0)) (.leaf ⟨[[.b false]], []⟩) (.ite (false == !(c 8).B)
  (.leaf ⟨[[.b false]], []⟩) (.ite (false == ((c 9).I == 0 && ((c 10).I == 0 && (c 11).I == 0))) (.leaf ⟨[[.b false]], []⟩) (.ite (false == ((c 12).I == 0)) (.leaf ⟨[[.b false]], []⟩) (.ite (false == smE e68) (.leaf ⟨[[.b
  false]], []⟩) (.leaf ⟨[[.b false]], []⟩)))))))) (.must (rbE s0 n0) (.defE ⟨[stL c 13, zL], [.lst n0 (rnE s0)]⟩ fun e69 => .ite (false == ((c 3).I == 0)) (.leaf ⟨[[.b false]], []⟩) (.ite (false == ((c 4).I == 0 && (c 5).I
  == 0)) (.leaf ⟨[[.b false]], []⟩) (.leaf ⟨[[.b false]], []⟩)))))))) (.leaf ⟨[[.b false]], []⟩)) (.leaf ⟨[[.b false]], []⟩)) (.leaf ⟨[[.b false]], []⟩))) (.ite (decide ((c 1).I ≥ 10)) (.ite (decide ((c 1).I < 15)) (.ite
  (decide ((c 2).I ≥ 21)) (.ite (!decide ((c 2).I < 24)) (.leaf ⟨[[.b false]], []⟩) (.ite ((c 1).I == (c 2).I) (.leaf ⟨[[.b false]], []⟩) (.ite ((n1 : Int) == 0) (.ite ((c 62).I == 0) (.ite ((c 63).I == 0) (.must (rbE s2
  n2) (.defE ⟨[stL c 65, zL], [.lst n2 (rnE s2)]⟩ fun e70 => .ite ((c 6).I == 0 && (c 7).I == 0) (.must (rbE s0 n0) (.defE ⟨[stL c 13, zL], [.lst n0 (rnE s0)]⟩ fun e71 => .ite (false == ((c 3).I == 0)) (.leaf ⟨[[.b
  false]], []⟩) (.ite (false == ((c 4).I == 0 && (c 5).I == 0)) (.leaf ⟨[[.b false]], []⟩) (.ite (false == !(c 8).B) (.leaf ⟨[[.b false]], []⟩) (.ite (false == ((c 9).I == 0 && ((c 10).I == 0 && (c 11).I == 0))) (.leaf
  ⟨[[.b false]], []⟩) (.ite (false == ((c 12).I == 0)) (.leaf ⟨[[.b false]], []⟩) (.ite (false == smE e71) (.leaf ⟨[[.b false]], []⟩) (.ite (false == smE e70) (.leaf ⟨[[.b false]], []⟩) (.ite (false == ((c 114).I == 0 &&
  ((c 115).I == 0 && ((c 116).I == 0 && ((c 117).I == 0 && ((c 118).I == 0 && ((c 119).I == 0 && ((c 120).I == 0 && (c 121).S == (ByteArray.mk #[]))))))))) (.leaf ⟨[[.b false]], []⟩) (.ite (false == ((c 122).I == 0))
  (.leaf ⟨[[.b false]], []⟩) (.ite (decide ((c 12).I < 4)) (.ite (isOpB (opE ⟨[[.i (c 123).I, .i (c 124).I, .i (c 125).I, .i (c 126).I, .i (c 127).I, .s (c 128).S]], []⟩ 0 0)) (.defI (IntKind.u8.wrap (20 + (c 123).I)) fun
  z72 => .ite ((c 2).I == z72) (.ite (decide ((c 129).I ≤ 3)) (.leaf ⟨[[.b (decide (((c 130).S.size : Int) ≤ 80))]], []⟩) (.leaf ⟨[[.b false]], []⟩)) (.leaf ⟨[[.b false]], []⟩)) (.leaf ⟨[[.b false]], []⟩)) (.leaf ⟨[[.b
  false]], []⟩)))))))))))) (.must (rbE s0 n0) (.defE ⟨[stL c 13, zL], [.lst n0 (rnE s0)]⟩ fun e73 => .ite (false == ((c 3).I == 0)) (.leaf ⟨[[.b false]], []⟩) (.ite (false == ((c 4).I == 0 && (c 5).I == 0)) (.leaf ⟨[[.b
  false]], []⟩) (.leaf ⟨[[.b false]], []⟩)))))) (.ite ((c 6).I == 0 && (c 7).I == 0) (.must (rbE s0 n0) (.defE ⟨[stL c 13, zL], [.lst n0 (rnE s0)]⟩ fun e74 => .ite (false == ((c 3).I == 0)) (.leaf ⟨[[.b false]], []⟩) (.ite
  (false == ((c 4).I == 0 && (c 5).I == 0)) (.leaf ⟨[[.b false]], []⟩) (.ite (false == !(c 8).B) (.leaf ⟨[[.b false]], []⟩) (.ite (false == ((c 9).I == 0 && ((c 10).I == 0 && (c 11).I == 0))) (.leaf ⟨[[.b false]], []⟩)
  (.ite (false == ((c 12).I == 0)) (.leaf ⟨[[.b false]], []⟩) (.ite (false == smE e74) (.leaf ⟨[[.b false]], []⟩) (.leaf ⟨[[.b false]], []⟩)))))))) (.must (rbE s0 n0) (.defE ⟨[stL c 13, zL], [.lst n0 (rnE s0)]⟩ fun e75 =>
  .ite (false == ((c 3).I == 0)) (.leaf ⟨[[.b false]], []⟩) (.ite (false == ((c 4).I == 0 && (c 5).I == 0)) (.leaf ⟨[[.b false]], []⟩) (.leaf ⟨[[.b false]], []⟩)))))) (.ite ((c 6).I == 0 && (c 7).I == 0) (.must (rbE s0 n0)
  (.defE ⟨[stL c 13, zL], [.lst n0 (rnE s0)]⟩ fun e76 => .ite (false == ((c 3).I == 0)) (.leaf ⟨[[.b false]], []⟩) (.ite (false == ((c 4).I == 0 && (c 5).I == 0)) (.leaf ⟨[[.b false]], []⟩) (.ite (false == !(c 8).B) (.leaf
  ⟨[[.b false]], []⟩) (.ite (false == ((c 9).I == 0 && ((c 10).I == 0 && (c 11).I == 0))) (.leaf ⟨[[.b false]], []⟩) (.ite (false == ((c 12).I == 0)) (.leaf ⟨[[.b false]], []⟩) (.ite (false == smE e76) (.leaf ⟨[[.b
  false]], []⟩) (.leaf ⟨[[.b false]], []⟩)))))))) (.must (rbE s0 n0) (.defE ⟨[stL c 13, zL], [.lst n0 (rnE s0)]⟩ fun e77 => .ite (false == ((c 3).I == 0)) (.leaf ⟨[[.b false]], []⟩) (.ite (false == ((c 4).I == 0 && (c 5).I
  == 0)) (.leaf ⟨[[.b false]], []⟩) (.leaf ⟨[[.b false]], []⟩)))))) (.ite ((c 6).I == 0 && (c 7).I == 0) (.must (rbE s0 n0) (.defE ⟨[stL c 13, zL], [.lst n0 (rnE s0)]⟩ fun e78 => .ite (false == ((c 3).I == 0)) (.leaf ⟨[[.b
  false]], []⟩) (.ite (false == ((c 4).I == 0 && (c 5).I == 0)) (.leaf ⟨[[.b false]], []⟩) (.ite (false == !(c 8).B) (.leaf ⟨[[.b false]], []⟩) (.ite (false == ((c 9).I == 0 && ((c 10).I == 0 && (c 11).I == 0))) (.leaf
  ⟨[[.b false]], []⟩) (.ite (false == ((c 12).I == 0)) (.leaf ⟨[[.b false]], []⟩) (.ite (false == smE e78) (.leaf ⟨[[.b false]], []⟩) (.leaf ⟨[[.b false]], []⟩)))))))) (.must (rbE s0 n0) (.defE ⟨[stL c 13, zL], [.lst n0
  (rnE s0)]⟩ fun e79 => .ite (false == ((c 3).I == 0)) (.leaf ⟨[[.b false]], []⟩) (.ite (false == ((c 4).I == 0 && (c 5).I == 0)) (.leaf ⟨[[.b false]], []⟩) (.leaf ⟨[[.b false]], []⟩)))))))) (.leaf ⟨[[.b false]], []⟩))
  (.leaf ⟨[[.b false]], []⟩)) (.leaf ⟨[[.b false]], []⟩))) := by kernel_rfl
theorem k24_16 (c : Nat → Num) (n0 : Nat) (s0 : Nat → List Num) (n1 : Nat) (s1 : Nat → List Num) (n2 : Nat) (s2 : Nat → List Num) : ∃ b, b = b24 c n0 s0 n1 s1 n2 s2 ∧ StdX Try.prog 24 (mT (.il .u8 16)) (mE c n0 s0 n1 s1 n2 s2) (tYN 3) ⟨[[.b b]], []⟩ := by
  refine stdX_exB (Q := fun b => b = b24 c n0 s0 n1 s1 n2 s2) ecTab mixed (n := 400) rfl (holds_of_eq (m24_16 c n0 s0 n1 s1 n2 s2) ?_)
  (repeat' with_reducible (first | refine holds_inE ?_ | refine holds_inI ?_ | refine holds_inB ?_ | refine holds_must (rbE_ok _ _) ?_ | refine holds_ite (fun _ => ?_) (fun _ => ?_)))
  all_goals refine holds_leaf ?_
  all_goals try simp only [Bool.false_beq, Bool.not_not, Bool.not_eq_true', Bool.not_eq_false'] at *
  all_goals first
    | (show false = _; simp only [b24, *, Bool.not_true, Bool.not_false, cond_true, cond_false, Bool.true_and, Bool.and_true, Bool.false_and, Bool.and_false, Bool.true_or, Bool.or_true, Bool.false_or, Bool.or_false]; done)
    | (show decide _ = _; simp only [b24, *, Bool.not_true, Bool.not_false, cond_true, cond_false, Bool.true_and, Bool.and_true, Bool.false_and, Bool.and_false, Bool.true_or, Bool.or_true, Bool.false_or, Bool.or_false]; done)
    | (exfalso; simp only [beq_iff_eq, beq_eq_false_iff_ne, decide_eq_true_eq, decide_eq_false_iff_not] at *; omega)
theorem m28_16 (c : Nat → Num) (n0 : Nat) (s0 : Nat → List Num) (n1 : Nat) (s1 : Nat → List Num) (n2 : Nat) (s2 : Nat → List Num) : callW Try.prog (codeT Try.prog ecT 400) 28 ((mT (.il .u8 16)).vals (mE c n0 s0 n1 s1 n2 s2)) ((mT (.il .u8 16)).heap (mE c n0 s0 n1 s1 n2 s2)) 3 (outV 3 (tYN 3)) =
  .ite (decide ((c 1).I ≥ 10)) (.ite (decide ((c 1).I < 15)) (.ite (decide ((c 2).I ≥ 21)) (.ite (!decide ((c 2).I < 24)) (.leaf ⟨[[.b false]], []⟩) (.ite ((c 1).I == (c 2).I) (.leaf ⟨[[.b false]], []⟩) (.ite ((c 3).I ==
  0) (.ite ((c 4).I == 0 && (c 5).I == 0) (.ite ((c 6).I == 0 && (c 7).I == 0) (.ite (!(c 8).B) (.ite ((c 9).I == 0 && ((c 10).I == 0 && (c 11).I == 0)) (.ite ((c 12).I == 0) (.must (rbE s0 n0) (.defE ⟨[stL c 13, zL],
  [.lst n0 (rnE s0)]⟩ fun e0 => .ite (smE e0) (.ite ((c 62).I == 0) (.ite ((c 63).I == 0) (.ite ((n1 : Int) == 0) (.must (rbE s2 n2) (.defE ⟨[stL c 65, zL], [.lst n2 (rnE s2)]⟩ fun e1 => .ite (smE e1) (.ite ((c 114).I == 0
  && ((c 115).I == 0 && ((c 116).I == 0 && ((c 117).I == 0 && ((c 118).I == 0 && ((c 119).I == 0 && ((c 120).I == 0 && (c 121).S == (ByteArray.mk #[])))))))) (.ite ((c 122).I == 0) (.ite (decide ((c 3).I ≥ 2)) (.ite
  (decide ((c 3).I ≥ 1)) (.ite (decide ((c 3).I ≤ 60)) (.ite (isOpR (opE ⟨[[.i (c 123).I, .i (c 124).I, .i (c 125).I, .i (c 126).I, .i (c 127).I, .s (c 128).S]], []⟩ 0 0)) (.defI (IntKind.u8.wrap ((c 2).I - 20)) fun z2 =>
  .ite ((c 123).I == z2) (.ite (decide ((c 129).I ≤ 3)) (.leaf ⟨[[.b (decide (((c 130).S.size : Int) ≤ 80))]], []⟩) (.leaf ⟨[[.b false]], []⟩)) (.leaf ⟨[[.b false]], []⟩)) (.leaf ⟨[[.b false]], []⟩)) (.ite (isOpR (opE
  ⟨[[.i (c 123).I, .i (c 124).I, .i (c 125).I, .i (c 126).I, .i (c 127).I, .s (c 128).S]], []⟩ 0 0)) (.defI (IntKind.u8.wrap ((c 2).I - 20)) fun z3 => .ite ((c 123).I == z3) (.ite (decide ((c 129).I ≤ 3)) (.leaf ⟨[[.b
  (decide (((c 130).S.size : Int) ≤ 80))]], []⟩) (.leaf ⟨[[.b false]], []⟩)) (.leaf ⟨[[.b false]], []⟩)) (.leaf ⟨[[.b false]], []⟩))) (.ite (isOpR (opE ⟨[[.i (c 123).I, .i (c 124).I, .i (c 125).I, .i (c 126).I, .i (c
  127).I, .s (c 128).S]], []⟩ 0 0)) (.defI (IntKind.u8.wrap ((c 2).I - 20)) fun z4 => .ite ((c 123).I == z4) (.ite (decide ((c 129).I ≤ 3)) (.leaf ⟨[[.b (decide (((c 130).S.size : Int) ≤ 80))]], []⟩) (.leaf ⟨[[.b false]],
  []⟩)) (.leaf ⟨[[.b false]], []⟩)) (.leaf ⟨[[.b false]], []⟩))) (.ite (decide ((c 3).I ≥ 1)) (.ite (decide ((c 3).I ≤ 60)) (.ite (isOpR (opE ⟨[[.i (c 123).I, .i (c 124).I, .i (c 125).I, .i (c 126).I, .i (c 127).I, .s (c
  128).S]], []⟩ 0 0)) (.defI (IntKind.u8.wrap ((c 2).I - 20)) fun z5 => .ite ((c 123).I == z5) (.ite (decide ((c 129).I ≤ 3)) (.leaf ⟨[[.b (decide (((c 130).S.size : Int) ≤ 80))]], []⟩) (.leaf ⟨[[.b false]], []⟩)) (.leaf
  ⟨[[.b false]], []⟩)) (.leaf ⟨[[.b false]], []⟩)) (.ite (isOpR (opE ⟨[[.i (c 123).I, .i (c 124).I, .i (c 125).I, .i (c 126).I, .i (c 127).I, .s (c 128).S]], []⟩ 0 0)) (.defI (IntKind.u8.wrap ((c 2).I - 20)) fun z6 => .ite
  ((c 123).I == z6) (.ite (decide ((c 129).I ≤ 3)) (.leaf ⟨[[.b (decide (((c 130).S.size : Int) ≤ 80))]], []⟩) (.leaf ⟨[[.b false]], []⟩)) (.leaf ⟨[[.b false]], []⟩)) (.leaf ⟨[[.b false]], []⟩))) (.ite (isOpR (opE ⟨[[.i (c
  123).I, .i (c 124).I, .i (c 125).I, .i (c 126).I, .i (c 127).I, .s (c 128).S]], []⟩ 0 0)) (.defI (IntKind.u8.wrap ((c 2).I - 20)) fun z7 => .ite ((c 123).I == z7) (.ite (decide ((c 129).I ≤ 3)) (.leaf ⟨[[.b (decide (((c
  130).S.size : Int) ≤ 80))]], []⟩) (.leaf ⟨[[.b false]], []⟩)) (.leaf ⟨[[.b false]], []⟩)) (.leaf ⟨[[.b false]], []⟩)))) (.leaf ⟨[[.b false]], []⟩)) (.leaf ⟨[[.b false]], []⟩)) (.leaf ⟨[[.b false]], []⟩))) (.leaf ⟨[[.b
  false]], []⟩)) (.leaf ⟨[[.b false]], []⟩)) (.leaf ⟨[[.b false]], []⟩)) (.leaf ⟨[[.b false]], []⟩))) (.leaf ⟨[[.b false]], []⟩)) (.leaf ⟨[[.b false]], []⟩)) (.leaf ⟨[[.b false]], []⟩)) (.leaf ⟨[[.b false]], []⟩)) (.leaf
  ⟨[[.b false]], []⟩)) (.leaf ⟨[[.b false]], []⟩)))) (.leaf ⟨[[.b false]], []⟩)) (.leaf ⟨[[.b false]], []⟩)) (.leaf ⟨[[.b false]], []⟩) := by kernel_rfl
theorem k28_16 (c : Nat → Num) (n0 : Nat) (s0 : Nat → List Num) (n1 : Nat) (s1 : Nat → List Num) (n2 : Nat) (s2 : Nat → List Num) : ∃ b, b = b28 c n0 s0 n1 s1 n2 s2 ∧ StdX Try.prog 28 (mT (.il .u8 16)) (mE c n0 s0 n1 s1 n2 s2) (tYN 3) ⟨[[.b b]], []⟩ := by
  refine stdX_exB (Q := fun b => b = b28 c n0 s0 n1 s1 n2 s2) ecTab mixed (n := 400) rfl (holds_of_eq (m28_16 c n0 s0 n1 s1 n2 s2) ?_)
  (repeat' with_reducible (first | refine holds_inE ?_ | refine holds_inI ?_ | refine holds_inB ?_ | refine holds_must (rbE_ok _ _) ?_ | refine holds_ite (fun _ => ?_) (fun _ => ?_)))
  all_goals refine holds_leaf ?_
  all_goals try simp only [Bool.false_beq, Bool.not_not, Bool.not_eq_true', Bool.not_eq_false'] at *
  all_goals first
    | (show false = _; simp only [b28, *, Bool.not_true, Bool.not_false, cond_true, cond_false, Bool.true_and, Bool.and_true, Bool.false_and, Bool.and_false, Bool.true_or, Bool.or_true, Bool.false_or, Bool.or_false]; done)
    | (show decide _ = _; simp only [b28, *, Bool.not_true, Bool.not_false, cond_true, cond_false, Bool.true_and, Bool.and_true, Bool.false_and, Bool.and_false, Bool.true_or, Bool.or_true, Bool.false_or, Bool.or_false]; done)
    | (exfalso; simp only [beq_iff_eq, beq_eq_false_iff_ne, decide_eq_true_eq, decide_eq_false_iff_not] at *; omega)
def pre2 {R : Type} : Tree R → Option (Bool × R × Bool × R)
  | .ite c (.leaf a) (.ite d (.leaf b) _) => some (c, a, d, b)
  | _ => none
noncomputable def body24 : Code := Try.f24.body.getD .skip
def r24 : TS := ⟨[2], [.one .b], [], 3⟩
def e24 : TS := ⟨[], [], [], 3⟩
theorem o24 (c : Nat → Num) (n0 : Nat) (s0 : Nat → List Num) (n1 : Nat) (s1 : Nat → List Num) (n2 : Nat) (s2 : Nat → List Num) (τ0 : Tm) : codeT Try.prog ecT 400 24 Try.f24.ntmps (Eng.ofL ((flat body24).take 3)) (argTm 0 ((mT (.i .u8)).vals (mE c n0 s0 n1 s1 n2 s2)) ++ τ0) ((mT (.i .u8)).heap (mE c n0 s0 n1 s1 n2 s2)) 3 (outX 3 ⟨some e24, [], some r24⟩) =
  .ite (decide ((c 1).I < 3)) (.ite (decide ((c 1).I ≥ 10)) (.ite (decide ((c 1).I < 15)) (.ite (decide ((c 2).I ≥ 10)) (.ite ((c 0).I == 1) (.ite (!decide ((c 2).I < 3)) (.leaf (.ret, ⟨[[.b false]], []⟩)) (.ite ((c 1).I
  == (c 2).I) (.leaf (.ret, ⟨[[.b false]], []⟩)) (.leaf (.normal, ⟨[], []⟩)))) (.ite ((c 0).I == 2) (.ite (!decide ((c 2).I < 3)) (.leaf (.ret, ⟨[[.b false]], []⟩)) (.ite ((c 1).I == (c 2).I) (.leaf (.ret, ⟨[[.b false]],
  []⟩)) (.leaf (.normal, ⟨[], []⟩)))) (.ite ((c 0).I == 3) (.ite (!decide ((c 2).I < 3)) (.leaf (.ret, ⟨[[.b false]], []⟩)) (.ite ((c 1).I == (c 2).I) (.leaf (.ret, ⟨[[.b false]], []⟩)) (.leaf (.normal, ⟨[], []⟩)))) (.ite
  ((c 0).I == 4) (.ite (!decide ((c 2).I < 3)) (.leaf (.ret, ⟨[[.b false]], []⟩)) (.ite ((c 1).I == (c 2).I) (.leaf (.ret, ⟨[[.b false]], []⟩)) (.leaf (.normal, ⟨[], []⟩)))) (.ite ((c 0).I == 18) (.ite (!decide ((c 2).I <
  3)) (.leaf (.ret, ⟨[[.b false]], []⟩)) (.ite ((c 1).I == (c 2).I) (.leaf (.ret, ⟨[[.b false]], []⟩)) (.leaf (.normal, ⟨[], []⟩)))) (.ite ((c 0).I == 5) (.ite (decide ((c 2).I < 3)) (.ite ((c 1).I == (c 2).I) (.leaf
  (.ret, ⟨[[.b false]], []⟩)) (.leaf (.normal, ⟨[], []⟩))) (.ite (decide ((c 1).I < 3)) (.ite (decide ((c 2).I ≥ 10)) (.ite (!decide ((c 2).I < 15)) (.leaf (.ret, ⟨[[.b false]], []⟩)) (.ite ((c 1).I == (c 2).I) (.leaf
  (.ret, ⟨[[.b false]], []⟩)) (.leaf (.normal, ⟨[], []⟩)))) (.leaf (.ret, ⟨[[.b false]], []⟩))) (.leaf (.ret, ⟨[[.b false]], []⟩)))) (.ite ((c 0).I == 6) (.ite (decide ((c 2).I < 3)) (.ite ((c 1).I == (c 2).I) (.leaf
  (.ret, ⟨[[.b false]], []⟩)) (.leaf (.normal, ⟨[], []⟩))) (.ite (decide ((c 1).I ≥ 10)) (.ite (decide ((c 1).I < 15)) (.ite (!decide ((c 2).I < 3)) (.leaf (.ret, ⟨[[.b false]], []⟩)) (.ite ((c 1).I == (c 2).I) (.leaf
  (.ret, ⟨[[.b false]], []⟩)) (.leaf (.normal, ⟨[], []⟩)))) (.leaf (.ret, ⟨[[.b false]], []⟩))) (.leaf (.ret, ⟨[[.b false]], []⟩)))) (.ite ((c 0).I == 17) (.ite (decide ((c 1).I ≥ 10)) (.ite (decide ((c 1).I < 15)) (.ite
  (!decide ((c 2).I < 3)) (.leaf (.ret, ⟨[[.b false]], []⟩)) (.ite ((c 1).I == (c 2).I) (.leaf (.ret, ⟨[[.b false]], []⟩)) (.leaf (.normal, ⟨[], []⟩)))) (.leaf (.ret, ⟨[[.b false]], []⟩))) (.leaf (.ret, ⟨[[.b false]],
  []⟩))) (.ite ((c 0).I == 15) (.ite (decide ((c 1).I ≥ 21)) (.ite (decide ((c 1).I < 24)) (.ite (decide ((c 2).I ≥ 10)) (.ite (!decide ((c 2).I < 15)) (.leaf (.ret, ⟨[[.b false]], []⟩)) (.ite ((c 1).I == (c 2).I) (.leaf
  (.ret, ⟨[[.b false]], []⟩)) (.leaf (.normal, ⟨[], []⟩)))) (.leaf (.ret, ⟨[[.b false]], []⟩))) (.leaf (.ret, ⟨[[.b false]], []⟩))) (.leaf (.ret, ⟨[[.b false]], []⟩))) (.ite ((c 0).I == 16) (.ite (decide ((c 1).I ≥ 10))
  (.ite (decide ((c 1).I < 15)) (.ite (decide ((c 2).I ≥ 21)) (.ite (!decide ((c 2).I < 24)) (.leaf (.ret, ⟨[[.b false]], []⟩)) (.ite ((c 1).I == (c 2).I) (.leaf (.ret, ⟨[[.b false]], []⟩)) (.leaf (.normal, ⟨[], []⟩))))
  (.leaf (.ret, ⟨[[.b false]], []⟩))) (.leaf (.ret, ⟨[[.b false]], []⟩))) (.leaf (.ret, ⟨[[.b false]], []⟩))) (.ite (decide ((c 0).I ≥ 7)) (.ite (decide ((c 0).I ≤ 14)) (.ite (!decide ((c 2).I < 15)) (.leaf (.ret, ⟨[[.b
  false]], []⟩)) (.ite ((c 1).I == (c 2).I) (.leaf (.ret, ⟨[[.b false]], []⟩)) (.leaf (.normal, ⟨[], []⟩)))) (.leaf (.ret, ⟨[[.b false]], []⟩))) (.leaf (.ret, ⟨[[.b false]], []⟩))))))))))))) (.ite ((c 0).I == 1) (.ite
  (!decide ((c 2).I < 3)) (.leaf (.ret, ⟨[[.b false]], []⟩)) (.ite ((c 1).I == (c 2).I) (.leaf (.ret, ⟨[[.b false]], []⟩)) (.leaf (.normal, ⟨[], []⟩)))) (.ite ((c 0).I == 2) (.ite (!decide ((c 2).I < 3)) (.leaf (.ret,
  ⟨[[.b false]], []⟩)) (.ite ((c 1).I == (c 2).I) (.leaf (.ret, ⟨[[.b false]], []⟩)) (.leaf (.normal, ⟨[], []⟩)))) (.ite ((c 0).I == 3) (.ite (!decide ((c 2).I < 3)) (.leaf (.ret, ⟨[[.b false]], []⟩)) (.ite ((c 1).I == (c
  2).I) (.leaf (.ret, ⟨[[.b false]], []⟩)) (.leaf (.normal, ⟨[], []⟩)))) (.ite ((c 0).I == 4) (.ite (!decide ((c 2).I < 3)) (.leaf (.ret, ⟨[[.b false]], []⟩)) (.ite ((c 1).I == (c 2).I) (.leaf (.ret, ⟨[[.b false]], []⟩))
  (.leaf (.normal, ⟨[], []⟩)))) (.ite ((c 0).I == 18) (.ite (!decide ((c 2).I < 3)) (.leaf (.ret, ⟨[[.b false]], []⟩)) (.ite ((c 1).I == (c 2).I) (.leaf (.ret, ⟨[[.b false]], []⟩)) (.leaf (.normal, ⟨[], []⟩)))) (.ite ((c
  0).I == 5) (.ite (decide ((c 2).I < 3)) (.ite ((c 1).I == (c 2).I) (.leaf (.ret, ⟨[[.b false]], []⟩)) (.leaf (.normal, ⟨[], []⟩))) (.ite (decide ((c 1).I < 3)) (.ite (decide ((c 2).I ≥ 10)) (.ite (!decide ((c 2).I < 15))
  (.leaf (.ret, ⟨[[.b false]], []⟩)) (.ite ((c 1).I == (c 2).I) (.leaf (.ret, ⟨[[.b false]], []⟩)) (.leaf (.normal, ⟨[], []⟩)))) (.leaf (.ret, ⟨[[.b false]], []⟩))) (.leaf (.ret, ⟨[[.b false]], []⟩)))) (.ite ((c 0).I == 6)
  (.ite (decide ((c 2).I < 3)) (.ite ((c 1).I == (c 2).I) (.leaf (.ret, ⟨[[.b false]], []⟩)) (.leaf (.normal, ⟨[], []⟩))) (.ite (decide ((c 1).I ≥ 10)) (.ite (decide ((c 1).I < 15)) (.ite (!decide ((c 2).I < 3)) (.leaf
  (.ret, ⟨[[.b false]], []⟩)) (.ite ((c 1).I == (c 2).I) (.leaf (.ret, ⟨[[.b false]], []⟩)) (.leaf (.normal, ⟨[], []⟩)))) (.leaf (.ret, ⟨[[.b false]], []⟩))) (.leaf (.ret, ⟨[[.b false]], []⟩)))) (.ite ((c 0).I == 17) (.ite
  (decide ((c 1).I ≥ 10)) (.ite (decide ((c 1).I < 15)) (.ite (!decide ((c 2).I < 3)) (.leaf (.ret, ⟨[[.b false]], []⟩)) (.ite ((c 1).I == (c 2).I) (.leaf (.ret, ⟨[[.b false]], []⟩)) (.leaf (.normal, ⟨[], []⟩)))) (.leaf
  (.ret, ⟨[[.b false]], []⟩))) (.leaf (.ret, ⟨[[.b false]], []⟩))) (.ite ((c 0).I == 15) (.ite (decide ((c 1).I ≥ 21)) (.ite (decide ((c 1).I < 24)) (.ite (decide ((c 2).I ≥ 10)) (.ite (!decide ((c 2).I < 15)) (.leaf
  (.ret, ⟨[[.b false]], []⟩)) (.ite ((c 1).I == (c 2).I) (.leaf (.ret, ⟨[[.b false]], []⟩)) (.leaf (.normal, ⟨[], []⟩)))) (.leaf (.ret, ⟨[[.b false]], []⟩))) (.leaf (.ret, ⟨[[.b false]], []⟩))) (.leaf (.ret, ⟨[[.b false]],
  []⟩))) (.ite ((c 0).I == 16) (.ite (decide ((c 1).I ≥ 10)) (.ite (decide ((c 1).I < 15)) (.ite (decide ((c 2).I ≥ 21)) (.ite (!decide ((c 2).I < 24)) (.leaf (.ret, ⟨[[.b false]], []⟩)) (.ite ((c 1).I == (c 2).I) (.leaf
  (.ret, ⟨[[.b false]], []⟩)) (.leaf (.normal, ⟨[], []⟩)))) (.leaf (.ret, ⟨[[.b false]], []⟩))) (.leaf (.ret, ⟨[[.b false]], []⟩))) (.leaf (.ret, ⟨[[.b false]], []⟩))) (.ite (decide ((c 0).I ≥ 7)) (.ite (decide ((c 0).I ≤
  14)) (.leaf (.ret, ⟨[[.b false]], []⟩)) (.leaf (.ret, ⟨[[.b false]], []⟩))) (.leaf (.ret, ⟨[[.b false]], []⟩)))))))))))))) (.ite ((c 0).I == 1) (.ite (!decide ((c 2).I < 3)) (.leaf (.ret, ⟨[[.b false]], []⟩)) (.ite ((c
  1).I == (c 2).I) (.leaf (.ret, ⟨[[.b false]], []⟩)) (.leaf (.normal, ⟨[], []⟩)))) (.ite ((c 0).I == 2) (.ite (!decide ((c 2).I < 3)) (.leaf (.ret, ⟨[[.b false]], []⟩)) (.ite ((c 1).I == (c 2).I) (.leaf (.ret, ⟨[[.b
  false]], []⟩)) (.leaf (.normal, ⟨[], []⟩)))) (.ite ((c 0).I == 3) (.ite (!decide ((c 2).I < 3)) (.leaf (.ret, ⟨[[.b false]], []⟩)) (.ite ((c 1).I == (c 2).I) (.leaf (.ret, ⟨[[.b false]], []⟩)) (.leaf (.normal, ⟨[],
  []⟩)))) (.ite ((c 0).I == 4) (.ite (!decide ((c 2).I < 3)) (.leaf (.ret, ⟨[[.b false]], []⟩)) (.ite ((c 1).I == (c 2).I) (.leaf (.ret, ⟨[[.b false]], []⟩)) (.leaf (.normal, ⟨[], []⟩)))) (.ite ((c 0).I == 18) (.ite
  (!decide ((c 2).I < 3)) (.leaf (.ret, ⟨[[.b false]], []⟩)) (.ite ((c 1).I == (c 2).I) (.leaf (.ret, ⟨[[.b false]], []⟩)) (.leaf (.normal, ⟨[], []⟩)))) (.ite ((c 0).I == 5) (.ite (decide ((c 2).I < 3)) (.ite ((c 1).I ==
  (c 2).I) (.leaf (.ret, ⟨[[.b false]], []⟩)) (.leaf (.normal, ⟨[], []⟩))) (.ite (decide ((c 1).I < 3)) (.ite (decide ((c 2).I ≥ 10)) (.ite (!decide ((c 2).I < 15)) (.leaf (.ret, ⟨[[.b false]], []⟩)) (.ite ((c 1).I == (c
  2).I) (.leaf (.ret, ⟨[[.b false]], []⟩)) (.leaf (.normal, ⟨[], []⟩)))) (.leaf (.ret, ⟨[[.b false]], []⟩))) (.leaf (.ret, ⟨[[.b false]], []⟩)))) (.ite ((c 0).I == 6) (.ite (decide ((c 2).I < 3)) (.ite ((c 1).I == (c 2).I)
  (.leaf (.ret, ⟨[[.b false]], []⟩)) (.leaf (.normal, ⟨[], []⟩))) (.ite (decide ((c 1).I ≥ 10)) (.ite (decide ((c 1).I < 15)) (.ite (!decide ((c 2).I < 3)) (.leaf (.ret, ⟨[[.b false]], []⟩)) (.ite ((c 1).I == (c 2).I)
  (.leaf (.ret, ⟨[[.b false]], []⟩)) (.leaf (.normal, ⟨[], []⟩)))) (.leaf (.ret, ⟨[[.b false]], []⟩))) (.leaf (.ret, ⟨[[.b false]], []⟩)))) (.ite ((c 0).I == 17) (.ite (decide ((c 1).I ≥ 10)) (.ite (decide ((c 1).I < 15))
  (.ite (!decide ((c 2).I < 3)) (.leaf (.ret, ⟨[[.b false]], []⟩)) (.ite ((c 1).I == (c 2).I) (.leaf (.ret, ⟨[[.b false]], []⟩)) (.leaf (.normal, ⟨[], []⟩)))) (.leaf (.ret, ⟨[[.b false]], []⟩))) (.leaf (.ret, ⟨[[.b
  false]], []⟩))) (.ite ((c 0).I == 15) (.ite (decide ((c 1).I ≥ 21)) (.ite (decide ((c 1).I < 24)) (.ite (decide ((c 2).I ≥ 10)) (.ite (!decide ((c 2).I < 15)) (.leaf (.ret, ⟨[[.b false]], []⟩)) (.ite ((c 1).I == (c 2).I)
  (.leaf (.ret, ⟨[[.b false]], []⟩)) (.leaf (.normal, ⟨[], []⟩)))) (.leaf (.ret, ⟨[[.b false]], []⟩))) (.leaf (.ret, ⟨[[.b false]], []⟩))) (.leaf (.ret, ⟨[[.b false]], []⟩))) (.ite ((c 0).I == 16) (.ite (decide ((c 1).I ≥
  10)) (.ite (decide ((c 1).I < 15)) (.ite (decide ((c 2).I ≥ 21)) (.ite (!decide ((c 2).I < 24)) (.leaf (.ret, ⟨[[.b false]], []⟩)) (.ite ((c 1).I == (c 2).I) (.leaf (.ret, ⟨[[.b false]], []⟩)) (.leaf (.normal, ⟨[],
  []⟩)))) (.leaf (.ret, ⟨[[.b false]], []⟩))) (.leaf (.ret, ⟨[[.b false]], []⟩))) (.leaf (.ret, ⟨[[.b false]], []⟩))) (.ite (decide ((c 0).I ≥ 7)) (.ite (decide ((c 0).I ≤ 14)) (.leaf (.ret, ⟨[[.b false]], []⟩)) (.leaf
  (.ret, ⟨[[.b false]], []⟩))) (.leaf (.ret, ⟨[[.b false]], []⟩)))))))))))))) (.ite ((c 0).I == 1) (.ite (!decide ((c 2).I < 3)) (.leaf (.ret, ⟨[[.b false]], []⟩)) (.ite ((c 1).I == (c 2).I) (.leaf (.ret, ⟨[[.b false]],
  []⟩)) (.leaf (.normal, ⟨[], []⟩)))) (.ite ((c 0).I == 2) (.ite (!decide ((c 2).I < 3)) (.leaf (.ret, ⟨[[.b false]], []⟩)) (.ite ((c 1).I == (c 2).I) (.leaf (.ret, ⟨[[.b false]], []⟩)) (.leaf (.normal, ⟨[], []⟩)))) (.ite
  ((c 0).I == 3) (.ite (!decide ((c 2).I < 3)) (.leaf (.ret, ⟨[[.b false]], []⟩)) (.ite ((c 1).I == (c 2).I) (.leaf (.ret, ⟨[[.b false]], []⟩)) (.leaf (.normal, ⟨[], []⟩)))) (.ite ((c 0).I == 4) (.ite (!decide ((c 2).I <
  3)) (.leaf (.ret, ⟨[[.b false]], []⟩)) (.ite ((c 1).I == (c 2).I) (.leaf (.ret, ⟨[[.b false]], []⟩)) (.leaf (.normal, ⟨[], []⟩)))) (.ite ((c 0).I == 18) (.ite (!decide ((c 2).I < 3)) (.leaf (.ret, ⟨[[.b false]], []⟩))
  (.ite ((c 1).I == (c 2).I) (.leaf (.ret, ⟨[[.b false]], []⟩)) (.leaf (.normal, ⟨[], []⟩)))) (.ite ((c 0).I == 5) (.ite (decide ((c 2).I < 3)) (.ite ((c 1).I == (c 2).I) (.leaf (.ret, ⟨[[.b false]], []⟩)) (.leaf (.normal,
  ⟨[], []⟩))) (.ite (decide ((c 1).I < 3)) (.ite (decide ((c 2).I ≥ 10)) (.ite (!decide ((c 2).I < 15)) (.leaf (.ret, ⟨[[.b false]], []⟩)) (.ite ((c 1).I == (c 2).I) (.leaf (.ret, ⟨[[.b false]], []⟩)) (.leaf (.normal, ⟨[],
  []⟩)))) (.leaf (.ret, ⟨[[.b false]], []⟩))) (.leaf (.ret, ⟨[[.b false]], []⟩)))) (.ite ((c 0).I == 6) (.ite (decide ((c 2).I < 3)) (.ite ((c 1).I == (c 2).I) (.leaf (.ret, ⟨[[.b false]], []⟩)) (.leaf (.normal, ⟨[],
  []⟩))) (.ite (decide ((c 1).I ≥ 10)) (.ite (decide ((c 1).I < 15)) (.ite (!decide ((c 2).I < 3)) (.leaf (.ret, ⟨[[.b false]], []⟩)) (.ite ((c 1).I == (c 2).I) (.leaf (.ret, ⟨[[.b false]], []⟩)) (.leaf (.normal, ⟨[],
  []⟩)))) (.leaf (.ret, ⟨[[.b false]], []⟩))) (.leaf (.ret, ⟨[[.b false]], []⟩)))) (.ite ((c 0).I == 17) (.ite (decide ((c 1).I ≥ 10)) (.ite (decide ((c 1).I < 15)) (.ite (!decide ((c 2).I < 3)) (.leaf (.ret, ⟨[[.b
  false]], []⟩)) (.ite ((c 1).I == (c 2).I) (.leaf (.ret, ⟨[[.b false]], []⟩)) (.leaf (.normal, ⟨[], []⟩)))) (.leaf (.ret, ⟨[[.b false]], []⟩))) (.leaf (.ret, ⟨[[.b false]], []⟩))) (.ite ((c 0).I == 15) (.ite (decide ((c
  1).I ≥ 21)) (.ite (decide ((c 1).I < 24)) (.ite (decide ((c 2).I ≥ 10)) (.ite (!decide ((c 2).I < 15)) (.leaf (.ret, ⟨[[.b false]], []⟩)) (.ite ((c 1).I == (c 2).I) (.leaf (.ret, ⟨[[.b false]], []⟩)) (.leaf (.normal,
  ⟨[], []⟩)))) (.leaf (.ret, ⟨[[.b false]], []⟩))) (.leaf (.ret, ⟨[[.b false]], []⟩))) (.leaf (.ret, ⟨[[.b false]], []⟩))) (.ite ((c 0).I == 16) (.ite (decide ((c 1).I ≥ 10)) (.ite (decide ((c 1).I < 15)) (.ite (decide ((c
  2).I ≥ 21)) (.ite (!decide ((c 2).I < 24)) (.leaf (.ret, ⟨[[.b false]], []⟩)) (.ite ((c 1).I == (c 2).I) (.leaf (.ret, ⟨[[.b false]], []⟩)) (.leaf (.normal, ⟨[], []⟩)))) (.leaf (.ret, ⟨[[.b false]], []⟩))) (.leaf (.ret,
  ⟨[[.b false]], []⟩))) (.leaf (.ret, ⟨[[.b false]], []⟩))) (.ite (decide ((c 0).I ≥ 7)) (.ite (decide ((c 0).I ≤ 14)) (.leaf (.ret, ⟨[[.b false]], []⟩)) (.leaf (.ret, ⟨[[.b false]], []⟩))) (.leaf (.ret, ⟨[[.b false]],
  []⟩)))))))))))))) (.ite (decide ((c 1).I ≥ 10)) (.ite (decide ((c 1).I < 15)) (.ite (decide ((c 2).I ≥ 10)) (.ite ((c 0).I == 1) (.leaf (.ret, ⟨[[.b false]], []⟩)) (.ite ((c 0).I == 2) (.leaf (.ret, ⟨[[.b false]], []⟩))
  (.ite ((c 0).I == 3) (.leaf (.ret, ⟨[[.b false]], []⟩)) (.ite ((c 0).I == 4) (.leaf (.ret, ⟨[[.b false]], []⟩)) (.ite ((c 0).I == 18) (.leaf (.ret, ⟨[[.b false]], []⟩)) (.ite ((c 0).I == 5) (.ite (decide ((c 1).I < 3))
  (.ite (decide ((c 2).I ≥ 10)) (.ite (!decide ((c 2).I < 15)) (.leaf (.ret, ⟨[[.b false]], []⟩)) (.ite ((c 1).I == (c 2).I) (.leaf (.ret, ⟨[[.b false]], []⟩)) (.leaf (.normal, ⟨[], []⟩)))) (.leaf (.ret, ⟨[[.b false]],
  []⟩))) (.leaf (.ret, ⟨[[.b false]], []⟩))) (.ite ((c 0).I == 6) (.ite (decide ((c 1).I ≥ 10)) (.ite (decide ((c 1).I < 15)) (.ite (!decide ((c 2).I < 3)) (.leaf (.ret, ⟨[[.b false]], []⟩)) (.ite ((c 1).I == (c 2).I)
  (.leaf (.ret, ⟨[[.b false]], []⟩)) (.leaf (.normal, ⟨[], []⟩)))) (.leaf (.ret, ⟨[[.b false]], []⟩))) (.leaf (.ret, ⟨[[.b false]], []⟩))) (.ite ((c 0).I == 17) (.ite (decide ((c 1).I ≥ 10)) (.ite (decide ((c 1).I < 15))
  (.ite (!decide ((c 2).I < 3)) (.leaf (.ret, ⟨[[.b false]], []⟩)) (.ite ((c 1).I == (c 2).I) (.leaf (.ret, ⟨[[.b false]], []⟩)) (.leaf (.normal, ⟨[], []⟩)))) (.leaf (.ret, ⟨[[.b false]], []⟩))) (.leaf (.ret, ⟨[[.b
  false]], []⟩))) (.ite ((c 0).I == 15) (.ite (decide ((c 1).I ≥ 21)) (.ite (decide ((c 1).I < 24)) (.ite (decide ((c 2).I ≥ 10)) (.ite (!decide ((c 2).I < 15)) (.leaf (.ret, ⟨[[.b false]], []⟩)) (.ite ((c 1).I == (c 2).I)
  (.leaf (.ret, ⟨[[.b false]], []⟩)) (.leaf (.normal, ⟨[], []⟩)))) (.leaf (.ret, ⟨[[.b false]], []⟩))) (.leaf (.ret, ⟨[[.b false]], []⟩))) (.leaf (.ret, ⟨[[.b false]], []⟩))) (.ite ((c 0).I == 16) (.ite (decide ((c 1).I ≥
  10)) (.ite (decide ((c 1).I < 15)) (.ite (decide ((c 2).I ≥ 21)) (.ite (!decide ((c 2).I < 24)) (.leaf (.ret, ⟨[[.b false]], []⟩)) (.ite ((c 1).I == (c 2).I) (.leaf (.ret, ⟨[[.b false]], []⟩)) (.leaf (.normal, ⟨[],
  []⟩)))) (.leaf (.ret, ⟨[[.b false]], []⟩))) (.leaf (.ret, ⟨[[.b false]], []⟩))) (.leaf (.ret, ⟨[[.b false]], []⟩))) (.ite (decide ((c 0).I ≥ 7)) (.ite (decide ((c 0).I ≤ 14)) (.ite (!decide ((c 2).I < 15)) (.leaf (.ret,
  ⟨[[.b false]], []⟩)) (.ite ((c 1).I == (c 2).I) (.leaf (.ret, ⟨[[.b false]], []⟩)) (.leaf (.normal, ⟨[], []⟩)))) (.leaf (.ret, ⟨[[.b false]], []⟩))) (.leaf (.ret, ⟨[[.b false]], []⟩))))))))))))) (.ite ((c 0).I == 1)
  (.leaf (.ret, ⟨[[.b false]], []⟩)) (.ite ((c 0).I == 2) (.leaf (.ret, ⟨[[.b false]], []⟩)) (.ite ((c 0).I == 3) (.leaf (.ret, ⟨[[.b false]], []⟩)) (.ite ((c 0).I == 4) (.leaf (.ret, ⟨[[.b false]], []⟩)) (.ite ((c 0).I ==
  18) (.leaf (.ret, ⟨[[.b false]], []⟩)) (.ite ((c 0).I == 5) (.ite (decide ((c 1).I < 3)) (.ite (decide ((c 2).I ≥ 10)) (.ite (!decide ((c 2).I < 15)) (.leaf (.ret, ⟨[[.b false]], []⟩)) (.ite ((c 1).I == (c 2).I) (.leaf
  (.ret, ⟨[[.b false]], []⟩)) (.leaf (.normal, ⟨[], []⟩)))) (.leaf (.ret, ⟨[[.b false]], []⟩))) (.leaf (.ret, ⟨[[.b false]], []⟩))) (.ite ((c 0).I == 6) (.ite (decide ((c 1).I ≥ 10)) (.ite (decide ((c 1).I < 15)) (.ite
  (!decide ((c 2).I < 3)) (.leaf (.ret, ⟨[[.b false]], []⟩)) (.ite ((c 1).I == (c 2).I) (.leaf (.ret, ⟨[[.b false]], []⟩)) (.leaf (.normal, ⟨[], []⟩)))) (.leaf (.ret, ⟨[[.b false]], []⟩))) (.leaf (.ret, ⟨[[.b false]],
  []⟩))) (.ite ((c 0).I == 17) (.ite (decide ((c 1).I ≥ 10)) (.ite (decide ((c 1).I < 15)) (.ite (!decide ((c 2).I < 3)) (.leaf (.ret, ⟨[[.b false]], []⟩)) (.ite ((c 1).I == (c 2).I) (.leaf (.ret, ⟨[[.b false]], []⟩))
  (.leaf (.normal, ⟨[], []⟩)))) (.leaf (.ret, ⟨[[.b false]], []⟩))) (.leaf (.ret, ⟨[[.b false]], []⟩))) (.ite ((c 0).I == 15) (.ite (decide ((c 1).I ≥ 21)) (.ite (decide ((c 1).I < 24)) (.ite (decide ((c 2).I ≥ 10)) (.ite
  (!decide ((c 2).I < 15)) (.leaf (.ret, ⟨[[.b false]], []⟩)) (.ite ((c 1).I == (c 2).I) (.leaf (.ret, ⟨[[.b false]], []⟩)) (.leaf (.normal, ⟨[], []⟩)))) (.leaf (.ret, ⟨[[.b false]], []⟩))) (.leaf (.ret, ⟨[[.b false]],
  []⟩))) (.leaf (.ret, ⟨[[.b false]], []⟩))) (.ite ((c 0).I == 16) (.ite (decide ((c 1).I ≥ 10)) (.ite (decide ((c 1).I < 15)) (.ite (decide ((c 2).I ≥ 21)) (.ite (!decide ((c 2).I < 24)) (.leaf (.ret, ⟨[[.b false]], []⟩))
  (.ite ((c 1).I == (c 2).I) (.leaf (.ret, ⟨[[.b false]], []⟩)) (.leaf (.normal, ⟨[], []⟩)))) (.leaf (.ret, ⟨[[.b false]], []⟩))) (.leaf (.ret, ⟨[[.b false]], []⟩))) (.leaf (.ret, ⟨[[.b false]], []⟩))) (.ite (decide ((c
  0).I ≥ 7)) (.ite (decide ((c 0).I ≤ 14)) (.leaf (.ret, ⟨[[.b false]], []⟩)) (.leaf (.ret, ⟨[[.b false]], []⟩))) (.leaf (.ret, ⟨[[.b false]], []⟩)))))))))))))) (.ite ((c 0).I == 1) (.leaf (.ret, ⟨[[.b false]], []⟩)) (.ite
  ((c 0).I == 2) (.leaf (.ret, ⟨[[.b false]], []⟩)) (.ite ((c 0).I == 3) (.leaf (.ret, ⟨[[.b false]], []⟩)) (.ite ((c 0).I == 4) (.leaf (.ret, ⟨[[.b false]], []⟩)) (.ite ((c 0).I == 18) (.leaf (.ret, ⟨[[.b false]], []⟩))
  (.ite ((c 0).I == 5) (.ite (decide ((c 1).I < 3)) (.ite (decide ((c 2).I ≥ 10)) (.ite (!decide ((c 2).I < 15)) (.leaf (.ret, ⟨[[.b false]], []⟩)) (.ite ((c 1).I == (c 2).I) (.leaf (.ret, ⟨[[.b false]], []⟩)) (.leaf
  (.normal, ⟨[], []⟩)))) (.leaf (.ret, ⟨[[.b false]], []⟩))) (.leaf (.ret, ⟨[[.b false]], []⟩))) (.ite ((c 0).I == 6) (.ite (decide ((c 1).I ≥ 10)) (.ite (decide ((c 1).I < 15)) (.ite (!decide ((c 2).I < 3)) (.leaf (.ret,
  ⟨[[.b false]], []⟩)) (.ite ((c 1).I == (c 2).I) (.leaf (.ret, ⟨[[.b false]], []⟩)) (.leaf (.normal, ⟨[], []⟩)))) (.leaf (.ret, ⟨[[.b false]], []⟩))) (.leaf (.ret, ⟨[[.b false]], []⟩))) (.ite ((c 0).I == 17) (.ite (decide
  ((c 1).I ≥ 10)) (.ite (decide ((c 1).I < 15)) (.ite (!decide ((c 2).I < 3)) (.leaf (.ret, ⟨[[.b false]], []⟩)) (.ite ((c 1).I == (c 2).I) (.leaf (.ret, ⟨[[.b false]], []⟩)) (.leaf (.normal, ⟨[], []⟩)))) (.leaf (.ret,
  ⟨[[.b false]], []⟩))) (.leaf (.ret, ⟨[[.b false]], []⟩))) (.ite ((c 0).I == 15) (.ite (decide ((c 1).I ≥ 21)) (.ite (decide ((c 1).I < 24)) (.ite (decide ((c 2).I ≥ 10)) (.ite (!decide ((c 2).I < 15)) (.leaf (.ret, ⟨[[.b
  false]], []⟩)) (.ite ((c 1).I == (c 2).I) (.leaf (.ret, ⟨[[.b false]], []⟩)) (.leaf (.normal, ⟨[], []⟩)))) (.leaf (.ret, ⟨[[.b false]], []⟩))) (.leaf (.ret, ⟨[[.b false]], []⟩))) (.leaf (.ret, ⟨[[.b false]], []⟩))) (.ite
  ((c 0).I == 16) (.ite (decide ((c 1).I ≥ 10)) (.ite (decide ((c 1).I < 15)) (.ite (decide ((c 2).I ≥ 21)) (.ite (!decide ((c 2).I < 24)) (.leaf (.ret, ⟨[[.b false]], []⟩)) (.ite ((c 1).I == (c 2).I) (.leaf (.ret, ⟨[[.b
  false]], []⟩)) (.leaf (.normal, ⟨[], []⟩)))) (.leaf (.ret, ⟨[[.b false]], []⟩))) (.leaf (.ret, ⟨[[.b false]], []⟩))) (.leaf (.ret, ⟨[[.b false]], []⟩))) (.ite (decide ((c 0).I ≥ 7)) (.ite (decide ((c 0).I ≤ 14)) (.leaf
  (.ret, ⟨[[.b false]], []⟩)) (.leaf (.ret, ⟨[[.b false]], []⟩))) (.leaf (.ret, ⟨[[.b false]], []⟩)))))))))))))) (.ite ((c 0).I == 1) (.leaf (.ret, ⟨[[.b false]], []⟩)) (.ite ((c 0).I == 2) (.leaf (.ret, ⟨[[.b false]],
  []⟩)) (.ite ((c 0).I == 3) (.leaf (.ret, ⟨[[.b false]], []⟩)) (.ite ((c 0).I == 4) (.leaf (.ret, ⟨[[.b false]], []⟩)) (.ite ((c 0).I == 18) (.leaf (.ret, ⟨[[.b false]], []⟩)) (.ite ((c 0).I == 5) (.ite (decide ((c 1).I <
  3)) (.ite (decide ((c 2).I ≥ 10)) (.ite (!decide ((c 2).I < 15)) (.leaf (.ret, ⟨[[.b false]], []⟩)) (.ite ((c 1).I == (c 2).I) (.leaf (.ret, ⟨[[.b false]], []⟩)) (.leaf (.normal, ⟨[], []⟩)))) (.leaf (.ret, ⟨[[.b false]],
  []⟩))) (.leaf (.ret, ⟨[[.b false]], []⟩))) (.ite ((c 0).I == 6) (.ite (decide ((c 1).I ≥ 10)) (.ite (decide ((c 1).I < 15)) (.ite (!decide ((c 2).I < 3)) (.leaf (.ret, ⟨[[.b false]], []⟩)) (.ite ((c 1).I == (c 2).I)
  (.leaf (.ret, ⟨[[.b false]], []⟩)) (.leaf (.normal, ⟨[], []⟩)))) (.leaf (.ret, ⟨[[.b false]], []⟩))) (.leaf (.ret, ⟨[[.b false]], []⟩))) (.ite ((c 0).I == 17) (.ite (decide ((c 1).I ≥ 10)) (.ite (decide ((c 1).I < 15))
  (.ite (!decide ((c 2).I < 3)) (.leaf (.ret, ⟨[[.b false]], []⟩)) (.ite ((c 1).I == (c 2).I) (.leaf (.ret, ⟨[[.b false]], []⟩)) (.leaf (.normal, ⟨[], []⟩)))) (.leaf (.ret, ⟨[[.b false]], []⟩))) (.leaf (.ret, ⟨[[.b
  false]], []⟩))) (.ite ((c 0).I == 15) (.ite (decide ((c 1).I ≥ 21)) (.ite (decide ((c 1).I < 24)) (.ite (decide ((c 2).I ≥ 10)) (.ite (!decide ((c 2).I < 15)) (.leaf (.ret, ⟨[[.b false]], []⟩)) (.ite ((c 1).I == (c 2).I)
  (.leaf (.ret, ⟨[[.b false]], []⟩)) (.leaf (.normal, ⟨[], []⟩)))) (.leaf (.ret, ⟨[[.b false]], []⟩))) (.leaf (.ret, ⟨[[.b false]], []⟩))) (.leaf (.ret, ⟨[[.b false]], []⟩))) (.ite ((c 0).I == 16) (.ite (decide ((c 1).I ≥
  10)) (.ite (decide ((c 1).I < 15)) (.ite (decide ((c 2).I ≥ 21)) (.ite (!decide ((c 2).I < 24)) (.leaf (.ret, ⟨[[.b false]], []⟩)) (.ite ((c 1).I == (c 2).I) (.leaf (.ret, ⟨[[.b false]], []⟩)) (.leaf (.normal, ⟨[],
  []⟩)))) (.leaf (.ret, ⟨[[.b false]], []⟩))) (.leaf (.ret, ⟨[[.b false]], []⟩))) (.leaf (.ret, ⟨[[.b false]], []⟩))) (.ite (decide ((c 0).I ≥ 7)) (.ite (decide ((c 0).I ≤ 14)) (.leaf (.ret, ⟨[[.b false]], []⟩)) (.leaf
  (.ret, ⟨[[.b false]], []⟩))) (.leaf (.ret, ⟨[[.b false]], []⟩)))))))))))))) := by kernel_rfl
theorem pre2_holds {R : Type} {t : Tree R} {c d : Bool} {a b : R} {Q : R → Prop} (h : pre2 t = some (c, a, d, b)) (hc : c = true ∨ d = true) (ha : Q a) (hb : Q b) : t.Holds Q := by
  cases t with
  | ite c' t1 t2 =>
    cases t1 with
    | leaf a' =>
      cases t2 with
      | ite d' t3 t4 =>
        cases t3 with
        | leaf b' =>
          simp only [pre2, Option.some.injEq, Prod.mk.injEq] at h
          obtain ⟨rfl, rfl, rfl, rfl⟩ := h
          refine holds_ite (fun _ => holds_leaf ha) fun h1 => holds_ite (fun _ => holds_leaf hb) fun h2 => ?_
          rcases hc with e | e
          · rw [h1] at e; cases e
          · rw [h2] at e; cases e
        | _ => simp [pre2] at h
      | _ => simp [pre2] at h
    | _ => cases t2 <;> simp [pre2] at h
  | _ => simp [pre2] at h
theorem o28 (c : Nat → Num) (n0 : Nat) (s0 : Nat → List Num) (n1 : Nat) (s1 : Nat → List Num) (n2 : Nat) (s2 : Nat → List Num) : pre2 (callW Try.prog (codeT Try.prog ecT 400) 28 ((mT (.i .u8)).vals (mE c n0 s0 n1 s1 n2 s2)) ((mT (.i .u8)).heap (mE c n0 s0 n1 s1 n2 s2)) 3 (outV 3 (tYN 3))) = some (decide ((c 0).I < 1), ⟨[[.b false]], []⟩, decide ((c 0).I > 18), ⟨[[.b false]], []⟩) := by kernel_rfl
theorem k28_no (c : Nat → Num) (n0 : Nat) (s0 : Nat → List Num) (n1 : Nat) (s1 : Nat → List Num) (n2 : Nat) (s2 : Nat → List Num) (h : (c 0).I < 1 ∨ (c 0).I > 18) : ∃ b, b = false ∧ StdX Try.prog 28 (mT (.i .u8)) (mE c n0 s0 n1 s1 n2 s2) (tYN 3) ⟨[[.b b]], []⟩ :=
  stdX_exB (Q := fun b => b = false) ecTab mixed (n := 400) rfl (pre2_holds (o28 c n0 s0 n1 s1 n2 s2) (h.imp decide_eq_true decide_eq_true) rfl rfl)
theorem body24_eq : Try.f24.body = some body24 := by kernel_rfl
theorem in24 : Within Try.prog 24 Try.f24.ntmps body24 := within_body Try.func24 body24_eq
theorem k24_no (c : Nat → Num) (n0 : Nat) (s0 : Nat → List Num) (n1 : Nat) (s1 : Nat → List Num) (n2 : Nat) (s2 : Nat → List Num) (h : (c 0).I < 1 ∨ (c 0).I > 18) : StdX Try.prog 24 (mT (.i .u8)) (mE c n0 s0 n1 s1 n2 s2) (tYN 3) ⟨[[.b false]], []⟩ := by
  show StdX Try.prog 24 (mT (.i .u8)) (mE c n0 s0 n1 s1 n2 s2) r24 ⟨[[.b false]], []⟩
  refine stdX_htX Try.func24 body24_eq (by kernel_rfl) rfl (by kernel_rfl) rfl rfl ?_
  refine HT.cutX 3 (t1 := e24) (R1 := fun ex e => match ex with
    | .normal => False
    | _ => e.ab 0 0 = false) (HTL.runX ecTab mixed (n := 400) (by decide) (within_take in24 3) (Nat.le_refl _) fun τ0 => holds_of_eq (o24 c n0 s0 n1 s1 n2 s2 τ0) ?_) (fun _ h => h.elim) ?_
  · (repeat' with_reducible (first | refine holds_inE ?_ | refine holds_inI ?_ | refine holds_inB ?_ | refine holds_must (rbE_ok _ _) ?_ | refine holds_ite (fun _ => ?_) (fun _ => ?_)))
    all_goals first
      | exact holds_leaf rfl
      | (exfalso; simp only [beq_iff_eq, beq_eq_false_iff_ne, decide_eq_true_eq, decide_eq_false_iff_not] at *; omega)
  · intro en he _
    have he : en.ab 0 0 = false := he
    refine ⟨⟨?_, trivial⟩, trivial⟩
    exact he
end Go.Proofs.Ytnfmdpelafaoaaa
