/- ClientAgain: the body, its trees.
   Conditions: none. -/
import Derived.Test.YtnfmdpelafaoaaaCa
set_option linter.unusedSimpArgs false
set_option linter.unusedVariables false
namespace Go.Proofs.Ytnfmdpelafaoaaa
open Go.Eng Go.RowKit Go.ChangeShapes Go.WideShapes
set_option maxRecDepth 100000
def lp : Code → Code
  | .block _ (.loop x) => x
  | c => c
def cbSm : List (FuncId × Summ) := (6, ctrSumm0 T0 cTrue) :: caSm
def cbT : Tab := smTab (tabOf cbSm)
noncomputable def body4 : Code := Try.f4.body.getD .skip
noncomputable def x4 : Code := lp ((flat body4).getD 9 .skip)
def clBox : List TV := [.i .u8, .i .u32, .i .u8, .i .u32, .i .u8, .i .u8, .i .u8, .s, .bl true, .i .i64, .nils]
def agT : TS := ⟨[0, 1, 2], [.one (.i .u8), .agg rOp, .one (.i .u8)], [], 0⟩
def agL : TS := ⟨[2, 7, 10, 12], [.one (.i .u8), .one (.ptr 0 0), .one (.ptr 1 0), .one (.i .i64)], [(0, .box clBox), (1, .box rOp)], 2⟩
structure OpS where
  c : Int
  q : Int
  k : Int
  o : Int
  a : Int
  d : ByteArray
abbrev OpS.l (o : OpS) : List Num := [.i o.c, .i o.q, .i o.k, .i o.o, .i o.a, .s o.d]
def agN (n id sq : Int) (o p : OpS) (tk t : Int) : EN := ⟨[[.i n], [], [], [.i t]], [.box [.i id, .i sq, .i o.c, .i o.q, .i o.k, .i o.o, .i o.a, .s o.d, .u, .i tk, .u], .box p.l]⟩
theorem ag_pre (id n : Int) (o : OpS) (τ0 : Tm) : codeT Try.prog cbT 300 4 Try.f4.ntmps (ofL ((flat body4).take 9)) (agT.tm ⟨[[.i id], o.l, [.i n]], []⟩ ++ τ0) (agT.heap ⟨[[.i id], o.l, [.i n]], []⟩) 0 (outX 0 ⟨some agL, [], some (lawT 6)⟩) =
  .defI (bif decide (1 > id) then 1 else id) fun z0 => .defI (bif decide (3 < z0) then 3 else z0) fun z1 => .ite (decide (z1 < 1)) (.leaf (.ret, ⟨[[.b true]], []⟩)) (.ite (decide (z1 > 3)) (.leaf (.ret, ⟨[[.b true]], []⟩))
  (.ite (decide (o.o ≥ 6)) (.leaf (.ret, ⟨[[.b true]], []⟩)) (.ite (decide ((o.d.size : Int) > 16)) (.leaf (.ret, ⟨[[.b true]], []⟩)) (.ite (o.k == 1) (.defI (IntKind.u8.wrap (20 + z1)) fun z2 => .defI (IntKind.u8.wrap (20
  + z1)) fun z3 => .defI (IntKind.u8.wrap (20 + z1)) fun z4 => .defI (IntKind.u8.wrap (20 + z1)) fun z5 => .defI (IntKind.u8.wrap (20 + z1)) fun z6 => .leaf (.normal, ⟨[[.i n], [.u], [.u], [.i 1]], [.box [.i z1, .i 1, .i
  z1, .i 1, .i o.k, .i o.o, .i o.a, .s o.d, .u, .i 0, .u], .box [.i z1, .i 1, .i o.k, .i o.o, .i o.a, .s o.d]]⟩)) (.ite (o.k == 3) (.defI (IntKind.u8.wrap (20 + z1)) fun z7 => .defI (IntKind.u8.wrap (20 + z1)) fun z8 =>
  .defI (IntKind.u8.wrap (20 + z1)) fun z9 => .defI (IntKind.u8.wrap (20 + z1)) fun z10 => .defI (IntKind.u8.wrap (20 + z1)) fun z11 => .leaf (.normal, ⟨[[.i n], [.u], [.u], [.i 1]], [.box [.i z1, .i 1, .i z1, .i 1, .i
  o.k, .i o.o, .i o.a, .s o.d, .u, .i 0, .u], .box [.i z1, .i 1, .i o.k, .i o.o, .i o.a, .s o.d]]⟩)) (.ite (o.k == 2) (.ite (!o.d == (ByteArray.mk #[])) (.leaf (.ret, ⟨[[.b true]], []⟩)) (.defI (IntKind.u8.wrap (20 + z1))
  fun z12 => .defI (IntKind.u8.wrap (20 + z1)) fun z13 => .defI (IntKind.u8.wrap (20 + z1)) fun z14 => .defI (IntKind.u8.wrap (20 + z1)) fun z15 => .defI (IntKind.u8.wrap (20 + z1)) fun z16 => .leaf (.normal, ⟨[[.i n],
  [.u], [.u], [.i 1]], [.box [.i z1, .i 1, .i z1, .i 1, .i o.k, .i o.o, .i o.a, .s o.d, .u, .i 0, .u], .box [.i z1, .i 1, .i o.k, .i o.o, .i o.a, .s o.d]]⟩))) (.ite (o.k == 4) (.ite (!(z1 == z1 && (o.k == o.k && (o.o ==
  o.o && (o.a == 0 && o.d == (ByteArray.mk #[])))))) (.leaf (.ret, ⟨[[.b true]], []⟩)) (.defI (IntKind.u8.wrap (20 + z1)) fun z17 => .defI (IntKind.u8.wrap (20 + z1)) fun z18 => .defI (IntKind.u8.wrap (20 + z1)) fun z19 =>
  .defI (IntKind.u8.wrap (20 + z1)) fun z20 => .defI (IntKind.u8.wrap (20 + z1)) fun z21 => .leaf (.normal, ⟨[[.i n], [.u], [.u], [.i 1]], [.box [.i z1, .i 1, .i z1, .i 1, .i o.k, .i o.o, .i o.a, .s o.d, .u, .i 0, .u],
  .box [.i z1, .i 1, .i o.k, .i o.o, .i o.a, .s o.d]]⟩))) (.ite (o.k == 5) (.ite (!(z1 == z1 && (o.k == o.k && (o.o == o.o && (o.a == 0 && o.d == (ByteArray.mk #[])))))) (.leaf (.ret, ⟨[[.b true]], []⟩)) (.defI
  (IntKind.u8.wrap (20 + z1)) fun z22 => .defI (IntKind.u8.wrap (20 + z1)) fun z23 => .defI (IntKind.u8.wrap (20 + z1)) fun z24 => .defI (IntKind.u8.wrap (20 + z1)) fun z25 => .defI (IntKind.u8.wrap (20 + z1)) fun z26 =>
  .leaf (.normal, ⟨[[.i n], [.u], [.u], [.i 1]], [.box [.i z1, .i 1, .i z1, .i 1, .i o.k, .i o.o, .i o.a, .s o.d, .u, .i 0, .u], .box [.i z1, .i 1, .i o.k, .i o.o, .i o.a, .s o.d]]⟩))) (.leaf (.ret, ⟨[[.b true]],
  []⟩)))))))))) := by kernel_rfl
theorem ag_x (n id sq : Int) (o p : OpS) (tk t : Int) (τ0 : Tm) : codeT Try.prog cbT 300 4 Try.f4.ntmps x4 (agL.tm (agN n id sq o p tk t) ++ τ0) (agL.heap (agN n id sq o p tk t)) 2 (outX 0 ⟨some agL, [(0, agL)], some (lawT 6)⟩) =
  .defI (n.tmod 20) fun z0 => .defI (IntKind.i64.wrap z0) fun z1 => .ite (decide (t ≤ z1)) (.defI (IntKind.i64.wrap (tk + 1)) fun z2 => .defI (z2.tmod 3) fun z3 => .ite (decide (z3 > 0)) (.defI (t.tmod 3) fun z4 => .ite
  (!false == (z4 == 0)) (.leaf (.ret, ⟨[[.b false]], []⟩)) (.defI (t.tmod 3) fun z5 => .ite (z5 != 0) (.defI (IntKind.i64.wrap (t + 1)) fun z6 => .leaf (.normal, ⟨[[.i n], [.u], [.u], [.i z6]], [.box [.i id, .i sq, .i o.c,
  .i o.q, .i o.k, .i o.o, .i o.a, .s o.d, .u, .i z3, .u], .box [.i p.c, .i p.q, .i p.k, .i p.o, .i p.a, .s p.d]]⟩)) (.defI (IntKind.i64.wrap (t + 1)) fun z7 => .leaf (.normal, ⟨[[.i n], [.u], [.u], [.i z7]], [.box [.i id,
  .i sq, .i o.c, .i o.q, .i o.k, .i o.o, .i o.a, .s o.d, .u, .i z3, .u], .box [.i p.c, .i p.q, .i p.k, .i p.o, .i p.a, .s p.d]]⟩)))) (.defI (IntKind.u8.wrap (20 + id)) fun z8 => .defI (IntKind.u8.wrap (20 + id)) fun z9 =>
  .defI (IntKind.u8.wrap (20 + id)) fun z10 => .defI (IntKind.u8.wrap (20 + id)) fun z11 => .defI (IntKind.u8.wrap (20 + id)) fun z12 => .defI (t.tmod 3) fun z13 => .ite (!true == (z13 == 0)) (.leaf (.ret, ⟨[[.b false]],
  []⟩)) (.defI (t.tmod 3) fun z14 => .ite (z14 != 0) (.leaf (.ret, ⟨[[.b false]], []⟩)) (.defI o.c fun z15 => .defI o.q fun z16 => .defI o.k fun z17 => .defI o.o fun z18 => .defI o.a fun z19 => .ite (!(z15 == p.c && (z16
  == p.q && (z17 == p.k && (z18 == p.o && (z19 == p.a && o.d == p.d)))))) (.leaf (.ret, ⟨[[.b false]], []⟩)) (.defI o.c fun z20 => .defI o.q fun z21 => .defI o.k fun z22 => .defI o.o fun z23 => .defI o.a fun z24 => .ite
  (!(z20 == p.c && (z21 == p.q && (z22 == p.k && (z23 == p.o && (z24 == p.a && o.d == p.d)))))) (.leaf (.ret, ⟨[[.b false]], []⟩)) (.defI o.c fun z25 => .defI o.q fun z26 => .defI o.k fun z27 => .defI o.o fun z28 => .defI
  o.a fun z29 => .ite (!(z25 == p.c && (z26 == p.q && (z27 == p.k && (z28 == p.o && (z29 == p.a && o.d == p.d)))))) (.leaf (.ret, ⟨[[.b false]], []⟩)) (.defI o.c fun z30 => .defI o.q fun z31 => .defI o.k fun z32 => .defI
  o.o fun z33 => .defI o.a fun z34 => .ite (!(z30 == p.c && (z31 == p.q && (z32 == p.k && (z33 == p.o && (z34 == p.a && o.d == p.d)))))) (.leaf (.ret, ⟨[[.b false]], []⟩)) (.defI o.c fun z35 => .defI o.q fun z36 => .defI
  o.k fun z37 => .defI o.o fun z38 => .defI o.a fun z39 => .ite (!(z35 == p.c && (z36 == p.q && (z37 == p.k && (z38 == p.o && (z39 == p.a && o.d == p.d)))))) (.leaf (.ret, ⟨[[.b false]], []⟩)) (.defI (IntKind.i64.wrap (t +
  1)) fun z40 => .leaf (.normal, ⟨[[.i n], [.u], [.u], [.i z40]], [.box [.i id, .i sq, .i o.c, .i o.q, .i o.k, .i o.o, .i o.a, .s o.d, .u, .i z3, .u], .box [.i p.c, .i p.q, .i p.k, .i p.o, .i p.a, .s p.d]]⟩))))))))))
  (.leaf (.exit 0, ⟨[[.i n], [.u], [.u], [.i t]], [.box [.i id, .i sq, .i o.c, .i o.q, .i o.k, .i o.o, .i o.a, .s o.d, .u, .i tk, .u], .box [.i p.c, .i p.q, .i p.k, .i p.o, .i p.a, .s p.d]]⟩)) := by kernel_rfl
def clBox0 : List TV := [.i .u8, .i .u32, .i .u8, .i .u32, .i .u8, .i .u8, .i .u8, .s, .bl false, .i .i64, .sl 1]
def agM : TS := ⟨[7], [.one (.ptr 0 0)], [(0, .box clBox0), (1, .lst (some 1) rAns (some 2)), (2, .tok)], 3⟩
def agP (id sq : Int) (o : OpS) (tk : Int) (r : Nat → List Num) : EN := ⟨[[]], [.box [.i id, .i sq, .i o.c, .i o.q, .i o.k, .i o.o, .i o.a, .s o.d, .u, .i tk, .u], .lst 1 r, .tok]⟩
theorem ag_hear (n id sq : Int) (o p : OpS) (tk t : Int) (τ0 : Tm) : codeT Try.prog cbT 300 4 Try.f4.ntmps (ofL (((flat body4).drop 10).take 2)) (agL.tm (agN n id sq o p tk t) ++ τ0) (agL.heap (agN n id sq o p tk t)) 2 (outX 0 ⟨some agM, [], some (lawT 6)⟩) =
  .defI (IntKind.u8.wrap (20 + p.c)) fun z0 => .ite (decide (z0 ≥ 10)) (.ite (decide (z0 ≥ 21)) (.ite (!decide (z0 < 24)) (.leaf (.ret, ⟨[[.b false]], []⟩)) (.ite (11 == z0) (.leaf (.ret, ⟨[[.b false]], []⟩)) (.ite (decide
  (p.c < 1)) (.leaf (.ret, ⟨[[.b false]], []⟩)) (.ite (decide (p.c > 3)) (.leaf (.ret, ⟨[[.b false]], []⟩)) (.ite (p.q == 0) (.leaf (.ret, ⟨[[.b false]], []⟩)) (.ite (decide (p.o ≥ 6)) (.leaf (.ret, ⟨[[.b false]], []⟩))
  (.ite (decide ((p.d.size : Int) > 16)) (.leaf (.ret, ⟨[[.b false]], []⟩)) (.ite (p.k == 1) (.defI (IntKind.u8.wrap (20 + p.c)) fun z1 => .ite (z0 == z1) (.defI (IntKind.u8.wrap (20 + id)) fun z2 => .ite (z0 != z2) (.leaf
  (.ret, ⟨[[.b false]], []⟩)) (.ite (!(p.c == o.c && (p.q == o.q && (p.k == o.k && (p.o == o.o && (p.a == o.a && p.d == o.d)))))) (.leaf (.ret, ⟨[[.b false]], []⟩)) (.leaf (.normal, ⟨[[.u]], [.box [.i id, .i sq, .i 0, .i
  0, .i 0, .i 0, .i 0, .s (ByteArray.mk #[]), .u, .i tk, .u], .lst 1 (rowNums [.i .u8, .i .u32, .i .u8, .i .u8, .i .u8, .s, .i .u8, .s] (catRows (.lit 0) (fun (x : Nat) => []) (chunk 8 [.int .u8 (.sym p.c), .int .u32 (.sym
  p.q), .int .u8 (.sym p.k), .int .u8 (.sym p.o), .int .u8 (.sym p.a), .str (SS.sym p.d), .int .u8 (.lit 0), .str (SS.lit (ByteArray.mk #[]))]))), .tok]⟩)))) (.leaf (.ret, ⟨[[.b false]], []⟩))) (.ite (p.k == 3) (.defI
  (IntKind.u8.wrap (20 + p.c)) fun z3 => .ite (z0 == z3) (.defI (IntKind.u8.wrap (20 + id)) fun z4 => .ite (z0 != z4) (.leaf (.ret, ⟨[[.b false]], []⟩)) (.ite (!(p.c == o.c && (p.q == o.q && (p.k == o.k && (p.o == o.o &&
  (p.a == o.a && p.d == o.d)))))) (.leaf (.ret, ⟨[[.b false]], []⟩)) (.leaf (.normal, ⟨[[.u]], [.box [.i id, .i sq, .i 0, .i 0, .i 0, .i 0, .i 0, .s (ByteArray.mk #[]), .u, .i tk, .u], .lst 1 (rowNums [.i .u8, .i .u32, .i
  .u8, .i .u8, .i .u8, .s, .i .u8, .s] (catRows (.lit 0) (fun (x : Nat) => []) (chunk 8 [.int .u8 (.sym p.c), .int .u32 (.sym p.q), .int .u8 (.sym p.k), .int .u8 (.sym p.o), .int .u8 (.sym p.a), .str (SS.sym p.d), .int .u8
  (.lit 0), .str (SS.lit (ByteArray.mk #[]))]))), .tok]⟩)))) (.leaf (.ret, ⟨[[.b false]], []⟩))) (.ite (p.k == 2) (.ite (p.d == (ByteArray.mk #[])) (.defI (IntKind.u8.wrap (20 + p.c)) fun z5 => .ite (z0 == z5) (.defI
  (IntKind.u8.wrap (20 + id)) fun z6 => .ite (z0 != z6) (.leaf (.ret, ⟨[[.b false]], []⟩)) (.ite (!(p.c == o.c && (p.q == o.q && (p.k == o.k && (p.o == o.o && (p.a == o.a && p.d == o.d)))))) (.leaf (.ret, ⟨[[.b false]],
  []⟩)) (.leaf (.normal, ⟨[[.u]], [.box [.i id, .i sq, .i 0, .i 0, .i 0, .i 0, .i 0, .s (ByteArray.mk #[]), .u, .i tk, .u], .lst 1 (rowNums [.i .u8, .i .u32, .i .u8, .i .u8, .i .u8, .s, .i .u8, .s] (catRows (.lit 0) (fun
  (x : Nat) => []) (chunk 8 [.int .u8 (.sym p.c), .int .u32 (.sym p.q), .int .u8 (.sym p.k), .int .u8 (.sym p.o), .int .u8 (.sym p.a), .str (SS.sym p.d), .int .u8 (.lit 0), .str (SS.lit (ByteArray.mk #[]))]))), .tok]⟩))))
  (.leaf (.ret, ⟨[[.b false]], []⟩))) (.leaf (.ret, ⟨[[.b false]], []⟩))) (.ite (p.k == 4) (.ite (p.c == p.c && (p.q == p.q && (p.k == p.k && (p.o == p.o && (p.a == 0 && p.d == (ByteArray.mk #[])))))) (.defI
  (IntKind.u8.wrap (20 + p.c)) fun z7 => .ite (z0 == z7) (.defI (IntKind.u8.wrap (20 + id)) fun z8 => .ite (z0 != z8) (.leaf (.ret, ⟨[[.b false]], []⟩)) (.ite (!(p.c == o.c && (p.q == o.q && (p.k == o.k && (p.o == o.o &&
  (p.a == o.a && p.d == o.d)))))) (.leaf (.ret, ⟨[[.b false]], []⟩)) (.leaf (.normal, ⟨[[.u]], [.box [.i id, .i sq, .i 0, .i 0, .i 0, .i 0, .i 0, .s (ByteArray.mk #[]), .u, .i tk, .u], .lst 1 (rowNums [.i .u8, .i .u32, .i
  .u8, .i .u8, .i .u8, .s, .i .u8, .s] (catRows (.lit 0) (fun (x : Nat) => []) (chunk 8 [.int .u8 (.sym p.c), .int .u32 (.sym p.q), .int .u8 (.sym p.k), .int .u8 (.sym p.o), .int .u8 (.sym p.a), .str (SS.sym p.d), .int .u8
  (.lit 0), .str (SS.lit (ByteArray.mk #[]))]))), .tok]⟩)))) (.leaf (.ret, ⟨[[.b false]], []⟩))) (.leaf (.ret, ⟨[[.b false]], []⟩))) (.ite (p.k == 5) (.ite (p.c == p.c && (p.q == p.q && (p.k == p.k && (p.o == p.o && (p.a
  == 0 && p.d == (ByteArray.mk #[])))))) (.defI (IntKind.u8.wrap (20 + p.c)) fun z9 => .ite (z0 == z9) (.defI (IntKind.u8.wrap (20 + id)) fun z10 => .ite (z0 != z10) (.leaf (.ret, ⟨[[.b false]], []⟩)) (.ite (!(p.c == o.c
  && (p.q == o.q && (p.k == o.k && (p.o == o.o && (p.a == o.a && p.d == o.d)))))) (.leaf (.ret, ⟨[[.b false]], []⟩)) (.leaf (.normal, ⟨[[.u]], [.box [.i id, .i sq, .i 0, .i 0, .i 0, .i 0, .i 0, .s (ByteArray.mk #[]), .u,
  .i tk, .u], .lst 1 (rowNums [.i .u8, .i .u32, .i .u8, .i .u8, .i .u8, .s, .i .u8, .s] (catRows (.lit 0) (fun (x : Nat) => []) (chunk 8 [.int .u8 (.sym p.c), .int .u32 (.sym p.q), .int .u8 (.sym p.k), .int .u8 (.sym p.o),
  .int .u8 (.sym p.a), .str (SS.sym p.d), .int .u8 (.lit 0), .str (SS.lit (ByteArray.mk #[]))]))), .tok]⟩)))) (.leaf (.ret, ⟨[[.b false]], []⟩))) (.leaf (.ret, ⟨[[.b false]], []⟩))) (.leaf (.ret, ⟨[[.b false]],
  []⟩)))))))))))))) (.leaf (.ret, ⟨[[.b false]], []⟩))) (.ite (decide (z0 ≥ 21)) (.ite (!decide (z0 < 24)) (.leaf (.ret, ⟨[[.b false]], []⟩)) (.ite (11 == z0) (.leaf (.ret, ⟨[[.b false]], []⟩)) (.ite (decide (p.c < 1))
  (.leaf (.ret, ⟨[[.b false]], []⟩)) (.ite (decide (p.c > 3)) (.leaf (.ret, ⟨[[.b false]], []⟩)) (.ite (p.q == 0) (.leaf (.ret, ⟨[[.b false]], []⟩)) (.ite (decide (p.o ≥ 6)) (.leaf (.ret, ⟨[[.b false]], []⟩)) (.ite (decide
  ((p.d.size : Int) > 16)) (.leaf (.ret, ⟨[[.b false]], []⟩)) (.ite (p.k == 1) (.defI (IntKind.u8.wrap (20 + p.c)) fun z11 => .ite (z0 == z11) (.defI (IntKind.u8.wrap (20 + id)) fun z12 => .ite (z0 != z12) (.leaf (.ret,
  ⟨[[.b false]], []⟩)) (.ite (!(p.c == o.c && (p.q == o.q && (p.k == o.k && (p.o == o.o && (p.a == o.a && p.d == o.d)))))) (.leaf (.ret, ⟨[[.b false]], []⟩)) (.leaf (.normal, ⟨[[.u]], [.box [.i id, .i sq, .i 0, .i 0, .i 0,
  .i 0, .i 0, .s (ByteArray.mk #[]), .u, .i tk, .u], .lst 1 (rowNums [.i .u8, .i .u32, .i .u8, .i .u8, .i .u8, .s, .i .u8, .s] (catRows (.lit 0) (fun (x : Nat) => []) (chunk 8 [.int .u8 (.sym p.c), .int .u32 (.sym p.q),
  .int .u8 (.sym p.k), .int .u8 (.sym p.o), .int .u8 (.sym p.a), .str (SS.sym p.d), .int .u8 (.lit 0), .str (SS.lit (ByteArray.mk #[]))]))), .tok]⟩)))) (.leaf (.ret, ⟨[[.b false]], []⟩))) (.ite (p.k == 3) (.defI
  (IntKind.u8.wrap (20 + p.c)) fun z13 => .ite (z0 == z13) (.defI (IntKind.u8.wrap (20 + id)) fun z14 => .ite (z0 != z14) (.leaf (.ret, ⟨[[.b false]], []⟩)) (.ite (!(p.c == o.c && (p.q == o.q && (p.k == o.k && (p.o == o.o
  && (p.a == o.a && p.d == o.d)))))) (.leaf (.ret, ⟨[[.b false]], []⟩)) (.leaf (.normal, ⟨[[.u]], [.box [.i id, .i sq, .i 0, .i 0, .i 0, .i 0, .i 0, .s (ByteArray.mk #[]), .u, .i tk, .u], .lst 1 (rowNums [.i .u8, .i .u32,
  .i .u8, .i .u8, .i .u8, .s, .i .u8, .s] (catRows (.lit 0) (fun (x : Nat) => []) (chunk 8 [.int .u8 (.sym p.c), .int .u32 (.sym p.q), .int .u8 (.sym p.k), .int .u8 (.sym p.o), .int .u8 (.sym p.a), .str (SS.sym p.d), .int
  .u8 (.lit 0), .str (SS.lit (ByteArray.mk #[]))]))), .tok]⟩)))) (.leaf (.ret, ⟨[[.b false]], []⟩))) (.ite (p.k == 2) (.ite (p.d == (ByteArray.mk #[])) (.defI (IntKind.u8.wrap (20 + p.c)) fun z15 => .ite (z0 == z15) (.defI
  (IntKind.u8.wrap (20 + id)) fun z16 => .ite (z0 != z16) (.leaf (.ret, ⟨[[.b false]], []⟩)) (.ite (!(p.c == o.c && (p.q == o.q && (p.k == o.k && (p.o == o.o && (p.a == o.a && p.d == o.d)))))) (.leaf (.ret, ⟨[[.b false]],
  []⟩)) (.leaf (.normal, ⟨[[.u]], [.box [.i id, .i sq, .i 0, .i 0, .i 0, .i 0, .i 0, .s (ByteArray.mk #[]), .u, .i tk, .u], .lst 1 (rowNums [.i .u8, .i .u32, .i .u8, .i .u8, .i .u8, .s, .i .u8, .s] (catRows (.lit 0) (fun
  (x : Nat) => []) (chunk 8 [.int .u8 (.sym p.c), .int .u32 (.sym p.q), .int .u8 (.sym p.k), .int .u8 (.sym p.o), .int .u8 (.sym p.a), .str (SS.sym p.d), .int .u8 (.lit 0), .str (SS.lit (ByteArray.mk #[]))]))), .tok]⟩))))
  (.leaf (.ret, ⟨[[.b false]], []⟩))) (.leaf (.ret, ⟨[[.b false]], []⟩))) (.ite (p.k == 4) (.ite (p.c == p.c && (p.q == p.q && (p.k == p.k && (p.o == p.o && (p.a == 0 && p.d == (ByteArray.mk #[])))))) (.defI
  (IntKind.u8.wrap (20 + p.c)) fun z17 => .ite (z0 == z17) (.defI (IntKind.u8.wrap (20 + id)) fun z18 => .ite (z0 != z18) (.leaf (.ret, ⟨[[.b false]], []⟩)) (.ite (!(p.c == o.c && (p.q == o.q && (p.k == o.k && (p.o == o.o
  && (p.a == o.a && p.d == o.d)))))) (.leaf (.ret, ⟨[[.b false]], []⟩)) (.leaf (.normal, ⟨[[.u]], [.box [.i id, .i sq, .i 0, .i 0, .i 0, .i 0, .i 0, .s (ByteArray.mk #[]), .u, .i tk, .u], .lst 1 (rowNums [.i .u8, .i .u32,
  .i .u8, .i .u8, .i .u8, .s, .i .u8, .s] (catRows (.lit 0) (fun (x : Nat) => []) (chunk 8 [.int .u8 (.sym p.c), .int .u32 (.sym p.q), .int .u8 (.sym p.k), .int .u8 (.sym p.o), .int .u8 (.sym p.a), .str (SS.sym p.d), .int
  .u8 (.lit 0), .str (SS.lit (ByteArray.mk #[]))]))), .tok]⟩)))) (.leaf (.ret, ⟨[[.b false]], []⟩))) (.leaf (.ret, ⟨[[.b false]], []⟩))) (.ite (p.k == 5) (.ite (p.c == p.c && (p.q == p.q && (p.k == p.k && (p.o == p.o &&
  (p.a == 0 && p.d == (ByteArray.mk #[])))))) (.defI (IntKind.u8.wrap (20 + p.c)) fun z19 => .ite (z0 == z19) (.defI (IntKind.u8.wrap (20 + id)) fun z20 => .ite (z0 != z20) (.leaf (.ret, ⟨[[.b false]], []⟩)) (.ite (!(p.c
  == o.c && (p.q == o.q && (p.k == o.k && (p.o == o.o && (p.a == o.a && p.d == o.d)))))) (.leaf (.ret, ⟨[[.b false]], []⟩)) (.leaf (.normal, ⟨[[.u]], [.box [.i id, .i sq, .i 0, .i 0, .i 0, .i 0, .i 0, .s (ByteArray.mk
  #[]), .u, .i tk, .u], .lst 1 (rowNums [.i .u8, .i .u32, .i .u8, .i .u8, .i .u8, .s, .i .u8, .s] (catRows (.lit 0) (fun (x : Nat) => []) (chunk 8 [.int .u8 (.sym p.c), .int .u32 (.sym p.q), .int .u8 (.sym p.k), .int .u8
  (.sym p.o), .int .u8 (.sym p.a), .str (SS.sym p.d), .int .u8 (.lit 0), .str (SS.lit (ByteArray.mk #[]))]))), .tok]⟩)))) (.leaf (.ret, ⟨[[.b false]], []⟩))) (.leaf (.ret, ⟨[[.b false]], []⟩))) (.leaf (.ret, ⟨[[.b false]],
  []⟩)))))))))))))) (.leaf (.ret, ⟨[[.b false]], []⟩))) := by kernel_rfl
theorem ag_tail (id sq : Int) (o : OpS) (tk : Int) (r : Nat → List Num) (τ0 : Tm) : codeT Try.prog cbT 300 4 Try.f4.ntmps (ofL ((flat body4).drop 12)) (agM.tm (agP id sq o tk r) ++ τ0) (agM.heap (agP id sq o tk r)) 3 (outX 0 ⟨none, [], some (lawT 6)⟩) =
  .defI (IntKind.i64.wrap (tk + 1)) fun z0 => .defI (z0.tmod 3) fun z1 => .ite (decide (z1 > 0)) (.defI (IntKind.i64.wrap (z1 + 1)) fun z2 => .defI (z2.tmod 3) fun z3 => .ite (decide (z3 > 0)) (.defI (IntKind.i64.wrap (z3
  + 1)) fun z4 => .defI (z4.tmod 3) fun z5 => .ite (decide (z5 > 0)) (.defI (IntKind.i64.wrap (z5 + 1)) fun z6 => .defI (z6.tmod 3) fun z7 => .ite (decide (z7 > 0)) (.defI (IntKind.i64.wrap (z7 + 1)) fun z8 => .defI
  (z8.tmod 3) fun z9 => .ite (decide (z9 > 0)) (.defI (IntKind.i64.wrap (z9 + 1)) fun z10 => .defI (z10.tmod 3) fun z11 => .ite (decide (z11 > 0)) (.leaf (.ret, ⟨[[.b true]], []⟩)) (.leaf (.ret, ⟨[[.b true]], []⟩))) (.defI
  (IntKind.i64.wrap (z9 + 1)) fun z12 => .defI (z12.tmod 3) fun z13 => .ite (decide (z13 > 0)) (.leaf (.ret, ⟨[[.b true]], []⟩)) (.leaf (.ret, ⟨[[.b true]], []⟩)))) (.defI (IntKind.i64.wrap (z7 + 1)) fun z14 => .defI
  (z14.tmod 3) fun z15 => .ite (decide (z15 > 0)) (.defI (IntKind.i64.wrap (z15 + 1)) fun z16 => .defI (z16.tmod 3) fun z17 => .ite (decide (z17 > 0)) (.leaf (.ret, ⟨[[.b true]], []⟩)) (.leaf (.ret, ⟨[[.b true]], []⟩)))
  (.defI (IntKind.i64.wrap (z15 + 1)) fun z18 => .defI (z18.tmod 3) fun z19 => .ite (decide (z19 > 0)) (.leaf (.ret, ⟨[[.b true]], []⟩)) (.leaf (.ret, ⟨[[.b true]], []⟩))))) (.defI (IntKind.i64.wrap (z5 + 1)) fun z20 =>
  .defI (z20.tmod 3) fun z21 => .ite (decide (z21 > 0)) (.defI (IntKind.i64.wrap (z21 + 1)) fun z22 => .defI (z22.tmod 3) fun z23 => .ite (decide (z23 > 0)) (.defI (IntKind.i64.wrap (z23 + 1)) fun z24 => .defI (z24.tmod 3)
  fun z25 => .ite (decide (z25 > 0)) (.leaf (.ret, ⟨[[.b true]], []⟩)) (.leaf (.ret, ⟨[[.b true]], []⟩))) (.defI (IntKind.i64.wrap (z23 + 1)) fun z26 => .defI (z26.tmod 3) fun z27 => .ite (decide (z27 > 0)) (.leaf (.ret,
  ⟨[[.b true]], []⟩)) (.leaf (.ret, ⟨[[.b true]], []⟩)))) (.defI (IntKind.i64.wrap (z21 + 1)) fun z28 => .defI (z28.tmod 3) fun z29 => .ite (decide (z29 > 0)) (.defI (IntKind.i64.wrap (z29 + 1)) fun z30 => .defI (z30.tmod
  3) fun z31 => .ite (decide (z31 > 0)) (.leaf (.ret, ⟨[[.b true]], []⟩)) (.leaf (.ret, ⟨[[.b true]], []⟩))) (.defI (IntKind.i64.wrap (z29 + 1)) fun z32 => .defI (z32.tmod 3) fun z33 => .ite (decide (z33 > 0)) (.leaf
  (.ret, ⟨[[.b true]], []⟩)) (.leaf (.ret, ⟨[[.b true]], []⟩)))))) (.defI (IntKind.i64.wrap (z3 + 1)) fun z34 => .defI (z34.tmod 3) fun z35 => .ite (decide (z35 > 0)) (.defI (IntKind.i64.wrap (z35 + 1)) fun z36 => .defI
  (z36.tmod 3) fun z37 => .ite (decide (z37 > 0)) (.defI (IntKind.i64.wrap (z37 + 1)) fun z38 => .defI (z38.tmod 3) fun z39 => .ite (decide (z39 > 0)) (.defI (IntKind.i64.wrap (z39 + 1)) fun z40 => .defI (z40.tmod 3) fun
  z41 => .ite (decide (z41 > 0)) (.leaf (.ret, ⟨[[.b true]], []⟩)) (.leaf (.ret, ⟨[[.b true]], []⟩))) (.defI (IntKind.i64.wrap (z39 + 1)) fun z42 => .defI (z42.tmod 3) fun z43 => .ite (decide (z43 > 0)) (.leaf (.ret, ⟨[[.b
  true]], []⟩)) (.leaf (.ret, ⟨[[.b true]], []⟩)))) (.defI (IntKind.i64.wrap (z37 + 1)) fun z44 => .defI (z44.tmod 3) fun z45 => .ite (decide (z45 > 0)) (.defI (IntKind.i64.wrap (z45 + 1)) fun z46 => .defI (z46.tmod 3) fun
  z47 => .ite (decide (z47 > 0)) (.leaf (.ret, ⟨[[.b true]], []⟩)) (.leaf (.ret, ⟨[[.b true]], []⟩))) (.defI (IntKind.i64.wrap (z45 + 1)) fun z48 => .defI (z48.tmod 3) fun z49 => .ite (decide (z49 > 0)) (.leaf (.ret, ⟨[[.b
  true]], []⟩)) (.leaf (.ret, ⟨[[.b true]], []⟩))))) (.defI (IntKind.i64.wrap (z35 + 1)) fun z50 => .defI (z50.tmod 3) fun z51 => .ite (decide (z51 > 0)) (.defI (IntKind.i64.wrap (z51 + 1)) fun z52 => .defI (z52.tmod 3)
  fun z53 => .ite (decide (z53 > 0)) (.defI (IntKind.i64.wrap (z53 + 1)) fun z54 => .defI (z54.tmod 3) fun z55 => .ite (decide (z55 > 0)) (.leaf (.ret, ⟨[[.b true]], []⟩)) (.leaf (.ret, ⟨[[.b true]], []⟩))) (.defI
  (IntKind.i64.wrap (z53 + 1)) fun z56 => .defI (z56.tmod 3) fun z57 => .ite (decide (z57 > 0)) (.leaf (.ret, ⟨[[.b true]], []⟩)) (.leaf (.ret, ⟨[[.b true]], []⟩)))) (.defI (IntKind.i64.wrap (z51 + 1)) fun z58 => .defI
  (z58.tmod 3) fun z59 => .ite (decide (z59 > 0)) (.defI (IntKind.i64.wrap (z59 + 1)) fun z60 => .defI (z60.tmod 3) fun z61 => .ite (decide (z61 > 0)) (.leaf (.ret, ⟨[[.b true]], []⟩)) (.leaf (.ret, ⟨[[.b true]], []⟩)))
  (.defI (IntKind.i64.wrap (z59 + 1)) fun z62 => .defI (z62.tmod 3) fun z63 => .ite (decide (z63 > 0)) (.leaf (.ret, ⟨[[.b true]], []⟩)) (.leaf (.ret, ⟨[[.b true]], []⟩))))))) (.defI (IntKind.i64.wrap (z1 + 1)) fun z64 =>
  .defI (z64.tmod 3) fun z65 => .ite (decide (z65 > 0)) (.defI (IntKind.i64.wrap (z65 + 1)) fun z66 => .defI (z66.tmod 3) fun z67 => .ite (decide (z67 > 0)) (.defI (IntKind.i64.wrap (z67 + 1)) fun z68 => .defI (z68.tmod 3)
  fun z69 => .ite (decide (z69 > 0)) (.defI (IntKind.i64.wrap (z69 + 1)) fun z70 => .defI (z70.tmod 3) fun z71 => .ite (decide (z71 > 0)) (.defI (IntKind.i64.wrap (z71 + 1)) fun z72 => .defI (z72.tmod 3) fun z73 => .ite
  (decide (z73 > 0)) (.leaf (.ret, ⟨[[.b true]], []⟩)) (.leaf (.ret, ⟨[[.b true]], []⟩))) (.defI (IntKind.i64.wrap (z71 + 1)) fun z74 => .defI (z74.tmod 3) fun z75 => .ite (decide (z75 > 0)) (.leaf (.ret, ⟨[[.b true]],
  []⟩)) (.leaf (.ret, ⟨[[.b true]], []⟩)))) (.defI (IntKind.i64.wrap (z69 + 1)) fun z76 => .defI (z76.tmod 3) fun z77 => .ite (decide (z77 > 0)) (.defI (IntKind.i64.wrap (z77 + 1)) fun z78 => .defI (z78.tmod 3) fun z79 =>
  .ite (decide (z79 > 0)) (.leaf (.ret, ⟨[[.b true]], []⟩)) (.leaf (.ret, ⟨[[.b true]], []⟩))) (.defI (IntKind.i64.wrap (z77 + 1)) fun z80 => .defI (z80.tmod 3) fun z81 => .ite (decide (z81 > 0)) (.leaf (.ret, ⟨[[.b
  true]], []⟩)) (.leaf (.ret, ⟨[[.b true]], []⟩))))) (.defI (IntKind.i64.wrap (z67 + 1)) fun z82 => .defI (z82.tmod 3) fun z83 => .ite (decide (z83 > 0)) (.defI (IntKind.i64.wrap (z83 + 1)) fun z84 => .defI (z84.tmod 3)
  fun z85 => .ite (decide (z85 > 0)) (.defI (IntKind.i64.wrap (z85 + 1)) fun z86 => .defI (z86.tmod 3) fun z87 => .ite (decide (z87 > 0)) (.leaf (.ret, ⟨[[.b true]], []⟩)) (.leaf (.ret, ⟨[[.b true]], []⟩))) (.defI
  (IntKind.i64.wrap (z85 + 1)) fun z88 => .defI (z88.tmod 3) fun z89 => .ite (decide (z89 > 0)) (.leaf (.ret, ⟨[[.b true]], []⟩)) (.leaf (.ret, ⟨[[.b true]], []⟩)))) (.defI (IntKind.i64.wrap (z83 + 1)) fun z90 => .defI
  (z90.tmod 3) fun z91 => .ite (decide (z91 > 0)) (.defI (IntKind.i64.wrap (z91 + 1)) fun z92 => .defI (z92.tmod 3) fun z93 => .ite (decide (z93 > 0)) (.leaf (.ret, ⟨[[.b true]], []⟩)) (.leaf (.ret, ⟨[[.b true]], []⟩)))
  (.defI (IntKind.i64.wrap (z91 + 1)) fun z94 => .defI (z94.tmod 3) fun z95 => .ite (decide (z95 > 0)) (.leaf (.ret, ⟨[[.b true]], []⟩)) (.leaf (.ret, ⟨[[.b true]], []⟩)))))) (.defI (IntKind.i64.wrap (z65 + 1)) fun z96 =>
  .defI (z96.tmod 3) fun z97 => .ite (decide (z97 > 0)) (.defI (IntKind.i64.wrap (z97 + 1)) fun z98 => .defI (z98.tmod 3) fun z99 => .ite (decide (z99 > 0)) (.defI (IntKind.i64.wrap (z99 + 1)) fun z100 => .defI (z100.tmod
  3) fun z101 => .ite (decide (z101 > 0)) (.defI (IntKind.i64.wrap (z101 + 1)) fun z102 => .defI (z102.tmod 3) fun z103 => .ite (decide (z103 > 0)) (.leaf (.ret, ⟨[[.b true]], []⟩)) (.leaf (.ret, ⟨[[.b true]], []⟩)))
  (.defI (IntKind.i64.wrap (z101 + 1)) fun z104 => .defI (z104.tmod 3) fun z105 => .ite (decide (z105 > 0)) (.leaf (.ret, ⟨[[.b true]], []⟩)) (.leaf (.ret, ⟨[[.b true]], []⟩)))) (.defI (IntKind.i64.wrap (z99 + 1)) fun z106
  => .defI (z106.tmod 3) fun z107 => .ite (decide (z107 > 0)) (.defI (IntKind.i64.wrap (z107 + 1)) fun z108 => .defI (z108.tmod 3) fun z109 => .ite (decide (z109 > 0)) (.leaf (.ret, ⟨[[.b true]], []⟩)) (.leaf (.ret, ⟨[[.b
  true]], []⟩))) (.defI (IntKind.i64.wrap (z107 + 1)) fun z110 => .defI (z110.tmod 3) fun z111 => .ite (decide (z111 > 0)) (.leaf (.ret, ⟨[[.b true]], []⟩)) (.leaf (.ret, ⟨[[.b true]], []⟩))))) (.defI (IntKind.i64.wrap
  (z97 + 1)) fun z112 => .defI (z112.tmod 3) fun z113 => .ite (decide (z113 > 0)) (.defI (IntKind.i64.wrap (z113 + 1)) fun z114 => .defI (z114.tmod 3) fun z115 => .ite (decide (z115 > 0)) (.defI (IntKind.i64.wrap (z115 +
  1)) fun z116 => .defI (z116.tmod 3) fun z117 => .ite (decide (z117 > 0)) (.leaf (.ret, ⟨[[.b true]], []⟩)) (.leaf (.ret, ⟨[[.b true]], []⟩))) (.defI (IntKind.i64.wrap (z115 + 1)) fun z118 => .defI (z118.tmod 3) fun z119
  => .ite (decide (z119 > 0)) (.leaf (.ret, ⟨[[.b true]], []⟩)) (.leaf (.ret, ⟨[[.b true]], []⟩)))) (.defI (IntKind.i64.wrap (z113 + 1)) fun z120 => .defI (z120.tmod 3) fun z121 => .ite (decide (z121 > 0)) (.defI
  (IntKind.i64.wrap (z121 + 1)) fun z122 => .defI (z122.tmod 3) fun z123 => .ite (decide (z123 > 0)) (.leaf (.ret, ⟨[[.b true]], []⟩)) (.leaf (.ret, ⟨[[.b true]], []⟩))) (.defI (IntKind.i64.wrap (z121 + 1)) fun z124 =>
  .defI (z124.tmod 3) fun z125 => .ite (decide (z125 > 0)) (.leaf (.ret, ⟨[[.b true]], []⟩)) (.leaf (.ret, ⟨[[.b true]], []⟩))))))) := by kernel_rfl
end Go.Proofs.Ytnfmdpelafaoaaa
