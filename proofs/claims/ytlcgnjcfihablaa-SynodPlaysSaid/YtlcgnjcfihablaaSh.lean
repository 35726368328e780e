/- SynodHears: one alone is no quorum, however often it is heard; those of another ballot are not heard.
   Conditions: none. -/
import Derived.Test.YtlcgnjcfihablaaSs
set_option linter.unusedSimpArgs false
set_option linter.unusedVariables false
namespace Go.Proofs.Ytlcgnjcfihablaa
open Go.Eng Go.RowKit Go.ChangeShapes Go.WideShapes
set_option maxRecDepth 100000
noncomputable def body4 : Code := Try.f4.body.getD .skip
noncomputable def x4 : Code := lp ((flat body4).getD 7 .skip)
def shT : TS := ⟨[0, 1, 2], [.one (.i .u8), .one (.i .u8), tB2], [], 0⟩
def shL : TS := ⟨[0, 5, 7, 8, 9, 10], [.one (.i .u8), .one (.ptr 0 0), .one (.ptr 1 0), .one (.ptr 6 0), .one (.i .u8), .one (.i .i64)], (0, .box rB2) :: prHpK 1 2 4 ++ [(6, .box rB2)], 7⟩
def shN (t : Int) (o : B2) (f : Int) (p : PrS) (i : Int) : EN := ⟨[[.i t], [], [], [], [.i f], [.i i]], .box [.i o.1, .i o.2] :: p.on ++ [.box [.i p.b.1, .i p.b.2]]⟩
theorem sh_pre (t g : Int) (o : B2) (τ0 : Tm) : codeT Try.prog sdT 300 4 Try.f4.ntmps (ofL ((flat body4).take 7)) (shT.tm ⟨[[.i t], [.i g], [.i o.1, .i o.2]], []⟩ ++ τ0) (shT.heap ⟨[[.i t], [.i g], [.i o.1, .i o.2]], []⟩) 0 (outX 0 ⟨some shL, [], some (lawT 6)⟩) =
  .defE ⟨[[.u], [.i 0, .i 0]], [.box [.i 1, .i 4, .i 0, .i 0, .i 0, .i 0, .i 0, .i 0, .i 0, .i 0, .i 0, .i 0, .i 0, .i 0, .u, .u, .b false, .b false, .i 0, .i 0, .i 0, .b false, .b false], .lst 0 fun (x : Nat) => [], .tok,
  .lst 0 fun (x : Nat) => [], .tok]⟩ fun e0 => .defI (topN (e0.ai 1 0) (prOf e0).b.fst) fun z1 => .defI (prOf e0).who fun z2 => .defI ((prOf e0).start (e0.ai 1 0, e0.ai 1 1)).who fun z3 => .defI ((prOf e0).start (e0.ai 1
  0, e0.ai 1 1)).wants.fst fun z4 => .defI ((prOf e0).start (e0.ai 1 0, e0.ai 1 1)).wants.snd.fst fun z5 => .defI ((prOf e0).start (e0.ai 1 0, e0.ai 1 1)).wants.snd.snd fun z6 => .defI ((prOf e0).start (e0.ai 1 0, e0.ai 1
  1)).value.fst fun z7 => .defI ((prOf e0).start (e0.ai 1 0, e0.ai 1 1)).value.snd.fst fun z8 => .defI ((prOf e0).start (e0.ai 1 0, e0.ai 1 1)).value.snd.snd fun z9 => .defI ((prOf e0).start (e0.ai 1 0, e0.ai 1
  1)).best.fst fun z10 => .defI ((prOf e0).start (e0.ai 1 0, e0.ai 1 1)).best.snd.fst fun z11 => .defI ((prOf e0).start (e0.ai 1 0, e0.ai 1 1)).best.snd.snd fun z12 => .defI ((prOf e0).start (e0.ai 1 0, e0.ai 1 1)).b.fst
  fun z13 => .defI ((prOf e0).start (e0.ai 1 0, e0.ai 1 1)).b.snd fun z14 => .defI ((prOf e0).start (e0.ai 1 0, e0.ai 1 1)).acc.fst fun z15 => .defI ((prOf e0).start (e0.ai 1 0, e0.ai 1 1)).acc.snd fun z16 => .defB ((prOf
  e0).start (e0.ai 1 0, e0.ai 1 1)).has fun z17 => .defB ((prOf e0).start (e0.ai 1 0, e0.ai 1 1)).valued fun z18 => .defI ((prOf e0).start (e0.ai 1 0, e0.ai 1 1)).dec.fst fun z19 => .defI ((prOf e0).start (e0.ai 1 0, e0.ai
  1 1)).dec.snd.fst fun z20 => .defI ((prOf e0).start (e0.ai 1 0, e0.ai 1 1)).dec.snd.snd fun z21 => .defB ((prOf e0).start (e0.ai 1 0, e0.ai 1 1)).done fun z22 => .defB ((prOf e0).start (e0.ai 1 0, e0.ai 1 1)).ever fun
  z23 => .defI 0 fun z24 => .defI 0 fun z25 => .defI (g.tmod 3) fun z26 => .must (rowsB [.i .u8] (instR [.i .u8] (rowI ([]))) z24.toNat) (.must (rowsB [.i .u8] (instR [.i .u8] (rowI ([]))) z25.toNat) (.leaf (.normal, ⟨[[.i
  t], [.u], [.u], [.u], [.i z26], [.i 0]], [.box [.i o.fst, .i o.snd], .box [.i z3, .i z4, .i z5, .i z6, .i z7, .i z8, .i z9, .i z10, .i z11, .i z12, .i z13, .i z14, .i z15, .i z16, .u, .u, .b z17, .b z18, .i z19, .i z20,
  .i z21, .b z22, .b z23], .lst z24.toNat (rowI ([])), .tok, .lst z25.toNat (rowI ([])), .tok, .box [.i z1, .i z2]]⟩))) := by kernel_rfl
theorem sh_x (t : Int) (o : B2) (f : Int) (p : PrS) (i : Int) (τ0 : Tm) : codeT Try.prog sdT 300 4 Try.f4.ntmps x4 (shL.tm (shN t o f p i) ++ τ0) (shL.heap (shN t o f p i)) 7 (outX 0 ⟨some shL, [(0, shL)], some (lawT 6)⟩) =
  .defI (t.tmod 10) fun z0 => .defI (IntKind.i64.wrap z0) fun z1 => .ite (decide (i ≤ z1)) (.must (rowsB [.i .u8] (instR [.i .u8] (rowI p.pl)) p.pl.length) (.must (rowsB [.i .u8] (instR [.i .u8] (rowI p.al)) p.al.length)
  (.defE ⟨[[.u], [.i f], [.i p.b.fst, .i p.b.snd], [.i 0, .i 0], [.i 0, .i 0, .i 0], [.b false]], p.on⟩ fun e2 => .must (decide ((prOf e2).pl.length ≤ 1000)) (.defI (promE e2).snd.who fun z3 => .defI (promE
  e2).snd.wants.fst fun z4 => .defI (promE e2).snd.wants.snd.fst fun z5 => .defI (promE e2).snd.wants.snd.snd fun z6 => .defI (promE e2).snd.value.fst fun z7 => .defI (promE e2).snd.value.snd.fst fun z8 => .defI (promE
  e2).snd.value.snd.snd fun z9 => .defI (promE e2).snd.best.fst fun z10 => .defI (promE e2).snd.best.snd.fst fun z11 => .defI (promE e2).snd.best.snd.snd fun z12 => .defI (promE e2).snd.b.fst fun z13 => .defI (promE
  e2).snd.b.snd fun z14 => .defI (promE e2).snd.acc.fst fun z15 => .defI (promE e2).snd.acc.snd fun z16 => .defB (promE e2).snd.has fun z17 => .defB (promE e2).snd.valued fun z18 => .defI (promE e2).snd.dec.fst fun z19 =>
  .defI (promE e2).snd.dec.snd.fst fun z20 => .defI (promE e2).snd.dec.snd.snd fun z21 => .defB (promE e2).snd.done fun z22 => .defB (promE e2).snd.ever fun z23 => .defI ((promE e2).snd.pl.length : Int) fun z24 => .defI
  ((promE e2).snd.al.length : Int) fun z25 => .ite (promE e2).fst (.leaf (.ret, ⟨[[.b false]], []⟩)) (.ite (!(o.fst == p.b.fst && o.snd == p.b.snd)) (.defI (IntKind.u8.wrap (f + 1)) fun z26 => .defI (z26.tmod 3) fun z27 =>
  .must (rowsB [.i .u8] (instR [.i .u8] (rowI ((promE e2).snd.pl))) z24.toNat) (.must (rowsB [.i .u8] (instR [.i .u8] (rowI ((promE e2).snd.al))) z25.toNat) (.defE ⟨[[.u], [.i z27], [.i o.fst, .i o.snd], [.i 0, .i 0], [.i
  0, .i 0, .i 0], [.b false]], [.box [.i z3, .i z4, .i z5, .i z6, .i z7, .i z8, .i z9, .i z10, .i z11, .i z12, .i z13, .i z14, .i z15, .i z16, .u, .u, .b z17, .b z18, .i z19, .i z20, .i z21, .b z22, .b z23], .lst z24.toNat
  (rowI ((promE e2).snd.pl)), .tok, .lst z25.toNat (rowI ((promE e2).snd.al)), .tok]⟩ fun e28 => .must (decide ((prOf e28).pl.length ≤ 1000)) (.defI (promE e28).snd.who fun z29 => .defI (promE e28).snd.wants.fst fun z30 =>
  .defI (promE e28).snd.wants.snd.fst fun z31 => .defI (promE e28).snd.wants.snd.snd fun z32 => .defI (promE e28).snd.value.fst fun z33 => .defI (promE e28).snd.value.snd.fst fun z34 => .defI (promE e28).snd.value.snd.snd
  fun z35 => .defI (promE e28).snd.best.fst fun z36 => .defI (promE e28).snd.best.snd.fst fun z37 => .defI (promE e28).snd.best.snd.snd fun z38 => .defI (promE e28).snd.b.fst fun z39 => .defI (promE e28).snd.b.snd fun z40
  => .defI (promE e28).snd.acc.fst fun z41 => .defI (promE e28).snd.acc.snd fun z42 => .defB (promE e28).snd.has fun z43 => .defB (promE e28).snd.valued fun z44 => .defI (promE e28).snd.dec.fst fun z45 => .defI (promE
  e28).snd.dec.snd.fst fun z46 => .defI (promE e28).snd.dec.snd.snd fun z47 => .defB (promE e28).snd.done fun z48 => .defB (promE e28).snd.ever fun z49 => .defI ((promE e28).snd.pl.length : Int) fun z50 => .defI ((promE
  e28).snd.al.length : Int) fun z51 => .ite (promE e28).fst (.leaf (.ret, ⟨[[.b false]], []⟩)) (.defI (IntKind.u8.wrap (3 + f)) fun z52 => .must (rowsB [.i .u8] (instR [.i .u8] (rowI ((promE e28).snd.pl))) z50.toNat)
  (.must (rowsB [.i .u8] (instR [.i .u8] (rowI ((promE e28).snd.al))) z51.toNat) (.defE ⟨[[.u], [.i z52], [.i p.b.fst, .i p.b.snd], [.i 0, .i 0], [.i 0, .i 0, .i 0], [.b false]], [.box [.i z29, .i z30, .i z31, .i z32, .i
  z33, .i z34, .i z35, .i z36, .i z37, .i z38, .i z39, .i z40, .i z41, .i z42, .u, .u, .b z43, .b z44, .i z45, .i z46, .i z47, .b z48, .b z49], .lst z50.toNat (rowI ((promE e28).snd.pl)), .tok, .lst z51.toNat (rowI ((promE
  e28).snd.al)), .tok]⟩ fun e53 => .must (decide ((prOf e53).pl.length ≤ 1000)) (.defI (promE e53).snd.who fun z54 => .defI (promE e53).snd.wants.fst fun z55 => .defI (promE e53).snd.wants.snd.fst fun z56 => .defI (promE
  e53).snd.wants.snd.snd fun z57 => .defI (promE e53).snd.value.fst fun z58 => .defI (promE e53).snd.value.snd.fst fun z59 => .defI (promE e53).snd.value.snd.snd fun z60 => .defI (promE e53).snd.best.fst fun z61 => .defI
  (promE e53).snd.best.snd.fst fun z62 => .defI (promE e53).snd.best.snd.snd fun z63 => .defI (promE e53).snd.b.fst fun z64 => .defI (promE e53).snd.b.snd fun z65 => .defI (promE e53).snd.acc.fst fun z66 => .defI (promE
  e53).snd.acc.snd fun z67 => .defB (promE e53).snd.has fun z68 => .defB (promE e53).snd.valued fun z69 => .defI (promE e53).snd.dec.fst fun z70 => .defI (promE e53).snd.dec.snd.fst fun z71 => .defI (promE
  e53).snd.dec.snd.snd fun z72 => .defB (promE e53).snd.done fun z73 => .defB (promE e53).snd.ever fun z74 => .defI ((promE e53).snd.pl.length : Int) fun z75 => .defI ((promE e53).snd.al.length : Int) fun z76 => .ite
  (promE e53).fst (.leaf (.ret, ⟨[[.b false]], []⟩)) (.defI (IntKind.i64.wrap (i + 1)) fun z77 => .must (rowsB [.i .u8] (instR [.i .u8] (rowI ((promE e53).snd.pl))) z75.toNat) (.must (rowsB [.i .u8] (instR [.i .u8] (rowI
  ((promE e53).snd.al))) z76.toNat) (.leaf (.normal, ⟨[[.i t], [.u], [.u], [.u], [.i f], [.i z77]], [.box [.i o.fst, .i o.snd], .box [.i z54, .i z55, .i z56, .i z57, .i z58, .i z59, .i z60, .i z61, .i z62, .i z63, .i z64,
  .i z65, .i z66, .i z67, .u, .u, .b z68, .b z69, .i z70, .i z71, .i z72, .b z73, .b z74], .lst z75.toNat (rowI ((promE e53).snd.pl)), .tok, .lst z76.toNat (rowI ((promE e53).snd.al)), .tok, .box [.i p.b.fst, .i
  p.b.snd]]⟩)))))))))))) (.defI (IntKind.u8.wrap (3 + f)) fun z78 => .must (rowsB [.i .u8] (instR [.i .u8] (rowI ((promE e2).snd.pl))) z24.toNat) (.must (rowsB [.i .u8] (instR [.i .u8] (rowI ((promE e2).snd.al)))
  z25.toNat) (.defE ⟨[[.u], [.i z78], [.i p.b.fst, .i p.b.snd], [.i 0, .i 0], [.i 0, .i 0, .i 0], [.b false]], [.box [.i z3, .i z4, .i z5, .i z6, .i z7, .i z8, .i z9, .i z10, .i z11, .i z12, .i z13, .i z14, .i z15, .i z16,
  .u, .u, .b z17, .b z18, .i z19, .i z20, .i z21, .b z22, .b z23], .lst z24.toNat (rowI ((promE e2).snd.pl)), .tok, .lst z25.toNat (rowI ((promE e2).snd.al)), .tok]⟩ fun e79 => .must (decide ((prOf e79).pl.length ≤ 1000))
  (.defI (promE e79).snd.who fun z80 => .defI (promE e79).snd.wants.fst fun z81 => .defI (promE e79).snd.wants.snd.fst fun z82 => .defI (promE e79).snd.wants.snd.snd fun z83 => .defI (promE e79).snd.value.fst fun z84 =>
  .defI (promE e79).snd.value.snd.fst fun z85 => .defI (promE e79).snd.value.snd.snd fun z86 => .defI (promE e79).snd.best.fst fun z87 => .defI (promE e79).snd.best.snd.fst fun z88 => .defI (promE e79).snd.best.snd.snd fun
  z89 => .defI (promE e79).snd.b.fst fun z90 => .defI (promE e79).snd.b.snd fun z91 => .defI (promE e79).snd.acc.fst fun z92 => .defI (promE e79).snd.acc.snd fun z93 => .defB (promE e79).snd.has fun z94 => .defB (promE
  e79).snd.valued fun z95 => .defI (promE e79).snd.dec.fst fun z96 => .defI (promE e79).snd.dec.snd.fst fun z97 => .defI (promE e79).snd.dec.snd.snd fun z98 => .defB (promE e79).snd.done fun z99 => .defB (promE
  e79).snd.ever fun z100 => .defI ((promE e79).snd.pl.length : Int) fun z101 => .defI ((promE e79).snd.al.length : Int) fun z102 => .ite (promE e79).fst (.leaf (.ret, ⟨[[.b false]], []⟩)) (.defI (IntKind.i64.wrap (i + 1))
  fun z103 => .must (rowsB [.i .u8] (instR [.i .u8] (rowI ((promE e79).snd.pl))) z101.toNat) (.must (rowsB [.i .u8] (instR [.i .u8] (rowI ((promE e79).snd.al))) z102.toNat) (.leaf (.normal, ⟨[[.i t], [.u], [.u], [.u], [.i
  f], [.i z103]], [.box [.i o.fst, .i o.snd], .box [.i z80, .i z81, .i z82, .i z83, .i z84, .i z85, .i z86, .i z87, .i z88, .i z89, .i z90, .i z91, .i z92, .i z93, .u, .u, .b z94, .b z95, .i z96, .i z97, .i z98, .b z99, .b
  z100], .lst z101.toNat (rowI ((promE e79).snd.pl)), .tok, .lst z102.toNat (rowI ((promE e79).snd.al)), .tok, .box [.i p.b.fst, .i p.b.snd]]⟩))))))))))))) (.must (rowsB [.i .u8] (instR [.i .u8] (rowI p.pl)) p.pl.length)
  (.must (rowsB [.i .u8] (instR [.i .u8] (rowI p.al)) p.al.length) (.leaf (.exit 0, ⟨[[.i t], [.u], [.u], [.u], [.i f], [.i i]], [.box [.i o.fst, .i o.snd], .box [.i p.who, .i p.wants.fst, .i p.wants.snd.fst, .i
  p.wants.snd.snd, .i p.value.fst, .i p.value.snd.fst, .i p.value.snd.snd, .i p.best.fst, .i p.best.snd.fst, .i p.best.snd.snd, .i p.b.fst, .i p.b.snd, .i p.acc.fst, .i p.acc.snd, .u, .u, .b p.has, .b p.valued, .i
  p.dec.fst, .i p.dec.snd.fst, .i p.dec.snd.snd, .b p.done, .b p.ever], .lst p.pl.length (rowI p.pl), .tok, .lst p.al.length (rowI p.al), .tok, .box [.i p.b.fst, .i p.b.snd]]⟩)))) := by kernel_rfl
theorem sh_tail (t : Int) (o : B2) (f : Int) (p : PrS) (i : Int) (τ0 : Tm) : codeT Try.prog sdT 300 4 Try.f4.ntmps (ofL ((flat body4).drop 8)) (shL.tm (shN t o f p i) ++ τ0) (shL.heap (shN t o f p i)) 7 (outX 0 ⟨none, [], some (lawT 6)⟩) =
  .ite (!p.valued) (.ite (!p.ever) (.must (rowsB [.i .u8] (instR [.i .u8] (rowI p.pl)) p.pl.length) (.must (rowsB [.i .u8] (instR [.i .u8] (rowI p.al)) p.al.length) (.defE ⟨[[.u], [.i f], [.i p.b.fst, .i p.b.snd]], p.on⟩
  fun e0 => .must (decide ((prOf e0).al.length ≤ 1000)) (.defI (accE e0).snd.who fun z1 => .defI (accE e0).snd.wants.fst fun z2 => .defI (accE e0).snd.wants.snd.fst fun z3 => .defI (accE e0).snd.wants.snd.snd fun z4 =>
  .defI (accE e0).snd.value.fst fun z5 => .defI (accE e0).snd.value.snd.fst fun z6 => .defI (accE e0).snd.value.snd.snd fun z7 => .defI (accE e0).snd.best.fst fun z8 => .defI (accE e0).snd.best.snd.fst fun z9 => .defI
  (accE e0).snd.best.snd.snd fun z10 => .defI (accE e0).snd.b.fst fun z11 => .defI (accE e0).snd.b.snd fun z12 => .defI (accE e0).snd.acc.fst fun z13 => .defI (accE e0).snd.acc.snd fun z14 => .defB (accE e0).snd.has fun
  z15 => .defB (accE e0).snd.valued fun z16 => .defI (accE e0).snd.dec.fst fun z17 => .defI (accE e0).snd.dec.snd.fst fun z18 => .defI (accE e0).snd.dec.snd.snd fun z19 => .defB (accE e0).snd.done fun z20 => .defB (accE
  e0).snd.ever fun z21 => .defI ((accE e0).snd.pl.length : Int) fun z22 => .defI ((accE e0).snd.al.length : Int) fun z23 => .ite (!(accE e0).fst) (.defI (IntKind.u8.wrap (f + 1)) fun z24 => .defI (z24.tmod 3) fun z25 =>
  .must (rowsB [.i .u8] (instR [.i .u8] (rowI ((accE e0).snd.pl))) z22.toNat) (.must (rowsB [.i .u8] (instR [.i .u8] (rowI ((accE e0).snd.al))) z23.toNat) (.defE ⟨[[.u], [.i z25], [.i p.b.fst, .i p.b.snd], [.i 0, .i 0],
  [.i 0, .i 0, .i 0], [.b false]], [.box [.i z1, .i z2, .i z3, .i z4, .i z5, .i z6, .i z7, .i z8, .i z9, .i z10, .i z11, .i z12, .i z13, .i z14, .u, .u, .b z15, .b z16, .i z17, .i z18, .i z19, .b z20, .b z21], .lst
  z22.toNat (rowI ((accE e0).snd.pl)), .tok, .lst z23.toNat (rowI ((accE e0).snd.al)), .tok]⟩ fun e26 => .must (decide ((prOf e26).pl.length ≤ 1000)) (.defI (promE e26).snd.who fun z27 => .defI (promE e26).snd.wants.fst
  fun z28 => .defI (promE e26).snd.wants.snd.fst fun z29 => .defI (promE e26).snd.wants.snd.snd fun z30 => .defI (promE e26).snd.value.fst fun z31 => .defI (promE e26).snd.value.snd.fst fun z32 => .defI (promE
  e26).snd.value.snd.snd fun z33 => .defI (promE e26).snd.best.fst fun z34 => .defI (promE e26).snd.best.snd.fst fun z35 => .defI (promE e26).snd.best.snd.snd fun z36 => .defI (promE e26).snd.b.fst fun z37 => .defI (promE
  e26).snd.b.snd fun z38 => .defI (promE e26).snd.acc.fst fun z39 => .defI (promE e26).snd.acc.snd fun z40 => .defB (promE e26).snd.has fun z41 => .defB (promE e26).snd.valued fun z42 => .defI (promE e26).snd.dec.fst fun
  z43 => .defI (promE e26).snd.dec.snd.fst fun z44 => .defI (promE e26).snd.dec.snd.snd fun z45 => .defB (promE e26).snd.done fun z46 => .defB (promE e26).snd.ever fun z47 => .defI ((promE e26).snd.pl.length : Int) fun z48
  => .defI ((promE e26).snd.al.length : Int) fun z49 => .leaf (.ret, ⟨[[.b (promE e26).fst]], []⟩))))) (.leaf (.ret, ⟨[[.b false]], []⟩)))))) (.leaf (.ret, ⟨[[.b false]], []⟩))) (.leaf (.ret, ⟨[[.b false]], []⟩)) := by kernel_rfl
def shP (pl : List Int) : PrS := ⟨1, (4, 0, 0), (0, 0, 0), (0, 0, 0), (1, 1), (0, 0), pl, [], false, false, (0, 0, 0), false, false⟩
theorem body4_eq : Try.f4.body = some body4 := by kernel_rfl
theorem in4 : Within Try.prog 4 Try.f4.ntmps body4 := within_body Try.func4 body4_eq
theorem lp4 : (flat body4).drop 7 = [.block 0 (.loop x4)] ++ (flat body4).drop 8 := by kernel_rfl
theorem in4x : Within Try.prog 4 Try.f4.ntmps x4 := by
  have h : (flat body4)[7]? = some (.block 0 (.loop x4)) := by kernel_rfl
  exact within_loop (within_block (within_at in4 7 h))
theorem three' {f : Int} (h : 0 ≤ f ∧ f < 3) : f = 0 ∨ f = 1 ∨ f = 2 := by omega
theorem prom_1 {f : Int} (hf : 0 ≤ f ∧ f < 3) {pl : List Int} (hp : pl = [] ∨ pl = [f]) : (shP pl).promise f (1, 1) (0, 0) (0, 0, 0) false = (false, shP [f]) := by
  rcases three' hf with rfl | rfl | rfl <;> rcases hp with rfl | rfl <;> rfl
theorem prom_o {f g : Int} {o : B2} (h : (!(o.1 == 1 && o.2 == 1)) = true) : (shP [f]).promise g o (0, 0) (0, 0, 0) false = (false, shP [f]) := by
  have h : (o.1 == 1 && o.2 == 1) = false := by
    cases hh : (o.1 == 1 && o.2 == 1) with
    | false => rfl
    | true => rw [hh] at h; cases h
  show (bif false then _ else bif decide ((1 : Int) > 0) then bif o.1 == 1 && o.2 == 1 then _ else (false, shP [f]) else _) = _
  rw [h]
  rfl
theorem prom_3 {f g : Int} (h : g ≥ 3) : (shP [f]).promise g (1, 1) (0, 0) (0, 0, 0) false = (false, shP [f]) := by
  show (bif false then _ else bif decide ((1 : Int) > 0) then bif (1 : Int) == 1 && (1 : Int) == 1 then bif decide (g ≥ 3) then (false, shP [f]) else _ else _ else _) = _
  rw [decide_eq_true h]
  rfl
def shI (f : Int) (d : List Int × Int) : Prop := 0 ≤ d.2 ∧ d.2 ≤ 10 ∧ ((d.1 = [] ∧ d.2 = 0) ∨ d.1 = [f])
section
variable (t : Int) (o : B2) (f : Int) (ht : 0 ≤ t) (hf : 0 ≤ f ∧ f < 3)
def shQ (t : Int) (o : B2) (f : Int) : Ex → EN → Prop
  | .exit _, e => ∃ i, shL.eqv e (shN t o f (shP [f]) i)
  | .ret, e => lawR .ret e
  | .normal, _ => True
include ht hf in
set_option maxHeartbeats 4000000 in
theorem sh_loop (d : List Int × Int) (hd : shI f d) : HT Try.prog Try.f4.ntmps 0 (.loop x4) 7 (shL.tm (shN t o f (shP d.1) d.2)) (shL.heap (shN t o f (shP d.1) d.2)) (QX ⟨none, [(0, shL)], some (lawT 6)⟩ (shQ t o f)) := by
  refine HT.loopX sdTab mixed (n := 300) in4x shL _ _ (fun d : List Int × Int => shN t o f (shP d.1) d.2) (shI f) (fun d => (10 - d.2).toNat) (fun _ => shQ t o f) (Nat.zero_le _) ?_ d hd
  rintro ⟨pl, i⟩ ⟨h0, h1, h2⟩ τ0
  dsimp only at h0 h1 h2
  refine holds_of_eq (sh_x t o f (shP pl) i τ0) (holds_defI fun z0 e0 => holds_defI fun z1 e1 => ?_)
  have hz0 := tmod_in 10 ht (by decide)
  rw [← e0] at hz0
  rw [IntWalk.i64_in _ (by omega)] at e1
  subst e1
  have e2 : IntKind.i64.wrap (i + 1) = i + 1 := IntWalk.i64_in _ (by omega)
  have e3 : IntKind.u8.wrap (3 + f) = 3 + f := IntWalk.u8_in _ (by omega)
  have hpl : pl = [] ∨ pl = [f] := h2.imp And.left id
  have hll : pl.length ≤ 1 := by rcases hpl with rfl | rfl <;> simp
  have lastly : ∀ e, shL.eqv e (shN t o f (shP [f]) (i + 1)) → i ≤ z1 → ∃ d' : List Int × Int, shI f d' ∧ (10 - d'.2).toNat < (10 - i).toNat ∧ shL.eqv e (shN t o f (shP d'.1) d'.2) ∧ ∀ ex e, shQ t o f ex e → shQ t o f ex e :=
    fun e he hi => ⟨([f], i + 1), ⟨by show 0 ≤ i + 1; omega, by show i + 1 ≤ 10; omega, .inr rfl⟩, by show (10 - (i + 1)).toNat < (10 - i).toNat; omega, he, fun _ _ h => h⟩
  refine holds_ite (fun hi => ?_) (fun hi => ?_)
  · have hi := of_decide_eq_true hi
    refine holds_must (rowsB_i _ _ _) (holds_must (rowsB_i _ _ _) (holds_defE fun e he => ?_))
    have hq : promE e = (false, shP [f]) := by rw [he]; exact (promE_on (shP pl) _ f 1 1 0 0 0 0 0 false).trans (prom_1 hf hpl)
    refine holds_must (decide_eq_true (by rw [he, prOf_on]; show pl.length ≤ 1000; omega)) ?_
    simp only [hq]
    clear he hq e
    (repeat' with_reducible (first | refine holds_inI ?_ | refine holds_inB ?_))
    refine holds_ite (fun h => absurd h Bool.false_ne_true) (fun _ => holds_ite (fun ho => ?_) (fun ho => ?_))
    · (repeat' with_reducible (first | refine holds_inI ?_ | refine holds_inB ?_))
      refine holds_must (rowsB_i _ _ _) (holds_must (rowsB_i _ _ _) (holds_defE fun e he => ?_))
      have hq : promE e = (false, shP [f]) := by rw [he]; exact (promE_on (shP [f]) _ _ o.1 o.2 0 0 0 0 0 false).trans (prom_o ho)
      refine holds_must (decide_eq_true (by rw [he]; exact Nat.le_trans (Nat.le_of_eq (congrArg (fun p : PrS => p.pl.length) (prOf_on _ (shP [f])))) (show 1 ≤ 1000 by decide))) ?_
      simp only [hq]
      clear he hq e
      (repeat' with_reducible (first | refine holds_inI ?_ | refine holds_inB ?_))
      refine holds_ite (fun h => absurd h Bool.false_ne_true) (fun _ => ?_)
      (repeat' with_reducible (first | refine holds_inI ?_ | refine holds_inB ?_))
      refine holds_must (rowsB_i _ _ _) (holds_must (rowsB_i _ _ _) (holds_defE fun e he => ?_))
      have hq : promE e = (false, shP [f]) := by rw [he, e3]; exact (promE_on (shP [f]) _ (3 + f) 1 1 0 0 0 0 0 false).trans (prom_3 (by omega))
      refine holds_must (decide_eq_true (by rw [he]; exact Nat.le_trans (Nat.le_of_eq (congrArg (fun p : PrS => p.pl.length) (prOf_on _ (shP [f])))) (show 1 ≤ 1000 by decide))) ?_
      simp only [hq]
      clear he hq e
      (repeat' with_reducible (first | refine holds_inI ?_ | refine holds_inB ?_))
      refine holds_ite (fun h => absurd h Bool.false_ne_true) (fun _ => ?_)
      (repeat' with_reducible (first | refine holds_inI ?_ | refine holds_inB ?_))
      refine holds_must (rowsB_i _ _ _) (holds_must (rowsB_i _ _ _) (holds_leaf (lastly _ ?_ hi)))
      refine ⟨⟨rfl, trivial, trivial, trivial, rfl, e2, trivial⟩, ?_⟩
      (repeat' (first | exact trivial | exact rfl | exact TS.eqv_refl _ _ | exact len_app _ _ | exact rows_appI | exact fun _ _ => eqvL_refl _ _ | exact fun i _ => eqvL_rowNums rfl _ i | apply And.intro))
    · (repeat' with_reducible (first | refine holds_inI ?_ | refine holds_inB ?_))
      refine holds_must (rowsB_i _ _ _) (holds_must (rowsB_i _ _ _) (holds_defE fun e he => ?_))
      have hq : promE e = (false, shP [f]) := by rw [he, e3]; exact (promE_on (shP [f]) _ (3 + f) 1 1 0 0 0 0 0 false).trans (prom_3 (by omega))
      refine holds_must (decide_eq_true (by rw [he]; exact Nat.le_trans (Nat.le_of_eq (congrArg (fun p : PrS => p.pl.length) (prOf_on _ (shP [f])))) (show 1 ≤ 1000 by decide))) ?_
      simp only [hq]
      clear he hq e
      (repeat' with_reducible (first | refine holds_inI ?_ | refine holds_inB ?_))
      refine holds_ite (fun h => absurd h Bool.false_ne_true) (fun _ => ?_)
      (repeat' with_reducible (first | refine holds_inI ?_ | refine holds_inB ?_))
      refine holds_must (rowsB_i _ _ _) (holds_must (rowsB_i _ _ _) (holds_leaf (lastly _ ?_ hi)))
      refine ⟨⟨rfl, trivial, trivial, trivial, rfl, e2, trivial⟩, ?_⟩
      (repeat' (first | exact trivial | exact rfl | exact TS.eqv_refl _ _ | exact len_app _ _ | exact rows_appI | exact fun _ _ => eqvL_refl _ _ | exact fun i _ => eqvL_rowNums rfl _ i | apply And.intro))
  · have hi := of_decide_eq_false hi
    have : pl = [f] := h2.resolve_left (fun h => by omega)
    subst this
    exact holds_must (rowsB_i _ _ _) (holds_must (rowsB_i _ _ _) (holds_leaf ⟨i, shL.eqv_refl _⟩))
end
theorem prom_2 {f : Int} (hf : 0 ≤ f ∧ f < 3) : ((shP [f]).promise ((IntKind.u8.wrap (f + 1)).tmod 3) (1, 1) (0, 0) (0, 0, 0) false).1 = true := by
  rcases three' hf with rfl | rfl | rfl <;> rfl
section
variable (t : Int) (o : B2) (f : Int) (ht : 0 ≤ t) (hf : 0 ≤ f ∧ f < 3)
include hf in
set_option maxHeartbeats 4000000 in
theorem sh_end (i : Int) : HTL Try.prog Try.f4.ntmps 0 ((flat body4).drop 8) 7 (shL.tm (shN t o f (shP [f]) i)) (shL.heap (shN t o f (shP [f]) i)) (QX ⟨none, [], some (lawT 6)⟩ lawR) := by
  refine HTL.runX sdTab mixed (n := 300) (by decide) (within_drop in4 8) (Nat.zero_le _) fun τ0 => holds_of_eq (sh_tail t o f (shP [f]) i τ0) ?_
  refine holds_ite (fun _ => holds_ite (fun _ => ?_) (fun h => by cases h)) (fun h => by cases h)
  refine holds_must (rowsB_i _ _ _) (holds_must (rowsB_i _ _ _) (holds_defE fun e he => ?_))
  have hq : accE e = (false, shP [f]) := by rw [he]; exact accE_on (shP [f]) _ f 1 1
  refine holds_must (decide_eq_true (by rw [he, prOf_on]; exact Nat.zero_le _)) ?_
  simp only [hq]
  clear he hq e
  (repeat' with_reducible (first | refine holds_inI ?_ | refine holds_inB ?_))
  refine holds_ite (fun _ => ?_) (fun h => by cases h)
  (repeat' with_reducible (first | refine holds_inI ?_ | refine holds_inB ?_))
  refine holds_must (rowsB_i _ _ _) (holds_must (rowsB_i _ _ _) (holds_defE fun e he => ?_))
  have hq : (promE e).1 = true := by rw [he]; exact (congrArg Prod.fst (promE_on (shP [f]) _ _ 1 1 0 0 0 0 0 false)).trans (prom_2 hf)
  refine holds_must (decide_eq_true (by rw [he]; exact Nat.le_trans (Nat.le_of_eq (congrArg (fun p : PrS => p.pl.length) (prOf_on _ (shP [f])))) (show 1 ≤ 1000 by decide))) ?_
  (repeat' with_reducible (first | refine holds_inI ?_ | refine holds_inB ?_))
  exact holds_leaf hq
def shR (t : Int) (o : B2) (f : Int) : Ex → EN → Prop
  | .normal, e => shL.eqv e (shN t o f (shP []) 0)
  | .ret, e => lawR .ret e
  | .exit _, _ => True
end
set_option maxHeartbeats 4000000 in
theorem sh_ht (t g : Int) (o : B2) (ht : 0 ≤ t) (hg : 0 ≤ g) : HT Try.prog Try.f4.ntmps 0 body4 0 (shT.tm ⟨[[.i t], [.i g], [.i o.1, .i o.2]], []⟩) (shT.heap ⟨[[.i t], [.i g], [.i o.1, .i o.2]], []⟩) (QX ⟨none, [], some (lawT 6)⟩ lawR) := by
  have hf := tmod_in 3 hg (by decide)
  refine HT.cutX 7 (t1 := shL) (R1 := shR t o (g.tmod 3)) (HTL.runX sdTab mixed (n := 300) (by decide) (within_take in4 7) (Nat.zero_le _) fun τ0 => holds_of_eq (sh_pre t g o τ0) (holds_defE fun e he => ?_)) ?_ ?_
  · have hp : prOf e = prNew 1 (4, 0, 0) := by rw [he]; rfl
    have ha : e.ai 1 0 = 0 := by rw [he]; rfl
    have hb : e.ai 1 1 = 0 := by rw [he]; rfl
    simp only [hp, ha, hb]
    clear he hp ha hb e
    (repeat' with_reducible (first | refine holds_inI ?_ | refine holds_inB ?_))
    refine holds_must (rowsB_i _ _ _) (holds_must (rowsB_i _ _ _) (holds_leaf ?_))
    refine ⟨⟨rfl, trivial, trivial, trivial, rfl, rfl, trivial⟩, ?_⟩
    (repeat' (first | exact trivial | exact rfl | exact TS.eqv_refl _ _ | exact len_app _ _ | exact rows_appI | exact fun _ _ => eqvL_refl _ _ | exact fun i _ => eqvL_rowNums rfl _ i | apply And.intro))
    all_goals exact fun i hi => absurd hi (by simp [lnS, ON.len, hdO, tlO, shN, shP, PrS.on])
  · rintro en he
    refine HTg.pre (WP := wpL Try.prog _) (fun h hq => wpL_mono h hq) (show shL.eqv en _ from he) (HTL.loopThen lp4 (sh_loop t o _ ht hf ([], 0) ⟨Int.le_refl _, by decide, .inl ⟨rfl, rfl⟩⟩) ?_ ?_)
    · rintro en ⟨i, he⟩
      exact HTg.pre (WP := wpL Try.prog _) (fun h hq => wpL_mono h hq) he (sh_end t o _ hf i)
    · exact fun en h => h
  · exact fun en h => h
theorem sh_c (W : World) (t g : Int) (x : Nat → Int) (ht : 0 ≤ t) (hg : 0 ≤ g) :
    Calls Try.prog 4 #[.int .u8 t, .int .u8 g, den default (.agg (skel x (fun _ => false) [.int .u32, .int .u8] 0))] W fun e W' => e = .returned (.bool true) ∧ Below W.heap.size W W' :=
  law_htX (args := [.int .u8 (.sym t), .int .u8 (.sym g), .agg [.int .u32 (.sym (x 0)), .int .u8 (.sym (x 1))]]) (l := []) (m := 0) (hdr := fun _ => (none, 0, 0)) Try.func4 body4_eq (by kernel_rfl) (by kernel_rfl) (fun p hp => by cases hp) (sh_ht t g (x 0, x 1) ht hg) (fun E' hE => rfl)
set_option maxRecDepth 100000 in
theorem hears_lifted (os : Os) (started : os.Started) (H : Type) (enc : TypeId × Value → H) :
    ReturnsInHanded {} Try.checked os 4 .any (Rows.synodHearsSpec.pre6 enc Try.prog Try.f4 Rows.synodHearsRow.domain false) (Rows.synodHearsSpec.post enc Try.prog Try.f4 false true false false) := by
  refine law_lifted (C := Try.checked) Try.own started (by kernel_rfl) Try.func4
    (ChangeSpec.witness6 (enc := enc) (C := Try.checked) false ⟨#[], #[.int .u8 0, .int .u8 0, .agg #[.int .u32 0, .int .u8 0]], []⟩ 8 (by kernel_rfl) (by kernel_rfl) (by kernel_rfl) (by kernel_rfl))
    Try.laidOut ?_ (B := 4) (by kernel_rfl) (by kernel_rfl) rfl ?_ ?_
  · intro t ht
    rw [Try.params4] at ht
    have : t = 5 ∨ t = 31 := by
      simp at ht
      first | exact ht | omega
    rcases this with rfl | rfl <;> exact ⟨by kernel_rfl, of_decide_eq_true (by kernel_rfl)⟩
  · intro ds h
    rw [Try.params4] at h
    match ds, h with
    | [d1, d2, d3], _ => rfl
  · intro W base args ds p hval hA hlt
    rw [Try.params4] at hA hval
    obtain ⟨v0, v1, v2, d0, d1, d2, p0, p1, p2, rfl, rfl, rfl, h0, h1, h2⟩ := trodAll_three hA
    obtain ⟨t, rfl, _, _, wt⟩ := open_int Try.underlying5 (hval 0 5 v0 rfl rfl) h0
    obtain ⟨g, rfl, _, _, wg⟩ := open_int Try.underlying5 (hval 1 5 v1 rfl rfl) h1
    obtain ⟨x, _, _, hx⟩ := open_plain Try.underlying31 pk31 (hval 2 31 v2 rfl rfl) h2
    rw [hx default]
    exact sh_c W t g x (wf_u8 wt).1 (wf_u8 wg).1

theorem synodHears_holds : Rows.SynodHearsSaid :=
  OpenClaim.holds_of_wide 4 Try.f4 rfl rfl rfl rfl rfl rfl rfl ⟨rfl, rfl, rfl, rfl, rfl⟩ rfl rfl rfl rfl rfl (by kernel_rfl) Try.func4 (by kernel_rfl)
    (of_decide_eq_true (by kernel_rfl)) (by unfold Func.isWrapper; rw [if_neg (by decide +kernel)]; exact ⟨rfl, rfl⟩)
    (fun os started H enc _ => hears_lifted os started H enc)
end Go.Proofs.Ytlcgnjcfihablaa
