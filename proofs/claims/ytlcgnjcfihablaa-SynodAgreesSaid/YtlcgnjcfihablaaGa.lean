/- Acceptors, and whether proposers agree: what their calls come to.
   Conditions: none. -/
import Derived.Test.YtlcgnjcfihablaaSs
set_option linter.unusedSimpArgs false
set_option linter.unusedVariables false
namespace Go.Proofs.Ytlcgnjcfihablaa
open Go.Eng Go.RowKit Go.ChangeShapes Go.WideShapes
set_option maxRecDepth 100000
structure AcS where
  prom : B2
  acc : B2
  inc : I3
def AcS.on (a : AcS) : List ON := [.box [.i a.prom.1, .i a.prom.2, .i a.acc.1, .i a.acc.2, .i a.inc.1, .i a.inc.2.1, .i a.inc.2.2]]
def acBox : List TV := [.i .u32, .i .u8, .i .u32, .i .u8, .i .u8, .i .u8, .i .i64]
def acHp : List (Nat × TO) := [(0, .box acBox)]
def acPrepT : TS := ⟨[0, 1], [.one (.ptr 0 0), .agg [.i .u32, .i .u8]], acHp, 1⟩
def acPrepR : TS := ⟨[], [.agg [.i .u32, .i .u8], .agg [.i .u8, .i .u8, .i .i64], .one .b, .one (.i .i64)], acHp, 1⟩
def acAccT : TS := ⟨[0, 1, 2], [.one (.ptr 0 0), .agg [.i .u32, .i .u8], .agg [.i .u8, .i .u8, .i .i64]], acHp, 1⟩
def acAccR : TS := ⟨[], [.one (.i .i64)], acHp, 1⟩
def isBal (b : B2) : Bool := decide (b.1 > 0) && decide (b.2 < 3)
def isIncB (x : I3) : Bool := bif x.1 == 1 then bif decide (x.2.1 < 5) then !(!(x.1 == x.1 && (x.2.1 == x.2.1 && x.2.2 == 0))) else false else bif x.1 == 2 then bif decide (x.2.1 < 5) then !(!(x.1 == x.1 && (x.2.1 == x.2.1 && x.2.2 == 0))) else false else bif x.1 == 3 then bif decide (x.2.1 < 5) then bif decide (x.2.2 ≥ 0) then !(!decide (x.2.2 ≤ 16)) else false else false else !(!(x.1 == 4 && (x.2.1 == 0 && x.2.2 == 0)))
theorem t38 (a : AcS) (b : B2) : callW Try.prog (codeT Try.prog sbT 300) 38 (acPrepT.vals ⟨[[], [.i b.1, .i b.2]], a.on⟩) (acPrepT.heap ⟨[[], [.i b.1, .i b.2]], a.on⟩) 1 (outV 1 acPrepR) =
  .ite (decide (b.fst > 0)) (.ite (!decide (b.snd < 3)) (.leaf ⟨[[.i 0, .i 0], [.i 0, .i 0, .i 0], [.b false], [.i 10]], a.on⟩) (.ite (decide (b.fst < a.prom.fst)) (.leaf ⟨[[.i 0, .i 0], [.i 0, .i 0, .i 0], [.b false], [.i
  100]], a.on⟩) (.ite (b.fst == a.prom.fst) (.ite (decide (b.snd < a.prom.snd)) (.leaf ⟨[[.i 0, .i 0], [.i 0, .i 0, .i 0], [.b false], [.i 100]], a.on⟩) (.leaf ⟨[[.i a.acc.fst, .i a.acc.snd], [.i a.inc.fst, .i
  a.inc.snd.fst, .i a.inc.snd.snd], [.b !(a.acc.fst == 0 && a.acc.snd == 0)], [.i 0]], [.box [.i b.fst, .i b.snd, .i a.acc.fst, .i a.acc.snd, .i a.inc.fst, .i a.inc.snd.fst, .i a.inc.snd.snd]]⟩)) (.leaf ⟨[[.i a.acc.fst, .i
  a.acc.snd], [.i a.inc.fst, .i a.inc.snd.fst, .i a.inc.snd.snd], [.b !(a.acc.fst == 0 && a.acc.snd == 0)], [.i 0]], [.box [.i b.fst, .i b.snd, .i a.acc.fst, .i a.acc.snd, .i a.inc.fst, .i a.inc.snd.fst, .i
  a.inc.snd.snd]]⟩)))) (.leaf ⟨[[.i 0, .i 0], [.i 0, .i 0, .i 0], [.b false], [.i 10]], a.on⟩) := by kernel_rfl
theorem t39 (a : AcS) (b : B2) (x : I3) : callW Try.prog (codeT Try.prog sbT 300) 39 (acAccT.vals ⟨[[], [.i b.1, .i b.2], [.i x.1, .i x.2.1, .i x.2.2]], a.on⟩) (acAccT.heap ⟨[[], [.i b.1, .i b.2], [.i x.1, .i x.2.1, .i x.2.2]], a.on⟩) 1 (outV 1 acAccR) =
  .ite (decide (b.fst > 0)) (.ite (!decide (b.snd < 3)) (.leaf ⟨[[.i 10]], a.on⟩) (.ite (x.fst == 1) (.ite (decide (x.snd.fst < 5)) (.ite (!(x.fst == x.fst && (x.snd.fst == x.snd.fst && x.snd.snd == 0))) (.leaf ⟨[[.i 10]],
  a.on⟩) (.ite (decide (b.fst < a.prom.fst)) (.leaf ⟨[[.i 100]], a.on⟩) (.ite (b.fst == a.prom.fst) (.ite (decide (b.snd < a.prom.snd)) (.leaf ⟨[[.i 100]], a.on⟩) (.leaf ⟨[[.i 0]], [.box [.i b.fst, .i b.snd, .i b.fst, .i
  b.snd, .i x.fst, .i x.snd.fst, .i x.snd.snd]]⟩)) (.leaf ⟨[[.i 0]], [.box [.i b.fst, .i b.snd, .i b.fst, .i b.snd, .i x.fst, .i x.snd.fst, .i x.snd.snd]]⟩)))) (.leaf ⟨[[.i 10]], a.on⟩)) (.ite (x.fst == 2) (.ite (decide
  (x.snd.fst < 5)) (.ite (!(x.fst == x.fst && (x.snd.fst == x.snd.fst && x.snd.snd == 0))) (.leaf ⟨[[.i 10]], a.on⟩) (.ite (decide (b.fst < a.prom.fst)) (.leaf ⟨[[.i 100]], a.on⟩) (.ite (b.fst == a.prom.fst) (.ite (decide
  (b.snd < a.prom.snd)) (.leaf ⟨[[.i 100]], a.on⟩) (.leaf ⟨[[.i 0]], [.box [.i b.fst, .i b.snd, .i b.fst, .i b.snd, .i x.fst, .i x.snd.fst, .i x.snd.snd]]⟩)) (.leaf ⟨[[.i 0]], [.box [.i b.fst, .i b.snd, .i b.fst, .i b.snd,
  .i x.fst, .i x.snd.fst, .i x.snd.snd]]⟩)))) (.leaf ⟨[[.i 10]], a.on⟩)) (.ite (x.fst == 3) (.ite (decide (x.snd.fst < 5)) (.ite (decide (x.snd.snd ≥ 0)) (.ite (!decide (x.snd.snd ≤ 16)) (.leaf ⟨[[.i 10]], a.on⟩) (.ite
  (decide (b.fst < a.prom.fst)) (.leaf ⟨[[.i 100]], a.on⟩) (.ite (b.fst == a.prom.fst) (.ite (decide (b.snd < a.prom.snd)) (.leaf ⟨[[.i 100]], a.on⟩) (.leaf ⟨[[.i 0]], [.box [.i b.fst, .i b.snd, .i b.fst, .i b.snd, .i
  x.fst, .i x.snd.fst, .i x.snd.snd]]⟩)) (.leaf ⟨[[.i 0]], [.box [.i b.fst, .i b.snd, .i b.fst, .i b.snd, .i x.fst, .i x.snd.fst, .i x.snd.snd]]⟩)))) (.leaf ⟨[[.i 10]], a.on⟩)) (.leaf ⟨[[.i 10]], a.on⟩)) (.ite (!(x.fst ==
  4 && (x.snd.fst == 0 && x.snd.snd == 0))) (.leaf ⟨[[.i 10]], a.on⟩) (.ite (decide (b.fst < a.prom.fst)) (.leaf ⟨[[.i 100]], a.on⟩) (.ite (b.fst == a.prom.fst) (.ite (decide (b.snd < a.prom.snd)) (.leaf ⟨[[.i 100]],
  a.on⟩) (.leaf ⟨[[.i 0]], [.box [.i b.fst, .i b.snd, .i b.fst, .i b.snd, .i x.fst, .i x.snd.fst, .i x.snd.snd]]⟩)) (.leaf ⟨[[.i 0]], [.box [.i b.fst, .i b.snd, .i b.fst, .i b.snd, .i x.fst, .i x.snd.fst, .i
  x.snd.snd]]⟩)))))))) (.leaf ⟨[[.i 10]], a.on⟩) := by kernel_rfl
def agT : TS := ⟨[0, 1], [.agg [.ptr 0 0, .ptr 5 0, .ptr 10 0], .agg [.i .u8, .i .u8, .i .i64, .i .u8, .i .u8, .i .i64, .i .u8, .i .u8, .i .i64]], prHpK 0 1 3 ++ prHpK 5 6 8 ++ prHpK 10 11 13, 15⟩
def agR : TS := ⟨[], [.one .b], prHpK 0 15 17 ++ prHpK 5 19 21 ++ prHpK 10 23 25, 27⟩
def agX (x y z : I3) : List Num := [.i x.1, .i x.2.1, .i x.2.2, .i y.1, .i y.2.1, .i y.2.2, .i z.1, .i z.2.1, .i z.2.2]
theorem t40 (p q r : PrS) (x y z : I3) : callW Try.prog (codeT Try.prog sbT 300) 40 (agT.vals ⟨[[], agX x y z], p.on ++ q.on ++ r.on⟩) (agT.heap ⟨[[], agX x y z], p.on ++ q.on ++ r.on⟩) 15 (outV 15 agR) =
  .ite (!p.ever) (.ite (!q.ever) (.ite (!r.ever) (.must (rowsB [.i .u8] (instR [.i .u8] (rowI p.pl)) p.pl.length) (.must (rowsB [.i .u8] (instR [.i .u8] (rowI p.al)) p.al.length) (.must (rowsB [.i .u8] (instR [.i .u8]
  (rowI q.pl)) q.pl.length) (.must (rowsB [.i .u8] (instR [.i .u8] (rowI q.al)) q.al.length) (.must (rowsB [.i .u8] (instR [.i .u8] (rowI r.pl)) r.pl.length) (.must (rowsB [.i .u8] (instR [.i .u8] (rowI r.al)) r.al.length)
  (.leaf ⟨[[.b true]], (p.on ++ q.on ++ r.on)⟩))))))) (.ite (!(r.dec.fst == x.fst && (r.dec.snd.fst == x.snd.fst && r.dec.snd.snd == x.snd.snd))) (.ite (!(r.dec.fst == y.fst && (r.dec.snd.fst == y.snd.fst && r.dec.snd.snd
  == y.snd.snd))) (.ite (!(r.dec.fst == z.fst && (r.dec.snd.fst == z.snd.fst && r.dec.snd.snd == z.snd.snd))) (.must (rowsB [.i .u8] (instR [.i .u8] (rowI p.pl)) p.pl.length) (.must (rowsB [.i .u8] (instR [.i .u8] (rowI
  p.al)) p.al.length) (.must (rowsB [.i .u8] (instR [.i .u8] (rowI q.pl)) q.pl.length) (.must (rowsB [.i .u8] (instR [.i .u8] (rowI q.al)) q.al.length) (.must (rowsB [.i .u8] (instR [.i .u8] (rowI r.pl)) r.pl.length)
  (.must (rowsB [.i .u8] (instR [.i .u8] (rowI r.al)) r.al.length) (.leaf ⟨[[.b false]], (p.on ++ q.on ++ r.on)⟩))))))) (.must (rowsB [.i .u8] (instR [.i .u8] (rowI p.pl)) p.pl.length) (.must (rowsB [.i .u8] (instR [.i
  .u8] (rowI p.al)) p.al.length) (.must (rowsB [.i .u8] (instR [.i .u8] (rowI q.pl)) q.pl.length) (.must (rowsB [.i .u8] (instR [.i .u8] (rowI q.al)) q.al.length) (.must (rowsB [.i .u8] (instR [.i .u8] (rowI r.pl))
  r.pl.length) (.must (rowsB [.i .u8] (instR [.i .u8] (rowI r.al)) r.al.length) (.leaf ⟨[[.b true]], (p.on ++ q.on ++ r.on)⟩)))))))) (.must (rowsB [.i .u8] (instR [.i .u8] (rowI p.pl)) p.pl.length) (.must (rowsB [.i .u8]
  (instR [.i .u8] (rowI p.al)) p.al.length) (.must (rowsB [.i .u8] (instR [.i .u8] (rowI q.pl)) q.pl.length) (.must (rowsB [.i .u8] (instR [.i .u8] (rowI q.al)) q.al.length) (.must (rowsB [.i .u8] (instR [.i .u8] (rowI
  r.pl)) r.pl.length) (.must (rowsB [.i .u8] (instR [.i .u8] (rowI r.al)) r.al.length) (.leaf ⟨[[.b true]], (p.on ++ q.on ++ r.on)⟩)))))))) (.must (rowsB [.i .u8] (instR [.i .u8] (rowI p.pl)) p.pl.length) (.must (rowsB [.i
  .u8] (instR [.i .u8] (rowI p.al)) p.al.length) (.must (rowsB [.i .u8] (instR [.i .u8] (rowI q.pl)) q.pl.length) (.must (rowsB [.i .u8] (instR [.i .u8] (rowI q.al)) q.al.length) (.must (rowsB [.i .u8] (instR [.i .u8]
  (rowI r.pl)) r.pl.length) (.must (rowsB [.i .u8] (instR [.i .u8] (rowI r.al)) r.al.length) (.leaf ⟨[[.b true]], (p.on ++ q.on ++ r.on)⟩))))))))) (.ite (!(q.dec.fst == x.fst && (q.dec.snd.fst == x.snd.fst && q.dec.snd.snd
  == x.snd.snd))) (.ite (!(q.dec.fst == y.fst && (q.dec.snd.fst == y.snd.fst && q.dec.snd.snd == y.snd.snd))) (.ite (!(q.dec.fst == z.fst && (q.dec.snd.fst == z.snd.fst && q.dec.snd.snd == z.snd.snd))) (.must (rowsB [.i
  .u8] (instR [.i .u8] (rowI p.pl)) p.pl.length) (.must (rowsB [.i .u8] (instR [.i .u8] (rowI p.al)) p.al.length) (.must (rowsB [.i .u8] (instR [.i .u8] (rowI q.pl)) q.pl.length) (.must (rowsB [.i .u8] (instR [.i .u8]
  (rowI q.al)) q.al.length) (.must (rowsB [.i .u8] (instR [.i .u8] (rowI r.pl)) r.pl.length) (.must (rowsB [.i .u8] (instR [.i .u8] (rowI r.al)) r.al.length) (.leaf ⟨[[.b false]], (p.on ++ q.on ++ r.on)⟩))))))) (.ite
  (!r.ever) (.must (rowsB [.i .u8] (instR [.i .u8] (rowI p.pl)) p.pl.length) (.must (rowsB [.i .u8] (instR [.i .u8] (rowI p.al)) p.al.length) (.must (rowsB [.i .u8] (instR [.i .u8] (rowI q.pl)) q.pl.length) (.must (rowsB
  [.i .u8] (instR [.i .u8] (rowI q.al)) q.al.length) (.must (rowsB [.i .u8] (instR [.i .u8] (rowI r.pl)) r.pl.length) (.must (rowsB [.i .u8] (instR [.i .u8] (rowI r.al)) r.al.length) (.leaf ⟨[[.b true]], (p.on ++ q.on ++
  r.on)⟩))))))) (.ite (!(r.dec.fst == q.dec.fst && (r.dec.snd.fst == q.dec.snd.fst && r.dec.snd.snd == q.dec.snd.snd))) (.must (rowsB [.i .u8] (instR [.i .u8] (rowI p.pl)) p.pl.length) (.must (rowsB [.i .u8] (instR [.i
  .u8] (rowI p.al)) p.al.length) (.must (rowsB [.i .u8] (instR [.i .u8] (rowI q.pl)) q.pl.length) (.must (rowsB [.i .u8] (instR [.i .u8] (rowI q.al)) q.al.length) (.must (rowsB [.i .u8] (instR [.i .u8] (rowI r.pl))
  r.pl.length) (.must (rowsB [.i .u8] (instR [.i .u8] (rowI r.al)) r.al.length) (.leaf ⟨[[.b false]], (p.on ++ q.on ++ r.on)⟩))))))) (.ite (!(r.dec.fst == x.fst && (r.dec.snd.fst == x.snd.fst && r.dec.snd.snd ==
  x.snd.snd))) (.ite (!(r.dec.fst == y.fst && (r.dec.snd.fst == y.snd.fst && r.dec.snd.snd == y.snd.snd))) (.ite (!(r.dec.fst == z.fst && (r.dec.snd.fst == z.snd.fst && r.dec.snd.snd == z.snd.snd))) (.must (rowsB [.i .u8]
  (instR [.i .u8] (rowI p.pl)) p.pl.length) (.must (rowsB [.i .u8] (instR [.i .u8] (rowI p.al)) p.al.length) (.must (rowsB [.i .u8] (instR [.i .u8] (rowI q.pl)) q.pl.length) (.must (rowsB [.i .u8] (instR [.i .u8] (rowI
  q.al)) q.al.length) (.must (rowsB [.i .u8] (instR [.i .u8] (rowI r.pl)) r.pl.length) (.must (rowsB [.i .u8] (instR [.i .u8] (rowI r.al)) r.al.length) (.leaf ⟨[[.b false]], (p.on ++ q.on ++ r.on)⟩))))))) (.must (rowsB [.i
  .u8] (instR [.i .u8] (rowI p.pl)) p.pl.length) (.must (rowsB [.i .u8] (instR [.i .u8] (rowI p.al)) p.al.length) (.must (rowsB [.i .u8] (instR [.i .u8] (rowI q.pl)) q.pl.length) (.must (rowsB [.i .u8] (instR [.i .u8]
  (rowI q.al)) q.al.length) (.must (rowsB [.i .u8] (instR [.i .u8] (rowI r.pl)) r.pl.length) (.must (rowsB [.i .u8] (instR [.i .u8] (rowI r.al)) r.al.length) (.leaf ⟨[[.b true]], (p.on ++ q.on ++ r.on)⟩)))))))) (.must
  (rowsB [.i .u8] (instR [.i .u8] (rowI p.pl)) p.pl.length) (.must (rowsB [.i .u8] (instR [.i .u8] (rowI p.al)) p.al.length) (.must (rowsB [.i .u8] (instR [.i .u8] (rowI q.pl)) q.pl.length) (.must (rowsB [.i .u8] (instR
  [.i .u8] (rowI q.al)) q.al.length) (.must (rowsB [.i .u8] (instR [.i .u8] (rowI r.pl)) r.pl.length) (.must (rowsB [.i .u8] (instR [.i .u8] (rowI r.al)) r.al.length) (.leaf ⟨[[.b true]], (p.on ++ q.on ++ r.on)⟩))))))))
  (.must (rowsB [.i .u8] (instR [.i .u8] (rowI p.pl)) p.pl.length) (.must (rowsB [.i .u8] (instR [.i .u8] (rowI p.al)) p.al.length) (.must (rowsB [.i .u8] (instR [.i .u8] (rowI q.pl)) q.pl.length) (.must (rowsB [.i .u8]
  (instR [.i .u8] (rowI q.al)) q.al.length) (.must (rowsB [.i .u8] (instR [.i .u8] (rowI r.pl)) r.pl.length) (.must (rowsB [.i .u8] (instR [.i .u8] (rowI r.al)) r.al.length) (.leaf ⟨[[.b true]], (p.on ++ q.on ++
  r.on)⟩))))))))))) (.ite (!r.ever) (.must (rowsB [.i .u8] (instR [.i .u8] (rowI p.pl)) p.pl.length) (.must (rowsB [.i .u8] (instR [.i .u8] (rowI p.al)) p.al.length) (.must (rowsB [.i .u8] (instR [.i .u8] (rowI q.pl))
  q.pl.length) (.must (rowsB [.i .u8] (instR [.i .u8] (rowI q.al)) q.al.length) (.must (rowsB [.i .u8] (instR [.i .u8] (rowI r.pl)) r.pl.length) (.must (rowsB [.i .u8] (instR [.i .u8] (rowI r.al)) r.al.length) (.leaf ⟨[[.b
  true]], (p.on ++ q.on ++ r.on)⟩))))))) (.ite (!(r.dec.fst == q.dec.fst && (r.dec.snd.fst == q.dec.snd.fst && r.dec.snd.snd == q.dec.snd.snd))) (.must (rowsB [.i .u8] (instR [.i .u8] (rowI p.pl)) p.pl.length) (.must
  (rowsB [.i .u8] (instR [.i .u8] (rowI p.al)) p.al.length) (.must (rowsB [.i .u8] (instR [.i .u8] (rowI q.pl)) q.pl.length) (.must (rowsB [.i .u8] (instR [.i .u8] (rowI q.al)) q.al.length) (.must (rowsB [.i .u8] (instR
  [.i .u8] (rowI r.pl)) r.pl.length) (.must (rowsB [.i .u8] (instR [.i .u8] (rowI r.al)) r.al.length) (.leaf ⟨[[.b false]], (p.on ++ q.on ++ r.on)⟩))))))) (.ite (!(r.dec.fst == x.fst && (r.dec.snd.fst == x.snd.fst &&
  r.dec.snd.snd == x.snd.snd))) (.ite (!(r.dec.fst == y.fst && (r.dec.snd.fst == y.snd.fst && r.dec.snd.snd == y.snd.snd))) (.ite (!(r.dec.fst == z.fst && (r.dec.snd.fst == z.snd.fst && r.dec.snd.snd == z.snd.snd))) (.must
  (rowsB [.i .u8] (instR [.i .u8] (rowI p.pl)) p.pl.length) (.must (rowsB [.i .u8] (instR [.i .u8] (rowI p.al)) p.al.length) (.must (rowsB [.i .u8] (instR [.i .u8] (rowI q.pl)) q.pl.length) (.must (rowsB [.i .u8] (instR
  [.i .u8] (rowI q.al)) q.al.length) (.must (rowsB [.i .u8] (instR [.i .u8] (rowI r.pl)) r.pl.length) (.must (rowsB [.i .u8] (instR [.i .u8] (rowI r.al)) r.al.length) (.leaf ⟨[[.b false]], (p.on ++ q.on ++ r.on)⟩)))))))
  (.must (rowsB [.i .u8] (instR [.i .u8] (rowI p.pl)) p.pl.length) (.must (rowsB [.i .u8] (instR [.i .u8] (rowI p.al)) p.al.length) (.must (rowsB [.i .u8] (instR [.i .u8] (rowI q.pl)) q.pl.length) (.must (rowsB [.i .u8]
  (instR [.i .u8] (rowI q.al)) q.al.length) (.must (rowsB [.i .u8] (instR [.i .u8] (rowI r.pl)) r.pl.length) (.must (rowsB [.i .u8] (instR [.i .u8] (rowI r.al)) r.al.length) (.leaf ⟨[[.b true]], (p.on ++ q.on ++
  r.on)⟩)))))))) (.must (rowsB [.i .u8] (instR [.i .u8] (rowI p.pl)) p.pl.length) (.must (rowsB [.i .u8] (instR [.i .u8] (rowI p.al)) p.al.length) (.must (rowsB [.i .u8] (instR [.i .u8] (rowI q.pl)) q.pl.length) (.must
  (rowsB [.i .u8] (instR [.i .u8] (rowI q.al)) q.al.length) (.must (rowsB [.i .u8] (instR [.i .u8] (rowI r.pl)) r.pl.length) (.must (rowsB [.i .u8] (instR [.i .u8] (rowI r.al)) r.al.length) (.leaf ⟨[[.b true]], (p.on ++
  q.on ++ r.on)⟩)))))))) (.must (rowsB [.i .u8] (instR [.i .u8] (rowI p.pl)) p.pl.length) (.must (rowsB [.i .u8] (instR [.i .u8] (rowI p.al)) p.al.length) (.must (rowsB [.i .u8] (instR [.i .u8] (rowI q.pl)) q.pl.length)
  (.must (rowsB [.i .u8] (instR [.i .u8] (rowI q.al)) q.al.length) (.must (rowsB [.i .u8] (instR [.i .u8] (rowI r.pl)) r.pl.length) (.must (rowsB [.i .u8] (instR [.i .u8] (rowI r.al)) r.al.length) (.leaf ⟨[[.b true]],
  (p.on ++ q.on ++ r.on)⟩))))))))))) (.ite (!r.ever) (.must (rowsB [.i .u8] (instR [.i .u8] (rowI p.pl)) p.pl.length) (.must (rowsB [.i .u8] (instR [.i .u8] (rowI p.al)) p.al.length) (.must (rowsB [.i .u8] (instR [.i .u8]
  (rowI q.pl)) q.pl.length) (.must (rowsB [.i .u8] (instR [.i .u8] (rowI q.al)) q.al.length) (.must (rowsB [.i .u8] (instR [.i .u8] (rowI r.pl)) r.pl.length) (.must (rowsB [.i .u8] (instR [.i .u8] (rowI r.al)) r.al.length)
  (.leaf ⟨[[.b true]], (p.on ++ q.on ++ r.on)⟩))))))) (.ite (!(r.dec.fst == q.dec.fst && (r.dec.snd.fst == q.dec.snd.fst && r.dec.snd.snd == q.dec.snd.snd))) (.must (rowsB [.i .u8] (instR [.i .u8] (rowI p.pl)) p.pl.length)
  (.must (rowsB [.i .u8] (instR [.i .u8] (rowI p.al)) p.al.length) (.must (rowsB [.i .u8] (instR [.i .u8] (rowI q.pl)) q.pl.length) (.must (rowsB [.i .u8] (instR [.i .u8] (rowI q.al)) q.al.length) (.must (rowsB [.i .u8]
  (instR [.i .u8] (rowI r.pl)) r.pl.length) (.must (rowsB [.i .u8] (instR [.i .u8] (rowI r.al)) r.al.length) (.leaf ⟨[[.b false]], (p.on ++ q.on ++ r.on)⟩))))))) (.ite (!(r.dec.fst == x.fst && (r.dec.snd.fst == x.snd.fst
  && r.dec.snd.snd == x.snd.snd))) (.ite (!(r.dec.fst == y.fst && (r.dec.snd.fst == y.snd.fst && r.dec.snd.snd == y.snd.snd))) (.ite (!(r.dec.fst == z.fst && (r.dec.snd.fst == z.snd.fst && r.dec.snd.snd == z.snd.snd)))
  (.must (rowsB [.i .u8] (instR [.i .u8] (rowI p.pl)) p.pl.length) (.must (rowsB [.i .u8] (instR [.i .u8] (rowI p.al)) p.al.length) (.must (rowsB [.i .u8] (instR [.i .u8] (rowI q.pl)) q.pl.length) (.must (rowsB [.i .u8]
  (instR [.i .u8] (rowI q.al)) q.al.length) (.must (rowsB [.i .u8] (instR [.i .u8] (rowI r.pl)) r.pl.length) (.must (rowsB [.i .u8] (instR [.i .u8] (rowI r.al)) r.al.length) (.leaf ⟨[[.b false]], (p.on ++ q.on ++
  r.on)⟩))))))) (.must (rowsB [.i .u8] (instR [.i .u8] (rowI p.pl)) p.pl.length) (.must (rowsB [.i .u8] (instR [.i .u8] (rowI p.al)) p.al.length) (.must (rowsB [.i .u8] (instR [.i .u8] (rowI q.pl)) q.pl.length) (.must
  (rowsB [.i .u8] (instR [.i .u8] (rowI q.al)) q.al.length) (.must (rowsB [.i .u8] (instR [.i .u8] (rowI r.pl)) r.pl.length) (.must (rowsB [.i .u8] (instR [.i .u8] (rowI r.al)) r.al.length) (.leaf ⟨[[.b true]], (p.on ++
  q.on ++ r.on)⟩)))))))) (.must (rowsB [.i .u8] (instR [.i .u8] (rowI p.pl)) p.pl.length) (.must (rowsB [.i .u8] (instR [.i .u8] (rowI p.al)) p.al.length) (.must (rowsB [.i .u8] (instR [.i .u8] (rowI q.pl)) q.pl.length)
  (.must (rowsB [.i .u8] (instR [.i .u8] (rowI q.al)) q.al.length) (.must (rowsB [.i .u8] (instR [.i .u8] (rowI r.pl)) r.pl.length) (.must (rowsB [.i .u8] (instR [.i .u8] (rowI r.al)) r.al.length) (.leaf ⟨[[.b true]],
  (p.on ++ q.on ++ r.on)⟩)))))))) (.must (rowsB [.i .u8] (instR [.i .u8] (rowI p.pl)) p.pl.length) (.must (rowsB [.i .u8] (instR [.i .u8] (rowI p.al)) p.al.length) (.must (rowsB [.i .u8] (instR [.i .u8] (rowI q.pl))
  q.pl.length) (.must (rowsB [.i .u8] (instR [.i .u8] (rowI q.al)) q.al.length) (.must (rowsB [.i .u8] (instR [.i .u8] (rowI r.pl)) r.pl.length) (.must (rowsB [.i .u8] (instR [.i .u8] (rowI r.al)) r.al.length) (.leaf ⟨[[.b
  true]], (p.on ++ q.on ++ r.on)⟩)))))))))))) (.ite (!(p.dec.fst == x.fst && (p.dec.snd.fst == x.snd.fst && p.dec.snd.snd == x.snd.snd))) (.ite (!(p.dec.fst == y.fst && (p.dec.snd.fst == y.snd.fst && p.dec.snd.snd ==
  y.snd.snd))) (.ite (!(p.dec.fst == z.fst && (p.dec.snd.fst == z.snd.fst && p.dec.snd.snd == z.snd.snd))) (.must (rowsB [.i .u8] (instR [.i .u8] (rowI p.pl)) p.pl.length) (.must (rowsB [.i .u8] (instR [.i .u8] (rowI
  p.al)) p.al.length) (.must (rowsB [.i .u8] (instR [.i .u8] (rowI q.pl)) q.pl.length) (.must (rowsB [.i .u8] (instR [.i .u8] (rowI q.al)) q.al.length) (.must (rowsB [.i .u8] (instR [.i .u8] (rowI r.pl)) r.pl.length)
  (.must (rowsB [.i .u8] (instR [.i .u8] (rowI r.al)) r.al.length) (.leaf ⟨[[.b false]], (p.on ++ q.on ++ r.on)⟩))))))) (.ite (!q.ever) (.ite (!r.ever) (.must (rowsB [.i .u8] (instR [.i .u8] (rowI p.pl)) p.pl.length)
  (.must (rowsB [.i .u8] (instR [.i .u8] (rowI p.al)) p.al.length) (.must (rowsB [.i .u8] (instR [.i .u8] (rowI q.pl)) q.pl.length) (.must (rowsB [.i .u8] (instR [.i .u8] (rowI q.al)) q.al.length) (.must (rowsB [.i .u8]
  (instR [.i .u8] (rowI r.pl)) r.pl.length) (.must (rowsB [.i .u8] (instR [.i .u8] (rowI r.al)) r.al.length) (.leaf ⟨[[.b true]], (p.on ++ q.on ++ r.on)⟩))))))) (.ite (!(r.dec.fst == p.dec.fst && (r.dec.snd.fst ==
  p.dec.snd.fst && r.dec.snd.snd == p.dec.snd.snd))) (.must (rowsB [.i .u8] (instR [.i .u8] (rowI p.pl)) p.pl.length) (.must (rowsB [.i .u8] (instR [.i .u8] (rowI p.al)) p.al.length) (.must (rowsB [.i .u8] (instR [.i .u8]
  (rowI q.pl)) q.pl.length) (.must (rowsB [.i .u8] (instR [.i .u8] (rowI q.al)) q.al.length) (.must (rowsB [.i .u8] (instR [.i .u8] (rowI r.pl)) r.pl.length) (.must (rowsB [.i .u8] (instR [.i .u8] (rowI r.al)) r.al.length)
  (.leaf ⟨[[.b false]], (p.on ++ q.on ++ r.on)⟩))))))) (.ite (!(r.dec.fst == x.fst && (r.dec.snd.fst == x.snd.fst && r.dec.snd.snd == x.snd.snd))) (.ite (!(r.dec.fst == y.fst && (r.dec.snd.fst == y.snd.fst && r.dec.snd.snd
  == y.snd.snd))) (.ite (!(r.dec.fst == z.fst && (r.dec.snd.fst == z.snd.fst && r.dec.snd.snd == z.snd.snd))) (.must (rowsB [.i .u8] (instR [.i .u8] (rowI p.pl)) p.pl.length) (.must (rowsB [.i .u8] (instR [.i .u8] (rowI
  p.al)) p.al.length) (.must (rowsB [.i .u8] (instR [.i .u8] (rowI q.pl)) q.pl.length) (.must (rowsB [.i .u8] (instR [.i .u8] (rowI q.al)) q.al.length) (.must (rowsB [.i .u8] (instR [.i .u8] (rowI r.pl)) r.pl.length)
  (.must (rowsB [.i .u8] (instR [.i .u8] (rowI r.al)) r.al.length) (.leaf ⟨[[.b false]], (p.on ++ q.on ++ r.on)⟩))))))) (.must (rowsB [.i .u8] (instR [.i .u8] (rowI p.pl)) p.pl.length) (.must (rowsB [.i .u8] (instR [.i
  .u8] (rowI p.al)) p.al.length) (.must (rowsB [.i .u8] (instR [.i .u8] (rowI q.pl)) q.pl.length) (.must (rowsB [.i .u8] (instR [.i .u8] (rowI q.al)) q.al.length) (.must (rowsB [.i .u8] (instR [.i .u8] (rowI r.pl))
  r.pl.length) (.must (rowsB [.i .u8] (instR [.i .u8] (rowI r.al)) r.al.length) (.leaf ⟨[[.b true]], (p.on ++ q.on ++ r.on)⟩)))))))) (.must (rowsB [.i .u8] (instR [.i .u8] (rowI p.pl)) p.pl.length) (.must (rowsB [.i .u8]
  (instR [.i .u8] (rowI p.al)) p.al.length) (.must (rowsB [.i .u8] (instR [.i .u8] (rowI q.pl)) q.pl.length) (.must (rowsB [.i .u8] (instR [.i .u8] (rowI q.al)) q.al.length) (.must (rowsB [.i .u8] (instR [.i .u8] (rowI
  r.pl)) r.pl.length) (.must (rowsB [.i .u8] (instR [.i .u8] (rowI r.al)) r.al.length) (.leaf ⟨[[.b true]], (p.on ++ q.on ++ r.on)⟩)))))))) (.must (rowsB [.i .u8] (instR [.i .u8] (rowI p.pl)) p.pl.length) (.must (rowsB [.i
  .u8] (instR [.i .u8] (rowI p.al)) p.al.length) (.must (rowsB [.i .u8] (instR [.i .u8] (rowI q.pl)) q.pl.length) (.must (rowsB [.i .u8] (instR [.i .u8] (rowI q.al)) q.al.length) (.must (rowsB [.i .u8] (instR [.i .u8]
  (rowI r.pl)) r.pl.length) (.must (rowsB [.i .u8] (instR [.i .u8] (rowI r.al)) r.al.length) (.leaf ⟨[[.b true]], (p.on ++ q.on ++ r.on)⟩)))))))))) (.ite (!(q.dec.fst == p.dec.fst && (q.dec.snd.fst == p.dec.snd.fst &&
  q.dec.snd.snd == p.dec.snd.snd))) (.must (rowsB [.i .u8] (instR [.i .u8] (rowI p.pl)) p.pl.length) (.must (rowsB [.i .u8] (instR [.i .u8] (rowI p.al)) p.al.length) (.must (rowsB [.i .u8] (instR [.i .u8] (rowI q.pl))
  q.pl.length) (.must (rowsB [.i .u8] (instR [.i .u8] (rowI q.al)) q.al.length) (.must (rowsB [.i .u8] (instR [.i .u8] (rowI r.pl)) r.pl.length) (.must (rowsB [.i .u8] (instR [.i .u8] (rowI r.al)) r.al.length) (.leaf ⟨[[.b
  false]], (p.on ++ q.on ++ r.on)⟩))))))) (.ite (!(q.dec.fst == x.fst && (q.dec.snd.fst == x.snd.fst && q.dec.snd.snd == x.snd.snd))) (.ite (!(q.dec.fst == y.fst && (q.dec.snd.fst == y.snd.fst && q.dec.snd.snd ==
  y.snd.snd))) (.ite (!(q.dec.fst == z.fst && (q.dec.snd.fst == z.snd.fst && q.dec.snd.snd == z.snd.snd))) (.must (rowsB [.i .u8] (instR [.i .u8] (rowI p.pl)) p.pl.length) (.must (rowsB [.i .u8] (instR [.i .u8] (rowI
  p.al)) p.al.length) (.must (rowsB [.i .u8] (instR [.i .u8] (rowI q.pl)) q.pl.length) (.must (rowsB [.i .u8] (instR [.i .u8] (rowI q.al)) q.al.length) (.must (rowsB [.i .u8] (instR [.i .u8] (rowI r.pl)) r.pl.length)
  (.must (rowsB [.i .u8] (instR [.i .u8] (rowI r.al)) r.al.length) (.leaf ⟨[[.b false]], (p.on ++ q.on ++ r.on)⟩))))))) (.ite (!r.ever) (.must (rowsB [.i .u8] (instR [.i .u8] (rowI p.pl)) p.pl.length) (.must (rowsB [.i
  .u8] (instR [.i .u8] (rowI p.al)) p.al.length) (.must (rowsB [.i .u8] (instR [.i .u8] (rowI q.pl)) q.pl.length) (.must (rowsB [.i .u8] (instR [.i .u8] (rowI q.al)) q.al.length) (.must (rowsB [.i .u8] (instR [.i .u8]
  (rowI r.pl)) r.pl.length) (.must (rowsB [.i .u8] (instR [.i .u8] (rowI r.al)) r.al.length) (.leaf ⟨[[.b true]], (p.on ++ q.on ++ r.on)⟩))))))) (.ite (!(r.dec.fst == q.dec.fst && (r.dec.snd.fst == q.dec.snd.fst &&
  r.dec.snd.snd == q.dec.snd.snd))) (.must (rowsB [.i .u8] (instR [.i .u8] (rowI p.pl)) p.pl.length) (.must (rowsB [.i .u8] (instR [.i .u8] (rowI p.al)) p.al.length) (.must (rowsB [.i .u8] (instR [.i .u8] (rowI q.pl))
  q.pl.length) (.must (rowsB [.i .u8] (instR [.i .u8] (rowI q.al)) q.al.length) (.must (rowsB [.i .u8] (instR [.i .u8] (rowI r.pl)) r.pl.length) (.must (rowsB [.i .u8] (instR [.i .u8] (rowI r.al)) r.al.length) (.leaf ⟨[[.b
  false]], (p.on ++ q.on ++ r.on)⟩))))))) (.ite (!(r.dec.fst == x.fst && (r.dec.snd.fst == x.snd.fst && r.dec.snd.snd == x.snd.snd))) (.ite (!(r.dec.fst == y.fst && (r.dec.snd.fst == y.snd.fst && r.dec.snd.snd ==
  y.snd.snd))) (.ite (!(r.dec.fst == z.fst && (r.dec.snd.fst == z.snd.fst && r.dec.snd.snd == z.snd.snd))) (.must (rowsB [.i .u8] (instR [.i .u8] (rowI p.pl)) p.pl.length) (.must (rowsB [.i .u8] (instR [.i .u8] (rowI
  p.al)) p.al.length) (.must (rowsB [.i .u8] (instR [.i .u8] (rowI q.pl)) q.pl.length) (.must (rowsB [.i .u8] (instR [.i .u8] (rowI q.al)) q.al.length) (.must (rowsB [.i .u8] (instR [.i .u8] (rowI r.pl)) r.pl.length)
  (.must (rowsB [.i .u8] (instR [.i .u8] (rowI r.al)) r.al.length) (.leaf ⟨[[.b false]], (p.on ++ q.on ++ r.on)⟩))))))) (.must (rowsB [.i .u8] (instR [.i .u8] (rowI p.pl)) p.pl.length) (.must (rowsB [.i .u8] (instR [.i
  .u8] (rowI p.al)) p.al.length) (.must (rowsB [.i .u8] (instR [.i .u8] (rowI q.pl)) q.pl.length) (.must (rowsB [.i .u8] (instR [.i .u8] (rowI q.al)) q.al.length) (.must (rowsB [.i .u8] (instR [.i .u8] (rowI r.pl))
  r.pl.length) (.must (rowsB [.i .u8] (instR [.i .u8] (rowI r.al)) r.al.length) (.leaf ⟨[[.b true]], (p.on ++ q.on ++ r.on)⟩)))))))) (.must (rowsB [.i .u8] (instR [.i .u8] (rowI p.pl)) p.pl.length) (.must (rowsB [.i .u8]
  (instR [.i .u8] (rowI p.al)) p.al.length) (.must (rowsB [.i .u8] (instR [.i .u8] (rowI q.pl)) q.pl.length) (.must (rowsB [.i .u8] (instR [.i .u8] (rowI q.al)) q.al.length) (.must (rowsB [.i .u8] (instR [.i .u8] (rowI
  r.pl)) r.pl.length) (.must (rowsB [.i .u8] (instR [.i .u8] (rowI r.al)) r.al.length) (.leaf ⟨[[.b true]], (p.on ++ q.on ++ r.on)⟩)))))))) (.must (rowsB [.i .u8] (instR [.i .u8] (rowI p.pl)) p.pl.length) (.must (rowsB [.i
  .u8] (instR [.i .u8] (rowI p.al)) p.al.length) (.must (rowsB [.i .u8] (instR [.i .u8] (rowI q.pl)) q.pl.length) (.must (rowsB [.i .u8] (instR [.i .u8] (rowI q.al)) q.al.length) (.must (rowsB [.i .u8] (instR [.i .u8]
  (rowI r.pl)) r.pl.length) (.must (rowsB [.i .u8] (instR [.i .u8] (rowI r.al)) r.al.length) (.leaf ⟨[[.b true]], (p.on ++ q.on ++ r.on)⟩))))))))))) (.ite (!r.ever) (.must (rowsB [.i .u8] (instR [.i .u8] (rowI p.pl))
  p.pl.length) (.must (rowsB [.i .u8] (instR [.i .u8] (rowI p.al)) p.al.length) (.must (rowsB [.i .u8] (instR [.i .u8] (rowI q.pl)) q.pl.length) (.must (rowsB [.i .u8] (instR [.i .u8] (rowI q.al)) q.al.length) (.must
  (rowsB [.i .u8] (instR [.i .u8] (rowI r.pl)) r.pl.length) (.must (rowsB [.i .u8] (instR [.i .u8] (rowI r.al)) r.al.length) (.leaf ⟨[[.b true]], (p.on ++ q.on ++ r.on)⟩))))))) (.ite (!(r.dec.fst == q.dec.fst &&
  (r.dec.snd.fst == q.dec.snd.fst && r.dec.snd.snd == q.dec.snd.snd))) (.must (rowsB [.i .u8] (instR [.i .u8] (rowI p.pl)) p.pl.length) (.must (rowsB [.i .u8] (instR [.i .u8] (rowI p.al)) p.al.length) (.must (rowsB [.i
  .u8] (instR [.i .u8] (rowI q.pl)) q.pl.length) (.must (rowsB [.i .u8] (instR [.i .u8] (rowI q.al)) q.al.length) (.must (rowsB [.i .u8] (instR [.i .u8] (rowI r.pl)) r.pl.length) (.must (rowsB [.i .u8] (instR [.i .u8]
  (rowI r.al)) r.al.length) (.leaf ⟨[[.b false]], (p.on ++ q.on ++ r.on)⟩))))))) (.ite (!(r.dec.fst == x.fst && (r.dec.snd.fst == x.snd.fst && r.dec.snd.snd == x.snd.snd))) (.ite (!(r.dec.fst == y.fst && (r.dec.snd.fst ==
  y.snd.fst && r.dec.snd.snd == y.snd.snd))) (.ite (!(r.dec.fst == z.fst && (r.dec.snd.fst == z.snd.fst && r.dec.snd.snd == z.snd.snd))) (.must (rowsB [.i .u8] (instR [.i .u8] (rowI p.pl)) p.pl.length) (.must (rowsB [.i
  .u8] (instR [.i .u8] (rowI p.al)) p.al.length) (.must (rowsB [.i .u8] (instR [.i .u8] (rowI q.pl)) q.pl.length) (.must (rowsB [.i .u8] (instR [.i .u8] (rowI q.al)) q.al.length) (.must (rowsB [.i .u8] (instR [.i .u8]
  (rowI r.pl)) r.pl.length) (.must (rowsB [.i .u8] (instR [.i .u8] (rowI r.al)) r.al.length) (.leaf ⟨[[.b false]], (p.on ++ q.on ++ r.on)⟩))))))) (.must (rowsB [.i .u8] (instR [.i .u8] (rowI p.pl)) p.pl.length) (.must
  (rowsB [.i .u8] (instR [.i .u8] (rowI p.al)) p.al.length) (.must (rowsB [.i .u8] (instR [.i .u8] (rowI q.pl)) q.pl.length) (.must (rowsB [.i .u8] (instR [.i .u8] (rowI q.al)) q.al.length) (.must (rowsB [.i .u8] (instR
  [.i .u8] (rowI r.pl)) r.pl.length) (.must (rowsB [.i .u8] (instR [.i .u8] (rowI r.al)) r.al.length) (.leaf ⟨[[.b true]], (p.on ++ q.on ++ r.on)⟩)))))))) (.must (rowsB [.i .u8] (instR [.i .u8] (rowI p.pl)) p.pl.length)
  (.must (rowsB [.i .u8] (instR [.i .u8] (rowI p.al)) p.al.length) (.must (rowsB [.i .u8] (instR [.i .u8] (rowI q.pl)) q.pl.length) (.must (rowsB [.i .u8] (instR [.i .u8] (rowI q.al)) q.al.length) (.must (rowsB [.i .u8]
  (instR [.i .u8] (rowI r.pl)) r.pl.length) (.must (rowsB [.i .u8] (instR [.i .u8] (rowI r.al)) r.al.length) (.leaf ⟨[[.b true]], (p.on ++ q.on ++ r.on)⟩)))))))) (.must (rowsB [.i .u8] (instR [.i .u8] (rowI p.pl))
  p.pl.length) (.must (rowsB [.i .u8] (instR [.i .u8] (rowI p.al)) p.al.length) (.must (rowsB [.i .u8] (instR [.i .u8] (rowI q.pl)) q.pl.length) (.must (rowsB [.i .u8] (instR [.i .u8] (rowI q.al)) q.al.length) (.must
  (rowsB [.i .u8] (instR [.i .u8] (rowI r.pl)) r.pl.length) (.must (rowsB [.i .u8] (instR [.i .u8] (rowI r.al)) r.al.length) (.leaf ⟨[[.b true]], (p.on ++ q.on ++ r.on)⟩))))))))))) (.ite (!r.ever) (.must (rowsB [.i .u8]
  (instR [.i .u8] (rowI p.pl)) p.pl.length) (.must (rowsB [.i .u8] (instR [.i .u8] (rowI p.al)) p.al.length) (.must (rowsB [.i .u8] (instR [.i .u8] (rowI q.pl)) q.pl.length) (.must (rowsB [.i .u8] (instR [.i .u8] (rowI
  q.al)) q.al.length) (.must (rowsB [.i .u8] (instR [.i .u8] (rowI r.pl)) r.pl.length) (.must (rowsB [.i .u8] (instR [.i .u8] (rowI r.al)) r.al.length) (.leaf ⟨[[.b true]], (p.on ++ q.on ++ r.on)⟩))))))) (.ite (!(r.dec.fst
  == q.dec.fst && (r.dec.snd.fst == q.dec.snd.fst && r.dec.snd.snd == q.dec.snd.snd))) (.must (rowsB [.i .u8] (instR [.i .u8] (rowI p.pl)) p.pl.length) (.must (rowsB [.i .u8] (instR [.i .u8] (rowI p.al)) p.al.length)
  (.must (rowsB [.i .u8] (instR [.i .u8] (rowI q.pl)) q.pl.length) (.must (rowsB [.i .u8] (instR [.i .u8] (rowI q.al)) q.al.length) (.must (rowsB [.i .u8] (instR [.i .u8] (rowI r.pl)) r.pl.length) (.must (rowsB [.i .u8]
  (instR [.i .u8] (rowI r.al)) r.al.length) (.leaf ⟨[[.b false]], (p.on ++ q.on ++ r.on)⟩))))))) (.ite (!(r.dec.fst == x.fst && (r.dec.snd.fst == x.snd.fst && r.dec.snd.snd == x.snd.snd))) (.ite (!(r.dec.fst == y.fst &&
  (r.dec.snd.fst == y.snd.fst && r.dec.snd.snd == y.snd.snd))) (.ite (!(r.dec.fst == z.fst && (r.dec.snd.fst == z.snd.fst && r.dec.snd.snd == z.snd.snd))) (.must (rowsB [.i .u8] (instR [.i .u8] (rowI p.pl)) p.pl.length)
  (.must (rowsB [.i .u8] (instR [.i .u8] (rowI p.al)) p.al.length) (.must (rowsB [.i .u8] (instR [.i .u8] (rowI q.pl)) q.pl.length) (.must (rowsB [.i .u8] (instR [.i .u8] (rowI q.al)) q.al.length) (.must (rowsB [.i .u8]
  (instR [.i .u8] (rowI r.pl)) r.pl.length) (.must (rowsB [.i .u8] (instR [.i .u8] (rowI r.al)) r.al.length) (.leaf ⟨[[.b false]], (p.on ++ q.on ++ r.on)⟩))))))) (.must (rowsB [.i .u8] (instR [.i .u8] (rowI p.pl))
  p.pl.length) (.must (rowsB [.i .u8] (instR [.i .u8] (rowI p.al)) p.al.length) (.must (rowsB [.i .u8] (instR [.i .u8] (rowI q.pl)) q.pl.length) (.must (rowsB [.i .u8] (instR [.i .u8] (rowI q.al)) q.al.length) (.must
  (rowsB [.i .u8] (instR [.i .u8] (rowI r.pl)) r.pl.length) (.must (rowsB [.i .u8] (instR [.i .u8] (rowI r.al)) r.al.length) (.leaf ⟨[[.b true]], (p.on ++ q.on ++ r.on)⟩)))))))) (.must (rowsB [.i .u8] (instR [.i .u8] (rowI
  p.pl)) p.pl.length) (.must (rowsB [.i .u8] (instR [.i .u8] (rowI p.al)) p.al.length) (.must (rowsB [.i .u8] (instR [.i .u8] (rowI q.pl)) q.pl.length) (.must (rowsB [.i .u8] (instR [.i .u8] (rowI q.al)) q.al.length)
  (.must (rowsB [.i .u8] (instR [.i .u8] (rowI r.pl)) r.pl.length) (.must (rowsB [.i .u8] (instR [.i .u8] (rowI r.al)) r.al.length) (.leaf ⟨[[.b true]], (p.on ++ q.on ++ r.on)⟩)))))))) (.must (rowsB [.i .u8] (instR [.i
  .u8] (rowI p.pl)) p.pl.length) (.must (rowsB [.i .u8] (instR [.i .u8] (rowI p.al)) p.al.length) (.must (rowsB [.i .u8] (instR [.i .u8] (rowI q.pl)) q.pl.length) (.must (rowsB [.i .u8] (instR [.i .u8] (rowI q.al))
  q.al.length) (.must (rowsB [.i .u8] (instR [.i .u8] (rowI r.pl)) r.pl.length) (.must (rowsB [.i .u8] (instR [.i .u8] (rowI r.al)) r.al.length) (.leaf ⟨[[.b true]], (p.on ++ q.on ++ r.on)⟩)))))))))))))) (.ite (!q.ever)
  (.ite (!r.ever) (.must (rowsB [.i .u8] (instR [.i .u8] (rowI p.pl)) p.pl.length) (.must (rowsB [.i .u8] (instR [.i .u8] (rowI p.al)) p.al.length) (.must (rowsB [.i .u8] (instR [.i .u8] (rowI q.pl)) q.pl.length) (.must
  (rowsB [.i .u8] (instR [.i .u8] (rowI q.al)) q.al.length) (.must (rowsB [.i .u8] (instR [.i .u8] (rowI r.pl)) r.pl.length) (.must (rowsB [.i .u8] (instR [.i .u8] (rowI r.al)) r.al.length) (.leaf ⟨[[.b true]], (p.on ++
  q.on ++ r.on)⟩))))))) (.ite (!(r.dec.fst == p.dec.fst && (r.dec.snd.fst == p.dec.snd.fst && r.dec.snd.snd == p.dec.snd.snd))) (.must (rowsB [.i .u8] (instR [.i .u8] (rowI p.pl)) p.pl.length) (.must (rowsB [.i .u8] (instR
  [.i .u8] (rowI p.al)) p.al.length) (.must (rowsB [.i .u8] (instR [.i .u8] (rowI q.pl)) q.pl.length) (.must (rowsB [.i .u8] (instR [.i .u8] (rowI q.al)) q.al.length) (.must (rowsB [.i .u8] (instR [.i .u8] (rowI r.pl))
  r.pl.length) (.must (rowsB [.i .u8] (instR [.i .u8] (rowI r.al)) r.al.length) (.leaf ⟨[[.b false]], (p.on ++ q.on ++ r.on)⟩))))))) (.ite (!(r.dec.fst == x.fst && (r.dec.snd.fst == x.snd.fst && r.dec.snd.snd ==
  x.snd.snd))) (.ite (!(r.dec.fst == y.fst && (r.dec.snd.fst == y.snd.fst && r.dec.snd.snd == y.snd.snd))) (.ite (!(r.dec.fst == z.fst && (r.dec.snd.fst == z.snd.fst && r.dec.snd.snd == z.snd.snd))) (.must (rowsB [.i .u8]
  (instR [.i .u8] (rowI p.pl)) p.pl.length) (.must (rowsB [.i .u8] (instR [.i .u8] (rowI p.al)) p.al.length) (.must (rowsB [.i .u8] (instR [.i .u8] (rowI q.pl)) q.pl.length) (.must (rowsB [.i .u8] (instR [.i .u8] (rowI
  q.al)) q.al.length) (.must (rowsB [.i .u8] (instR [.i .u8] (rowI r.pl)) r.pl.length) (.must (rowsB [.i .u8] (instR [.i .u8] (rowI r.al)) r.al.length) (.leaf ⟨[[.b false]], (p.on ++ q.on ++ r.on)⟩))))))) (.must (rowsB [.i
  .u8] (instR [.i .u8] (rowI p.pl)) p.pl.length) (.must (rowsB [.i .u8] (instR [.i .u8] (rowI p.al)) p.al.length) (.must (rowsB [.i .u8] (instR [.i .u8] (rowI q.pl)) q.pl.length) (.must (rowsB [.i .u8] (instR [.i .u8]
  (rowI q.al)) q.al.length) (.must (rowsB [.i .u8] (instR [.i .u8] (rowI r.pl)) r.pl.length) (.must (rowsB [.i .u8] (instR [.i .u8] (rowI r.al)) r.al.length) (.leaf ⟨[[.b true]], (p.on ++ q.on ++ r.on)⟩)))))))) (.must
  (rowsB [.i .u8] (instR [.i .u8] (rowI p.pl)) p.pl.length) (.must (rowsB [.i .u8] (instR [.i .u8] (rowI p.al)) p.al.length) (.must (rowsB [.i .u8] (instR [.i .u8] (rowI q.pl)) q.pl.length) (.must (rowsB [.i .u8] (instR
  [.i .u8] (rowI q.al)) q.al.length) (.must (rowsB [.i .u8] (instR [.i .u8] (rowI r.pl)) r.pl.length) (.must (rowsB [.i .u8] (instR [.i .u8] (rowI r.al)) r.al.length) (.leaf ⟨[[.b true]], (p.on ++ q.on ++ r.on)⟩))))))))
  (.must (rowsB [.i .u8] (instR [.i .u8] (rowI p.pl)) p.pl.length) (.must (rowsB [.i .u8] (instR [.i .u8] (rowI p.al)) p.al.length) (.must (rowsB [.i .u8] (instR [.i .u8] (rowI q.pl)) q.pl.length) (.must (rowsB [.i .u8]
  (instR [.i .u8] (rowI q.al)) q.al.length) (.must (rowsB [.i .u8] (instR [.i .u8] (rowI r.pl)) r.pl.length) (.must (rowsB [.i .u8] (instR [.i .u8] (rowI r.al)) r.al.length) (.leaf ⟨[[.b true]], (p.on ++ q.on ++
  r.on)⟩)))))))))) (.ite (!(q.dec.fst == p.dec.fst && (q.dec.snd.fst == p.dec.snd.fst && q.dec.snd.snd == p.dec.snd.snd))) (.must (rowsB [.i .u8] (instR [.i .u8] (rowI p.pl)) p.pl.length) (.must (rowsB [.i .u8] (instR [.i
  .u8] (rowI p.al)) p.al.length) (.must (rowsB [.i .u8] (instR [.i .u8] (rowI q.pl)) q.pl.length) (.must (rowsB [.i .u8] (instR [.i .u8] (rowI q.al)) q.al.length) (.must (rowsB [.i .u8] (instR [.i .u8] (rowI r.pl))
  r.pl.length) (.must (rowsB [.i .u8] (instR [.i .u8] (rowI r.al)) r.al.length) (.leaf ⟨[[.b false]], (p.on ++ q.on ++ r.on)⟩))))))) (.ite (!(q.dec.fst == x.fst && (q.dec.snd.fst == x.snd.fst && q.dec.snd.snd ==
  x.snd.snd))) (.ite (!(q.dec.fst == y.fst && (q.dec.snd.fst == y.snd.fst && q.dec.snd.snd == y.snd.snd))) (.ite (!(q.dec.fst == z.fst && (q.dec.snd.fst == z.snd.fst && q.dec.snd.snd == z.snd.snd))) (.must (rowsB [.i .u8]
  (instR [.i .u8] (rowI p.pl)) p.pl.length) (.must (rowsB [.i .u8] (instR [.i .u8] (rowI p.al)) p.al.length) (.must (rowsB [.i .u8] (instR [.i .u8] (rowI q.pl)) q.pl.length) (.must (rowsB [.i .u8] (instR [.i .u8] (rowI
  q.al)) q.al.length) (.must (rowsB [.i .u8] (instR [.i .u8] (rowI r.pl)) r.pl.length) (.must (rowsB [.i .u8] (instR [.i .u8] (rowI r.al)) r.al.length) (.leaf ⟨[[.b false]], (p.on ++ q.on ++ r.on)⟩))))))) (.ite (!r.ever)
  (.must (rowsB [.i .u8] (instR [.i .u8] (rowI p.pl)) p.pl.length) (.must (rowsB [.i .u8] (instR [.i .u8] (rowI p.al)) p.al.length) (.must (rowsB [.i .u8] (instR [.i .u8] (rowI q.pl)) q.pl.length) (.must (rowsB [.i .u8]
  (instR [.i .u8] (rowI q.al)) q.al.length) (.must (rowsB [.i .u8] (instR [.i .u8] (rowI r.pl)) r.pl.length) (.must (rowsB [.i .u8] (instR [.i .u8] (rowI r.al)) r.al.length) (.leaf ⟨[[.b true]], (p.on ++ q.on ++
  r.on)⟩))))))) (.ite (!(r.dec.fst == q.dec.fst && (r.dec.snd.fst == q.dec.snd.fst && r.dec.snd.snd == q.dec.snd.snd))) (.must (rowsB [.i .u8] (instR [.i .u8] (rowI p.pl)) p.pl.length) (.must (rowsB [.i .u8] (instR [.i
  .u8] (rowI p.al)) p.al.length) (.must (rowsB [.i .u8] (instR [.i .u8] (rowI q.pl)) q.pl.length) (.must (rowsB [.i .u8] (instR [.i .u8] (rowI q.al)) q.al.length) (.must (rowsB [.i .u8] (instR [.i .u8] (rowI r.pl))
  r.pl.length) (.must (rowsB [.i .u8] (instR [.i .u8] (rowI r.al)) r.al.length) (.leaf ⟨[[.b false]], (p.on ++ q.on ++ r.on)⟩))))))) (.ite (!(r.dec.fst == x.fst && (r.dec.snd.fst == x.snd.fst && r.dec.snd.snd ==
  x.snd.snd))) (.ite (!(r.dec.fst == y.fst && (r.dec.snd.fst == y.snd.fst && r.dec.snd.snd == y.snd.snd))) (.ite (!(r.dec.fst == z.fst && (r.dec.snd.fst == z.snd.fst && r.dec.snd.snd == z.snd.snd))) (.must (rowsB [.i .u8]
  (instR [.i .u8] (rowI p.pl)) p.pl.length) (.must (rowsB [.i .u8] (instR [.i .u8] (rowI p.al)) p.al.length) (.must (rowsB [.i .u8] (instR [.i .u8] (rowI q.pl)) q.pl.length) (.must (rowsB [.i .u8] (instR [.i .u8] (rowI
  q.al)) q.al.length) (.must (rowsB [.i .u8] (instR [.i .u8] (rowI r.pl)) r.pl.length) (.must (rowsB [.i .u8] (instR [.i .u8] (rowI r.al)) r.al.length) (.leaf ⟨[[.b false]], (p.on ++ q.on ++ r.on)⟩))))))) (.must (rowsB [.i
  .u8] (instR [.i .u8] (rowI p.pl)) p.pl.length) (.must (rowsB [.i .u8] (instR [.i .u8] (rowI p.al)) p.al.length) (.must (rowsB [.i .u8] (instR [.i .u8] (rowI q.pl)) q.pl.length) (.must (rowsB [.i .u8] (instR [.i .u8]
  (rowI q.al)) q.al.length) (.must (rowsB [.i .u8] (instR [.i .u8] (rowI r.pl)) r.pl.length) (.must (rowsB [.i .u8] (instR [.i .u8] (rowI r.al)) r.al.length) (.leaf ⟨[[.b true]], (p.on ++ q.on ++ r.on)⟩)))))))) (.must
  (rowsB [.i .u8] (instR [.i .u8] (rowI p.pl)) p.pl.length) (.must (rowsB [.i .u8] (instR [.i .u8] (rowI p.al)) p.al.length) (.must (rowsB [.i .u8] (instR [.i .u8] (rowI q.pl)) q.pl.length) (.must (rowsB [.i .u8] (instR
  [.i .u8] (rowI q.al)) q.al.length) (.must (rowsB [.i .u8] (instR [.i .u8] (rowI r.pl)) r.pl.length) (.must (rowsB [.i .u8] (instR [.i .u8] (rowI r.al)) r.al.length) (.leaf ⟨[[.b true]], (p.on ++ q.on ++ r.on)⟩))))))))
  (.must (rowsB [.i .u8] (instR [.i .u8] (rowI p.pl)) p.pl.length) (.must (rowsB [.i .u8] (instR [.i .u8] (rowI p.al)) p.al.length) (.must (rowsB [.i .u8] (instR [.i .u8] (rowI q.pl)) q.pl.length) (.must (rowsB [.i .u8]
  (instR [.i .u8] (rowI q.al)) q.al.length) (.must (rowsB [.i .u8] (instR [.i .u8] (rowI r.pl)) r.pl.length) (.must (rowsB [.i .u8] (instR [.i .u8] (rowI r.al)) r.al.length) (.leaf ⟨[[.b true]], (p.on ++ q.on ++
  r.on)⟩))))))))))) (.ite (!r.ever) (.must (rowsB [.i .u8] (instR [.i .u8] (rowI p.pl)) p.pl.length) (.must (rowsB [.i .u8] (instR [.i .u8] (rowI p.al)) p.al.length) (.must (rowsB [.i .u8] (instR [.i .u8] (rowI q.pl))
  q.pl.length) (.must (rowsB [.i .u8] (instR [.i .u8] (rowI q.al)) q.al.length) (.must (rowsB [.i .u8] (instR [.i .u8] (rowI r.pl)) r.pl.length) (.must (rowsB [.i .u8] (instR [.i .u8] (rowI r.al)) r.al.length) (.leaf ⟨[[.b
  true]], (p.on ++ q.on ++ r.on)⟩))))))) (.ite (!(r.dec.fst == q.dec.fst && (r.dec.snd.fst == q.dec.snd.fst && r.dec.snd.snd == q.dec.snd.snd))) (.must (rowsB [.i .u8] (instR [.i .u8] (rowI p.pl)) p.pl.length) (.must
  (rowsB [.i .u8] (instR [.i .u8] (rowI p.al)) p.al.length) (.must (rowsB [.i .u8] (instR [.i .u8] (rowI q.pl)) q.pl.length) (.must (rowsB [.i .u8] (instR [.i .u8] (rowI q.al)) q.al.length) (.must (rowsB [.i .u8] (instR
  [.i .u8] (rowI r.pl)) r.pl.length) (.must (rowsB [.i .u8] (instR [.i .u8] (rowI r.al)) r.al.length) (.leaf ⟨[[.b false]], (p.on ++ q.on ++ r.on)⟩))))))) (.ite (!(r.dec.fst == x.fst && (r.dec.snd.fst == x.snd.fst &&
  r.dec.snd.snd == x.snd.snd))) (.ite (!(r.dec.fst == y.fst && (r.dec.snd.fst == y.snd.fst && r.dec.snd.snd == y.snd.snd))) (.ite (!(r.dec.fst == z.fst && (r.dec.snd.fst == z.snd.fst && r.dec.snd.snd == z.snd.snd))) (.must
  (rowsB [.i .u8] (instR [.i .u8] (rowI p.pl)) p.pl.length) (.must (rowsB [.i .u8] (instR [.i .u8] (rowI p.al)) p.al.length) (.must (rowsB [.i .u8] (instR [.i .u8] (rowI q.pl)) q.pl.length) (.must (rowsB [.i .u8] (instR
  [.i .u8] (rowI q.al)) q.al.length) (.must (rowsB [.i .u8] (instR [.i .u8] (rowI r.pl)) r.pl.length) (.must (rowsB [.i .u8] (instR [.i .u8] (rowI r.al)) r.al.length) (.leaf ⟨[[.b false]], (p.on ++ q.on ++ r.on)⟩)))))))
  (.must (rowsB [.i .u8] (instR [.i .u8] (rowI p.pl)) p.pl.length) (.must (rowsB [.i .u8] (instR [.i .u8] (rowI p.al)) p.al.length) (.must (rowsB [.i .u8] (instR [.i .u8] (rowI q.pl)) q.pl.length) (.must (rowsB [.i .u8]
  (instR [.i .u8] (rowI q.al)) q.al.length) (.must (rowsB [.i .u8] (instR [.i .u8] (rowI r.pl)) r.pl.length) (.must (rowsB [.i .u8] (instR [.i .u8] (rowI r.al)) r.al.length) (.leaf ⟨[[.b true]], (p.on ++ q.on ++
  r.on)⟩)))))))) (.must (rowsB [.i .u8] (instR [.i .u8] (rowI p.pl)) p.pl.length) (.must (rowsB [.i .u8] (instR [.i .u8] (rowI p.al)) p.al.length) (.must (rowsB [.i .u8] (instR [.i .u8] (rowI q.pl)) q.pl.length) (.must
  (rowsB [.i .u8] (instR [.i .u8] (rowI q.al)) q.al.length) (.must (rowsB [.i .u8] (instR [.i .u8] (rowI r.pl)) r.pl.length) (.must (rowsB [.i .u8] (instR [.i .u8] (rowI r.al)) r.al.length) (.leaf ⟨[[.b true]], (p.on ++
  q.on ++ r.on)⟩)))))))) (.must (rowsB [.i .u8] (instR [.i .u8] (rowI p.pl)) p.pl.length) (.must (rowsB [.i .u8] (instR [.i .u8] (rowI p.al)) p.al.length) (.must (rowsB [.i .u8] (instR [.i .u8] (rowI q.pl)) q.pl.length)
  (.must (rowsB [.i .u8] (instR [.i .u8] (rowI q.al)) q.al.length) (.must (rowsB [.i .u8] (instR [.i .u8] (rowI r.pl)) r.pl.length) (.must (rowsB [.i .u8] (instR [.i .u8] (rowI r.al)) r.al.length) (.leaf ⟨[[.b true]],
  (p.on ++ q.on ++ r.on)⟩))))))))))) (.ite (!r.ever) (.must (rowsB [.i .u8] (instR [.i .u8] (rowI p.pl)) p.pl.length) (.must (rowsB [.i .u8] (instR [.i .u8] (rowI p.al)) p.al.length) (.must (rowsB [.i .u8] (instR [.i .u8]
  (rowI q.pl)) q.pl.length) (.must (rowsB [.i .u8] (instR [.i .u8] (rowI q.al)) q.al.length) (.must (rowsB [.i .u8] (instR [.i .u8] (rowI r.pl)) r.pl.length) (.must (rowsB [.i .u8] (instR [.i .u8] (rowI r.al)) r.al.length)
  (.leaf ⟨[[.b true]], (p.on ++ q.on ++ r.on)⟩))))))) (.ite (!(r.dec.fst == q.dec.fst && (r.dec.snd.fst == q.dec.snd.fst && r.dec.snd.snd == q.dec.snd.snd))) (.must (rowsB [.i .u8] (instR [.i .u8] (rowI p.pl)) p.pl.length)
  (.must (rowsB [.i .u8] (instR [.i .u8] (rowI p.al)) p.al.length) (.must (rowsB [.i .u8] (instR [.i .u8] (rowI q.pl)) q.pl.length) (.must (rowsB [.i .u8] (instR [.i .u8] (rowI q.al)) q.al.length) (.must (rowsB [.i .u8]
  (instR [.i .u8] (rowI r.pl)) r.pl.length) (.must (rowsB [.i .u8] (instR [.i .u8] (rowI r.al)) r.al.length) (.leaf ⟨[[.b false]], (p.on ++ q.on ++ r.on)⟩))))))) (.ite (!(r.dec.fst == x.fst && (r.dec.snd.fst == x.snd.fst
  && r.dec.snd.snd == x.snd.snd))) (.ite (!(r.dec.fst == y.fst && (r.dec.snd.fst == y.snd.fst && r.dec.snd.snd == y.snd.snd))) (.ite (!(r.dec.fst == z.fst && (r.dec.snd.fst == z.snd.fst && r.dec.snd.snd == z.snd.snd)))
  (.must (rowsB [.i .u8] (instR [.i .u8] (rowI p.pl)) p.pl.length) (.must (rowsB [.i .u8] (instR [.i .u8] (rowI p.al)) p.al.length) (.must (rowsB [.i .u8] (instR [.i .u8] (rowI q.pl)) q.pl.length) (.must (rowsB [.i .u8]
  (instR [.i .u8] (rowI q.al)) q.al.length) (.must (rowsB [.i .u8] (instR [.i .u8] (rowI r.pl)) r.pl.length) (.must (rowsB [.i .u8] (instR [.i .u8] (rowI r.al)) r.al.length) (.leaf ⟨[[.b false]], (p.on ++ q.on ++
  r.on)⟩))))))) (.must (rowsB [.i .u8] (instR [.i .u8] (rowI p.pl)) p.pl.length) (.must (rowsB [.i .u8] (instR [.i .u8] (rowI p.al)) p.al.length) (.must (rowsB [.i .u8] (instR [.i .u8] (rowI q.pl)) q.pl.length) (.must
  (rowsB [.i .u8] (instR [.i .u8] (rowI q.al)) q.al.length) (.must (rowsB [.i .u8] (instR [.i .u8] (rowI r.pl)) r.pl.length) (.must (rowsB [.i .u8] (instR [.i .u8] (rowI r.al)) r.al.length) (.leaf ⟨[[.b true]], (p.on ++
  q.on ++ r.on)⟩)))))))) (.must (rowsB [.i .u8] (instR [.i .u8] (rowI p.pl)) p.pl.length) (.must (rowsB [.i .u8] (instR [.i .u8] (rowI p.al)) p.al.length) (.must (rowsB [.i .u8] (instR [.i .u8] (rowI q.pl)) q.pl.length)
  (.must (rowsB [.i .u8] (instR [.i .u8] (rowI q.al)) q.al.length) (.must (rowsB [.i .u8] (instR [.i .u8] (rowI r.pl)) r.pl.length) (.must (rowsB [.i .u8] (instR [.i .u8] (rowI r.al)) r.al.length) (.leaf ⟨[[.b true]],
  (p.on ++ q.on ++ r.on)⟩)))))))) (.must (rowsB [.i .u8] (instR [.i .u8] (rowI p.pl)) p.pl.length) (.must (rowsB [.i .u8] (instR [.i .u8] (rowI p.al)) p.al.length) (.must (rowsB [.i .u8] (instR [.i .u8] (rowI q.pl))
  q.pl.length) (.must (rowsB [.i .u8] (instR [.i .u8] (rowI q.al)) q.al.length) (.must (rowsB [.i .u8] (instR [.i .u8] (rowI r.pl)) r.pl.length) (.must (rowsB [.i .u8] (instR [.i .u8] (rowI r.al)) r.al.length) (.leaf ⟨[[.b
  true]], (p.on ++ q.on ++ r.on)⟩)))))))))))))) (.ite (!q.ever) (.ite (!r.ever) (.must (rowsB [.i .u8] (instR [.i .u8] (rowI p.pl)) p.pl.length) (.must (rowsB [.i .u8] (instR [.i .u8] (rowI p.al)) p.al.length) (.must
  (rowsB [.i .u8] (instR [.i .u8] (rowI q.pl)) q.pl.length) (.must (rowsB [.i .u8] (instR [.i .u8] (rowI q.al)) q.al.length) (.must (rowsB [.i .u8] (instR [.i .u8] (rowI r.pl)) r.pl.length) (.must (rowsB [.i .u8] (instR
  [.i .u8] (rowI r.al)) r.al.length) (.leaf ⟨[[.b true]], (p.on ++ q.on ++ r.on)⟩))))))) (.ite (!(r.dec.fst == p.dec.fst && (r.dec.snd.fst == p.dec.snd.fst && r.dec.snd.snd == p.dec.snd.snd))) (.must (rowsB [.i .u8] (instR
  [.i .u8] (rowI p.pl)) p.pl.length) (.must (rowsB [.i .u8] (instR [.i .u8] (rowI p.al)) p.al.length) (.must (rowsB [.i .u8] (instR [.i .u8] (rowI q.pl)) q.pl.length) (.must (rowsB [.i .u8] (instR [.i .u8] (rowI q.al))
  q.al.length) (.must (rowsB [.i .u8] (instR [.i .u8] (rowI r.pl)) r.pl.length) (.must (rowsB [.i .u8] (instR [.i .u8] (rowI r.al)) r.al.length) (.leaf ⟨[[.b false]], (p.on ++ q.on ++ r.on)⟩))))))) (.ite (!(r.dec.fst ==
  x.fst && (r.dec.snd.fst == x.snd.fst && r.dec.snd.snd == x.snd.snd))) (.ite (!(r.dec.fst == y.fst && (r.dec.snd.fst == y.snd.fst && r.dec.snd.snd == y.snd.snd))) (.ite (!(r.dec.fst == z.fst && (r.dec.snd.fst == z.snd.fst
  && r.dec.snd.snd == z.snd.snd))) (.must (rowsB [.i .u8] (instR [.i .u8] (rowI p.pl)) p.pl.length) (.must (rowsB [.i .u8] (instR [.i .u8] (rowI p.al)) p.al.length) (.must (rowsB [.i .u8] (instR [.i .u8] (rowI q.pl))
  q.pl.length) (.must (rowsB [.i .u8] (instR [.i .u8] (rowI q.al)) q.al.length) (.must (rowsB [.i .u8] (instR [.i .u8] (rowI r.pl)) r.pl.length) (.must (rowsB [.i .u8] (instR [.i .u8] (rowI r.al)) r.al.length) (.leaf ⟨[[.b
  false]], (p.on ++ q.on ++ r.on)⟩))))))) (.must (rowsB [.i .u8] (instR [.i .u8] (rowI p.pl)) p.pl.length) (.must (rowsB [.i .u8] (instR [.i .u8] (rowI p.al)) p.al.length) (.must (rowsB [.i .u8] (instR [.i .u8] (rowI
  q.pl)) q.pl.length) (.must (rowsB [.i .u8] (instR [.i .u8] (rowI q.al)) q.al.length) (.must (rowsB [.i .u8] (instR [.i .u8] (rowI r.pl)) r.pl.length) (.must (rowsB [.i .u8] (instR [.i .u8] (rowI r.al)) r.al.length)
  (.leaf ⟨[[.b true]], (p.on ++ q.on ++ r.on)⟩)))))))) (.must (rowsB [.i .u8] (instR [.i .u8] (rowI p.pl)) p.pl.length) (.must (rowsB [.i .u8] (instR [.i .u8] (rowI p.al)) p.al.length) (.must (rowsB [.i .u8] (instR [.i
  .u8] (rowI q.pl)) q.pl.length) (.must (rowsB [.i .u8] (instR [.i .u8] (rowI q.al)) q.al.length) (.must (rowsB [.i .u8] (instR [.i .u8] (rowI r.pl)) r.pl.length) (.must (rowsB [.i .u8] (instR [.i .u8] (rowI r.al))
  r.al.length) (.leaf ⟨[[.b true]], (p.on ++ q.on ++ r.on)⟩)))))))) (.must (rowsB [.i .u8] (instR [.i .u8] (rowI p.pl)) p.pl.length) (.must (rowsB [.i .u8] (instR [.i .u8] (rowI p.al)) p.al.length) (.must (rowsB [.i .u8]
  (instR [.i .u8] (rowI q.pl)) q.pl.length) (.must (rowsB [.i .u8] (instR [.i .u8] (rowI q.al)) q.al.length) (.must (rowsB [.i .u8] (instR [.i .u8] (rowI r.pl)) r.pl.length) (.must (rowsB [.i .u8] (instR [.i .u8] (rowI
  r.al)) r.al.length) (.leaf ⟨[[.b true]], (p.on ++ q.on ++ r.on)⟩)))))))))) (.ite (!(q.dec.fst == p.dec.fst && (q.dec.snd.fst == p.dec.snd.fst && q.dec.snd.snd == p.dec.snd.snd))) (.must (rowsB [.i .u8] (instR [.i .u8]
  (rowI p.pl)) p.pl.length) (.must (rowsB [.i .u8] (instR [.i .u8] (rowI p.al)) p.al.length) (.must (rowsB [.i .u8] (instR [.i .u8] (rowI q.pl)) q.pl.length) (.must (rowsB [.i .u8] (instR [.i .u8] (rowI q.al)) q.al.length)
  (.must (rowsB [.i .u8] (instR [.i .u8] (rowI r.pl)) r.pl.length) (.must (rowsB [.i .u8] (instR [.i .u8] (rowI r.al)) r.al.length) (.leaf ⟨[[.b false]], (p.on ++ q.on ++ r.on)⟩))))))) (.ite (!(q.dec.fst == x.fst &&
  (q.dec.snd.fst == x.snd.fst && q.dec.snd.snd == x.snd.snd))) (.ite (!(q.dec.fst == y.fst && (q.dec.snd.fst == y.snd.fst && q.dec.snd.snd == y.snd.snd))) (.ite (!(q.dec.fst == z.fst && (q.dec.snd.fst == z.snd.fst &&
  q.dec.snd.snd == z.snd.snd))) (.must (rowsB [.i .u8] (instR [.i .u8] (rowI p.pl)) p.pl.length) (.must (rowsB [.i .u8] (instR [.i .u8] (rowI p.al)) p.al.length) (.must (rowsB [.i .u8] (instR [.i .u8] (rowI q.pl))
  q.pl.length) (.must (rowsB [.i .u8] (instR [.i .u8] (rowI q.al)) q.al.length) (.must (rowsB [.i .u8] (instR [.i .u8] (rowI r.pl)) r.pl.length) (.must (rowsB [.i .u8] (instR [.i .u8] (rowI r.al)) r.al.length) (.leaf ⟨[[.b
  false]], (p.on ++ q.on ++ r.on)⟩))))))) (.ite (!r.ever) (.must (rowsB [.i .u8] (instR [.i .u8] (rowI p.pl)) p.pl.length) (.must (rowsB [.i .u8] (instR [.i .u8] (rowI p.al)) p.al.length) (.must (rowsB [.i .u8] (instR [.i
  .u8] (rowI q.pl)) q.pl.length) (.must (rowsB [.i .u8] (instR [.i .u8] (rowI q.al)) q.al.length) (.must (rowsB [.i .u8] (instR [.i .u8] (rowI r.pl)) r.pl.length) (.must (rowsB [.i .u8] (instR [.i .u8] (rowI r.al))
  r.al.length) (.leaf ⟨[[.b true]], (p.on ++ q.on ++ r.on)⟩))))))) (.ite (!(r.dec.fst == q.dec.fst && (r.dec.snd.fst == q.dec.snd.fst && r.dec.snd.snd == q.dec.snd.snd))) (.must (rowsB [.i .u8] (instR [.i .u8] (rowI p.pl))
  p.pl.length) (.must (rowsB [.i .u8] (instR [.i .u8] (rowI p.al)) p.al.length) (.must (rowsB [.i .u8] (instR [.i .u8] (rowI q.pl)) q.pl.length) (.must (rowsB [.i .u8] (instR [.i .u8] (rowI q.al)) q.al.length) (.must
  (rowsB [.i .u8] (instR [.i .u8] (rowI r.pl)) r.pl.length) (.must (rowsB [.i .u8] (instR [.i .u8] (rowI r.al)) r.al.length) (.leaf ⟨[[.b false]], (p.on ++ q.on ++ r.on)⟩))))))) (.ite (!(r.dec.fst == x.fst &&
  (r.dec.snd.fst == x.snd.fst && r.dec.snd.snd == x.snd.snd))) (.ite (!(r.dec.fst == y.fst && (r.dec.snd.fst == y.snd.fst && r.dec.snd.snd == y.snd.snd))) (.ite (!(r.dec.fst == z.fst && (r.dec.snd.fst == z.snd.fst &&
  r.dec.snd.snd == z.snd.snd))) (.must (rowsB [.i .u8] (instR [.i .u8] (rowI p.pl)) p.pl.length) (.must (rowsB [.i .u8] (instR [.i .u8] (rowI p.al)) p.al.length) (.must (rowsB [.i .u8] (instR [.i .u8] (rowI q.pl))
  q.pl.length) (.must (rowsB [.i .u8] (instR [.i .u8] (rowI q.al)) q.al.length) (.must (rowsB [.i .u8] (instR [.i .u8] (rowI r.pl)) r.pl.length) (.must (rowsB [.i .u8] (instR [.i .u8] (rowI r.al)) r.al.length) (.leaf ⟨[[.b
  false]], (p.on ++ q.on ++ r.on)⟩))))))) (.must (rowsB [.i .u8] (instR [.i .u8] (rowI p.pl)) p.pl.length) (.must (rowsB [.i .u8] (instR [.i .u8] (rowI p.al)) p.al.length) (.must (rowsB [.i .u8] (instR [.i .u8] (rowI
  q.pl)) q.pl.length) (.must (rowsB [.i .u8] (instR [.i .u8] (rowI q.al)) q.al.length) (.must (rowsB [.i .u8] (instR [.i .u8] (rowI r.pl)) r.pl.length) (.must (rowsB [.i .u8] (instR [.i .u8] (rowI r.al)) r.al.length)
  (.leaf ⟨[[.b true]], (p.on ++ q.on ++ r.on)⟩)))))))) (.must (rowsB [.i .u8] (instR [.i .u8] (rowI p.pl)) p.pl.length) (.must (rowsB [.i .u8] (instR [.i .u8] (rowI p.al)) p.al.length) (.must (rowsB [.i .u8] (instR [.i
  .u8] (rowI q.pl)) q.pl.length) (.must (rowsB [.i .u8] (instR [.i .u8] (rowI q.al)) q.al.length) (.must (rowsB [.i .u8] (instR [.i .u8] (rowI r.pl)) r.pl.length) (.must (rowsB [.i .u8] (instR [.i .u8] (rowI r.al))
  r.al.length) (.leaf ⟨[[.b true]], (p.on ++ q.on ++ r.on)⟩)))))))) (.must (rowsB [.i .u8] (instR [.i .u8] (rowI p.pl)) p.pl.length) (.must (rowsB [.i .u8] (instR [.i .u8] (rowI p.al)) p.al.length) (.must (rowsB [.i .u8]
  (instR [.i .u8] (rowI q.pl)) q.pl.length) (.must (rowsB [.i .u8] (instR [.i .u8] (rowI q.al)) q.al.length) (.must (rowsB [.i .u8] (instR [.i .u8] (rowI r.pl)) r.pl.length) (.must (rowsB [.i .u8] (instR [.i .u8] (rowI
  r.al)) r.al.length) (.leaf ⟨[[.b true]], (p.on ++ q.on ++ r.on)⟩))))))))))) (.ite (!r.ever) (.must (rowsB [.i .u8] (instR [.i .u8] (rowI p.pl)) p.pl.length) (.must (rowsB [.i .u8] (instR [.i .u8] (rowI p.al))
  p.al.length) (.must (rowsB [.i .u8] (instR [.i .u8] (rowI q.pl)) q.pl.length) (.must (rowsB [.i .u8] (instR [.i .u8] (rowI q.al)) q.al.length) (.must (rowsB [.i .u8] (instR [.i .u8] (rowI r.pl)) r.pl.length) (.must
  (rowsB [.i .u8] (instR [.i .u8] (rowI r.al)) r.al.length) (.leaf ⟨[[.b true]], (p.on ++ q.on ++ r.on)⟩))))))) (.ite (!(r.dec.fst == q.dec.fst && (r.dec.snd.fst == q.dec.snd.fst && r.dec.snd.snd == q.dec.snd.snd))) (.must
  (rowsB [.i .u8] (instR [.i .u8] (rowI p.pl)) p.pl.length) (.must (rowsB [.i .u8] (instR [.i .u8] (rowI p.al)) p.al.length) (.must (rowsB [.i .u8] (instR [.i .u8] (rowI q.pl)) q.pl.length) (.must (rowsB [.i .u8] (instR
  [.i .u8] (rowI q.al)) q.al.length) (.must (rowsB [.i .u8] (instR [.i .u8] (rowI r.pl)) r.pl.length) (.must (rowsB [.i .u8] (instR [.i .u8] (rowI r.al)) r.al.length) (.leaf ⟨[[.b false]], (p.on ++ q.on ++ r.on)⟩)))))))
  (.ite (!(r.dec.fst == x.fst && (r.dec.snd.fst == x.snd.fst && r.dec.snd.snd == x.snd.snd))) (.ite (!(r.dec.fst == y.fst && (r.dec.snd.fst == y.snd.fst && r.dec.snd.snd == y.snd.snd))) (.ite (!(r.dec.fst == z.fst &&
  (r.dec.snd.fst == z.snd.fst && r.dec.snd.snd == z.snd.snd))) (.must (rowsB [.i .u8] (instR [.i .u8] (rowI p.pl)) p.pl.length) (.must (rowsB [.i .u8] (instR [.i .u8] (rowI p.al)) p.al.length) (.must (rowsB [.i .u8] (instR
  [.i .u8] (rowI q.pl)) q.pl.length) (.must (rowsB [.i .u8] (instR [.i .u8] (rowI q.al)) q.al.length) (.must (rowsB [.i .u8] (instR [.i .u8] (rowI r.pl)) r.pl.length) (.must (rowsB [.i .u8] (instR [.i .u8] (rowI r.al))
  r.al.length) (.leaf ⟨[[.b false]], (p.on ++ q.on ++ r.on)⟩))))))) (.must (rowsB [.i .u8] (instR [.i .u8] (rowI p.pl)) p.pl.length) (.must (rowsB [.i .u8] (instR [.i .u8] (rowI p.al)) p.al.length) (.must (rowsB [.i .u8]
  (instR [.i .u8] (rowI q.pl)) q.pl.length) (.must (rowsB [.i .u8] (instR [.i .u8] (rowI q.al)) q.al.length) (.must (rowsB [.i .u8] (instR [.i .u8] (rowI r.pl)) r.pl.length) (.must (rowsB [.i .u8] (instR [.i .u8] (rowI
  r.al)) r.al.length) (.leaf ⟨[[.b true]], (p.on ++ q.on ++ r.on)⟩)))))))) (.must (rowsB [.i .u8] (instR [.i .u8] (rowI p.pl)) p.pl.length) (.must (rowsB [.i .u8] (instR [.i .u8] (rowI p.al)) p.al.length) (.must (rowsB [.i
  .u8] (instR [.i .u8] (rowI q.pl)) q.pl.length) (.must (rowsB [.i .u8] (instR [.i .u8] (rowI q.al)) q.al.length) (.must (rowsB [.i .u8] (instR [.i .u8] (rowI r.pl)) r.pl.length) (.must (rowsB [.i .u8] (instR [.i .u8]
  (rowI r.al)) r.al.length) (.leaf ⟨[[.b true]], (p.on ++ q.on ++ r.on)⟩)))))))) (.must (rowsB [.i .u8] (instR [.i .u8] (rowI p.pl)) p.pl.length) (.must (rowsB [.i .u8] (instR [.i .u8] (rowI p.al)) p.al.length) (.must
  (rowsB [.i .u8] (instR [.i .u8] (rowI q.pl)) q.pl.length) (.must (rowsB [.i .u8] (instR [.i .u8] (rowI q.al)) q.al.length) (.must (rowsB [.i .u8] (instR [.i .u8] (rowI r.pl)) r.pl.length) (.must (rowsB [.i .u8] (instR
  [.i .u8] (rowI r.al)) r.al.length) (.leaf ⟨[[.b true]], (p.on ++ q.on ++ r.on)⟩))))))))))) (.ite (!r.ever) (.must (rowsB [.i .u8] (instR [.i .u8] (rowI p.pl)) p.pl.length) (.must (rowsB [.i .u8] (instR [.i .u8] (rowI
  p.al)) p.al.length) (.must (rowsB [.i .u8] (instR [.i .u8] (rowI q.pl)) q.pl.length) (.must (rowsB [.i .u8] (instR [.i .u8] (rowI q.al)) q.al.length) (.must (rowsB [.i .u8] (instR [.i .u8] (rowI r.pl)) r.pl.length)
  (.must (rowsB [.i .u8] (instR [.i .u8] (rowI r.al)) r.al.length) (.leaf ⟨[[.b true]], (p.on ++ q.on ++ r.on)⟩))))))) (.ite (!(r.dec.fst == q.dec.fst && (r.dec.snd.fst == q.dec.snd.fst && r.dec.snd.snd == q.dec.snd.snd)))
  (.must (rowsB [.i .u8] (instR [.i .u8] (rowI p.pl)) p.pl.length) (.must (rowsB [.i .u8] (instR [.i .u8] (rowI p.al)) p.al.length) (.must (rowsB [.i .u8] (instR [.i .u8] (rowI q.pl)) q.pl.length) (.must (rowsB [.i .u8]
  (instR [.i .u8] (rowI q.al)) q.al.length) (.must (rowsB [.i .u8] (instR [.i .u8] (rowI r.pl)) r.pl.length) (.must (rowsB [.i .u8] (instR [.i .u8] (rowI r.al)) r.al.length) (.leaf ⟨[[.b false]], (p.on ++ q.on ++
  r.on)⟩))))))) (.ite (!(r.dec.fst == x.fst && (r.dec.snd.fst == x.snd.fst && r.dec.snd.snd == x.snd.snd))) (.ite (!(r.dec.fst == y.fst && (r.dec.snd.fst == y.snd.fst && r.dec.snd.snd == y.snd.snd))) (.ite (!(r.dec.fst ==
  z.fst && (r.dec.snd.fst == z.snd.fst && r.dec.snd.snd == z.snd.snd))) (.must (rowsB [.i .u8] (instR [.i .u8] (rowI p.pl)) p.pl.length) (.must (rowsB [.i .u8] (instR [.i .u8] (rowI p.al)) p.al.length) (.must (rowsB [.i
  .u8] (instR [.i .u8] (rowI q.pl)) q.pl.length) (.must (rowsB [.i .u8] (instR [.i .u8] (rowI q.al)) q.al.length) (.must (rowsB [.i .u8] (instR [.i .u8] (rowI r.pl)) r.pl.length) (.must (rowsB [.i .u8] (instR [.i .u8]
  (rowI r.al)) r.al.length) (.leaf ⟨[[.b false]], (p.on ++ q.on ++ r.on)⟩))))))) (.must (rowsB [.i .u8] (instR [.i .u8] (rowI p.pl)) p.pl.length) (.must (rowsB [.i .u8] (instR [.i .u8] (rowI p.al)) p.al.length) (.must
  (rowsB [.i .u8] (instR [.i .u8] (rowI q.pl)) q.pl.length) (.must (rowsB [.i .u8] (instR [.i .u8] (rowI q.al)) q.al.length) (.must (rowsB [.i .u8] (instR [.i .u8] (rowI r.pl)) r.pl.length) (.must (rowsB [.i .u8] (instR
  [.i .u8] (rowI r.al)) r.al.length) (.leaf ⟨[[.b true]], (p.on ++ q.on ++ r.on)⟩)))))))) (.must (rowsB [.i .u8] (instR [.i .u8] (rowI p.pl)) p.pl.length) (.must (rowsB [.i .u8] (instR [.i .u8] (rowI p.al)) p.al.length)
  (.must (rowsB [.i .u8] (instR [.i .u8] (rowI q.pl)) q.pl.length) (.must (rowsB [.i .u8] (instR [.i .u8] (rowI q.al)) q.al.length) (.must (rowsB [.i .u8] (instR [.i .u8] (rowI r.pl)) r.pl.length) (.must (rowsB [.i .u8]
  (instR [.i .u8] (rowI r.al)) r.al.length) (.leaf ⟨[[.b true]], (p.on ++ q.on ++ r.on)⟩)))))))) (.must (rowsB [.i .u8] (instR [.i .u8] (rowI p.pl)) p.pl.length) (.must (rowsB [.i .u8] (instR [.i .u8] (rowI p.al))
  p.al.length) (.must (rowsB [.i .u8] (instR [.i .u8] (rowI q.pl)) q.pl.length) (.must (rowsB [.i .u8] (instR [.i .u8] (rowI q.al)) q.al.length) (.must (rowsB [.i .u8] (instR [.i .u8] (rowI r.pl)) r.pl.length) (.must
  (rowsB [.i .u8] (instR [.i .u8] (rowI r.al)) r.al.length) (.leaf ⟨[[.b true]], (p.on ++ q.on ++ r.on)⟩)))))))))))))) := by kernel_rfl
def AcS.has (a : AcS) : Bool := !(a.acc.1 == 0 && a.acc.2 == 0)
def AcS.prepE (a : AcS) (b : B2) : (B2 × I3 × Bool × Int) × AcS :=
  bif decide (b.1 > 0) then bif !decide (b.2 < 3) then (((0, 0), (0, 0, 0), false, 10), a) else bif lessB b a.prom then (((0, 0), (0, 0, 0), false, 100), a) else ((a.acc, a.inc, a.has, 0), ⟨b, a.acc, a.inc⟩) else (((0, 0), (0, 0, 0), false, 10), a)
def AcS.accE (a : AcS) (b : B2) (x : I3) : Int × AcS :=
  bif decide (b.1 > 0) then bif !decide (b.2 < 3) then (10, a) else bif isIncB x then bif lessB b a.prom then (100, a) else (0, ⟨b, b, x⟩) else (10, a) else (10, a)
def AgOk (p q r : PrS) (x y z : I3) : Prop := (p.ever = true → p.dec = x ∨ p.dec = y ∨ p.dec = z) ∧ (q.ever = true → q.dec = x ∨ q.dec = y ∨ q.dec = z) ∧ (r.ever = true → r.dec = x ∨ r.dec = y ∨ r.dec = z) ∧
  (p.ever = true → q.ever = true → q.dec = p.dec) ∧ (p.ever = true → r.ever = true → r.dec = p.dec) ∧ (q.ever = true → r.ever = true → r.dec = q.dec)
def agOkB (p q r : PrS) (x y z : I3) : Bool := (!p.ever || (decide (p.dec = x) || (decide (p.dec = y) || decide (p.dec = z)))) && ((!q.ever || (decide (q.dec = x) || (decide (q.dec = y) || decide (q.dec = z)))) && ((!r.ever || (decide (r.dec = x) || (decide (r.dec = y) || decide (r.dec = z)))) &&
  ((!p.ever || (!q.ever || decide (q.dec = p.dec))) && ((!p.ever || (!r.ever || decide (r.dec = p.dec))) && (!q.ever || (!r.ever || decide (r.dec = q.dec)))))))
def acOf (e : EN) : AcS := ⟨(e.bi 0 0, e.bi 0 1), (e.bi 0 2, e.bi 0 3), (e.bi 0 4, e.bi 0 5, e.bi 0 6)⟩
def prepE (e : EN) : (B2 × I3 × Bool × Int) × AcS := (acOf e).prepE (e.ai 1 0, e.ai 1 1)
def c38 (e : EN) : Tree (TS × EN) := .leaf (acPrepR, ⟨[[.i (prepE e).1.1.1, .i (prepE e).1.1.2], [.i (prepE e).1.2.1.1, .i (prepE e).1.2.1.2.1, .i (prepE e).1.2.1.2.2], [.b (prepE e).1.2.2.1], [.i (prepE e).1.2.2.2]], (prepE e).2.on⟩)
def accAE (e : EN) : Int × AcS := (acOf e).accE (e.ai 1 0, e.ai 1 1) (e.ai 2 0, e.ai 2 1, e.ai 2 2)
def c39 (e : EN) : Tree (TS × EN) := .leaf (acAccR, ⟨[[.i (accAE e).1]], (accAE e).2.on⟩)
def prAt (e : EN) (k : Nat) : PrS := ⟨e.bi k 0, (e.bi k 1, e.bi k 2, e.bi k 3), (e.bi k 4, e.bi k 5, e.bi k 6), (e.bi k 7, e.bi k 8, e.bi k 9), (e.bi k 10, e.bi k 11), (e.bi k 12, e.bi k 13), lstI (e.ln (k + 1)) (e.rw (k + 1)), lstI (e.ln (k + 3)) (e.rw (k + 3)), e.bb k 16, e.bb k 17, (e.bi k 18, e.bi k 19, e.bi k 20), e.bb k 21, e.bb k 22⟩
def c40 (e : EN) : Tree (TS × EN) := .must (agOkB (prAt e 0) (prAt e 5) (prAt e 10) (e.ai 1 0, e.ai 1 1, e.ai 1 2) (e.ai 1 3, e.ai 1 4, e.ai 1 5) (e.ai 1 6, e.ai 1 7, e.ai 1 8)) (.leaf (agR, ⟨[[.b true]], (prAt e 0).on ++ (prAt e 5).on ++ (prAt e 10).on⟩))
def gaSm : List (FuncId × Summ) := (38, ctrSumm acPrepT c38) :: (39, ctrSumm acAccT c39) :: (40, ctrSumm agT c40) :: sdSm
def gaT : Tab := smTab (tabOf gaSm)
theorem i3eq (a b : I3) : (a.1 == b.1 && (a.2.1 == b.2.1 && a.2.2 == b.2.2)) = decide (a = b) := by
  obtain ⟨a1, a2, a3⟩ := a
  obtain ⟨b1, b2, b3⟩ := b
  rw [Bool.eq_iff_iff]
  simp
theorem agOk_iff {p q r : PrS} {x y z : I3} : agOkB p q r x y z = true ↔ AgOk p q r x y z := by
  unfold agOkB AgOk
  simp only [Bool.and_eq_true, Bool.or_eq_true, Bool.not_eq_true', decide_eq_true_eq]
  cases p.ever <;> cases q.ever <;> cases r.ever <;> simp
set_option maxHeartbeats 4000000 in
theorem ag_std (p q r : PrS) (x y z : I3) (h : AgOk p q r x y z) : StdX Try.prog 40 agT ⟨[[], agX x y z], p.on ++ q.on ++ r.on⟩ agR ⟨[[.b true]], p.on ++ q.on ++ r.on⟩ := by
  refine stdX_tree sbTab mixed rfl (holds_of_eq (t40 p q r x y z) ?_)
  obtain ⟨h1, h2, h3, h4, h5, h6⟩ := h
  simp only [i3eq]
  repeat' with_reducible (first | refine holds_must (rowsB_i _ _ _) ?_ | refine holds_ite (fun _ => ?_) (fun _ => ?_))
  all_goals refine holds_leaf ?_
  all_goals first
    | ((repeat' (first | exact trivial | exact rfl | exact TS.eqv_refl _ _ | exact len_app _ _ | exact rows_appI | exact fun _ _ => eqvL_refl _ _ | exact fun i _ => eqvL_rowNums rfl _ i | apply And.intro)); done)
    | (exfalso; simp only [Bool.not_eq_true', Bool.not_eq_false', decide_eq_true_eq, decide_eq_false_iff_not] at *; grind)
theorem prep_std (a : AcS) (b : B2) : StdX Try.prog 38 acPrepT ⟨[[], [.i b.1, .i b.2]], a.on⟩ acPrepR ⟨[[.i (a.prepE b).1.1.1, .i (a.prepE b).1.1.2], [.i (a.prepE b).1.2.1.1, .i (a.prepE b).1.2.1.2.1, .i (a.prepE b).1.2.1.2.2], [.b (a.prepE b).1.2.2.1], [.i (a.prepE b).1.2.2.2]], (a.prepE b).2.on⟩ := by
  refine stdX_tree sbTab mixed rfl (holds_of_eq (t38 a b) ?_)
  repeat' with_reducible (first | refine holds_must (rowsB_i _ _ _) ?_ | refine holds_must (rowsB_app (by omega)) ?_ | refine holds_must (decide_eq_true (by omega)) ?_ | refine holds_inE ?_ | refine holds_ite (fun _ => ?_) (fun _ => ?_))
  all_goals refine holds_leaf ?_
  all_goals first
    | (simp only [AcS.prepE, AcS.has, lessB, *, cond_true, cond_false, Bool.true_and, Bool.and_true, Bool.false_and, Bool.and_false, Bool.true_or, Bool.or_true, Bool.false_or, Bool.or_false]; (repeat' (first | exact trivial | exact rfl | exact TS.eqv_refl _ _ | exact len_app _ _ | exact rows_appI | exact fun _ _ => eqvL_refl _ _ | exact fun i _ => eqvL_rowNums rfl _ i | apply And.intro)); done)
    | (exfalso; simp_all; done)
theorem acc39_std (a : AcS) (b : B2) (x : I3) : StdX Try.prog 39 acAccT ⟨[[], [.i b.1, .i b.2], [.i x.1, .i x.2.1, .i x.2.2]], a.on⟩ acAccR ⟨[[.i (a.accE b x).1]], (a.accE b x).2.on⟩ := by
  refine stdX_tree sbTab mixed rfl (holds_of_eq (t39 a b x) ?_)
  repeat' with_reducible (first | refine holds_must (rowsB_i _ _ _) ?_ | refine holds_must (rowsB_app (by omega)) ?_ | refine holds_must (decide_eq_true (by omega)) ?_ | refine holds_inE ?_ | refine holds_ite (fun _ => ?_) (fun _ => ?_))
  all_goals refine holds_leaf ?_
  all_goals first
    | (simp only [AcS.accE, isIncB, lessB, Bool.not_true, Bool.not_false, *, cond_true, cond_false, Bool.true_and, Bool.and_true, Bool.false_and, Bool.and_false, Bool.true_or, Bool.or_true, Bool.false_or, Bool.or_false]; (repeat' (first | exact trivial | exact rfl | exact TS.eqv_refl _ _ | exact len_app _ _ | exact rows_appI | exact fun _ _ => eqvL_refl _ _ | exact fun i _ => eqvL_rowNums rfl _ i | apply And.intro)); done)
    | (exfalso; simp_all; done)
theorem acOf_on (a : List (List Num)) (p : AcS) : acOf ⟨a, p.on⟩ = p := rfl
theorem acOf_eqv (e : EN) : eqvH acHp e.o (acOf e).on := by
  (repeat' (first | exact trivial | exact rfl | exact TS.eqv_refl _ _ | exact len_app _ _ | exact rows_appI | exact fun _ _ => eqvL_refl _ _ | exact fun i _ => eqvL_rowNums rfl _ i | apply And.intro))
theorem prAt_eqv0 (e : EN) : eqvH agT.hp e.o ((prAt e 0).on ++ (prAt e 5).on ++ (prAt e 10).on) := by
  have hl : ∀ k : Nat, eqvLn none (nthO k e.o).len (lstI (e.ln k) (e.rw k)).length ∧ ∀ i : Nat, (i : Int) < ((lstI (e.ln k) (e.rw k)).length : Int) → eqvL [.i .u8] ((nthO k e.o).rows i) (rowI (lstI (e.ln k) (e.rw k)) i) := fun k => ⟨(lstI_length _ _).symm, fun i hi => rowI_eqv (by rw [lstI_length] at hi; exact_mod_cast hi)⟩
  refine ⟨?_, hl 1, trivial, hl 3, trivial, ?_, hl 6, trivial, hl 8, trivial, ?_, hl 11, trivial, hl 13, trivial, trivial⟩
  all_goals (repeat' (first | exact trivial | exact rfl | exact TS.eqv_refl _ _ | exact len_app _ _ | exact rows_appI | exact fun _ _ => eqvL_refl _ _ | exact fun i _ => eqvL_rowNums rfl _ i | apply And.intro))
theorem c38_ok : SummAll Try.prog 38 (ctrSumm acPrepT c38) := ctr_ok fun e r h => by
  cases h
  refine StdX.pre (x' := ⟨_, (acOf e).on⟩) ⟨?_, acOf_eqv e⟩ (prep_std (acOf e) (e.ai 1 0, e.ai 1 1))
  (repeat' (first | exact trivial | exact rfl | exact TS.eqv_refl _ _ | exact len_app _ _ | exact rows_appI | exact fun _ _ => eqvL_refl _ _ | exact fun i _ => eqvL_rowNums rfl _ i | apply And.intro))
theorem c39_ok : SummAll Try.prog 39 (ctrSumm acAccT c39) := ctr_ok fun e r h => by
  cases h
  refine StdX.pre (x' := ⟨_, (acOf e).on⟩) ⟨?_, acOf_eqv e⟩ (acc39_std (acOf e) (e.ai 1 0, e.ai 1 1) (e.ai 2 0, e.ai 2 1, e.ai 2 2))
  (repeat' (first | exact trivial | exact rfl | exact TS.eqv_refl _ _ | exact len_app _ _ | exact rows_appI | exact fun _ _ => eqvL_refl _ _ | exact fun i _ => eqvL_rowNums rfl _ i | apply And.intro))
theorem c40_ok : SummAll Try.prog 40 (ctrSumm agT c40) := ctr_ok fun e r h => by
  unfold c40 at h
  obtain ⟨hl, h⟩ := must_sel h
  cases h
  refine StdX.pre (x' := ⟨_, _⟩) ⟨?_, prAt_eqv0 e⟩ (ag_std (prAt e 0) (prAt e 5) (prAt e 10) (e.ai 1 0, e.ai 1 1, e.ai 1 2) (e.ai 1 3, e.ai 1 4, e.ai 1 5) (e.ai 1 6, e.ai 1 7, e.ai 1 8) (agOk_iff.1 hl))
  (repeat' (first | exact trivial | exact rfl | exact TS.eqv_refl _ _ | exact len_app _ _ | exact rows_appI | exact fun _ _ => eqvL_refl _ _ | exact fun i _ => eqvL_rowNums rfl _ i | apply And.intro))
theorem gaSm_ok : AllOk Try.prog gaSm := ⟨c38_ok, c39_ok, c40_ok, sdSm_ok⟩
theorem gaTab : TabAll Try.prog gaT := tab_ok gaSm_ok
end Go.Proofs.Ytlcgnjcfihablaa
