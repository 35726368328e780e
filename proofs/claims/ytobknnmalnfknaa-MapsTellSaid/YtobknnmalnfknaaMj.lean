/- MapsTell: who is in, who is up.
   Conditions: none. -/
import Derived.Test.YtobknnmalnfknaaMf
import Derived.Test.YtobknnmalnfknaaEngAb
set_option linter.unusedSimpArgs false
set_option linter.unusedVariables false
namespace Go.Proofs.Ytobknnmalnfknaa
open Go.Eng Go.RowKit Go.Joins Go.ChangeShapes Go.WideShapes
set_option maxRecDepth 100000
def mp16 : List TV := [.i .u32, .b, .i .i64, .i .u8, .b, .i .i64, .i .u8, .b, .i .i64, .i .u8, .b, .i .i64, .i .u8, .b, .i .i64, .i .u8]
def mpA (e : Int) (u : Nat → Bool) (w h : Nat → Int) : List Num := [.i e, .b (u 0), .i (w 0), .i (h 0), .b (u 1), .i (w 1), .i (h 1), .b (u 2), .i (w 2), .i (h 2), .b (u 3), .i (w 3), .i (h 3), .b (u 4), .i (w 4), .i (h 4)]
def wuT : TS := ⟨[0], [.agg mp16], [], 0⟩
def wuR : TS := ⟨[], [.one (.sl 0)], [(0, .lst none [.i .i64] (some 1)), (1, .tok)], 2⟩
theorem wu33 (e : Int) (u : Nat → Bool) (w h : Nat → Int) : callW Try.prog (codeT Try.prog noTab 300) 33 (wuT.vals ⟨[mpA e u w h], []⟩) (wuT.heap ⟨[mpA e u w h], []⟩) 0 (outV 0 wuR) =
  .ite (decide (w 0 > 0)) (.ite (decide (w 1 > 0)) (.ite (decide (w 2 > 0)) (.ite (decide (w 3 > 0)) (.ite (decide (w 4 > 0)) (.leaf ⟨[[.u]], [.lst 5 (rowNums [.i .i64] (catRows (.lit 4) (catRows (.lit 3) (catRows (.lit 2)
  (catRows (.lit 1) (catRows (.lit 0) (fun (x : Nat) => []) (chunk 1 [.int .i64 (.lit 0)])) (chunk 1 [.int .i64 (.lit 1)])) (chunk 1 [.int .i64 (.lit 2)])) (chunk 1 [.int .i64 (.lit 3)])) (chunk 1 [.int .i64 (.lit 4)]))),
  .tok]⟩) (.leaf ⟨[[.u]], [.lst 4 (rowNums [.i .i64] (catRows (.lit 3) (catRows (.lit 2) (catRows (.lit 1) (catRows (.lit 0) (fun (x : Nat) => []) (chunk 1 [.int .i64 (.lit 0)])) (chunk 1 [.int .i64 (.lit 1)])) (chunk 1
  [.int .i64 (.lit 2)])) (chunk 1 [.int .i64 (.lit 3)]))), .tok]⟩)) (.ite (decide (w 4 > 0)) (.leaf ⟨[[.u]], [.lst 4 (rowNums [.i .i64] (catRows (.lit 3) (catRows (.lit 2) (catRows (.lit 1) (catRows (.lit 0) (fun (x : Nat)
  => []) (chunk 1 [.int .i64 (.lit 0)])) (chunk 1 [.int .i64 (.lit 1)])) (chunk 1 [.int .i64 (.lit 2)])) (chunk 1 [.int .i64 (.lit 4)]))), .tok]⟩) (.leaf ⟨[[.u]], [.lst 3 (rowNums [.i .i64] (catRows (.lit 2) (catRows (.lit
  1) (catRows (.lit 0) (fun (x : Nat) => []) (chunk 1 [.int .i64 (.lit 0)])) (chunk 1 [.int .i64 (.lit 1)])) (chunk 1 [.int .i64 (.lit 2)]))), .tok]⟩))) (.ite (decide (w 3 > 0)) (.ite (decide (w 4 > 0)) (.leaf ⟨[[.u]],
  [.lst 4 (rowNums [.i .i64] (catRows (.lit 3) (catRows (.lit 2) (catRows (.lit 1) (catRows (.lit 0) (fun (x : Nat) => []) (chunk 1 [.int .i64 (.lit 0)])) (chunk 1 [.int .i64 (.lit 1)])) (chunk 1 [.int .i64 (.lit 3)]))
  (chunk 1 [.int .i64 (.lit 4)]))), .tok]⟩) (.leaf ⟨[[.u]], [.lst 3 (rowNums [.i .i64] (catRows (.lit 2) (catRows (.lit 1) (catRows (.lit 0) (fun (x : Nat) => []) (chunk 1 [.int .i64 (.lit 0)])) (chunk 1 [.int .i64 (.lit
  1)])) (chunk 1 [.int .i64 (.lit 3)]))), .tok]⟩)) (.ite (decide (w 4 > 0)) (.leaf ⟨[[.u]], [.lst 3 (rowNums [.i .i64] (catRows (.lit 2) (catRows (.lit 1) (catRows (.lit 0) (fun (x : Nat) => []) (chunk 1 [.int .i64 (.lit
  0)])) (chunk 1 [.int .i64 (.lit 1)])) (chunk 1 [.int .i64 (.lit 4)]))), .tok]⟩) (.leaf ⟨[[.u]], [.lst 2 (rowNums [.i .i64] (catRows (.lit 1) (catRows (.lit 0) (fun (x : Nat) => []) (chunk 1 [.int .i64 (.lit 0)])) (chunk
  1 [.int .i64 (.lit 1)]))), .tok]⟩)))) (.ite (decide (w 2 > 0)) (.ite (decide (w 3 > 0)) (.ite (decide (w 4 > 0)) (.leaf ⟨[[.u]], [.lst 4 (rowNums [.i .i64] (catRows (.lit 3) (catRows (.lit 2) (catRows (.lit 1) (catRows
  (.lit 0) (fun (x : Nat) => []) (chunk 1 [.int .i64 (.lit 0)])) (chunk 1 [.int .i64 (.lit 2)])) (chunk 1 [.int .i64 (.lit 3)])) (chunk 1 [.int .i64 (.lit 4)]))), .tok]⟩) (.leaf ⟨[[.u]], [.lst 3 (rowNums [.i .i64] (catRows
  (.lit 2) (catRows (.lit 1) (catRows (.lit 0) (fun (x : Nat) => []) (chunk 1 [.int .i64 (.lit 0)])) (chunk 1 [.int .i64 (.lit 2)])) (chunk 1 [.int .i64 (.lit 3)]))), .tok]⟩)) (.ite (decide (w 4 > 0)) (.leaf ⟨[[.u]], [.lst
  3 (rowNums [.i .i64] (catRows (.lit 2) (catRows (.lit 1) (catRows (.lit 0) (fun (x : Nat) => []) (chunk 1 [.int .i64 (.lit 0)])) (chunk 1 [.int .i64 (.lit 2)])) (chunk 1 [.int .i64 (.lit 4)]))), .tok]⟩) (.leaf ⟨[[.u]],
  [.lst 2 (rowNums [.i .i64] (catRows (.lit 1) (catRows (.lit 0) (fun (x : Nat) => []) (chunk 1 [.int .i64 (.lit 0)])) (chunk 1 [.int .i64 (.lit 2)]))), .tok]⟩))) (.ite (decide (w 3 > 0)) (.ite (decide (w 4 > 0)) (.leaf
  ⟨[[.u]], [.lst 3 (rowNums [.i .i64] (catRows (.lit 2) (catRows (.lit 1) (catRows (.lit 0) (fun (x : Nat) => []) (chunk 1 [.int .i64 (.lit 0)])) (chunk 1 [.int .i64 (.lit 3)])) (chunk 1 [.int .i64 (.lit 4)]))), .tok]⟩)
  (.leaf ⟨[[.u]], [.lst 2 (rowNums [.i .i64] (catRows (.lit 1) (catRows (.lit 0) (fun (x : Nat) => []) (chunk 1 [.int .i64 (.lit 0)])) (chunk 1 [.int .i64 (.lit 3)]))), .tok]⟩)) (.ite (decide (w 4 > 0)) (.leaf ⟨[[.u]],
  [.lst 2 (rowNums [.i .i64] (catRows (.lit 1) (catRows (.lit 0) (fun (x : Nat) => []) (chunk 1 [.int .i64 (.lit 0)])) (chunk 1 [.int .i64 (.lit 4)]))), .tok]⟩) (.leaf ⟨[[.u]], [.lst 1 (rowNums [.i .i64] (catRows (.lit 0)
  (fun (x : Nat) => []) (chunk 1 [.int .i64 (.lit 0)]))), .tok]⟩))))) (.ite (decide (w 1 > 0)) (.ite (decide (w 2 > 0)) (.ite (decide (w 3 > 0)) (.ite (decide (w 4 > 0)) (.leaf ⟨[[.u]], [.lst 4 (rowNums [.i .i64] (catRows
  (.lit 3) (catRows (.lit 2) (catRows (.lit 1) (catRows (.lit 0) (fun (x : Nat) => []) (chunk 1 [.int .i64 (.lit 1)])) (chunk 1 [.int .i64 (.lit 2)])) (chunk 1 [.int .i64 (.lit 3)])) (chunk 1 [.int .i64 (.lit 4)]))),
  .tok]⟩) (.leaf ⟨[[.u]], [.lst 3 (rowNums [.i .i64] (catRows (.lit 2) (catRows (.lit 1) (catRows (.lit 0) (fun (x : Nat) => []) (chunk 1 [.int .i64 (.lit 1)])) (chunk 1 [.int .i64 (.lit 2)])) (chunk 1 [.int .i64 (.lit
  3)]))), .tok]⟩)) (.ite (decide (w 4 > 0)) (.leaf ⟨[[.u]], [.lst 3 (rowNums [.i .i64] (catRows (.lit 2) (catRows (.lit 1) (catRows (.lit 0) (fun (x : Nat) => []) (chunk 1 [.int .i64 (.lit 1)])) (chunk 1 [.int .i64 (.lit
  2)])) (chunk 1 [.int .i64 (.lit 4)]))), .tok]⟩) (.leaf ⟨[[.u]], [.lst 2 (rowNums [.i .i64] (catRows (.lit 1) (catRows (.lit 0) (fun (x : Nat) => []) (chunk 1 [.int .i64 (.lit 1)])) (chunk 1 [.int .i64 (.lit 2)]))),
  .tok]⟩))) (.ite (decide (w 3 > 0)) (.ite (decide (w 4 > 0)) (.leaf ⟨[[.u]], [.lst 3 (rowNums [.i .i64] (catRows (.lit 2) (catRows (.lit 1) (catRows (.lit 0) (fun (x : Nat) => []) (chunk 1 [.int .i64 (.lit 1)])) (chunk 1
  [.int .i64 (.lit 3)])) (chunk 1 [.int .i64 (.lit 4)]))), .tok]⟩) (.leaf ⟨[[.u]], [.lst 2 (rowNums [.i .i64] (catRows (.lit 1) (catRows (.lit 0) (fun (x : Nat) => []) (chunk 1 [.int .i64 (.lit 1)])) (chunk 1 [.int .i64
  (.lit 3)]))), .tok]⟩)) (.ite (decide (w 4 > 0)) (.leaf ⟨[[.u]], [.lst 2 (rowNums [.i .i64] (catRows (.lit 1) (catRows (.lit 0) (fun (x : Nat) => []) (chunk 1 [.int .i64 (.lit 1)])) (chunk 1 [.int .i64 (.lit 4)]))),
  .tok]⟩) (.leaf ⟨[[.u]], [.lst 1 (rowNums [.i .i64] (catRows (.lit 0) (fun (x : Nat) => []) (chunk 1 [.int .i64 (.lit 1)]))), .tok]⟩)))) (.ite (decide (w 2 > 0)) (.ite (decide (w 3 > 0)) (.ite (decide (w 4 > 0)) (.leaf
  ⟨[[.u]], [.lst 3 (rowNums [.i .i64] (catRows (.lit 2) (catRows (.lit 1) (catRows (.lit 0) (fun (x : Nat) => []) (chunk 1 [.int .i64 (.lit 2)])) (chunk 1 [.int .i64 (.lit 3)])) (chunk 1 [.int .i64 (.lit 4)]))), .tok]⟩)
  (.leaf ⟨[[.u]], [.lst 2 (rowNums [.i .i64] (catRows (.lit 1) (catRows (.lit 0) (fun (x : Nat) => []) (chunk 1 [.int .i64 (.lit 2)])) (chunk 1 [.int .i64 (.lit 3)]))), .tok]⟩)) (.ite (decide (w 4 > 0)) (.leaf ⟨[[.u]],
  [.lst 2 (rowNums [.i .i64] (catRows (.lit 1) (catRows (.lit 0) (fun (x : Nat) => []) (chunk 1 [.int .i64 (.lit 2)])) (chunk 1 [.int .i64 (.lit 4)]))), .tok]⟩) (.leaf ⟨[[.u]], [.lst 1 (rowNums [.i .i64] (catRows (.lit 0)
  (fun (x : Nat) => []) (chunk 1 [.int .i64 (.lit 2)]))), .tok]⟩))) (.ite (decide (w 3 > 0)) (.ite (decide (w 4 > 0)) (.leaf ⟨[[.u]], [.lst 2 (rowNums [.i .i64] (catRows (.lit 1) (catRows (.lit 0) (fun (x : Nat) => [])
  (chunk 1 [.int .i64 (.lit 3)])) (chunk 1 [.int .i64 (.lit 4)]))), .tok]⟩) (.leaf ⟨[[.u]], [.lst 1 (rowNums [.i .i64] (catRows (.lit 0) (fun (x : Nat) => []) (chunk 1 [.int .i64 (.lit 3)]))), .tok]⟩)) (.ite (decide (w 4 >
  0)) (.leaf ⟨[[.u]], [.lst 1 (rowNums [.i .i64] (catRows (.lit 0) (fun (x : Nat) => []) (chunk 1 [.int .i64 (.lit 4)]))), .tok]⟩) (.leaf ⟨[[.u]], [.lst 0 fun (x : Nat) => [], .tok]⟩))))) := by kernel_rfl
theorem wu34 (e : Int) (u : Nat → Bool) (w h : Nat → Int) : callW Try.prog (codeT Try.prog noTab 300) 34 (wuT.vals ⟨[mpA e u w h], []⟩) (wuT.heap ⟨[mpA e u w h], []⟩) 0 (outV 0 wuR) =
  .ite (u 0) (.ite (u 1) (.ite (u 2) (.ite (u 3) (.ite (u 4) (.leaf ⟨[[.u]], [.lst 5 (rowNums [.i .i64] (catRows (.lit 4) (catRows (.lit 3) (catRows (.lit 2) (catRows (.lit 1) (catRows (.lit 0) (fun (x : Nat) => []) (chunk
  1 [.int .i64 (.lit 0)])) (chunk 1 [.int .i64 (.lit 1)])) (chunk 1 [.int .i64 (.lit 2)])) (chunk 1 [.int .i64 (.lit 3)])) (chunk 1 [.int .i64 (.lit 4)]))), .tok]⟩) (.leaf ⟨[[.u]], [.lst 4 (rowNums [.i .i64] (catRows (.lit
  3) (catRows (.lit 2) (catRows (.lit 1) (catRows (.lit 0) (fun (x : Nat) => []) (chunk 1 [.int .i64 (.lit 0)])) (chunk 1 [.int .i64 (.lit 1)])) (chunk 1 [.int .i64 (.lit 2)])) (chunk 1 [.int .i64 (.lit 3)]))), .tok]⟩))
  (.ite (u 4) (.leaf ⟨[[.u]], [.lst 4 (rowNums [.i .i64] (catRows (.lit 3) (catRows (.lit 2) (catRows (.lit 1) (catRows (.lit 0) (fun (x : Nat) => []) (chunk 1 [.int .i64 (.lit 0)])) (chunk 1 [.int .i64 (.lit 1)])) (chunk
  1 [.int .i64 (.lit 2)])) (chunk 1 [.int .i64 (.lit 4)]))), .tok]⟩) (.leaf ⟨[[.u]], [.lst 3 (rowNums [.i .i64] (catRows (.lit 2) (catRows (.lit 1) (catRows (.lit 0) (fun (x : Nat) => []) (chunk 1 [.int .i64 (.lit 0)]))
  (chunk 1 [.int .i64 (.lit 1)])) (chunk 1 [.int .i64 (.lit 2)]))), .tok]⟩))) (.ite (u 3) (.ite (u 4) (.leaf ⟨[[.u]], [.lst 4 (rowNums [.i .i64] (catRows (.lit 3) (catRows (.lit 2) (catRows (.lit 1) (catRows (.lit 0) (fun
  (x : Nat) => []) (chunk 1 [.int .i64 (.lit 0)])) (chunk 1 [.int .i64 (.lit 1)])) (chunk 1 [.int .i64 (.lit 3)])) (chunk 1 [.int .i64 (.lit 4)]))), .tok]⟩) (.leaf ⟨[[.u]], [.lst 3 (rowNums [.i .i64] (catRows (.lit 2)
  (catRows (.lit 1) (catRows (.lit 0) (fun (x : Nat) => []) (chunk 1 [.int .i64 (.lit 0)])) (chunk 1 [.int .i64 (.lit 1)])) (chunk 1 [.int .i64 (.lit 3)]))), .tok]⟩)) (.ite (u 4) (.leaf ⟨[[.u]], [.lst 3 (rowNums [.i .i64]
  (catRows (.lit 2) (catRows (.lit 1) (catRows (.lit 0) (fun (x : Nat) => []) (chunk 1 [.int .i64 (.lit 0)])) (chunk 1 [.int .i64 (.lit 1)])) (chunk 1 [.int .i64 (.lit 4)]))), .tok]⟩) (.leaf ⟨[[.u]], [.lst 2 (rowNums [.i
  .i64] (catRows (.lit 1) (catRows (.lit 0) (fun (x : Nat) => []) (chunk 1 [.int .i64 (.lit 0)])) (chunk 1 [.int .i64 (.lit 1)]))), .tok]⟩)))) (.ite (u 2) (.ite (u 3) (.ite (u 4) (.leaf ⟨[[.u]], [.lst 4 (rowNums [.i .i64]
  (catRows (.lit 3) (catRows (.lit 2) (catRows (.lit 1) (catRows (.lit 0) (fun (x : Nat) => []) (chunk 1 [.int .i64 (.lit 0)])) (chunk 1 [.int .i64 (.lit 2)])) (chunk 1 [.int .i64 (.lit 3)])) (chunk 1 [.int .i64 (.lit
  4)]))), .tok]⟩) (.leaf ⟨[[.u]], [.lst 3 (rowNums [.i .i64] (catRows (.lit 2) (catRows (.lit 1) (catRows (.lit 0) (fun (x : Nat) => []) (chunk 1 [.int .i64 (.lit 0)])) (chunk 1 [.int .i64 (.lit 2)])) (chunk 1 [.int .i64
  (.lit 3)]))), .tok]⟩)) (.ite (u 4) (.leaf ⟨[[.u]], [.lst 3 (rowNums [.i .i64] (catRows (.lit 2) (catRows (.lit 1) (catRows (.lit 0) (fun (x : Nat) => []) (chunk 1 [.int .i64 (.lit 0)])) (chunk 1 [.int .i64 (.lit 2)]))
  (chunk 1 [.int .i64 (.lit 4)]))), .tok]⟩) (.leaf ⟨[[.u]], [.lst 2 (rowNums [.i .i64] (catRows (.lit 1) (catRows (.lit 0) (fun (x : Nat) => []) (chunk 1 [.int .i64 (.lit 0)])) (chunk 1 [.int .i64 (.lit 2)]))), .tok]⟩)))
  (.ite (u 3) (.ite (u 4) (.leaf ⟨[[.u]], [.lst 3 (rowNums [.i .i64] (catRows (.lit 2) (catRows (.lit 1) (catRows (.lit 0) (fun (x : Nat) => []) (chunk 1 [.int .i64 (.lit 0)])) (chunk 1 [.int .i64 (.lit 3)])) (chunk 1
  [.int .i64 (.lit 4)]))), .tok]⟩) (.leaf ⟨[[.u]], [.lst 2 (rowNums [.i .i64] (catRows (.lit 1) (catRows (.lit 0) (fun (x : Nat) => []) (chunk 1 [.int .i64 (.lit 0)])) (chunk 1 [.int .i64 (.lit 3)]))), .tok]⟩)) (.ite (u 4)
  (.leaf ⟨[[.u]], [.lst 2 (rowNums [.i .i64] (catRows (.lit 1) (catRows (.lit 0) (fun (x : Nat) => []) (chunk 1 [.int .i64 (.lit 0)])) (chunk 1 [.int .i64 (.lit 4)]))), .tok]⟩) (.leaf ⟨[[.u]], [.lst 1 (rowNums [.i .i64]
  (catRows (.lit 0) (fun (x : Nat) => []) (chunk 1 [.int .i64 (.lit 0)]))), .tok]⟩))))) (.ite (u 1) (.ite (u 2) (.ite (u 3) (.ite (u 4) (.leaf ⟨[[.u]], [.lst 4 (rowNums [.i .i64] (catRows (.lit 3) (catRows (.lit 2)
  (catRows (.lit 1) (catRows (.lit 0) (fun (x : Nat) => []) (chunk 1 [.int .i64 (.lit 1)])) (chunk 1 [.int .i64 (.lit 2)])) (chunk 1 [.int .i64 (.lit 3)])) (chunk 1 [.int .i64 (.lit 4)]))), .tok]⟩) (.leaf ⟨[[.u]], [.lst 3
  (rowNums [.i .i64] (catRows (.lit 2) (catRows (.lit 1) (catRows (.lit 0) (fun (x : Nat) => []) (chunk 1 [.int .i64 (.lit 1)])) (chunk 1 [.int .i64 (.lit 2)])) (chunk 1 [.int .i64 (.lit 3)]))), .tok]⟩)) (.ite (u 4) (.leaf
  ⟨[[.u]], [.lst 3 (rowNums [.i .i64] (catRows (.lit 2) (catRows (.lit 1) (catRows (.lit 0) (fun (x : Nat) => []) (chunk 1 [.int .i64 (.lit 1)])) (chunk 1 [.int .i64 (.lit 2)])) (chunk 1 [.int .i64 (.lit 4)]))), .tok]⟩)
  (.leaf ⟨[[.u]], [.lst 2 (rowNums [.i .i64] (catRows (.lit 1) (catRows (.lit 0) (fun (x : Nat) => []) (chunk 1 [.int .i64 (.lit 1)])) (chunk 1 [.int .i64 (.lit 2)]))), .tok]⟩))) (.ite (u 3) (.ite (u 4) (.leaf ⟨[[.u]],
  [.lst 3 (rowNums [.i .i64] (catRows (.lit 2) (catRows (.lit 1) (catRows (.lit 0) (fun (x : Nat) => []) (chunk 1 [.int .i64 (.lit 1)])) (chunk 1 [.int .i64 (.lit 3)])) (chunk 1 [.int .i64 (.lit 4)]))), .tok]⟩) (.leaf
  ⟨[[.u]], [.lst 2 (rowNums [.i .i64] (catRows (.lit 1) (catRows (.lit 0) (fun (x : Nat) => []) (chunk 1 [.int .i64 (.lit 1)])) (chunk 1 [.int .i64 (.lit 3)]))), .tok]⟩)) (.ite (u 4) (.leaf ⟨[[.u]], [.lst 2 (rowNums [.i
  .i64] (catRows (.lit 1) (catRows (.lit 0) (fun (x : Nat) => []) (chunk 1 [.int .i64 (.lit 1)])) (chunk 1 [.int .i64 (.lit 4)]))), .tok]⟩) (.leaf ⟨[[.u]], [.lst 1 (rowNums [.i .i64] (catRows (.lit 0) (fun (x : Nat) => [])
  (chunk 1 [.int .i64 (.lit 1)]))), .tok]⟩)))) (.ite (u 2) (.ite (u 3) (.ite (u 4) (.leaf ⟨[[.u]], [.lst 3 (rowNums [.i .i64] (catRows (.lit 2) (catRows (.lit 1) (catRows (.lit 0) (fun (x : Nat) => []) (chunk 1 [.int .i64
  (.lit 2)])) (chunk 1 [.int .i64 (.lit 3)])) (chunk 1 [.int .i64 (.lit 4)]))), .tok]⟩) (.leaf ⟨[[.u]], [.lst 2 (rowNums [.i .i64] (catRows (.lit 1) (catRows (.lit 0) (fun (x : Nat) => []) (chunk 1 [.int .i64 (.lit 2)]))
  (chunk 1 [.int .i64 (.lit 3)]))), .tok]⟩)) (.ite (u 4) (.leaf ⟨[[.u]], [.lst 2 (rowNums [.i .i64] (catRows (.lit 1) (catRows (.lit 0) (fun (x : Nat) => []) (chunk 1 [.int .i64 (.lit 2)])) (chunk 1 [.int .i64 (.lit
  4)]))), .tok]⟩) (.leaf ⟨[[.u]], [.lst 1 (rowNums [.i .i64] (catRows (.lit 0) (fun (x : Nat) => []) (chunk 1 [.int .i64 (.lit 2)]))), .tok]⟩))) (.ite (u 3) (.ite (u 4) (.leaf ⟨[[.u]], [.lst 2 (rowNums [.i .i64] (catRows
  (.lit 1) (catRows (.lit 0) (fun (x : Nat) => []) (chunk 1 [.int .i64 (.lit 3)])) (chunk 1 [.int .i64 (.lit 4)]))), .tok]⟩) (.leaf ⟨[[.u]], [.lst 1 (rowNums [.i .i64] (catRows (.lit 0) (fun (x : Nat) => []) (chunk 1 [.int
  .i64 (.lit 3)]))), .tok]⟩)) (.ite (u 4) (.leaf ⟨[[.u]], [.lst 1 (rowNums [.i .i64] (catRows (.lit 0) (fun (x : Nat) => []) (chunk 1 [.int .i64 (.lit 4)]))), .tok]⟩) (.leaf ⟨[[.u]], [.lst 0 fun (x : Nat) => [],
  .tok]⟩))))) := by kernel_rfl
def ofN (g : Nat → Bool) : Nat → List Int
  | 0 => []
  | n + 1 => if g n then ofN g n ++ [(n : Int)] else ofN g n
def ofP (l : List Int) : List ON := [.lst l.length (rowI l), .tok]
theorem lt5 {j n : Nat} (h : j < n) (hn : n ≤ 5) : j = 0 ∨ j = 1 ∨ j = 2 ∨ j = 3 ∨ j = 4 := by omega
set_option maxHeartbeats 4000000 in
theorem wu33_std (e : Int) (u : Nat → Bool) (w h : Nat → Int) : StdX Try.prog 33 wuT ⟨[mpA e u w h], []⟩ wuR ⟨[[]], ofP (ofN (fun i => decide (w i > 0)) 5)⟩ := by
  refine stdX_tree (noTab_all _) mixed rfl (holds_of_eq (wu33 e u w h) ?_)
  rcases h0 : decide (w 0 > 0) <;> rcases h1 : decide (w 1 > 0) <;> rcases h2 : decide (w 2 > 0) <;> rcases h3 : decide (w 3 > 0) <;> rcases h4 : decide (w 4 > 0)
  all_goals repeat' with_reducible (first | refine holds_ite (fun h => absurd h (by decide)) (fun _ => ?_) | refine holds_ite (fun _ => ?_) (fun h => absurd h (by decide)))
  all_goals refine holds_leaf ?_
  all_goals simp only [ofN, h0, h1, h2, h3, h4, Bool.false_eq_true, if_false, if_true]
  all_goals refine ⟨⟨trivial, trivial⟩, ⟨rfl, fun j hj => ?_⟩, trivial, trivial⟩
  all_goals have h5 : (j : Int) < 5 := Int.lt_of_lt_of_le hj (by decide)
  all_goals have h6 : j < 5 := by omega
  all_goals rcases lt5 h6 (Nat.le_refl _) with rfl | rfl | rfl | rfl | rfl
  all_goals first | exact ⟨rfl, trivial⟩ | exact absurd hj (by decide)
set_option maxHeartbeats 4000000 in
theorem wu34_std (e : Int) (u : Nat → Bool) (w h : Nat → Int) : StdX Try.prog 34 wuT ⟨[mpA e u w h], []⟩ wuR ⟨[[]], ofP (ofN u 5)⟩ := by
  refine stdX_tree (noTab_all _) mixed rfl (holds_of_eq (wu34 e u w h) ?_)
  rcases h0 : u 0 <;> rcases h1 : u 1 <;> rcases h2 : u 2 <;> rcases h3 : u 3 <;> rcases h4 : u 4
  all_goals repeat' with_reducible (first | refine holds_ite (fun h => absurd h (by decide)) (fun _ => ?_) | refine holds_ite (fun _ => ?_) (fun h => absurd h (by decide)))
  all_goals refine holds_leaf ?_
  all_goals simp only [ofN, h0, h1, h2, h3, h4, Bool.false_eq_true, if_false, if_true]
  all_goals refine ⟨⟨trivial, trivial⟩, ⟨rfl, fun j hj => ?_⟩, trivial, trivial⟩
  all_goals have h5 : (j : Int) < 5 := Int.lt_of_lt_of_le hj (by decide)
  all_goals have h6 : j < 5 := by omega
  all_goals rcases lt5 h6 (Nat.le_refl _) with rfl | rfl | rfl | rfl | rfl
  all_goals first | exact ⟨rfl, trivial⟩ | exact absurd hj (by decide)
end Go.Proofs.Ytobknnmalnfknaa
