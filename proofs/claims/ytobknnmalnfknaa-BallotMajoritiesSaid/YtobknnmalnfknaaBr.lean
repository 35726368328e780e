/- BallotRises: what is promised never goes down; what was accepted is never of a greater ballot than what is promised; nothing below it is taken: the parts of its code.
   Conditions: none. -/
import Derived.Test.YtobknnmalnfknaaEngV
import Derived.Test.YtobknnmalnfknaaBt
import Derived.Test.YtobknnmalnfknaaBd
set_option linter.unusedSimpArgs false
set_option linter.unusedVariables false
namespace Go.Proofs.Ytobknnmalnfknaa
open Go.Eng Go.RowKit Go.ChangeShapes Go.WideShapes
set_option maxRecDepth 100000
def lp : Code → Code
  | .block _ (.loop x) => x
  | c => c
noncomputable def body5 : Code := Try.f5.body.getD .skip
noncomputable def x5 : Code := lp ((flat body5).getD 7 .skip)
def pkStep : List PK := [.bool, .int .u32, .int .u8, .int .u8, .int .u8, .int .i64]
def stepRows (n : Nat → Nat → Int) (b : Nat → Nat → Bool) : Nat → List AV := fun i => skel (n i) (b i) pkStep 0
def lstO (len : Int) (n : Nat → Nat → Int) (b : Nat → Nat → Bool) : AObj := .lst (.sym len) 6 (stepRows n b) none
theorem r5_pre (len : Int) (n : Nat → Nat → Int) (b : Nat → Nat → Bool) (τ0 : Tm) : codeT Try.prog bdT 300 5 Try.f5.ntmps (ofL ((flat body5).take 7)) ([(0, .sl 0)] ++ τ0) (mkHeap [(0, lstO len n b)]) 1 (outF [2] [0, 2, 3, 4] [15] [0] 1) =
  .ite (decide (len > 60)) (.leaf ⟨.ret, [(2, .bool (.lit true))], [], 0⟩) (.leaf ⟨.normal, [(0, .sl 0), (2, .bool (.lit false)), (3, .ptr 15 0), (4, .int .i64 (.lit 0))], [(15, some (.box [.int .u32 (.lit 0), .int .u8
  (.lit 0), .int .u32 (.lit 0), .int .u8 (.lit 0), .int .u8 (.lit 0), .int .u8 (.lit 0), .int .i64 (.lit 0)]))], 0⟩) := by kernel_rfl

theorem r5_tail (τ0 : Tm) : codeT Try.prog bdT 300 5 Try.f5.ntmps (ofL ((flat body5).drop 8)) ([] ++ τ0) (mkHeap []) 0 (outF [2] [2] [] [] 0) =
  .leaf ⟨.ret, [(2, .bool (.lit true))], [], 0⟩ := by kernel_rfl

theorem r5_x (len : Int) (n : Nat → Nat → Int) (b : Nat → Nat → Bool) (i pn pw an aw k o v : Int) (τ0 : Tm) : codeT Try.prog bdT 300 5 Try.f5.ntmps x5 ([(0, .sl 0), (2, .bool (.lit false)), (3, .ptr 1 0), (4, .int .i64 (.sym i))] ++ τ0) (mkHeap [(0, lstO len n b), (1, .box (box7 pn pw an aw k o v))]) 2 (outF [2] [0, 2, 3, 4] [1] [0] 2) =
  .ite (decide (i < len)) (.must (decide (0 ≤ i ∧ i < len)) (.must (decide (0 ≤ i ∧ i < len)) (.ite (b i.toNat 0) (.must (decide (0 ≤ i ∧ i < len)) (.must (decide (0 ≤ i ∧ i < len)) (.defI (n i.toNat 1) fun z0 => .defI (n
  i.toNat 2) fun z1 => .must (decide (0 ≤ i ∧ i < len)) (.must (decide (0 ≤ i ∧ i < len)) (.defI (n i.toNat 3) fun z2 => .defI (n i.toNat 4) fun z3 => .defI (n i.toNat 5) fun z4 => .defI (acCode pn pw z0 z1 z2 z3 z4) fun
  z5 => .defI (bif acOk pn pw z0 z1 z2 z3 z4 then z0 else pn) fun z6 => .defI (bif acOk pn pw z0 z1 z2 z3 z4 then z1 else pw) fun z7 => .defI (bif acOk pn pw z0 z1 z2 z3 z4 then z0 else an) fun z8 => .defI (bif acOk pn pw
  z0 z1 z2 z3 z4 then z1 else aw) fun z9 => .defI (bif acOk pn pw z0 z1 z2 z3 z4 then z2 else k) fun z10 => .defI (bif acOk pn pw z0 z1 z2 z3 z4 then z3 else o) fun z11 => .defI (bif acOk pn pw z0 z1 z2 z3 z4 then z4 else
  v) fun z12 => .ite (lessB z6 z7 pn pw) (.leaf ⟨.ret, [(2, .bool (.lit false))], [], 0⟩) (.ite (!(z8 == 0 && z9 == 0)) (.ite (lessB z6 z7 z8 z9) (.leaf ⟨.ret, [(2, .bool (.lit false))], [], 0⟩) (.ite (z5 != 0) (.ite (!(z6
  == pn && z7 == pw)) (.leaf ⟨.ret, [(2, .bool (.lit false))], [], 0⟩) (.ite (!(z8 == an && z9 == aw)) (.leaf ⟨.ret, [(2, .bool (.lit false))], [], 0⟩) (.ite (!(k == z10 && (o == z11 && v == z12))) (.leaf ⟨.ret, [(2, .bool
  (.lit false))], [], 0⟩) (.ite (!(!(an == 0 && aw == 0)) == !(z8 == 0 && z9 == 0)) (.leaf ⟨.ret, [(2, .bool (.lit false))], [], 0⟩) (.ite (z5 == 0) (.must (decide (0 ≤ i ∧ i < len)) (.must (decide (0 ≤ i ∧ i < len))
  (.defI (n i.toNat 1) fun z13 => .defI (n i.toNat 2) fun z14 => .ite (!(z6 == z13 && z7 == z14)) (.leaf ⟨.ret, [(2, .bool (.lit false))], [], 0⟩) (.must (decide (0 ≤ i ∧ i < len)) (.must (decide (0 ≤ i ∧ i < len)) (.defI
  (n i.toNat 1) fun z15 => .defI (n i.toNat 2) fun z16 => .ite (lessB z15 z16 pn pw) (.ite (z5 == 0) (.leaf ⟨.ret, [(2, .bool (.lit false))], [], 0⟩) (.defI (IntKind.i64.wrap (i + 1)) fun z17 => .leaf ⟨.normal, [(0, .sl
  0), (2, .bool (.lit false)), (3, .ptr 1 0), (4, .int .i64 (.sym z17))], [(1, some (.box [.int .u32 (.sym z6), .int .u8 (.sym z7), .int .u32 (.sym z8), .int .u8 (.sym z9), .int .u8 (.sym z10), .int .u8 (.sym z11), .int
  .i64 (.sym z12)]))], 0⟩)) (.defI (IntKind.i64.wrap (i + 1)) fun z18 => .leaf ⟨.normal, [(0, .sl 0), (2, .bool (.lit false)), (3, .ptr 1 0), (4, .int .i64 (.sym z18))], [(1, some (.box [.int .u32 (.sym z6), .int .u8 (.sym
  z7), .int .u32 (.sym z8), .int .u8 (.sym z9), .int .u8 (.sym z10), .int .u8 (.sym z11), .int .i64 (.sym z12)]))], 0⟩))))))) (.must (decide (0 ≤ i ∧ i < len)) (.must (decide (0 ≤ i ∧ i < len)) (.defI (n i.toNat 1) fun z19
  => .defI (n i.toNat 2) fun z20 => .ite (lessB z19 z20 pn pw) (.ite (z5 == 0) (.leaf ⟨.ret, [(2, .bool (.lit false))], [], 0⟩) (.defI (IntKind.i64.wrap (i + 1)) fun z21 => .leaf ⟨.normal, [(0, .sl 0), (2, .bool (.lit
  false)), (3, .ptr 1 0), (4, .int .i64 (.sym z21))], [(1, some (.box [.int .u32 (.sym z6), .int .u8 (.sym z7), .int .u32 (.sym z8), .int .u8 (.sym z9), .int .u8 (.sym z10), .int .u8 (.sym z11), .int .i64 (.sym z12)]))],
  0⟩)) (.defI (IntKind.i64.wrap (i + 1)) fun z22 => .leaf ⟨.normal, [(0, .sl 0), (2, .bool (.lit false)), (3, .ptr 1 0), (4, .int .i64 (.sym z22))], [(1, some (.box [.int .u32 (.sym z6), .int .u8 (.sym z7), .int .u32 (.sym
  z8), .int .u8 (.sym z9), .int .u8 (.sym z10), .int .u8 (.sym z11), .int .i64 (.sym z12)]))], 0⟩))))))))) (.ite (z5 == 0) (.must (decide (0 ≤ i ∧ i < len)) (.must (decide (0 ≤ i ∧ i < len)) (.defI (n i.toNat 1) fun z23 =>
  .defI (n i.toNat 2) fun z24 => .ite (!(z6 == z23 && z7 == z24)) (.leaf ⟨.ret, [(2, .bool (.lit false))], [], 0⟩) (.must (decide (0 ≤ i ∧ i < len)) (.must (decide (0 ≤ i ∧ i < len)) (.defI (n i.toNat 1) fun z25 => .defI
  (n i.toNat 2) fun z26 => .ite (lessB z25 z26 pn pw) (.ite (z5 == 0) (.leaf ⟨.ret, [(2, .bool (.lit false))], [], 0⟩) (.defI (IntKind.i64.wrap (i + 1)) fun z27 => .leaf ⟨.normal, [(0, .sl 0), (2, .bool (.lit false)), (3,
  .ptr 1 0), (4, .int .i64 (.sym z27))], [(1, some (.box [.int .u32 (.sym z6), .int .u8 (.sym z7), .int .u32 (.sym z8), .int .u8 (.sym z9), .int .u8 (.sym z10), .int .u8 (.sym z11), .int .i64 (.sym z12)]))], 0⟩)) (.defI
  (IntKind.i64.wrap (i + 1)) fun z28 => .leaf ⟨.normal, [(0, .sl 0), (2, .bool (.lit false)), (3, .ptr 1 0), (4, .int .i64 (.sym z28))], [(1, some (.box [.int .u32 (.sym z6), .int .u8 (.sym z7), .int .u32 (.sym z8), .int
  .u8 (.sym z9), .int .u8 (.sym z10), .int .u8 (.sym z11), .int .i64 (.sym z12)]))], 0⟩))))))) (.must (decide (0 ≤ i ∧ i < len)) (.must (decide (0 ≤ i ∧ i < len)) (.defI (n i.toNat 1) fun z29 => .defI (n i.toNat 2) fun z30
  => .ite (lessB z29 z30 pn pw) (.ite (z5 == 0) (.leaf ⟨.ret, [(2, .bool (.lit false))], [], 0⟩) (.defI (IntKind.i64.wrap (i + 1)) fun z31 => .leaf ⟨.normal, [(0, .sl 0), (2, .bool (.lit false)), (3, .ptr 1 0), (4, .int
  .i64 (.sym z31))], [(1, some (.box [.int .u32 (.sym z6), .int .u8 (.sym z7), .int .u32 (.sym z8), .int .u8 (.sym z9), .int .u8 (.sym z10), .int .u8 (.sym z11), .int .i64 (.sym z12)]))], 0⟩)) (.defI (IntKind.i64.wrap (i +
  1)) fun z32 => .leaf ⟨.normal, [(0, .sl 0), (2, .bool (.lit false)), (3, .ptr 1 0), (4, .int .i64 (.sym z32))], [(1, some (.box [.int .u32 (.sym z6), .int .u8 (.sym z7), .int .u32 (.sym z8), .int .u8 (.sym z9), .int .u8
  (.sym z10), .int .u8 (.sym z11), .int .i64 (.sym z12)]))], 0⟩))))))) (.ite (z5 != 0) (.ite (!(z6 == pn && z7 == pw)) (.leaf ⟨.ret, [(2, .bool (.lit false))], [], 0⟩) (.ite (!(z8 == an && z9 == aw)) (.leaf ⟨.ret, [(2,
  .bool (.lit false))], [], 0⟩) (.ite (!(k == z10 && (o == z11 && v == z12))) (.leaf ⟨.ret, [(2, .bool (.lit false))], [], 0⟩) (.ite (!(!(an == 0 && aw == 0)) == !(z8 == 0 && z9 == 0)) (.leaf ⟨.ret, [(2, .bool (.lit
  false))], [], 0⟩) (.ite (z5 == 0) (.must (decide (0 ≤ i ∧ i < len)) (.must (decide (0 ≤ i ∧ i < len)) (.defI (n i.toNat 1) fun z33 => .defI (n i.toNat 2) fun z34 => .ite (!(z6 == z33 && z7 == z34)) (.leaf ⟨.ret, [(2,
  .bool (.lit false))], [], 0⟩) (.must (decide (0 ≤ i ∧ i < len)) (.must (decide (0 ≤ i ∧ i < len)) (.defI (n i.toNat 1) fun z35 => .defI (n i.toNat 2) fun z36 => .ite (lessB z35 z36 pn pw) (.ite (z5 == 0) (.leaf ⟨.ret,
  [(2, .bool (.lit false))], [], 0⟩) (.defI (IntKind.i64.wrap (i + 1)) fun z37 => .leaf ⟨.normal, [(0, .sl 0), (2, .bool (.lit false)), (3, .ptr 1 0), (4, .int .i64 (.sym z37))], [(1, some (.box [.int .u32 (.sym z6), .int
  .u8 (.sym z7), .int .u32 (.sym z8), .int .u8 (.sym z9), .int .u8 (.sym z10), .int .u8 (.sym z11), .int .i64 (.sym z12)]))], 0⟩)) (.defI (IntKind.i64.wrap (i + 1)) fun z38 => .leaf ⟨.normal, [(0, .sl 0), (2, .bool (.lit
  false)), (3, .ptr 1 0), (4, .int .i64 (.sym z38))], [(1, some (.box [.int .u32 (.sym z6), .int .u8 (.sym z7), .int .u32 (.sym z8), .int .u8 (.sym z9), .int .u8 (.sym z10), .int .u8 (.sym z11), .int .i64 (.sym z12)]))],
  0⟩))))))) (.must (decide (0 ≤ i ∧ i < len)) (.must (decide (0 ≤ i ∧ i < len)) (.defI (n i.toNat 1) fun z39 => .defI (n i.toNat 2) fun z40 => .ite (lessB z39 z40 pn pw) (.ite (z5 == 0) (.leaf ⟨.ret, [(2, .bool (.lit
  false))], [], 0⟩) (.defI (IntKind.i64.wrap (i + 1)) fun z41 => .leaf ⟨.normal, [(0, .sl 0), (2, .bool (.lit false)), (3, .ptr 1 0), (4, .int .i64 (.sym z41))], [(1, some (.box [.int .u32 (.sym z6), .int .u8 (.sym z7),
  .int .u32 (.sym z8), .int .u8 (.sym z9), .int .u8 (.sym z10), .int .u8 (.sym z11), .int .i64 (.sym z12)]))], 0⟩)) (.defI (IntKind.i64.wrap (i + 1)) fun z42 => .leaf ⟨.normal, [(0, .sl 0), (2, .bool (.lit false)), (3,
  .ptr 1 0), (4, .int .i64 (.sym z42))], [(1, some (.box [.int .u32 (.sym z6), .int .u8 (.sym z7), .int .u32 (.sym z8), .int .u8 (.sym z9), .int .u8 (.sym z10), .int .u8 (.sym z11), .int .i64 (.sym z12)]))], 0⟩)))))))))
  (.ite (z5 == 0) (.must (decide (0 ≤ i ∧ i < len)) (.must (decide (0 ≤ i ∧ i < len)) (.defI (n i.toNat 1) fun z43 => .defI (n i.toNat 2) fun z44 => .ite (!(z6 == z43 && z7 == z44)) (.leaf ⟨.ret, [(2, .bool (.lit false))],
  [], 0⟩) (.must (decide (0 ≤ i ∧ i < len)) (.must (decide (0 ≤ i ∧ i < len)) (.defI (n i.toNat 1) fun z45 => .defI (n i.toNat 2) fun z46 => .ite (lessB z45 z46 pn pw) (.ite (z5 == 0) (.leaf ⟨.ret, [(2, .bool (.lit
  false))], [], 0⟩) (.defI (IntKind.i64.wrap (i + 1)) fun z47 => .leaf ⟨.normal, [(0, .sl 0), (2, .bool (.lit false)), (3, .ptr 1 0), (4, .int .i64 (.sym z47))], [(1, some (.box [.int .u32 (.sym z6), .int .u8 (.sym z7),
  .int .u32 (.sym z8), .int .u8 (.sym z9), .int .u8 (.sym z10), .int .u8 (.sym z11), .int .i64 (.sym z12)]))], 0⟩)) (.defI (IntKind.i64.wrap (i + 1)) fun z48 => .leaf ⟨.normal, [(0, .sl 0), (2, .bool (.lit false)), (3,
  .ptr 1 0), (4, .int .i64 (.sym z48))], [(1, some (.box [.int .u32 (.sym z6), .int .u8 (.sym z7), .int .u32 (.sym z8), .int .u8 (.sym z9), .int .u8 (.sym z10), .int .u8 (.sym z11), .int .i64 (.sym z12)]))], 0⟩)))))))
  (.must (decide (0 ≤ i ∧ i < len)) (.must (decide (0 ≤ i ∧ i < len)) (.defI (n i.toNat 1) fun z49 => .defI (n i.toNat 2) fun z50 => .ite (lessB z49 z50 pn pw) (.ite (z5 == 0) (.leaf ⟨.ret, [(2, .bool (.lit false))], [],
  0⟩) (.defI (IntKind.i64.wrap (i + 1)) fun z51 => .leaf ⟨.normal, [(0, .sl 0), (2, .bool (.lit false)), (3, .ptr 1 0), (4, .int .i64 (.sym z51))], [(1, some (.box [.int .u32 (.sym z6), .int .u8 (.sym z7), .int .u32 (.sym
  z8), .int .u8 (.sym z9), .int .u8 (.sym z10), .int .u8 (.sym z11), .int .i64 (.sym z12)]))], 0⟩)) (.defI (IntKind.i64.wrap (i + 1)) fun z52 => .leaf ⟨.normal, [(0, .sl 0), (2, .bool (.lit false)), (3, .ptr 1 0), (4, .int
  .i64 (.sym z52))], [(1, some (.box [.int .u32 (.sym z6), .int .u8 (.sym z7), .int .u32 (.sym z8), .int .u8 (.sym z9), .int .u8 (.sym z10), .int .u8 (.sym z11), .int .i64 (.sym z12)]))], 0⟩)))))))))))) (.must (decide (0 ≤
  i ∧ i < len)) (.must (decide (0 ≤ i ∧ i < len)) (.defI (n i.toNat 1) fun z53 => .defI (n i.toNat 2) fun z54 => .defI (bif prOk pn pw z53 z54 then an else 0) fun z55 => .defI (bif prOk pn pw z53 z54 then aw else 0) fun
  z56 => .defI (bif prOk pn pw z53 z54 then k else 0) fun z57 => .defI (bif prOk pn pw z53 z54 then o else 0) fun z58 => .defI (bif prOk pn pw z53 z54 then v else 0) fun z59 => .defI (prCode pn pw z53 z54) fun z60 => .defI
  (bif prOk pn pw z53 z54 then z53 else pn) fun z61 => .defI (bif prOk pn pw z53 z54 then z54 else pw) fun z62 => .defI an fun z63 => .defI aw fun z64 => .defI k fun z65 => .defI o fun z66 => .defI v fun z67 => .ite (lessB
  z61 z62 pn pw) (.leaf ⟨.ret, [(2, .bool (.lit false))], [], 0⟩) (.ite (!(z63 == 0 && z64 == 0)) (.ite (lessB z61 z62 z63 z64) (.leaf ⟨.ret, [(2, .bool (.lit false))], [], 0⟩) (.ite (z60 != 0) (.ite (!(z61 == pn && z62 ==
  pw)) (.leaf ⟨.ret, [(2, .bool (.lit false))], [], 0⟩) (.ite (!(z63 == an && z64 == aw)) (.leaf ⟨.ret, [(2, .bool (.lit false))], [], 0⟩) (.ite (!(k == z65 && (o == z66 && v == z67))) (.leaf ⟨.ret, [(2, .bool (.lit
  false))], [], 0⟩) (.ite (!(!(an == 0 && aw == 0)) == !(z63 == 0 && z64 == 0)) (.leaf ⟨.ret, [(2, .bool (.lit false))], [], 0⟩) (.ite (z60 == 0) (.must (decide (0 ≤ i ∧ i < len)) (.must (decide (0 ≤ i ∧ i < len)) (.defI
  (n i.toNat 1) fun z68 => .defI (n i.toNat 2) fun z69 => .ite (!(z61 == z68 && z62 == z69)) (.leaf ⟨.ret, [(2, .bool (.lit false))], [], 0⟩) (.must (decide (0 ≤ i ∧ i < len)) (.must (decide (0 ≤ i ∧ i < len)) (.defI (n
  i.toNat 1) fun z70 => .defI (n i.toNat 2) fun z71 => .ite (lessB z70 z71 pn pw) (.ite (z60 == 0) (.leaf ⟨.ret, [(2, .bool (.lit false))], [], 0⟩) (.defI (IntKind.i64.wrap (i + 1)) fun z72 => .leaf ⟨.normal, [(0, .sl 0),
  (2, .bool (.lit false)), (3, .ptr 1 0), (4, .int .i64 (.sym z72))], [(1, some (.box [.int .u32 (.sym z61), .int .u8 (.sym z62), .int .u32 (.sym z63), .int .u8 (.sym z64), .int .u8 (.sym z65), .int .u8 (.sym z66), .int
  .i64 (.sym z67)]))], 0⟩)) (.defI (IntKind.i64.wrap (i + 1)) fun z73 => .leaf ⟨.normal, [(0, .sl 0), (2, .bool (.lit false)), (3, .ptr 1 0), (4, .int .i64 (.sym z73))], [(1, some (.box [.int .u32 (.sym z61), .int .u8
  (.sym z62), .int .u32 (.sym z63), .int .u8 (.sym z64), .int .u8 (.sym z65), .int .u8 (.sym z66), .int .i64 (.sym z67)]))], 0⟩))))))) (.must (decide (0 ≤ i ∧ i < len)) (.must (decide (0 ≤ i ∧ i < len)) (.defI (n i.toNat
  1) fun z74 => .defI (n i.toNat 2) fun z75 => .ite (lessB z74 z75 pn pw) (.ite (z60 == 0) (.leaf ⟨.ret, [(2, .bool (.lit false))], [], 0⟩) (.defI (IntKind.i64.wrap (i + 1)) fun z76 => .leaf ⟨.normal, [(0, .sl 0), (2,
  .bool (.lit false)), (3, .ptr 1 0), (4, .int .i64 (.sym z76))], [(1, some (.box [.int .u32 (.sym z61), .int .u8 (.sym z62), .int .u32 (.sym z63), .int .u8 (.sym z64), .int .u8 (.sym z65), .int .u8 (.sym z66), .int .i64
  (.sym z67)]))], 0⟩)) (.defI (IntKind.i64.wrap (i + 1)) fun z77 => .leaf ⟨.normal, [(0, .sl 0), (2, .bool (.lit false)), (3, .ptr 1 0), (4, .int .i64 (.sym z77))], [(1, some (.box [.int .u32 (.sym z61), .int .u8 (.sym
  z62), .int .u32 (.sym z63), .int .u8 (.sym z64), .int .u8 (.sym z65), .int .u8 (.sym z66), .int .i64 (.sym z67)]))], 0⟩))))))))) (.ite (z60 == 0) (.must (decide (0 ≤ i ∧ i < len)) (.must (decide (0 ≤ i ∧ i < len)) (.defI
  (n i.toNat 1) fun z78 => .defI (n i.toNat 2) fun z79 => .ite (!(z61 == z78 && z62 == z79)) (.leaf ⟨.ret, [(2, .bool (.lit false))], [], 0⟩) (.must (decide (0 ≤ i ∧ i < len)) (.must (decide (0 ≤ i ∧ i < len)) (.defI (n
  i.toNat 1) fun z80 => .defI (n i.toNat 2) fun z81 => .ite (lessB z80 z81 pn pw) (.ite (z60 == 0) (.leaf ⟨.ret, [(2, .bool (.lit false))], [], 0⟩) (.defI (IntKind.i64.wrap (i + 1)) fun z82 => .leaf ⟨.normal, [(0, .sl 0),
  (2, .bool (.lit false)), (3, .ptr 1 0), (4, .int .i64 (.sym z82))], [(1, some (.box [.int .u32 (.sym z61), .int .u8 (.sym z62), .int .u32 (.sym z63), .int .u8 (.sym z64), .int .u8 (.sym z65), .int .u8 (.sym z66), .int
  .i64 (.sym z67)]))], 0⟩)) (.defI (IntKind.i64.wrap (i + 1)) fun z83 => .leaf ⟨.normal, [(0, .sl 0), (2, .bool (.lit false)), (3, .ptr 1 0), (4, .int .i64 (.sym z83))], [(1, some (.box [.int .u32 (.sym z61), .int .u8
  (.sym z62), .int .u32 (.sym z63), .int .u8 (.sym z64), .int .u8 (.sym z65), .int .u8 (.sym z66), .int .i64 (.sym z67)]))], 0⟩))))))) (.must (decide (0 ≤ i ∧ i < len)) (.must (decide (0 ≤ i ∧ i < len)) (.defI (n i.toNat
  1) fun z84 => .defI (n i.toNat 2) fun z85 => .ite (lessB z84 z85 pn pw) (.ite (z60 == 0) (.leaf ⟨.ret, [(2, .bool (.lit false))], [], 0⟩) (.defI (IntKind.i64.wrap (i + 1)) fun z86 => .leaf ⟨.normal, [(0, .sl 0), (2,
  .bool (.lit false)), (3, .ptr 1 0), (4, .int .i64 (.sym z86))], [(1, some (.box [.int .u32 (.sym z61), .int .u8 (.sym z62), .int .u32 (.sym z63), .int .u8 (.sym z64), .int .u8 (.sym z65), .int .u8 (.sym z66), .int .i64
  (.sym z67)]))], 0⟩)) (.defI (IntKind.i64.wrap (i + 1)) fun z87 => .leaf ⟨.normal, [(0, .sl 0), (2, .bool (.lit false)), (3, .ptr 1 0), (4, .int .i64 (.sym z87))], [(1, some (.box [.int .u32 (.sym z61), .int .u8 (.sym
  z62), .int .u32 (.sym z63), .int .u8 (.sym z64), .int .u8 (.sym z65), .int .u8 (.sym z66), .int .i64 (.sym z67)]))], 0⟩))))))) (.ite (z60 != 0) (.ite (!(z61 == pn && z62 == pw)) (.leaf ⟨.ret, [(2, .bool (.lit false))],
  [], 0⟩) (.ite (!(z63 == an && z64 == aw)) (.leaf ⟨.ret, [(2, .bool (.lit false))], [], 0⟩) (.ite (!(k == z65 && (o == z66 && v == z67))) (.leaf ⟨.ret, [(2, .bool (.lit false))], [], 0⟩) (.ite (!(!(an == 0 && aw == 0)) ==
  !(z63 == 0 && z64 == 0)) (.leaf ⟨.ret, [(2, .bool (.lit false))], [], 0⟩) (.ite (z60 == 0) (.must (decide (0 ≤ i ∧ i < len)) (.must (decide (0 ≤ i ∧ i < len)) (.defI (n i.toNat 1) fun z88 => .defI (n i.toNat 2) fun z89
  => .ite (!(z61 == z88 && z62 == z89)) (.leaf ⟨.ret, [(2, .bool (.lit false))], [], 0⟩) (.must (decide (0 ≤ i ∧ i < len)) (.must (decide (0 ≤ i ∧ i < len)) (.defI (n i.toNat 1) fun z90 => .defI (n i.toNat 2) fun z91 =>
  .ite (lessB z90 z91 pn pw) (.ite (z60 == 0) (.leaf ⟨.ret, [(2, .bool (.lit false))], [], 0⟩) (.defI (IntKind.i64.wrap (i + 1)) fun z92 => .leaf ⟨.normal, [(0, .sl 0), (2, .bool (.lit false)), (3, .ptr 1 0), (4, .int .i64
  (.sym z92))], [(1, some (.box [.int .u32 (.sym z61), .int .u8 (.sym z62), .int .u32 (.sym z63), .int .u8 (.sym z64), .int .u8 (.sym z65), .int .u8 (.sym z66), .int .i64 (.sym z67)]))], 0⟩)) (.defI (IntKind.i64.wrap (i +
  1)) fun z93 => .leaf ⟨.normal, [(0, .sl 0), (2, .bool (.lit false)), (3, .ptr 1 0), (4, .int .i64 (.sym z93))], [(1, some (.box [.int .u32 (.sym z61), .int .u8 (.sym z62), .int .u32 (.sym z63), .int .u8 (.sym z64), .int
  .u8 (.sym z65), .int .u8 (.sym z66), .int .i64 (.sym z67)]))], 0⟩))))))) (.must (decide (0 ≤ i ∧ i < len)) (.must (decide (0 ≤ i ∧ i < len)) (.defI (n i.toNat 1) fun z94 => .defI (n i.toNat 2) fun z95 => .ite (lessB z94
  z95 pn pw) (.ite (z60 == 0) (.leaf ⟨.ret, [(2, .bool (.lit false))], [], 0⟩) (.defI (IntKind.i64.wrap (i + 1)) fun z96 => .leaf ⟨.normal, [(0, .sl 0), (2, .bool (.lit false)), (3, .ptr 1 0), (4, .int .i64 (.sym z96))],
  [(1, some (.box [.int .u32 (.sym z61), .int .u8 (.sym z62), .int .u32 (.sym z63), .int .u8 (.sym z64), .int .u8 (.sym z65), .int .u8 (.sym z66), .int .i64 (.sym z67)]))], 0⟩)) (.defI (IntKind.i64.wrap (i + 1)) fun z97 =>
  .leaf ⟨.normal, [(0, .sl 0), (2, .bool (.lit false)), (3, .ptr 1 0), (4, .int .i64 (.sym z97))], [(1, some (.box [.int .u32 (.sym z61), .int .u8 (.sym z62), .int .u32 (.sym z63), .int .u8 (.sym z64), .int .u8 (.sym z65),
  .int .u8 (.sym z66), .int .i64 (.sym z67)]))], 0⟩))))))))) (.ite (z60 == 0) (.must (decide (0 ≤ i ∧ i < len)) (.must (decide (0 ≤ i ∧ i < len)) (.defI (n i.toNat 1) fun z98 => .defI (n i.toNat 2) fun z99 => .ite (!(z61
  == z98 && z62 == z99)) (.leaf ⟨.ret, [(2, .bool (.lit false))], [], 0⟩) (.must (decide (0 ≤ i ∧ i < len)) (.must (decide (0 ≤ i ∧ i < len)) (.defI (n i.toNat 1) fun z100 => .defI (n i.toNat 2) fun z101 => .ite (lessB
  z100 z101 pn pw) (.ite (z60 == 0) (.leaf ⟨.ret, [(2, .bool (.lit false))], [], 0⟩) (.defI (IntKind.i64.wrap (i + 1)) fun z102 => .leaf ⟨.normal, [(0, .sl 0), (2, .bool (.lit false)), (3, .ptr 1 0), (4, .int .i64 (.sym
  z102))], [(1, some (.box [.int .u32 (.sym z61), .int .u8 (.sym z62), .int .u32 (.sym z63), .int .u8 (.sym z64), .int .u8 (.sym z65), .int .u8 (.sym z66), .int .i64 (.sym z67)]))], 0⟩)) (.defI (IntKind.i64.wrap (i + 1))
  fun z103 => .leaf ⟨.normal, [(0, .sl 0), (2, .bool (.lit false)), (3, .ptr 1 0), (4, .int .i64 (.sym z103))], [(1, some (.box [.int .u32 (.sym z61), .int .u8 (.sym z62), .int .u32 (.sym z63), .int .u8 (.sym z64), .int
  .u8 (.sym z65), .int .u8 (.sym z66), .int .i64 (.sym z67)]))], 0⟩))))))) (.must (decide (0 ≤ i ∧ i < len)) (.must (decide (0 ≤ i ∧ i < len)) (.defI (n i.toNat 1) fun z104 => .defI (n i.toNat 2) fun z105 => .ite (lessB
  z104 z105 pn pw) (.ite (z60 == 0) (.leaf ⟨.ret, [(2, .bool (.lit false))], [], 0⟩) (.defI (IntKind.i64.wrap (i + 1)) fun z106 => .leaf ⟨.normal, [(0, .sl 0), (2, .bool (.lit false)), (3, .ptr 1 0), (4, .int .i64 (.sym
  z106))], [(1, some (.box [.int .u32 (.sym z61), .int .u8 (.sym z62), .int .u32 (.sym z63), .int .u8 (.sym z64), .int .u8 (.sym z65), .int .u8 (.sym z66), .int .i64 (.sym z67)]))], 0⟩)) (.defI (IntKind.i64.wrap (i + 1))
  fun z107 => .leaf ⟨.normal, [(0, .sl 0), (2, .bool (.lit false)), (3, .ptr 1 0), (4, .int .i64 (.sym z107))], [(1, some (.box [.int .u32 (.sym z61), .int .u8 (.sym z62), .int .u32 (.sym z63), .int .u8 (.sym z64), .int
  .u8 (.sym z65), .int .u8 (.sym z66), .int .i64 (.sym z67)]))], 0⟩))))))))))))) (.leaf ⟨.exit 0, [(0, .sl 0), (2, .bool (.lit false)), (3, .ptr 1 0), (4, .int .i64 (.sym i))], [(1, some (.box [.int .u32 (.sym pn), .int
  .u8 (.sym pw), .int .u32 (.sym an), .int .u8 (.sym aw), .int .u8 (.sym k), .int .u8 (.sym o), .int .i64 (.sym v)]))], 0⟩) := by kernel_rfl


structure A7 where
  pn : Int
  pw : Int
  an : Int
  aw : Int
  k : Int
  o : Int
  v : Int
def A7.box (d : A7) : List AV := box7 d.pn d.pw d.an d.aw d.k d.o d.v
def A7.inv (d : A7) : Prop := (d.an = 0 ∧ d.aw = 0) ∨ lessB d.pn d.pw d.an d.aw = false
section
variable (len : Int) (n : Nat → Nat → Int) (b : Nat → Nat → Bool)
def K5 (i : Int) : Tm := [(0, .sl 0), (2, .bool (.lit false)), (3, .ptr 1 0), (4, .int .i64 (.sym i))]
def L5 (d : A7) : List (Nat × AObj) := [(0, lstO len n b), (1, .box d.box)]
theorem rows5 : PlainRows (stepRows n b) := plainRows_skel n b pkStep
theorem in5 : Within Try.prog 5 Try.f5.ntmps body5 := ⟨Try.f5, body5, Try.func5, by kernel_rfl, rfl, fun _ h => h⟩
theorem in5x : Within Try.prog 5 Try.f5.ntmps x5 := by
  have h : (flat body5)[7]? = some (.block 0 (.loop x5)) := by kernel_rfl
  exact within_loop (within_block (within_at in5 7 h))
abbrev R5 (i : Int) (ex : Ex) (m : Nat) (κ : Tm) (h : Heap) : Prop := (ex = .normal ∧ ∃ d' : A7, d'.inv ∧ m = 2 ∧ κ = K5 (i + 1) ∧ h = mkHeap (L5 len n b d')) ∨ ex = .exit 0
theorem nx5 {i i' : Int} {d : A7} {pn pw an aw k o v : Int} (hi : i' = i + 1) (h : A7.inv ⟨pn, pw, an, aw, k, o, v⟩) : ∃ m' φ κ' h', (∀ k, k < 0 → φ k = k) ∧
    Reset isNil (· < m') φ [(0, .sl 0), (2, .bool (.lit false)), (3, .ptr 1 0), (4, .int .i64 (.sym i'))] (fzH .normal [0] (mkHeap (L5 len n b d)) [(1, some (.box [.int .u32 (.sym pn), .int .u8 (.sym pw), .int .u32 (.sym an), .int .u8 (.sym aw), .int .u8 (.sym k), .int .u8 (.sym o), .int .i64 (.sym v)]))]) κ' h' ∧
    R5 len n b i .normal m' κ' h' := by
  subst hi
  exact ⟨2, id, _, _, fun _ h => absurd h (Nat.not_lt_zero _), Reset.of (l := L5 len n b ⟨pn, pw, an, aw, k, o, v⟩) (κ' := K5 (i + 1)) ⟨⟨⟨_, rfl, fun _ _ => rfl⟩, rfl⟩, ⟨⟨_, rfl, fun _ _ => rfl⟩, rfl⟩, ⟨⟨_, rfl, fun _ _ => rfl⟩, rfl⟩, ⟨⟨_, rfl, fun _ _ => rfl⟩, rfl⟩, trivial⟩
    ⟨⟨rfl, .inl ⟨_, rfl, sameLst rfl (rows5 n b)⟩⟩, ⟨rfl, .inl ⟨_, rfl, Eng.sameBox rfl (fun _ _ => rfl) rfl⟩⟩, trivial⟩ rfl, .inl ⟨rfl, _, h, rfl, rfl, rfl⟩⟩
theorem ex5 {i : Int} {τ : Tm} {h0 h1 : Heap} : ∃ m' φ κ' h', (∀ k, k < 0 → φ k = k) ∧ Reset isNil (· < m') φ τ (fzH (.exit 0) [0] h0 h1) κ' h' ∧ R5 len n b i (.exit 0) m' κ' h' :=
  ⟨0, id, _, _, fun _ h => absurd h (Nat.not_lt_zero _), Reset.of (l := []) (κ' := []) trivial trivial rfl, .inr rfl⟩

theorem ac_yes {pn pw z0 z1 z2 z3 z4 : Int} (h : acOk pn pw z0 z1 z2 z3 z4 = true) : acCode pn pw z0 z1 z2 z3 z4 = 0 ∧ lessB z0 z1 pn pw = false := by
  unfold acOk acCode at *
  cases h1 : isB z0 z1 <;> cases h2 : isIncB z2 z3 z4 <;> cases h3 : lessB z0 z1 pn pw <;> simp_all
theorem ac_no {pn pw z0 z1 z2 z3 z4 : Int} (h : acOk pn pw z0 z1 z2 z3 z4 = false) : acCode pn pw z0 z1 z2 z3 z4 ≠ 0 := by
  unfold acOk acCode at *
  cases h1 : isB z0 z1 <;> cases h2 : isIncB z2 z3 z4 <;> cases h3 : lessB z0 z1 pn pw <;> simp_all
theorem pr_yes {pn pw z0 z1 : Int} (h : prOk pn pw z0 z1 = true) : prCode pn pw z0 z1 = 0 ∧ lessB z0 z1 pn pw = false := by
  unfold prOk prCode at *
  cases h1 : isB z0 z1 <;> cases h3 : lessB z0 z1 pn pw <;> simp_all
theorem pr_no {pn pw z0 z1 : Int} (h : prOk pn pw z0 z1 = false) : prCode pn pw z0 z1 ≠ 0 := by
  unfold prOk prCode at *
  cases h1 : isB z0 z1 <;> cases h3 : lessB z0 z1 pn pw <;> simp_all
theorem less_self (a b : Int) : lessB a b a b = false := by simp [lessB]
theorem less_tr {a b c d e f : Int} (h1 : lessB a b c d = false) (h2 : lessB c d e f = false) : lessB a b e f = false := by
  simp [lessB] at *
  omega

theorem x5_ht (i : Int) (d : A7) (hd : d.inv) (h0 : 0 ≤ i) (h1 : i < 60) : HT Try.prog Try.f5.ntmps 0 x5 2 (K5 i) (mkHeap (L5 len n b d)) (R5 len n b i) := by
  refine HT.runF bdTab mixed (n := 300) in5x [2] [0, 2, 3, 4] [1] [0] (len := 2) (Nat.zero_le _) rfl fun τ0 => holds_of_eq (r5_x len n b i d.pn d.pw d.an d.aw d.k d.o d.v τ0) ?_
  obtain ⟨pn, pw, an, aw, k, o, v⟩ := d
  dsimp only
  have hw : IntKind.i64.wrap (i + 1) = i + 1 := IntWalk.i64_in _ (by omega)
  refine holds_ite (fun hlt => ?_) fun _ => holds_leaf (ex5 len n b)
  have hlt : i < len := of_decide_eq_true hlt
  have hm : decide (0 ≤ i ∧ i < len) = true := decide_eq_true ⟨h0, hlt⟩
  refine holds_must hm (holds_must hm ?_)
  refine holds_ite (fun hb => ?_) (fun hb => ?_)
  · refine holds_must hm (holds_must hm (holds_defI fun z0 e0 => holds_defI fun z1 e1 => holds_must hm (holds_must hm (holds_defI fun z2 e2 => holds_defI fun z3 e3 => holds_defI fun z4 e4 => holds_defI fun z5 e5 => ?_))))
    rw [← e0, ← e1]
    cases hok : acOk pn pw z0 z1 z2 z3 z4 with
    | true =>
      obtain ⟨hc, hl⟩ := ac_yes hok
      rw [hc] at e5
      subst e5
      repeat (refine holds_defI fun z e => ?_; simp only [cond_true, cond_false] at e; subst e)
      repeat' (first | refine holds_ite (fun h => ?_) (fun h => ?_) | refine holds_must hm ?_ | refine holds_defI fun z e => ?_ | refine holds_leaf ?_)
      all_goals first | (simp [hl, less_self] at *; done) | skip
      all_goals first | exact nx5 len n b (by rw [← hw]; assumption) (.inr (less_self _ _)) | skip
    | false =>
      have hc := ac_no hok
      rw [← e5] at hc
      repeat (refine holds_defI fun z e => ?_; simp only [cond_true, cond_false] at e; subst e)
      repeat' (first | refine holds_ite (fun h => ?_) (fun h => ?_) | refine holds_must hm ?_ | refine holds_defI fun z e => ?_ | refine holds_leaf ?_)
      all_goals first | exact nx5 len n b (by rw [← hw]; assumption) hd | skip
      all_goals (exfalso; unfold A7.inv at hd; simp [less_self, hc] at *; try simp_all)
  · refine holds_must hm (holds_must hm (holds_defI fun z0 e0 => holds_defI fun z1 e1 => ?_))
    rw [← e0, ← e1]
    cases hok : prOk pn pw z0 z1 with
    | true =>
      obtain ⟨hc, hl⟩ := pr_yes hok
      have htr : lessB pn pw an aw = false → lessB z0 z1 an aw = false := fun h => less_tr hl h
      rw [hc]
      repeat (refine holds_defI fun z e => ?_; simp only [cond_true, cond_false] at e; subst e)
      repeat' (first | refine holds_ite (fun h => ?_) (fun h => ?_) | refine holds_must hm ?_ | refine holds_defI fun z e => ?_ | refine holds_leaf ?_)
      all_goals first | (simp [hl, less_self] at *; done) | skip
      all_goals first | exact nx5 len n b (by rw [← hw]; assumption) (hd.imp id fun h => less_tr hl h) | skip
      all_goals (exfalso; unfold A7.inv at hd; simp [less_self, hl] at *; try simp_all)
    | false =>
      have hc := pr_no hok
      repeat (refine holds_defI fun z e => ?_; simp only [cond_true, cond_false] at e; subst e)
      repeat' (first | refine holds_ite (fun h => ?_) (fun h => ?_) | refine holds_must hm ?_ | refine holds_defI fun z e => ?_ | refine holds_leaf ?_)
      all_goals first | exact nx5 len n b (by rw [← hw]; assumption) hd | skip
      all_goals (exfalso; unfold A7.inv at hd; simp [less_self, hc] at *; try simp_all)
theorem loop5_ht (hl : len ≤ 60) (i : Int) (d : A7) (hi : 0 ≤ i) (hd : d.inv) : HT Try.prog Try.f5.ntmps 0 (.loop x5) 2 (K5 i) (mkHeap (L5 len n b d)) fun ex _ _ _ => ex = .exit 0 := by
  refine HT.loop (D := Int × A7) (fun q => (len - q.1).toNat) (fun _ => 2) (fun q => K5 q.1) (fun q => mkHeap (L5 len n b q.2)) (fun q => 0 ≤ q.1 ∧ q.2.inv) (fun _ ex _ _ _ => ex = .exit 0) ?_ (i, d) ⟨hi, hd⟩
  rintro ⟨i, d⟩ ⟨hi, hd⟩
  dsimp only at hi hd ⊢
  by_cases hlt : i < len
  · refine (x5_ht len n b i d hd hi (by omega)).mono ?_
    rintro ex m κ h (⟨rfl, d', hd', rfl, rfl, rfl⟩ | rfl)
    · exact ⟨(i + 1, d'), ⟨by show 0 ≤ i + 1; omega, hd'⟩, by show (len - (i + 1)).toNat < (len - i).toNat; omega, rfl, rfl, rfl, fun _ _ _ _ h => h⟩
    · rfl
  · refine HT.runF bdTab mixed (n := 300) in5x [2] [0, 2, 3, 4] [1] [0] (len := 2) (Nat.zero_le _) rfl fun τ0 => holds_of_eq (r5_x len n b i d.pn d.pw d.an d.aw d.k d.o d.v τ0) ?_
    refine holds_ite (fun h => absurd (of_decide_eq_true h) hlt) fun _ => holds_leaf ?_
    exact ⟨0, id, _, _, fun _ h => absurd h (Nat.not_lt_zero _), Reset.of (l := []) (κ' := []) trivial trivial rfl, rfl⟩
theorem rises_ht : HT Try.prog Try.f5.ntmps 0 body5 1 [(0, .sl 0)] (mkHeap [(0, lstO len n b)]) fun ex m' κ' h' => ex = .ret ∧ tfind 2 κ' = some (.bool (.lit true)) := by
  refine HT.cut 7 (R := fun ex m κ h => (ex = .normal ∧ len ≤ 60 ∧ m = 2 ∧ κ = K5 0 ∧ h = mkHeap (L5 len n b ⟨0, 0, 0, 0, 0, 0, 0⟩)) ∨ (ex = .ret ∧ tfind 2 κ = some (.bool (.lit true)))) ?_ ?_ ?_
  · refine HTL.runF bdTab mixed (n := 300) (by simp [flat]; decide) (within_take in5 7) [2] [0, 2, 3, 4] [15] [0] (len := 1) (Nat.zero_le _) rfl fun τ0 => holds_of_eq (r5_pre len n b τ0) (holds_ite (fun h => holds_leaf ?_) fun h => holds_leaf ?_)
    · exact ⟨0, id, _, _, fun _ h => absurd h (Nat.not_lt_zero _), Reset.of (l := []) (κ' := [(2, .bool (.lit true))]) ⟨⟨⟨_, rfl, fun _ _ => rfl⟩, rfl⟩, trivial⟩ trivial rfl, .inr ⟨rfl, rfl⟩⟩
    · exact ⟨2, lkN [0, 15], _, _, fun _ h => absurd h (Nat.not_lt_zero _), Reset.of (l := L5 len n b ⟨0, 0, 0, 0, 0, 0, 0⟩) (κ' := K5 0) ⟨⟨⟨_, rfl, fun _ _ => rfl⟩, rfl⟩, ⟨⟨_, rfl, fun _ _ => rfl⟩, rfl⟩, ⟨⟨_, rfl, fun _ _ => rfl⟩, rfl⟩, ⟨⟨_, rfl, fun _ _ => rfl⟩, rfl⟩, trivial⟩
        ⟨⟨rfl, .inl ⟨_, rfl, sameLst rfl (rows5 n b)⟩⟩, ⟨rfl, .inl ⟨_, rfl, Eng.sameBox rfl (fun _ _ => rfl) rfl⟩⟩, trivial⟩ rfl, .inl ⟨rfl, by simpa using h, rfl, rfl, rfl⟩⟩
  · rintro m κ h (⟨_, hl, rfl, rfl, rfl⟩ | ⟨h, _⟩)
    · have e : (flat body5).drop 7 = [.block 0 (.loop x5)] ++ (flat body5).drop 8 := by kernel_rfl
      rw [e]
      refine HTL.append (R := fun ex _ _ _ => ex = .normal) (HTL.one (HT.block ((loop5_ht len n b hl 0 _ (Int.le_refl 0) (.inl ⟨rfl, rfl⟩)).mono ?_))) ?_ fun ex _ _ _ q hn => normal_no q hn
      · rintro ex m κ h rfl
        rfl
      · intro m κ h _
        refine HTL.drop (HTL.runF bdTab mixed (n := 300) (by decide) (within_drop in5 8) [2] [2] [] [] (len := 0) (Nat.zero_le _) rfl fun τ0 => holds_of_eq (r5_tail τ0) (holds_leaf ?_))
        exact ⟨0, id, _, _, fun _ h => absurd h (Nat.not_lt_zero _), Reset.of (l := []) (κ' := [(2, .bool (.lit true))]) ⟨⟨⟨_, rfl, fun _ _ => rfl⟩, rfl⟩, trivial⟩ trivial rfl, rfl, rfl⟩
    · cases h
  · rintro ex m κ h (⟨rfl, _⟩ | h) hn
    · exact absurd trivial hn
    · exact h
end
theorem res5 : Try.f5.results.toList = [.tmp 2] := by kernel_rfl
theorem le5 : Nat.ble 1 Try.f5.ntmps = true := by kernel_rfl
theorem body5_eq : Try.f5.body = some body5 := by kernel_rfl
theorem cells35 : pkStep.length = Try.prog.cellsOf 35 := by kernel_rfl
theorem rises_c {W : World} {hd : Option Addr × Nat × Nat} {n : Nat → Nat → Int} {b : Nat → Nat → Bool} (h : sliceOf W hd hd.2.1 6 (stepRows n b)) :
    Calls Try.prog 5 #[.slice hd.1 hd.2.1 hd.2.2] W fun e W' => e = .returned (.bool true) ∧ Below W.heap.size W W' := by
  refine law_ht (args := [.sl 0]) (l := [(0, lstO hd.2.1 n b)]) (m := 1) (hdr := fun _ => hd) Try.func5 body5_eq le5 res5 (fun p hp => ?_) (rises_ht hd.2.1 n b) (fun E' hE => ?_)
  · rw [List.mem_singleton.1 hp]
    exact ⟨Nat.zero_lt_one, _, _, _, rfl, h⟩
  · have e := (hE 0 Nat.zero_lt_one).2.1
    simp only [denL, den, e]
set_option maxRecDepth 100000 in
theorem rises_lifted (os : Os) (started : os.Started) (H : Type) (enc : TypeId × Value → H) :
    ReturnsInHanded {} Try.checked os 5 .any (Rows.ballotRisesSpec.pre6 enc Try.prog Try.f5 Rows.ballotRisesRow.domain false) (Rows.ballotRisesSpec.post enc Try.prog Try.f5 false true false false) := by
  refine law_lifted (C := Try.checked) Try.own started (by kernel_rfl) Try.func5
    (ChangeSpec.witness6 (enc := enc) (C := Try.checked) false ⟨#[], #[.slice none 0 0], []⟩ 8 (by kernel_rfl) (by kernel_rfl) (by kernel_rfl) (by kernel_rfl))
    Try.laidOut ?_ (B := 4) (by kernel_rfl) (by kernel_rfl) rfl ?_ ?_
  · intro t ht
    rw [Try.params5] at ht
    have : t = 22 := by
      simp at ht
      omega
    rcases this with rfl <;> exact ⟨by kernel_rfl, of_decide_eq_true (by kernel_rfl)⟩
  · intro ds h
    rw [Try.params5] at h
    match ds, h with
    | [d1], _ => rfl
  · intro W base args ds p hval hA hlt
    rw [Try.params5] at hA hval
    obtain ⟨v0, d0, rfl, rfl, h0⟩ := trodAll_one hA
    obtain ⟨hd, n, b, rfl, _, hs, _⟩ := open_rows Try.underlying22 pk35 cells35 (by decide) (hval 0 22 v0 rfl rfl) h0
    exact rises_c hs

theorem ballotRises_holds : Rows.BallotRisesSaid :=
  OpenClaim.holds_of_wide 5 Try.f5 rfl rfl rfl rfl rfl rfl rfl ⟨rfl, rfl, rfl, rfl, rfl⟩ rfl rfl rfl rfl rfl (by kernel_rfl) Try.func5 (by kernel_rfl)
    (of_decide_eq_true (by kernel_rfl)) (by unfold Func.isWrapper; rw [if_neg (by decide +kernel)]; exact ⟨rfl, rfl⟩)
    (fun os started H enc _ => rises_lifted os started H enc)

end Go.Proofs.Ytobknnmalnfknaa
