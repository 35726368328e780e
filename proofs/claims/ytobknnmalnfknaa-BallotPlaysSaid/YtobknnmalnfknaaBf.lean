/- BallotPlays: the parts of its code, the states between them.
   Conditions: none. -/
import Derived.Test.YtobknnmalnfknaaBe
set_option linter.unusedSimpArgs false
set_option linter.unusedVariables false
namespace Go.Proofs.Ytobknnmalnfknaa
open Go.Eng Go.RowKit Go.ChangeShapes Go.WideShapes
set_option maxRecDepth 100000

/- A function's code, taken apart. -/
def cl : Code → Code
  | .seq a _ => a
  | c => c
def cr : Code → Code
  | .seq _ b => b
  | c => c
def cb : Code → Code
  | .block _ b => b
  | .loop b => b
  | c => c
noncomputable def body3 : Code := Try.f3.body.getD .skip
noncomputable def c3A : Code := cl (cr body3)
noncomputable def c3B : Code := cl (cr (cr body3))
noncomputable def c3R5 : Code := cl (cr (cr (cr body3)))
noncomputable def c3R6 : Code := cl (cl (cr (cr (cr (cr body3)))))
noncomputable def c3X : Code := cb (cb (cr (cl (cr (cr (cr (cr body3)))))))
noncomputable def c3T : Code := cr (cr (cr (cr (cr body3))))
theorem body3_eq : Try.f3.body = some (.seq (cl body3) (.seq c3A (.seq c3B (.seq c3R5 (.seq (.seq c3R6 (.block 0 (.loop c3X))) c3T))))) := by kernel_rfl

noncomputable def c3X1 : Code := cl c3X
noncomputable def c3R9 : Code := cl (cb (cl (cr c3X)))
noncomputable def c3X3 : Code := cl (cr (cb (cl (cr c3X))))
noncomputable def c3X4 : Code := cr (cr (cb (cl (cr c3X))))
noncomputable def c3R8 : Code := cr (cr c3X)
theorem c3X_eq : c3X = .seq c3X1 (.seq (.block 1 (.seq c3R9 (.seq c3X3 c3X4))) c3R8) := by kernel_rfl

def pkStep : List PK := [.bool, .int .u32, .int .u8, .int .u8, .int .u8, .int .i64]
def stepRows (n : Nat → Nat → Int) (b : Nat → Nat → Bool) : Nat → List AV := fun i => skel (n i) (b i) pkStep 0
def lstO (len : Int) (n : Nat → Nat → Int) (b : Nat → Nat → Bool) : AObj := .lst (.sym len) 6 (stepRows n b) none

theorem p3_0 (len : Int) (n : Nat → Nat → Int) (b : Nat → Nat → Bool) (τ0 : Tm) : codeT Try.prog bdT 300 3 Try.f3.ntmps (cl body3) ([(0, .sl 0)] ++ τ0) (mkHeap [(0, lstO len n b)]) 1 (outK [0, 2] [0]) =
  Tree.leaf
    { ex := Ex.normal, tm := [(0, AV.sl 0), (2, AV.bool (SB.lit false))],
      heap :=
        [(0,
            some
              (AObj.lst (SI.sym len) 6
                (fun (a : Nat) ↦
                  [AV.bool (SB.sym (b a 0)), AV.int IntKind.u32 (SI.sym (n a 1)), AV.int IntKind.u8 (SI.sym (n a 2)),
                    AV.int IntKind.u8 (SI.sym (n a 3)), AV.int IntKind.u8 (SI.sym (n a 4)),
                    AV.int IntKind.i64 (SI.sym (n a 5))])
                none))],
      key := 0 } := by kernel_rfl

theorem p3_A (len : Int) (n : Nat → Nat → Int) (b : Nat → Nat → Bool) (τ0 : Tm) : codeT Try.prog bdT 300 3 Try.f3.ntmps c3A ([(0, .sl 0), (2, .bool (.lit false))] ++ τ0) (mkHeap [(0, lstO len n b)]) 1 (outK [0, 2] [0]) =
  Tree.leaf
    { ex := Ex.normal, tm := [(0, AV.sl 0), (2, AV.bool (SB.lit false))],
      heap :=
        [(0,
            some
              (AObj.lst (SI.sym len) 6
                (fun (a : Nat) ↦
                  [AV.bool (SB.sym (b a 0)), AV.int IntKind.u32 (SI.sym (n a 1)), AV.int IntKind.u8 (SI.sym (n a 2)),
                    AV.int IntKind.u8 (SI.sym (n a 3)), AV.int IntKind.u8 (SI.sym (n a 4)),
                    AV.int IntKind.i64 (SI.sym (n a 5))])
                none))],
      key := 0 } := by kernel_rfl

theorem p3_B (len : Int) (n : Nat → Nat → Int) (b : Nat → Nat → Bool) (τ0 : Tm) : codeT Try.prog bdT 300 3 Try.f3.ntmps c3B ([(0, .sl 0), (2, .bool (.lit false))] ++ τ0) (mkHeap [(0, lstO len n b)]) 1 (outK [0, 2] [0]) =
  Tree.ite (decide (len > 60))
    (Tree.leaf
      { ex := Ex.ret, tm := [(0, AV.sl 0), (2, AV.bool (SB.lit true))],
        heap :=
          [(0,
              some
                (AObj.lst (SI.sym len) 6
                  (fun (a : Nat) ↦
                    [AV.bool (SB.sym (b a 0)), AV.int IntKind.u32 (SI.sym (n a 1)), AV.int IntKind.u8 (SI.sym (n a 2)),
                      AV.int IntKind.u8 (SI.sym (n a 3)), AV.int IntKind.u8 (SI.sym (n a 4)),
                      AV.int IntKind.i64 (SI.sym (n a 5))])
                  none))],
        key := 0 })
    (Tree.leaf
      { ex := Ex.normal, tm := [(0, AV.sl 0), (2, AV.bool (SB.lit false))],
        heap :=
          [(0,
              some
                (AObj.lst (SI.sym len) 6
                  (fun (a : Nat) ↦
                    [AV.bool (SB.sym (b a 0)), AV.int IntKind.u32 (SI.sym (n a 1)), AV.int IntKind.u8 (SI.sym (n a 2)),
                      AV.int IntKind.u8 (SI.sym (n a 3)), AV.int IntKind.u8 (SI.sym (n a 4)),
                      AV.int IntKind.i64 (SI.sym (n a 5))])
                  none))],
        key := 0 }) := by kernel_rfl

theorem p3_5 (len : Int) (n : Nat → Nat → Int) (b : Nat → Nat → Bool) (τ0 : Tm) : codeT Try.prog bdT 300 3 Try.f3.ntmps c3R5 ([(0, .sl 0), (2, .bool (.lit false))] ++ τ0) (mkHeap [(0, lstO len n b)]) 1 (outK [0, 2, 3, 4] [0, 5, 11]) =
  Tree.leaf
    { ex := Ex.normal,
      tm := [(0, AV.sl 0), (2, AV.bool (SB.lit false)), (3, AV.ptr (3 + 2) 0), (4, AV.ptr (3 + 2 + 2 + 2 + 2) 0)],
      heap :=
        [(0,
            some
              (AObj.lst (SI.sym len) 6
                (fun (a : Nat) ↦
                  [AV.bool (SB.sym (b a 0)), AV.int IntKind.u32 (SI.sym (n a 1)), AV.int IntKind.u8 (SI.sym (n a 2)),
                    AV.int IntKind.u8 (SI.sym (n a 3)), AV.int IntKind.u8 (SI.sym (n a 4)),
                    AV.int IntKind.i64 (SI.sym (n a 5))])
                none)),
          (5,
            some
              (AObj.box
                [AV.int IntKind.u32 (SI.lit 0), AV.int IntKind.u8 (SI.lit 0), AV.int IntKind.u32 (SI.lit 0),
                  AV.int IntKind.u8 (SI.lit 0), AV.int IntKind.u8 (SI.lit 0), AV.int IntKind.u8 (SI.lit 0),
                  AV.int IntKind.i64 (SI.lit 0)])),
          (11,
            some
              (AObj.box
                [AV.int IntKind.u32 (SI.lit 0), AV.int IntKind.u8 (SI.lit 0), AV.int IntKind.u32 (SI.lit 0),
                  AV.int IntKind.u8 (SI.lit 0), AV.int IntKind.u8 (SI.lit 0), AV.int IntKind.u8 (SI.lit 0),
                  AV.int IntKind.i64 (SI.lit 0), AV.bool (SB.lit false)]))],
      key := 0 } := by kernel_rfl

theorem p3_6 (len : Int) (n : Nat → Nat → Int) (b : Nat → Nat → Bool) (pn pw an aw k o v : Int) (has : Bool) (τ0 : Tm) : codeT Try.prog bdT 300 3 Try.f3.ntmps c3R6 ([(0, .sl 0), (2, .bool (.lit false)), (3, .ptr 1 0), (4, .ptr 2 0)] ++ τ0) (mkHeap [(0, lstO len n b), (1, .box (box7 pn pw an aw k o v)), (2, .box (box8 pn pw an aw k o v has))]) 3 (outK [0, 2, 3, 4, 5] [0, 1, 2]) =
  Tree.leaf
    { ex := Ex.normal,
      tm :=
        [(0, AV.sl 0), (2, AV.bool (SB.lit false)), (3, AV.ptr 1 0), (4, AV.ptr 2 0),
          (5, AV.int IntKind.i64 (SI.lit 0))],
      heap :=
        [(0,
            some
              (AObj.lst (SI.sym len) 6
                (fun (a : Nat) ↦
                  [AV.bool (SB.sym (b a 0)), AV.int IntKind.u32 (SI.sym (n a 1)), AV.int IntKind.u8 (SI.sym (n a 2)),
                    AV.int IntKind.u8 (SI.sym (n a 3)), AV.int IntKind.u8 (SI.sym (n a 4)),
                    AV.int IntKind.i64 (SI.sym (n a 5))])
                none)),
          (1,
            some
              (AObj.box
                [AV.int IntKind.u32 (SI.sym pn), AV.int IntKind.u8 (SI.sym pw), AV.int IntKind.u32 (SI.sym an),
                  AV.int IntKind.u8 (SI.sym aw), AV.int IntKind.u8 (SI.sym k), AV.int IntKind.u8 (SI.sym o),
                  AV.int IntKind.i64 (SI.sym v)])),
          (2,
            some
              (AObj.box
                [AV.int IntKind.u32 (SI.sym pn), AV.int IntKind.u8 (SI.sym pw), AV.int IntKind.u32 (SI.sym an),
                  AV.int IntKind.u8 (SI.sym aw), AV.int IntKind.u8 (SI.sym k), AV.int IntKind.u8 (SI.sym o),
                  AV.int IntKind.i64 (SI.sym v), AV.bool (SB.sym has)]))],
      key := 0 } := by kernel_rfl

theorem p3_X1 (len : Int) (n : Nat → Nat → Int) (b : Nat → Nat → Bool) (i pn pw an aw k o v : Int) (has : Bool) (τ0 : Tm) : codeT Try.prog bdT 300 3 Try.f3.ntmps c3X1 ([(0, .sl 0), (2, .bool (.lit false)), (3, .ptr 1 0), (4, .ptr 2 0), (5, .int .i64 (.sym i))] ++ τ0) (mkHeap [(0, lstO len n b), (1, .box (box7 pn pw an aw k o v)), (2, .box (box8 pn pw an aw k o v has))]) 3 (outK [0, 2, 3, 4, 5] [0, 1, 2]) =
  Tree.ite (decide (i < len))
    (Tree.leaf
      { ex := Ex.normal,
        tm :=
          [(0, AV.sl 0), (2, AV.bool (SB.lit false)), (3, AV.ptr 1 0), (4, AV.ptr 2 0),
            (5, AV.int IntKind.i64 (SI.sym i))],
        heap :=
          [(0,
              some
                (AObj.lst (SI.sym len) 6
                  (fun (a : Nat) ↦
                    [AV.bool (SB.sym (b a 0)), AV.int IntKind.u32 (SI.sym (n a 1)), AV.int IntKind.u8 (SI.sym (n a 2)),
                      AV.int IntKind.u8 (SI.sym (n a 3)), AV.int IntKind.u8 (SI.sym (n a 4)),
                      AV.int IntKind.i64 (SI.sym (n a 5))])
                  none)),
            (1,
              some
                (AObj.box
                  [AV.int IntKind.u32 (SI.sym pn), AV.int IntKind.u8 (SI.sym pw), AV.int IntKind.u32 (SI.sym an),
                    AV.int IntKind.u8 (SI.sym aw), AV.int IntKind.u8 (SI.sym k), AV.int IntKind.u8 (SI.sym o),
                    AV.int IntKind.i64 (SI.sym v)])),
            (2,
              some
                (AObj.box
                  [AV.int IntKind.u32 (SI.sym pn), AV.int IntKind.u8 (SI.sym pw), AV.int IntKind.u32 (SI.sym an),
                    AV.int IntKind.u8 (SI.sym aw), AV.int IntKind.u8 (SI.sym k), AV.int IntKind.u8 (SI.sym o),
                    AV.int IntKind.i64 (SI.sym v), AV.bool (SB.sym has)]))],
        key := 0 })
    (Tree.leaf
      { ex := Ex.exit 0,
        tm :=
          [(0, AV.sl 0), (2, AV.bool (SB.lit false)), (3, AV.ptr 1 0), (4, AV.ptr 2 0),
            (5, AV.int IntKind.i64 (SI.sym i))],
        heap :=
          [(0,
              some
                (AObj.lst (SI.sym len) 6
                  (fun (a : Nat) ↦
                    [AV.bool (SB.sym (b a 0)), AV.int IntKind.u32 (SI.sym (n a 1)), AV.int IntKind.u8 (SI.sym (n a 2)),
                      AV.int IntKind.u8 (SI.sym (n a 3)), AV.int IntKind.u8 (SI.sym (n a 4)),
                      AV.int IntKind.i64 (SI.sym (n a 5))])
                  none)),
            (1,
              some
                (AObj.box
                  [AV.int IntKind.u32 (SI.sym pn), AV.int IntKind.u8 (SI.sym pw), AV.int IntKind.u32 (SI.sym an),
                    AV.int IntKind.u8 (SI.sym aw), AV.int IntKind.u8 (SI.sym k), AV.int IntKind.u8 (SI.sym o),
                    AV.int IntKind.i64 (SI.sym v)])),
            (2,
              some
                (AObj.box
                  [AV.int IntKind.u32 (SI.sym pn), AV.int IntKind.u8 (SI.sym pw), AV.int IntKind.u32 (SI.sym an),
                    AV.int IntKind.u8 (SI.sym aw), AV.int IntKind.u8 (SI.sym k), AV.int IntKind.u8 (SI.sym o),
                    AV.int IntKind.i64 (SI.sym v), AV.bool (SB.sym has)]))],
        key := 0 }) := by kernel_rfl

theorem p3_R9 (len : Int) (n : Nat → Nat → Int) (b : Nat → Nat → Bool) (i pn pw an aw k o v : Int) (has : Bool) (τ0 : Tm) : codeT Try.prog bdT 300 3 Try.f3.ntmps c3R9 ([(0, .sl 0), (2, .bool (.lit false)), (3, .ptr 1 0), (4, .ptr 2 0), (5, .int .i64 (.sym i))] ++ τ0) (mkHeap [(0, lstO len n b), (1, .box (box7 pn pw an aw k o v)), (2, .box (box8 pn pw an aw k o v has))]) 3 (outK [0, 2, 3, 4, 5, 6] [0, 1, 2, 5, 7, 9, 11, 13]) =
  Tree.must (decide (0 ≤ i ∧ i < len))
    (Tree.must (decide (0 ≤ i ∧ i < len))
      (Tree.leaf
        { ex := Ex.normal,
          tm :=
            [(0, AV.sl 0), (2, AV.bool (SB.lit false)), (3, AV.ptr 1 0), (4, AV.ptr 2 0),
              (5, AV.int IntKind.i64 (SI.sym i)), (6, AV.ptr 11 0)],
          heap :=
            [(0,
                some
                  (AObj.lst (SI.sym len) 6
                    (fun (a : Nat) ↦
                      [AV.bool (SB.sym (b a 0)), AV.int IntKind.u32 (SI.sym (n a 1)),
                        AV.int IntKind.u8 (SI.sym (n a 2)), AV.int IntKind.u8 (SI.sym (n a 3)),
                        AV.int IntKind.u8 (SI.sym (n a 4)), AV.int IntKind.i64 (SI.sym (n a 5))])
                    none)),
              (1,
                some
                  (AObj.box
                    [AV.int IntKind.u32 (SI.sym pn), AV.int IntKind.u8 (SI.sym pw), AV.int IntKind.u32 (SI.sym an),
                      AV.int IntKind.u8 (SI.sym aw), AV.int IntKind.u8 (SI.sym k), AV.int IntKind.u8 (SI.sym o),
                      AV.int IntKind.i64 (SI.sym v)])),
              (2,
                some
                  (AObj.box
                    [AV.int IntKind.u32 (SI.sym pn), AV.int IntKind.u8 (SI.sym pw), AV.int IntKind.u32 (SI.sym an),
                      AV.int IntKind.u8 (SI.sym aw), AV.int IntKind.u8 (SI.sym k), AV.int IntKind.u8 (SI.sym o),
                      AV.int IntKind.i64 (SI.sym v), AV.bool (SB.sym has)])),
              (5, none), (7, none), (9, none),
              (11,
                some
                  (AObj.box
                    [AV.bool (SB.sym (b i.toNat 0)), AV.int IntKind.u32 (SI.sym (n i.toNat 1)),
                      AV.int IntKind.u8 (SI.sym (n i.toNat 2)), AV.int IntKind.u8 (SI.sym (n i.toNat 3)),
                      AV.int IntKind.u8 (SI.sym (n i.toNat 4)), AV.int IntKind.i64 (SI.sym (n i.toNat 5))])),
              (13, none)],
          key := 0 })) := by kernel_rfl

theorem p3_X3 (len : Int) (n : Nat → Nat → Int) (b : Nat → Nat → Bool) (i pn pw an aw k o v : Int) (has s0 : Bool) (s1 s2 s3 s4 s5 : Int) (τ0 : Tm) : codeT Try.prog bdT 300 3 Try.f3.ntmps c3X3 ([(0, .sl 0), (2, .bool (.lit false)), (3, .ptr 1 0), (4, .ptr 2 0), (5, .int .i64 (.sym i)), (6, .ptr 3 0)] ++ τ0) (mkHeap [(0, lstO len n b), (1, .box (box7 pn pw an aw k o v)), (2, .box (box8 pn pw an aw k o v has)), (3, .box [.bool (.sym s0), .int .u32 (.sym s1), .int .u8 (.sym s2), .int .u8 (.sym s3), .int .u8 (.sym s4), .int .i64 (.sym s5)])]) 4 (outK [0, 2, 3, 4, 5] [0, 1, 2]) =
  Tree.ite s0
    (Tree.ite (acCode pn pw s1 s2 s3 s4 s5 != acCode pn pw s1 s2 s3 s4 s5)
      (Tree.leaf
        { ex := Ex.ret,
          tm :=
            [(0, AV.sl 0), (2, AV.bool (SB.lit false)), (3, AV.ptr 1 0), (4, AV.ptr 2 0),
              (5, AV.int IntKind.i64 (SI.sym i))],
          heap :=
            [(0,
                some
                  (AObj.lst (SI.sym len) 6
                    (fun (a : Nat) ↦
                      [AV.bool (SB.sym (b a 0)), AV.int IntKind.u32 (SI.sym (n a 1)),
                        AV.int IntKind.u8 (SI.sym (n a 2)), AV.int IntKind.u8 (SI.sym (n a 3)),
                        AV.int IntKind.u8 (SI.sym (n a 4)), AV.int IntKind.i64 (SI.sym (n a 5))])
                    none)),
              (1,
                some
                  (AObj.box
                    [AV.int IntKind.u32 (SI.sym (bif acOk pn pw s1 s2 s3 s4 s5 then s1 else pn)),
                      AV.int IntKind.u8 (SI.sym (bif acOk pn pw s1 s2 s3 s4 s5 then s2 else pw)),
                      AV.int IntKind.u32 (SI.sym (bif acOk pn pw s1 s2 s3 s4 s5 then s1 else an)),
                      AV.int IntKind.u8 (SI.sym (bif acOk pn pw s1 s2 s3 s4 s5 then s2 else aw)),
                      AV.int IntKind.u8 (SI.sym (bif acOk pn pw s1 s2 s3 s4 s5 then s3 else k)),
                      AV.int IntKind.u8 (SI.sym (bif acOk pn pw s1 s2 s3 s4 s5 then s4 else o)),
                      AV.int IntKind.i64 (SI.sym (bif acOk pn pw s1 s2 s3 s4 s5 then s5 else v))])),
              (2,
                some
                  (AObj.box
                    [AV.int IntKind.u32 (SI.sym (bif acOk pn pw s1 s2 s3 s4 s5 then s1 else pn)),
                      AV.int IntKind.u8 (SI.sym (bif acOk pn pw s1 s2 s3 s4 s5 then s2 else pw)),
                      AV.int IntKind.u32 (SI.sym (bif acOk pn pw s1 s2 s3 s4 s5 then s1 else an)),
                      AV.int IntKind.u8 (SI.sym (bif acOk pn pw s1 s2 s3 s4 s5 then s2 else aw)),
                      AV.int IntKind.u8 (SI.sym (bif acOk pn pw s1 s2 s3 s4 s5 then s3 else k)),
                      AV.int IntKind.u8 (SI.sym (bif acOk pn pw s1 s2 s3 s4 s5 then s4 else o)),
                      AV.int IntKind.i64 (SI.sym (bif acOk pn pw s1 s2 s3 s4 s5 then s5 else v)),
                      AV.bool (SB.sym (acOk pn pw s1 s2 s3 s4 s5 || has))]))],
          key := 0 })
      (Tree.leaf
        { ex := Ex.normal,
          tm :=
            [(0, AV.sl 0), (2, AV.bool (SB.lit false)), (3, AV.ptr 1 0), (4, AV.ptr 2 0),
              (5, AV.int IntKind.i64 (SI.sym i))],
          heap :=
            [(0,
                some
                  (AObj.lst (SI.sym len) 6
                    (fun (a : Nat) ↦
                      [AV.bool (SB.sym (b a 0)), AV.int IntKind.u32 (SI.sym (n a 1)),
                        AV.int IntKind.u8 (SI.sym (n a 2)), AV.int IntKind.u8 (SI.sym (n a 3)),
                        AV.int IntKind.u8 (SI.sym (n a 4)), AV.int IntKind.i64 (SI.sym (n a 5))])
                    none)),
              (1,
                some
                  (AObj.box
                    [AV.int IntKind.u32 (SI.sym (bif acOk pn pw s1 s2 s3 s4 s5 then s1 else pn)),
                      AV.int IntKind.u8 (SI.sym (bif acOk pn pw s1 s2 s3 s4 s5 then s2 else pw)),
                      AV.int IntKind.u32 (SI.sym (bif acOk pn pw s1 s2 s3 s4 s5 then s1 else an)),
                      AV.int IntKind.u8 (SI.sym (bif acOk pn pw s1 s2 s3 s4 s5 then s2 else aw)),
                      AV.int IntKind.u8 (SI.sym (bif acOk pn pw s1 s2 s3 s4 s5 then s3 else k)),
                      AV.int IntKind.u8 (SI.sym (bif acOk pn pw s1 s2 s3 s4 s5 then s4 else o)),
                      AV.int IntKind.i64 (SI.sym (bif acOk pn pw s1 s2 s3 s4 s5 then s5 else v))])),
              (2,
                some
                  (AObj.box
                    [AV.int IntKind.u32 (SI.sym (bif acOk pn pw s1 s2 s3 s4 s5 then s1 else pn)),
                      AV.int IntKind.u8 (SI.sym (bif acOk pn pw s1 s2 s3 s4 s5 then s2 else pw)),
                      AV.int IntKind.u32 (SI.sym (bif acOk pn pw s1 s2 s3 s4 s5 then s1 else an)),
                      AV.int IntKind.u8 (SI.sym (bif acOk pn pw s1 s2 s3 s4 s5 then s2 else aw)),
                      AV.int IntKind.u8 (SI.sym (bif acOk pn pw s1 s2 s3 s4 s5 then s3 else k)),
                      AV.int IntKind.u8 (SI.sym (bif acOk pn pw s1 s2 s3 s4 s5 then s4 else o)),
                      AV.int IntKind.i64 (SI.sym (bif acOk pn pw s1 s2 s3 s4 s5 then s5 else v)),
                      AV.bool (SB.sym (acOk pn pw s1 s2 s3 s4 s5 || has))]))],
          key := 0 }))
    (Tree.ite (prCode pn pw s1 s2 != prCode pn pw s1 s2)
      (Tree.leaf
        { ex := Ex.ret,
          tm :=
            [(0, AV.sl 0), (2, AV.bool (SB.lit false)), (3, AV.ptr 1 0), (4, AV.ptr 2 0),
              (5, AV.int IntKind.i64 (SI.sym i))],
          heap :=
            [(0,
                some
                  (AObj.lst (SI.sym len) 6
                    (fun (a : Nat) ↦
                      [AV.bool (SB.sym (b a 0)), AV.int IntKind.u32 (SI.sym (n a 1)),
                        AV.int IntKind.u8 (SI.sym (n a 2)), AV.int IntKind.u8 (SI.sym (n a 3)),
                        AV.int IntKind.u8 (SI.sym (n a 4)), AV.int IntKind.i64 (SI.sym (n a 5))])
                    none)),
              (1,
                some
                  (AObj.box
                    [AV.int IntKind.u32 (SI.sym (bif prOk pn pw s1 s2 then s1 else pn)),
                      AV.int IntKind.u8 (SI.sym (bif prOk pn pw s1 s2 then s2 else pw)), AV.int IntKind.u32 (SI.sym an),
                      AV.int IntKind.u8 (SI.sym aw), AV.int IntKind.u8 (SI.sym k), AV.int IntKind.u8 (SI.sym o),
                      AV.int IntKind.i64 (SI.sym v)])),
              (2,
                some
                  (AObj.box
                    [AV.int IntKind.u32 (SI.sym (bif prOk pn pw s1 s2 then s1 else pn)),
                      AV.int IntKind.u8 (SI.sym (bif prOk pn pw s1 s2 then s2 else pw)), AV.int IntKind.u32 (SI.sym an),
                      AV.int IntKind.u8 (SI.sym aw), AV.int IntKind.u8 (SI.sym k), AV.int IntKind.u8 (SI.sym o),
                      AV.int IntKind.i64 (SI.sym v), AV.bool (SB.sym has)]))],
          key := 0 })
      (Tree.ite (prCode pn pw s1 s2 == 0)
        (Tree.ite (!((bif prOk pn pw s1 s2 then an else 0) == an && (bif prOk pn pw s1 s2 then aw else 0) == aw))
          (Tree.leaf
            { ex := Ex.ret,
              tm :=
                [(0, AV.sl 0), (2, AV.bool (SB.lit false)), (3, AV.ptr 1 0), (4, AV.ptr 2 0),
                  (5, AV.int IntKind.i64 (SI.sym i))],
              heap :=
                [(0,
                    some
                      (AObj.lst (SI.sym len) 6
                        (fun (a : Nat) ↦
                          [AV.bool (SB.sym (b a 0)), AV.int IntKind.u32 (SI.sym (n a 1)),
                            AV.int IntKind.u8 (SI.sym (n a 2)), AV.int IntKind.u8 (SI.sym (n a 3)),
                            AV.int IntKind.u8 (SI.sym (n a 4)), AV.int IntKind.i64 (SI.sym (n a 5))])
                        none)),
                  (1,
                    some
                      (AObj.box
                        [AV.int IntKind.u32 (SI.sym (bif prOk pn pw s1 s2 then s1 else pn)),
                          AV.int IntKind.u8 (SI.sym (bif prOk pn pw s1 s2 then s2 else pw)),
                          AV.int IntKind.u32 (SI.sym an), AV.int IntKind.u8 (SI.sym aw), AV.int IntKind.u8 (SI.sym k),
                          AV.int IntKind.u8 (SI.sym o), AV.int IntKind.i64 (SI.sym v)])),
                  (2,
                    some
                      (AObj.box
                        [AV.int IntKind.u32 (SI.sym (bif prOk pn pw s1 s2 then s1 else pn)),
                          AV.int IntKind.u8 (SI.sym (bif prOk pn pw s1 s2 then s2 else pw)),
                          AV.int IntKind.u32 (SI.sym an), AV.int IntKind.u8 (SI.sym aw), AV.int IntKind.u8 (SI.sym k),
                          AV.int IntKind.u8 (SI.sym o), AV.int IntKind.i64 (SI.sym v), AV.bool (SB.sym has)]))],
              key := 0 })
          (Tree.ite
            (!((bif prOk pn pw s1 s2 then k else 0) == k &&
                ((bif prOk pn pw s1 s2 then o else 0) == o && (bif prOk pn pw s1 s2 then v else 0) == v)))
            (Tree.leaf
              { ex := Ex.ret,
                tm :=
                  [(0, AV.sl 0), (2, AV.bool (SB.lit false)), (3, AV.ptr 1 0), (4, AV.ptr 2 0),
                    (5, AV.int IntKind.i64 (SI.sym i))],
                heap :=
                  [(0,
                      some
                        (AObj.lst (SI.sym len) 6
                          (fun (a : Nat) ↦
                            [AV.bool (SB.sym (b a 0)), AV.int IntKind.u32 (SI.sym (n a 1)),
                              AV.int IntKind.u8 (SI.sym (n a 2)), AV.int IntKind.u8 (SI.sym (n a 3)),
                              AV.int IntKind.u8 (SI.sym (n a 4)), AV.int IntKind.i64 (SI.sym (n a 5))])
                          none)),
                    (1,
                      some
                        (AObj.box
                          [AV.int IntKind.u32 (SI.sym (bif prOk pn pw s1 s2 then s1 else pn)),
                            AV.int IntKind.u8 (SI.sym (bif prOk pn pw s1 s2 then s2 else pw)),
                            AV.int IntKind.u32 (SI.sym an), AV.int IntKind.u8 (SI.sym aw), AV.int IntKind.u8 (SI.sym k),
                            AV.int IntKind.u8 (SI.sym o), AV.int IntKind.i64 (SI.sym v)])),
                    (2,
                      some
                        (AObj.box
                          [AV.int IntKind.u32 (SI.sym (bif prOk pn pw s1 s2 then s1 else pn)),
                            AV.int IntKind.u8 (SI.sym (bif prOk pn pw s1 s2 then s2 else pw)),
                            AV.int IntKind.u32 (SI.sym an), AV.int IntKind.u8 (SI.sym aw), AV.int IntKind.u8 (SI.sym k),
                            AV.int IntKind.u8 (SI.sym o), AV.int IntKind.i64 (SI.sym v), AV.bool (SB.sym has)]))],
                key := 0 })
            (Tree.ite (!(prOk pn pw s1 s2 && !(an == 0 && aw == 0)) == has)
              (Tree.leaf
                { ex := Ex.ret,
                  tm :=
                    [(0, AV.sl 0), (2, AV.bool (SB.lit false)), (3, AV.ptr 1 0), (4, AV.ptr 2 0),
                      (5, AV.int IntKind.i64 (SI.sym i))],
                  heap :=
                    [(0,
                        some
                          (AObj.lst (SI.sym len) 6
                            (fun (a : Nat) ↦
                              [AV.bool (SB.sym (b a 0)), AV.int IntKind.u32 (SI.sym (n a 1)),
                                AV.int IntKind.u8 (SI.sym (n a 2)), AV.int IntKind.u8 (SI.sym (n a 3)),
                                AV.int IntKind.u8 (SI.sym (n a 4)), AV.int IntKind.i64 (SI.sym (n a 5))])
                            none)),
                      (1,
                        some
                          (AObj.box
                            [AV.int IntKind.u32 (SI.sym (bif prOk pn pw s1 s2 then s1 else pn)),
                              AV.int IntKind.u8 (SI.sym (bif prOk pn pw s1 s2 then s2 else pw)),
                              AV.int IntKind.u32 (SI.sym an), AV.int IntKind.u8 (SI.sym aw),
                              AV.int IntKind.u8 (SI.sym k), AV.int IntKind.u8 (SI.sym o),
                              AV.int IntKind.i64 (SI.sym v)])),
                      (2,
                        some
                          (AObj.box
                            [AV.int IntKind.u32 (SI.sym (bif prOk pn pw s1 s2 then s1 else pn)),
                              AV.int IntKind.u8 (SI.sym (bif prOk pn pw s1 s2 then s2 else pw)),
                              AV.int IntKind.u32 (SI.sym an), AV.int IntKind.u8 (SI.sym aw),
                              AV.int IntKind.u8 (SI.sym k), AV.int IntKind.u8 (SI.sym o), AV.int IntKind.i64 (SI.sym v),
                              AV.bool (SB.sym has)]))],
                  key := 0 })
              (Tree.leaf
                { ex := Ex.normal,
                  tm :=
                    [(0, AV.sl 0), (2, AV.bool (SB.lit false)), (3, AV.ptr 1 0), (4, AV.ptr 2 0),
                      (5, AV.int IntKind.i64 (SI.sym i))],
                  heap :=
                    [(0,
                        some
                          (AObj.lst (SI.sym len) 6
                            (fun (a : Nat) ↦
                              [AV.bool (SB.sym (b a 0)), AV.int IntKind.u32 (SI.sym (n a 1)),
                                AV.int IntKind.u8 (SI.sym (n a 2)), AV.int IntKind.u8 (SI.sym (n a 3)),
                                AV.int IntKind.u8 (SI.sym (n a 4)), AV.int IntKind.i64 (SI.sym (n a 5))])
                            none)),
                      (1,
                        some
                          (AObj.box
                            [AV.int IntKind.u32 (SI.sym (bif prOk pn pw s1 s2 then s1 else pn)),
                              AV.int IntKind.u8 (SI.sym (bif prOk pn pw s1 s2 then s2 else pw)),
                              AV.int IntKind.u32 (SI.sym an), AV.int IntKind.u8 (SI.sym aw),
                              AV.int IntKind.u8 (SI.sym k), AV.int IntKind.u8 (SI.sym o),
                              AV.int IntKind.i64 (SI.sym v)])),
                      (2,
                        some
                          (AObj.box
                            [AV.int IntKind.u32 (SI.sym (bif prOk pn pw s1 s2 then s1 else pn)),
                              AV.int IntKind.u8 (SI.sym (bif prOk pn pw s1 s2 then s2 else pw)),
                              AV.int IntKind.u32 (SI.sym an), AV.int IntKind.u8 (SI.sym aw),
                              AV.int IntKind.u8 (SI.sym k), AV.int IntKind.u8 (SI.sym o), AV.int IntKind.i64 (SI.sym v),
                              AV.bool (SB.sym has)]))],
                  key := 0 }))))
        (Tree.leaf
          { ex := Ex.normal,
            tm :=
              [(0, AV.sl 0), (2, AV.bool (SB.lit false)), (3, AV.ptr 1 0), (4, AV.ptr 2 0),
                (5, AV.int IntKind.i64 (SI.sym i))],
            heap :=
              [(0,
                  some
                    (AObj.lst (SI.sym len) 6
                      (fun (a : Nat) ↦
                        [AV.bool (SB.sym (b a 0)), AV.int IntKind.u32 (SI.sym (n a 1)),
                          AV.int IntKind.u8 (SI.sym (n a 2)), AV.int IntKind.u8 (SI.sym (n a 3)),
                          AV.int IntKind.u8 (SI.sym (n a 4)), AV.int IntKind.i64 (SI.sym (n a 5))])
                      none)),
                (1,
                  some
                    (AObj.box
                      [AV.int IntKind.u32 (SI.sym (bif prOk pn pw s1 s2 then s1 else pn)),
                        AV.int IntKind.u8 (SI.sym (bif prOk pn pw s1 s2 then s2 else pw)),
                        AV.int IntKind.u32 (SI.sym an), AV.int IntKind.u8 (SI.sym aw), AV.int IntKind.u8 (SI.sym k),
                        AV.int IntKind.u8 (SI.sym o), AV.int IntKind.i64 (SI.sym v)])),
                (2,
                  some
                    (AObj.box
                      [AV.int IntKind.u32 (SI.sym (bif prOk pn pw s1 s2 then s1 else pn)),
                        AV.int IntKind.u8 (SI.sym (bif prOk pn pw s1 s2 then s2 else pw)),
                        AV.int IntKind.u32 (SI.sym an), AV.int IntKind.u8 (SI.sym aw), AV.int IntKind.u8 (SI.sym k),
                        AV.int IntKind.u8 (SI.sym o), AV.int IntKind.i64 (SI.sym v), AV.bool (SB.sym has)]))],
            key := 0 }))) := by kernel_rfl

theorem p3_X4 (len : Int) (n : Nat → Nat → Int) (b : Nat → Nat → Bool) (i pn pw an aw k o v : Int) (has : Bool) (τ0 : Tm) : codeT Try.prog bdT 300 3 Try.f3.ntmps c3X4 ([(0, .sl 0), (2, .bool (.lit false)), (3, .ptr 1 0), (4, .ptr 2 0), (5, .int .i64 (.sym i))] ++ τ0) (mkHeap [(0, lstO len n b), (1, .box (box7 pn pw an aw k o v)), (2, .box (box8 pn pw an aw k o v has))]) 3 (outK [0, 2, 3, 4, 5] [0, 1, 2]) =
  Tree.ite (!(pn == pn && pw == pw))
    (Tree.leaf
      { ex := Ex.ret,
        tm :=
          [(0, AV.sl 0), (2, AV.bool (SB.lit false)), (3, AV.ptr 1 0), (4, AV.ptr 2 0),
            (5, AV.int IntKind.i64 (SI.sym i))],
        heap :=
          [(0,
              some
                (AObj.lst (SI.sym len) 6
                  (fun (a : Nat) ↦
                    [AV.bool (SB.sym (b a 0)), AV.int IntKind.u32 (SI.sym (n a 1)), AV.int IntKind.u8 (SI.sym (n a 2)),
                      AV.int IntKind.u8 (SI.sym (n a 3)), AV.int IntKind.u8 (SI.sym (n a 4)),
                      AV.int IntKind.i64 (SI.sym (n a 5))])
                  none)),
            (1,
              some
                (AObj.box
                  [AV.int IntKind.u32 (SI.sym pn), AV.int IntKind.u8 (SI.sym pw), AV.int IntKind.u32 (SI.sym an),
                    AV.int IntKind.u8 (SI.sym aw), AV.int IntKind.u8 (SI.sym k), AV.int IntKind.u8 (SI.sym o),
                    AV.int IntKind.i64 (SI.sym v)])),
            (2,
              some
                (AObj.box
                  [AV.int IntKind.u32 (SI.sym pn), AV.int IntKind.u8 (SI.sym pw), AV.int IntKind.u32 (SI.sym an),
                    AV.int IntKind.u8 (SI.sym aw), AV.int IntKind.u8 (SI.sym k), AV.int IntKind.u8 (SI.sym o),
                    AV.int IntKind.i64 (SI.sym v), AV.bool (SB.sym has)]))],
        key := 0 })
    (Tree.ite (!(an == an && aw == aw))
      (Tree.leaf
        { ex := Ex.ret,
          tm :=
            [(0, AV.sl 0), (2, AV.bool (SB.lit false)), (3, AV.ptr 1 0), (4, AV.ptr 2 0),
              (5, AV.int IntKind.i64 (SI.sym i))],
          heap :=
            [(0,
                some
                  (AObj.lst (SI.sym len) 6
                    (fun (a : Nat) ↦
                      [AV.bool (SB.sym (b a 0)), AV.int IntKind.u32 (SI.sym (n a 1)),
                        AV.int IntKind.u8 (SI.sym (n a 2)), AV.int IntKind.u8 (SI.sym (n a 3)),
                        AV.int IntKind.u8 (SI.sym (n a 4)), AV.int IntKind.i64 (SI.sym (n a 5))])
                    none)),
              (1,
                some
                  (AObj.box
                    [AV.int IntKind.u32 (SI.sym pn), AV.int IntKind.u8 (SI.sym pw), AV.int IntKind.u32 (SI.sym an),
                      AV.int IntKind.u8 (SI.sym aw), AV.int IntKind.u8 (SI.sym k), AV.int IntKind.u8 (SI.sym o),
                      AV.int IntKind.i64 (SI.sym v)])),
              (2,
                some
                  (AObj.box
                    [AV.int IntKind.u32 (SI.sym pn), AV.int IntKind.u8 (SI.sym pw), AV.int IntKind.u32 (SI.sym an),
                      AV.int IntKind.u8 (SI.sym aw), AV.int IntKind.u8 (SI.sym k), AV.int IntKind.u8 (SI.sym o),
                      AV.int IntKind.i64 (SI.sym v), AV.bool (SB.sym has)]))],
          key := 0 })
      (Tree.ite (!(k == k && (o == o && v == v)))
        (Tree.leaf
          { ex := Ex.ret,
            tm :=
              [(0, AV.sl 0), (2, AV.bool (SB.lit false)), (3, AV.ptr 1 0), (4, AV.ptr 2 0),
                (5, AV.int IntKind.i64 (SI.sym i))],
            heap :=
              [(0,
                  some
                    (AObj.lst (SI.sym len) 6
                      (fun (a : Nat) ↦
                        [AV.bool (SB.sym (b a 0)), AV.int IntKind.u32 (SI.sym (n a 1)),
                          AV.int IntKind.u8 (SI.sym (n a 2)), AV.int IntKind.u8 (SI.sym (n a 3)),
                          AV.int IntKind.u8 (SI.sym (n a 4)), AV.int IntKind.i64 (SI.sym (n a 5))])
                      none)),
                (1,
                  some
                    (AObj.box
                      [AV.int IntKind.u32 (SI.sym pn), AV.int IntKind.u8 (SI.sym pw), AV.int IntKind.u32 (SI.sym an),
                        AV.int IntKind.u8 (SI.sym aw), AV.int IntKind.u8 (SI.sym k), AV.int IntKind.u8 (SI.sym o),
                        AV.int IntKind.i64 (SI.sym v)])),
                (2,
                  some
                    (AObj.box
                      [AV.int IntKind.u32 (SI.sym pn), AV.int IntKind.u8 (SI.sym pw), AV.int IntKind.u32 (SI.sym an),
                        AV.int IntKind.u8 (SI.sym aw), AV.int IntKind.u8 (SI.sym k), AV.int IntKind.u8 (SI.sym o),
                        AV.int IntKind.i64 (SI.sym v), AV.bool (SB.sym has)]))],
            key := 0 })
        (Tree.ite (!(!(an == 0 && aw == 0)) == has)
          (Tree.leaf
            { ex := Ex.ret,
              tm :=
                [(0, AV.sl 0), (2, AV.bool (SB.lit false)), (3, AV.ptr 1 0), (4, AV.ptr 2 0),
                  (5, AV.int IntKind.i64 (SI.sym i))],
              heap :=
                [(0,
                    some
                      (AObj.lst (SI.sym len) 6
                        (fun (a : Nat) ↦
                          [AV.bool (SB.sym (b a 0)), AV.int IntKind.u32 (SI.sym (n a 1)),
                            AV.int IntKind.u8 (SI.sym (n a 2)), AV.int IntKind.u8 (SI.sym (n a 3)),
                            AV.int IntKind.u8 (SI.sym (n a 4)), AV.int IntKind.i64 (SI.sym (n a 5))])
                        none)),
                  (1,
                    some
                      (AObj.box
                        [AV.int IntKind.u32 (SI.sym pn), AV.int IntKind.u8 (SI.sym pw), AV.int IntKind.u32 (SI.sym an),
                          AV.int IntKind.u8 (SI.sym aw), AV.int IntKind.u8 (SI.sym k), AV.int IntKind.u8 (SI.sym o),
                          AV.int IntKind.i64 (SI.sym v)])),
                  (2,
                    some
                      (AObj.box
                        [AV.int IntKind.u32 (SI.sym pn), AV.int IntKind.u8 (SI.sym pw), AV.int IntKind.u32 (SI.sym an),
                          AV.int IntKind.u8 (SI.sym aw), AV.int IntKind.u8 (SI.sym k), AV.int IntKind.u8 (SI.sym o),
                          AV.int IntKind.i64 (SI.sym v), AV.bool (SB.sym has)]))],
              key := 0 })
          (Tree.leaf
            { ex := Ex.normal,
              tm :=
                [(0, AV.sl 0), (2, AV.bool (SB.lit false)), (3, AV.ptr 1 0), (4, AV.ptr 2 0),
                  (5, AV.int IntKind.i64 (SI.sym i))],
              heap :=
                [(0,
                    some
                      (AObj.lst (SI.sym len) 6
                        (fun (a : Nat) ↦
                          [AV.bool (SB.sym (b a 0)), AV.int IntKind.u32 (SI.sym (n a 1)),
                            AV.int IntKind.u8 (SI.sym (n a 2)), AV.int IntKind.u8 (SI.sym (n a 3)),
                            AV.int IntKind.u8 (SI.sym (n a 4)), AV.int IntKind.i64 (SI.sym (n a 5))])
                        none)),
                  (1,
                    some
                      (AObj.box
                        [AV.int IntKind.u32 (SI.sym pn), AV.int IntKind.u8 (SI.sym pw), AV.int IntKind.u32 (SI.sym an),
                          AV.int IntKind.u8 (SI.sym aw), AV.int IntKind.u8 (SI.sym k), AV.int IntKind.u8 (SI.sym o),
                          AV.int IntKind.i64 (SI.sym v)])),
                  (2,
                    some
                      (AObj.box
                        [AV.int IntKind.u32 (SI.sym pn), AV.int IntKind.u8 (SI.sym pw), AV.int IntKind.u32 (SI.sym an),
                          AV.int IntKind.u8 (SI.sym aw), AV.int IntKind.u8 (SI.sym k), AV.int IntKind.u8 (SI.sym o),
                          AV.int IntKind.i64 (SI.sym v), AV.bool (SB.sym has)]))],
              key := 0 })))) := by kernel_rfl

theorem p3_R8 (len : Int) (n : Nat → Nat → Int) (b : Nat → Nat → Bool) (i pn pw an aw k o v : Int) (has : Bool) (τ0 : Tm) : codeT Try.prog bdT 300 3 Try.f3.ntmps c3R8 ([(0, .sl 0), (2, .bool (.lit false)), (3, .ptr 1 0), (4, .ptr 2 0), (5, .int .i64 (.sym i))] ++ τ0) (mkHeap [(0, lstO len n b), (1, .box (box7 pn pw an aw k o v)), (2, .box (box8 pn pw an aw k o v has))]) 3 (outK [0, 2, 3, 4, 5] [0, 1, 2]) =
  Tree.leaf
    { ex := Ex.normal,
      tm :=
        [(0, AV.sl 0), (2, AV.bool (SB.lit false)), (3, AV.ptr 1 0), (4, AV.ptr 2 0),
          (5, AV.int IntKind.i64 (SI.sym (IntKind.i64.wrap (i + 1))))],
      heap :=
        [(0,
            some
              (AObj.lst (SI.sym len) 6
                (fun (a : Nat) ↦
                  [AV.bool (SB.sym (b a 0)), AV.int IntKind.u32 (SI.sym (n a 1)), AV.int IntKind.u8 (SI.sym (n a 2)),
                    AV.int IntKind.u8 (SI.sym (n a 3)), AV.int IntKind.u8 (SI.sym (n a 4)),
                    AV.int IntKind.i64 (SI.sym (n a 5))])
                none)),
          (1,
            some
              (AObj.box
                [AV.int IntKind.u32 (SI.sym pn), AV.int IntKind.u8 (SI.sym pw), AV.int IntKind.u32 (SI.sym an),
                  AV.int IntKind.u8 (SI.sym aw), AV.int IntKind.u8 (SI.sym k), AV.int IntKind.u8 (SI.sym o),
                  AV.int IntKind.i64 (SI.sym v)])),
          (2,
            some
              (AObj.box
                [AV.int IntKind.u32 (SI.sym pn), AV.int IntKind.u8 (SI.sym pw), AV.int IntKind.u32 (SI.sym an),
                  AV.int IntKind.u8 (SI.sym aw), AV.int IntKind.u8 (SI.sym k), AV.int IntKind.u8 (SI.sym o),
                  AV.int IntKind.i64 (SI.sym v), AV.bool (SB.sym has)]))],
      key := 0 } := by kernel_rfl

theorem p3_T (τ0 : Tm) : codeT Try.prog bdT 300 3 Try.f3.ntmps c3T ([] ++ τ0) (mkHeap []) 0 (outK [2] []) =
  Tree.leaf { ex := Ex.ret, tm := [(2, AV.bool (SB.lit true))], heap := [], key := 0 } := by kernel_rfl


end Go.Proofs.Ytobknnmalnfknaa
