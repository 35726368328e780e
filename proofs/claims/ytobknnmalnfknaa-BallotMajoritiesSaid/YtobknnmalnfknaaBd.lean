/- Acceptors: what their methods come to.
   Conditions: none. -/
import Derived.Test.YtobknnmalnfknaaEngT
import Derived.Test.YtobknnmalnfknaaBc
set_option linter.unusedSimpArgs false
set_option linter.unusedVariables false
namespace Go.Proofs.Ytobknnmalnfknaa
open Go.Eng Go.RowKit
set_option maxRecDepth 100000

theorem accept_tree (pn pw an aw k o v n w xk xo xv : Int) : callW Try.prog (codeT Try.prog baT 300) 18 [.ptr 0 0, .agg [.int .u32 (.sym n), .int .u8 (.sym w)], .agg [.int .u8 (.sym xk), .int .u8 (.sym xo), .int .i64 (.sym xv)]] (mkHeap [(0, .box [.int .u32 (.sym pn), .int .u8 (.sym pw), .int .u32 (.sym an), .int .u8 (.sym aw), .int .u8 (.sym k), .int .u8 (.sym o), .int .i64 (.sym v)])]) 1 (outC [0]) =
  Tree.ite (!isB n w)
    (Tree.leaf
      (AV.int IntKind.i64 (SI.lit 10),
        [(0,
            some
              (AObj.box
                [AV.int IntKind.u32 (SI.sym pn), AV.int IntKind.u8 (SI.sym pw), AV.int IntKind.u32 (SI.sym an),
                  AV.int IntKind.u8 (SI.sym aw), AV.int IntKind.u8 (SI.sym k), AV.int IntKind.u8 (SI.sym o),
                  AV.int IntKind.i64 (SI.sym v)]))]))
    (Tree.ite (!isIncB xk xo xv)
      (Tree.leaf
        (AV.int IntKind.i64 (SI.lit 10),
          [(0,
              some
                (AObj.box
                  [AV.int IntKind.u32 (SI.sym pn), AV.int IntKind.u8 (SI.sym pw), AV.int IntKind.u32 (SI.sym an),
                    AV.int IntKind.u8 (SI.sym aw), AV.int IntKind.u8 (SI.sym k), AV.int IntKind.u8 (SI.sym o),
                    AV.int IntKind.i64 (SI.sym v)]))]))
      (Tree.ite (lessB n w pn pw)
        (Tree.leaf
          (AV.int IntKind.i64 (SI.lit 100),
            [(0,
                some
                  (AObj.box
                    [AV.int IntKind.u32 (SI.sym pn), AV.int IntKind.u8 (SI.sym pw), AV.int IntKind.u32 (SI.sym an),
                      AV.int IntKind.u8 (SI.sym aw), AV.int IntKind.u8 (SI.sym k), AV.int IntKind.u8 (SI.sym o),
                      AV.int IntKind.i64 (SI.sym v)]))]))
        (Tree.leaf
          (AV.int IntKind.i64 (SI.lit 0),
            [(0,
                some
                  (AObj.box
                    [AV.int IntKind.u32 (SI.sym n), AV.int IntKind.u8 (SI.sym w), AV.int IntKind.u32 (SI.sym n),
                      AV.int IntKind.u8 (SI.sym w), AV.int IntKind.u8 (SI.sym xk), AV.int IntKind.u8 (SI.sym xo),
                      AV.int IntKind.i64 (SI.sym xv)]))])))) := by kernel_rfl

theorem raccept_tree (pn pw an aw k o v n w xk xo xv : Int) (has : Bool) : callW Try.prog (codeT Try.prog baT 300) 19 [.ptr 0 0, .agg [.int .u32 (.sym n), .int .u8 (.sym w)], .agg [.int .u8 (.sym xk), .int .u8 (.sym xo), .int .i64 (.sym xv)]] (mkHeap [(0, .box [.int .u32 (.sym pn), .int .u8 (.sym pw), .int .u32 (.sym an), .int .u8 (.sym aw), .int .u8 (.sym k), .int .u8 (.sym o), .int .i64 (.sym v), .bool (.sym has)])]) 1 (outC [0]) =
  Tree.ite (!isB n w)
    (Tree.leaf
      (AV.int IntKind.i64 (SI.lit 10),
        [(0,
            some
              (AObj.box
                [AV.int IntKind.u32 (SI.sym pn), AV.int IntKind.u8 (SI.sym pw), AV.int IntKind.u32 (SI.sym an),
                  AV.int IntKind.u8 (SI.sym aw), AV.int IntKind.u8 (SI.sym k), AV.int IntKind.u8 (SI.sym o),
                  AV.int IntKind.i64 (SI.sym v), AV.bool (SB.sym has)]))]))
    (Tree.ite (!isIncB xk xo xv)
      (Tree.leaf
        (AV.int IntKind.i64 (SI.lit 10),
          [(0,
              some
                (AObj.box
                  [AV.int IntKind.u32 (SI.sym pn), AV.int IntKind.u8 (SI.sym pw), AV.int IntKind.u32 (SI.sym an),
                    AV.int IntKind.u8 (SI.sym aw), AV.int IntKind.u8 (SI.sym k), AV.int IntKind.u8 (SI.sym o),
                    AV.int IntKind.i64 (SI.sym v), AV.bool (SB.sym has)]))]))
      (Tree.ite (lessB n w pn pw)
        (Tree.leaf
          (AV.int IntKind.i64 (SI.lit 100),
            [(0,
                some
                  (AObj.box
                    [AV.int IntKind.u32 (SI.sym pn), AV.int IntKind.u8 (SI.sym pw), AV.int IntKind.u32 (SI.sym an),
                      AV.int IntKind.u8 (SI.sym aw), AV.int IntKind.u8 (SI.sym k), AV.int IntKind.u8 (SI.sym o),
                      AV.int IntKind.i64 (SI.sym v), AV.bool (SB.sym has)]))]))
        (Tree.leaf
          (AV.int IntKind.i64 (SI.lit 0),
            [(0,
                some
                  (AObj.box
                    [AV.int IntKind.u32 (SI.sym n), AV.int IntKind.u8 (SI.sym w), AV.int IntKind.u32 (SI.sym n),
                      AV.int IntKind.u8 (SI.sym w), AV.int IntKind.u8 (SI.sym xk), AV.int IntKind.u8 (SI.sym xo),
                      AV.int IntKind.i64 (SI.sym xv), AV.bool (SB.lit true)]))])))) := by kernel_rfl

theorem prepare_tree (pn pw an aw k o v n w : Int) : callW Try.prog (codeT Try.prog baT 300) 20 [.ptr 0 0, .agg [.int .u32 (.sym n), .int .u8 (.sym w)]] (mkHeap [(0, .box [.int .u32 (.sym pn), .int .u8 (.sym pw), .int .u32 (.sym an), .int .u8 (.sym aw), .int .u8 (.sym k), .int .u8 (.sym o), .int .i64 (.sym v)])]) 1 (outC [0]) =
  Tree.ite (!isB n w)
    (Tree.leaf
      (AV.tup
          [AV.agg [AV.int IntKind.u32 (SI.lit 0), AV.int IntKind.u8 (SI.lit 0)],
            AV.agg [AV.int IntKind.u8 (SI.lit 0), AV.int IntKind.u8 (SI.lit 0), AV.int IntKind.i64 (SI.lit 0)],
            AV.bool (SB.lit false), AV.int IntKind.i64 (SI.lit 10)],
        [(0,
            some
              (AObj.box
                [AV.int IntKind.u32 (SI.sym pn), AV.int IntKind.u8 (SI.sym pw), AV.int IntKind.u32 (SI.sym an),
                  AV.int IntKind.u8 (SI.sym aw), AV.int IntKind.u8 (SI.sym k), AV.int IntKind.u8 (SI.sym o),
                  AV.int IntKind.i64 (SI.sym v)]))]))
    (Tree.ite (lessB n w pn pw)
      (Tree.leaf
        (AV.tup
            [AV.agg [AV.int IntKind.u32 (SI.lit 0), AV.int IntKind.u8 (SI.lit 0)],
              AV.agg [AV.int IntKind.u8 (SI.lit 0), AV.int IntKind.u8 (SI.lit 0), AV.int IntKind.i64 (SI.lit 0)],
              AV.bool (SB.lit false), AV.int IntKind.i64 (SI.lit 100)],
          [(0,
              some
                (AObj.box
                  [AV.int IntKind.u32 (SI.sym pn), AV.int IntKind.u8 (SI.sym pw), AV.int IntKind.u32 (SI.sym an),
                    AV.int IntKind.u8 (SI.sym aw), AV.int IntKind.u8 (SI.sym k), AV.int IntKind.u8 (SI.sym o),
                    AV.int IntKind.i64 (SI.sym v)]))]))
      (Tree.leaf
        (AV.tup
            [AV.agg [AV.int IntKind.u32 (SI.sym an), AV.int IntKind.u8 (SI.sym aw)],
              AV.agg [AV.int IntKind.u8 (SI.sym k), AV.int IntKind.u8 (SI.sym o), AV.int IntKind.i64 (SI.sym v)],
              AV.bool (SB.sym !(an == 0 && aw == 0)), AV.int IntKind.i64 (SI.lit 0)],
          [(0,
              some
                (AObj.box
                  [AV.int IntKind.u32 (SI.sym n), AV.int IntKind.u8 (SI.sym w), AV.int IntKind.u32 (SI.sym an),
                    AV.int IntKind.u8 (SI.sym aw), AV.int IntKind.u8 (SI.sym k), AV.int IntKind.u8 (SI.sym o),
                    AV.int IntKind.i64 (SI.sym v)]))]))) := by kernel_rfl

theorem rprepare_tree (pn pw an aw k o v n w : Int) (has : Bool) : callW Try.prog (codeT Try.prog baT 300) 21 [.ptr 0 0, .agg [.int .u32 (.sym n), .int .u8 (.sym w)]] (mkHeap [(0, .box [.int .u32 (.sym pn), .int .u8 (.sym pw), .int .u32 (.sym an), .int .u8 (.sym aw), .int .u8 (.sym k), .int .u8 (.sym o), .int .i64 (.sym v), .bool (.sym has)])]) 1 (outC [0]) =
  Tree.ite (!isB n w)
    (Tree.leaf
      (AV.int IntKind.i64 (SI.lit 10),
        [(0,
            some
              (AObj.box
                [AV.int IntKind.u32 (SI.sym pn), AV.int IntKind.u8 (SI.sym pw), AV.int IntKind.u32 (SI.sym an),
                  AV.int IntKind.u8 (SI.sym aw), AV.int IntKind.u8 (SI.sym k), AV.int IntKind.u8 (SI.sym o),
                  AV.int IntKind.i64 (SI.sym v), AV.bool (SB.sym has)]))]))
    (Tree.ite (lessB n w pn pw)
      (Tree.leaf
        (AV.int IntKind.i64 (SI.lit 100),
          [(0,
              some
                (AObj.box
                  [AV.int IntKind.u32 (SI.sym pn), AV.int IntKind.u8 (SI.sym pw), AV.int IntKind.u32 (SI.sym an),
                    AV.int IntKind.u8 (SI.sym aw), AV.int IntKind.u8 (SI.sym k), AV.int IntKind.u8 (SI.sym o),
                    AV.int IntKind.i64 (SI.sym v), AV.bool (SB.sym has)]))]))
      (Tree.leaf
        (AV.int IntKind.i64 (SI.lit 0),
          [(0,
              some
                (AObj.box
                  [AV.int IntKind.u32 (SI.sym n), AV.int IntKind.u8 (SI.sym w), AV.int IntKind.u32 (SI.sym an),
                    AV.int IntKind.u8 (SI.sym aw), AV.int IntKind.u8 (SI.sym k), AV.int IntKind.u8 (SI.sym o),
                    AV.int IntKind.i64 (SI.sym v), AV.bool (SB.sym has)]))]))) := by kernel_rfl

theorem accepted_tree (pn pw an aw k o v : Int) : callW Try.prog (codeT Try.prog baT 300) 22 [.ptr 0 0] (mkHeap [(0, .box [.int .u32 (.sym pn), .int .u8 (.sym pw), .int .u32 (.sym an), .int .u8 (.sym aw), .int .u8 (.sym k), .int .u8 (.sym o), .int .i64 (.sym v)])]) 1 (outC [0]) =
  Tree.leaf
    (AV.tup
        [AV.agg [AV.int IntKind.u32 (SI.sym an), AV.int IntKind.u8 (SI.sym aw)],
          AV.agg [AV.int IntKind.u8 (SI.sym k), AV.int IntKind.u8 (SI.sym o), AV.int IntKind.i64 (SI.sym v)],
          AV.bool (SB.sym !(an == 0 && aw == 0))],
      [(0,
          some
            (AObj.box
              [AV.int IntKind.u32 (SI.sym pn), AV.int IntKind.u8 (SI.sym pw), AV.int IntKind.u32 (SI.sym an),
                AV.int IntKind.u8 (SI.sym aw), AV.int IntKind.u8 (SI.sym k), AV.int IntKind.u8 (SI.sym o),
                AV.int IntKind.i64 (SI.sym v)]))]) := by kernel_rfl

theorem promised_tree (pn pw an aw k o v : Int) : callW Try.prog (codeT Try.prog baT 300) 23 [.ptr 0 0] (mkHeap [(0, .box [.int .u32 (.sym pn), .int .u8 (.sym pw), .int .u32 (.sym an), .int .u8 (.sym aw), .int .u8 (.sym k), .int .u8 (.sym o), .int .i64 (.sym v)])]) 1 (outC [0]) =
  Tree.leaf
    (AV.agg [AV.int IntKind.u32 (SI.sym pn), AV.int IntKind.u8 (SI.sym pw)],
      [(0,
          some
            (AObj.box
              [AV.int IntKind.u32 (SI.sym pn), AV.int IntKind.u8 (SI.sym pw), AV.int IntKind.u32 (SI.sym an),
                AV.int IntKind.u8 (SI.sym aw), AV.int IntKind.u8 (SI.sym k), AV.int IntKind.u8 (SI.sym o),
                AV.int IntKind.i64 (SI.sym v)]))]) := by kernel_rfl


def acOk (pn pw n w xk xo xv : Int) : Bool := isB n w && isIncB xk xo xv && !lessB n w pn pw
def acCode (pn pw n w xk xo xv : Int) : Int := cond (isB n w && isIncB xk xo xv) (cond (lessB n w pn pw) 100 0) 10
def prOk (pn pw n w : Int) : Bool := isB n w && !lessB n w pn pw
def prCode (pn pw n w : Int) : Int := cond (isB n w) (cond (lessB n w pn pw) 100 0) 10

def box7 (pn pw an aw k o v : Int) : List AV := [.int .u32 (.sym pn), .int .u8 (.sym pw), .int .u32 (.sym an), .int .u8 (.sym aw), .int .u8 (.sym k), .int .u8 (.sym o), .int .i64 (.sym v)]
def box8 (pn pw an aw k o v : Int) (has : Bool) : List AV := [.int .u32 (.sym pn), .int .u8 (.sym pw), .int .u32 (.sym an), .int .u8 (.sym aw), .int .u8 (.sym k), .int .u8 (.sym o), .int .i64 (.sym v), .bool (.sym has)]
def accBox (pn pw an aw k o v n w xk xo xv : Int) : List AV :=
  box7 (cond (acOk pn pw n w xk xo xv) n pn) (cond (acOk pn pw n w xk xo xv) w pw) (cond (acOk pn pw n w xk xo xv) n an) (cond (acOk pn pw n w xk xo xv) w aw) (cond (acOk pn pw n w xk xo xv) xk k) (cond (acOk pn pw n w xk xo xv) xo o) (cond (acOk pn pw n w xk xo xv) xv v)
def accBox8 (pn pw an aw k o v n w xk xo xv : Int) (has : Bool) : List AV :=
  box8 (cond (acOk pn pw n w xk xo xv) n pn) (cond (acOk pn pw n w xk xo xv) w pw) (cond (acOk pn pw n w xk xo xv) n an) (cond (acOk pn pw n w xk xo xv) w aw) (cond (acOk pn pw n w xk xo xv) xk k) (cond (acOk pn pw n w xk xo xv) xo o) (cond (acOk pn pw n w xk xo xv) xv v) (acOk pn pw n w xk xo xv || has)
def preBox (pn pw an aw k o v n w : Int) : List AV := box7 (cond (prOk pn pw n w) n pn) (cond (prOk pn pw n w) w pw) an aw k o v
def preBox8 (pn pw an aw k o v n w : Int) (has : Bool) : List AV := box8 (cond (prOk pn pw n w) n pn) (cond (prOk pn pw n w) w pw) an aw k o v has
def preV (pn pw an aw k o v n w : Int) : AV := .tup [.agg [.int .u32 (.sym (cond (prOk pn pw n w) an 0)), .int .u8 (.sym (cond (prOk pn pw n w) aw 0))],
  .agg [.int .u8 (.sym (cond (prOk pn pw n w) k 0)), .int .u8 (.sym (cond (prOk pn pw n w) o 0)), .int .i64 (.sym (cond (prOk pn pw n w) v 0))], .bool (.sym (prOk pn pw n w && !(an == 0 && aw == 0))), .int .i64 (.sym (prCode pn pw n w))]
def accdV (an aw k o v : Int) : AV := .tup [.agg [.int .u32 (.sym an), .int .u8 (.sym aw)], .agg [.int .u8 (.sym k), .int .u8 (.sym o), .int .i64 (.sym v)], .bool (.sym (!(an == 0 && aw == 0)))]

def accE : List AV → Heap → Option FitN
  | [.ptr k 0, .agg [.int .u32 n, .int .u8 w], .agg [.int .u8 xk, .int .u8 xo, .int .i64 xv]], h => match hget k h with
    | some (.box [.int .u32 pn, .int .u8 pw, .int .u32 an, .int .u8 aw, .int .u8 ik, .int .u8 io, .int .i64 iv]) =>
      some ⟨[k], [], [.ptr 0 0, .agg [.int .u32 (.sym n.v), .int .u8 (.sym w.v)], .agg [.int .u8 (.sym xk.v), .int .u8 (.sym xo.v), .int .i64 (.sym xv.v)]], [(0, .box (box7 pn.v pw.v an.v aw.v ik.v io.v iv.v))], 0, [(0, .box (accBox pn.v pw.v an.v aw.v ik.v io.v iv.v n.v w.v xk.v xo.v xv.v))],
        .int .i64 (.sym (acCode pn.v pw.v n.v w.v xk.v xo.v xv.v))⟩
    | _ => none
  | _, _ => none
def raccE : List AV → Heap → Option FitN
  | [.ptr k 0, .agg [.int .u32 n, .int .u8 w], .agg [.int .u8 xk, .int .u8 xo, .int .i64 xv]], h => match hget k h with
    | some (.box [.int .u32 pn, .int .u8 pw, .int .u32 an, .int .u8 aw, .int .u8 ik, .int .u8 io, .int .i64 iv, .bool has]) =>
      some ⟨[k], [], [.ptr 0 0, .agg [.int .u32 (.sym n.v), .int .u8 (.sym w.v)], .agg [.int .u8 (.sym xk.v), .int .u8 (.sym xo.v), .int .i64 (.sym xv.v)]], [(0, .box (box8 pn.v pw.v an.v aw.v ik.v io.v iv.v has.v))], 0, [(0, .box (accBox8 pn.v pw.v an.v aw.v ik.v io.v iv.v n.v w.v xk.v xo.v xv.v has.v))],
        .int .i64 (.sym (acCode pn.v pw.v n.v w.v xk.v xo.v xv.v))⟩
    | _ => none
  | _, _ => none
def preE : List AV → Heap → Option FitN
  | [.ptr k 0, .agg [.int .u32 n, .int .u8 w]], h => match hget k h with
    | some (.box [.int .u32 pn, .int .u8 pw, .int .u32 an, .int .u8 aw, .int .u8 ik, .int .u8 io, .int .i64 iv]) =>
      some ⟨[k], [], [.ptr 0 0, .agg [.int .u32 (.sym n.v), .int .u8 (.sym w.v)]], [(0, .box (box7 pn.v pw.v an.v aw.v ik.v io.v iv.v))], 0, [(0, .box (preBox pn.v pw.v an.v aw.v ik.v io.v iv.v n.v w.v))], preV pn.v pw.v an.v aw.v ik.v io.v iv.v n.v w.v⟩
    | _ => none
  | _, _ => none
def rpreE : List AV → Heap → Option FitN
  | [.ptr k 0, .agg [.int .u32 n, .int .u8 w]], h => match hget k h with
    | some (.box [.int .u32 pn, .int .u8 pw, .int .u32 an, .int .u8 aw, .int .u8 ik, .int .u8 io, .int .i64 iv, .bool has]) =>
      some ⟨[k], [], [.ptr 0 0, .agg [.int .u32 (.sym n.v), .int .u8 (.sym w.v)]], [(0, .box (box8 pn.v pw.v an.v aw.v ik.v io.v iv.v has.v))], 0, [(0, .box (preBox8 pn.v pw.v an.v aw.v ik.v io.v iv.v n.v w.v has.v))], .int .i64 (.sym (prCode pn.v pw.v n.v w.v))⟩
    | _ => none
  | _, _ => none

theorem accE_ok : SummAll Try.prog 18 (stdSummN accE) := stdSummN_ok fun args h q e => by
  unfold accE at e
  split at e
  · split at e
    · rename_i hk
      cases e
      refine box1_fit hk rfl (fun E => rfl) rfl rfl (fun E => rfl) rfl (box1_std baTab mixed (n := 300) rfl rfl rfl rfl ?_)
      unfold box7
      rw [accept_tree]
      repeat' (first | refine holds_ite (fun h => ?_) (fun h => ?_) | refine holds_leaf ⟨fun E _ => ?_, _, rfl, fun E => ?_⟩)
      all_goals (simp_all [den, denL, SI.v, acCode, accBox, box7, acOk])
    · cases e
  · cases e
theorem raccE_ok : SummAll Try.prog 19 (stdSummN raccE) := stdSummN_ok fun args h q e => by
  unfold raccE at e
  split at e
  · split at e
    · rename_i hk
      cases e
      refine box1_fit hk rfl (fun E => rfl) rfl rfl (fun E => rfl) rfl (box1_std baTab mixed (n := 300) rfl rfl rfl rfl ?_)
      unfold box8
      rw [raccept_tree]
      repeat' (first | refine holds_ite (fun h => ?_) (fun h => ?_) | refine holds_leaf ⟨fun E _ => ?_, _, rfl, fun E => ?_⟩)
      all_goals (simp_all [den, denL, SI.v, SB.v, acCode, accBox8, box8, acOk])
    · cases e
  · cases e
theorem preE_ok : SummAll Try.prog 20 (stdSummN preE) := stdSummN_ok fun args h q e => by
  unfold preE at e
  split at e
  · split at e
    · rename_i hk
      cases e
      refine box1_fit hk rfl (fun E => rfl) rfl rfl (fun E => rfl) rfl (box1_std baTab mixed (n := 300) rfl rfl rfl rfl ?_)
      unfold box7
      rw [prepare_tree]
      repeat' (first | refine holds_ite (fun h => ?_) (fun h => ?_) | refine holds_leaf ⟨fun E _ => ?_, _, rfl, fun E => ?_⟩)
      all_goals (simp_all [den, denL, SI.v, SB.v, prCode, preBox, preV, box7, prOk])
    · cases e
  · cases e
theorem rpreE_ok : SummAll Try.prog 21 (stdSummN rpreE) := stdSummN_ok fun args h q e => by
  unfold rpreE at e
  split at e
  · split at e
    · rename_i hk
      cases e
      refine box1_fit hk rfl (fun E => rfl) rfl rfl (fun E => rfl) rfl (box1_std baTab mixed (n := 300) rfl rfl rfl rfl ?_)
      unfold box8
      rw [rprepare_tree]
      repeat' (first | refine holds_ite (fun h => ?_) (fun h => ?_) | refine holds_leaf ⟨fun E _ => ?_, _, rfl, fun E => ?_⟩)
      all_goals (simp_all [den, denL, SI.v, SB.v, prCode, preBox8, box8, prOk])
    · cases e
  · cases e

def methods : List (FuncId × Summ) := (18, stdSummN accE) :: (19, stdSummN raccE) :: (20, stdSummN preE) :: (21, stdSummN rpreE) :: smalls
theorem methods_ok : AllOk Try.prog methods := ⟨accE_ok, raccE_ok, preE_ok, rpreE_ok, smalls_ok⟩
def bdT : Tab := smTab (tabOf methods)
theorem bdTab : TabAll Try.prog bdT := tab_ok methods_ok
end Go.Proofs.Ytobknnmalnfknaa
