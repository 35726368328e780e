/- Maps: what an increment makes; a table of summaries.
   Conditions: none. -/
import Derived.Test.YtobknnmalnfknaaMa
set_option linter.unusedSimpArgs false
set_option linter.unusedVariables false
namespace Go.Proofs.Ytobknnmalnfknaa
open Go.Eng Go.RowKit
set_option maxRecDepth 100000
theorem apply_tree (e w0 h0 w1 h1 w2 h2 w3 h3 w4 h4 : Int) (k o n : Int) (u0 u1 u2 u3 u4 : Bool) : runV Try.prog maT 200 26 [.agg [.int .u32 (.sym e), .bool (.sym u0), .int .i64 (.sym w0), .int .u8 (.sym h0), .bool (.sym u1), .int .i64 (.sym w1), .int .u8 (.sym h1), .bool (.sym u2), .int .i64 (.sym w2), .int .u8 (.sym h2), .bool (.sym u3), .int .i64 (.sym w3), .int .u8 (.sym h3), .bool (.sym u4), .int .i64 (.sym w4), .int .u8 (.sym h4)], .agg [.int .u8 (.sym k), .int .u8 (.sym o), .int .i64 (.sym n)]] =
  .ite (!isMapB e w0 h0 w1 h1 w2 h2 w3 h3 w4 h4) (.leaf (.tup [.agg [.int .u32 (.lit 0), .bool (.lit false), .int .i64 (.lit 0), .int .u8 (.lit 0), .bool (.lit false), .int .i64 (.lit 0), .int .u8 (.lit 0), .bool (.lit
  false), .int .i64 (.lit 0), .int .u8 (.lit 0), .bool (.lit false), .int .i64 (.lit 0), .int .u8 (.lit 0), .bool (.lit false), .int .i64 (.lit 0), .int .u8 (.lit 0)], .int .i64 (.lit 40)])) (.ite (!isIncB k o n) (.leaf
  (.tup [.agg [.int .u32 (.lit 0), .bool (.lit false), .int .i64 (.lit 0), .int .u8 (.lit 0), .bool (.lit false), .int .i64 (.lit 0), .int .u8 (.lit 0), .bool (.lit false), .int .i64 (.lit 0), .int .u8 (.lit 0), .bool
  (.lit false), .int .i64 (.lit 0), .int .u8 (.lit 0), .bool (.lit false), .int .i64 (.lit 0), .int .u8 (.lit 0)], .int .i64 (.lit 40)])) (.ite (e == 60) (.leaf (.tup [.agg [.int .u32 (.lit 0), .bool (.lit false), .int
  .i64 (.lit 0), .int .u8 (.lit 0), .bool (.lit false), .int .i64 (.lit 0), .int .u8 (.lit 0), .bool (.lit false), .int .i64 (.lit 0), .int .u8 (.lit 0), .bool (.lit false), .int .i64 (.lit 0), .int .u8 (.lit 0), .bool
  (.lit false), .int .i64 (.lit 0), .int .u8 (.lit 0)], .int .i64 (.lit 40)])) (.defI (IntKind.u32.wrap (e + 1)) fun z0 => .ite (decide (o = 0)) (.ite (k == 1) (.leaf (.tup [.agg [.int .u32 (.sym z0), .bool (.lit true),
  .int .i64 (.sym w0), .int .u8 (.sym h0), .bool (.sym u1), .int .i64 (.sym w1), .int .u8 (.sym h1), .bool (.sym u2), .int .i64 (.sym w2), .int .u8 (.sym h2), .bool (.sym u3), .int .i64 (.sym w3), .int .u8 (.sym h3), .bool
  (.sym u4), .int .i64 (.sym w4), .int .u8 (.sym h4)], .int .i64 (.lit 0)])) (.ite (k == 2) (.leaf (.tup [.agg [.int .u32 (.sym z0), .bool (.lit false), .int .i64 (.sym w0), .int .u8 (.sym h0), .bool (.sym u1), .int .i64
  (.sym w1), .int .u8 (.sym h1), .bool (.sym u2), .int .i64 (.sym w2), .int .u8 (.sym h2), .bool (.sym u3), .int .i64 (.sym w3), .int .u8 (.sym h3), .bool (.sym u4), .int .i64 (.sym w4), .int .u8 (.sym h4)], .int .i64
  (.lit 0)])) (.ite (k == 3) (.leaf (.tup [.agg [.int .u32 (.sym z0), .bool (.sym u0), .int .i64 (.sym n), .int .u8 (.sym h0), .bool (.sym u1), .int .i64 (.sym w1), .int .u8 (.sym h1), .bool (.sym u2), .int .i64 (.sym w2),
  .int .u8 (.sym h2), .bool (.sym u3), .int .i64 (.sym w3), .int .u8 (.sym h3), .bool (.sym u4), .int .i64 (.sym w4), .int .u8 (.sym h4)], .int .i64 (.lit 0)])) (.leaf (.tup [.agg [.int .u32 (.sym z0), .bool (.sym u0),
  .int .i64 (.sym w0), .int .u8 (.sym h0), .bool (.sym u1), .int .i64 (.sym w1), .int .u8 (.sym h1), .bool (.sym u2), .int .i64 (.sym w2), .int .u8 (.sym h2), .bool (.sym u3), .int .i64 (.sym w3), .int .u8 (.sym h3), .bool
  (.sym u4), .int .i64 (.sym w4), .int .u8 (.sym h4)], .int .i64 (.lit 0)]))))) (.ite (decide (o = 1)) (.ite (k == 1) (.leaf (.tup [.agg [.int .u32 (.sym z0), .bool (.sym u0), .int .i64 (.sym w0), .int .u8 (.sym h0), .bool
  (.lit true), .int .i64 (.sym w1), .int .u8 (.sym h1), .bool (.sym u2), .int .i64 (.sym w2), .int .u8 (.sym h2), .bool (.sym u3), .int .i64 (.sym w3), .int .u8 (.sym h3), .bool (.sym u4), .int .i64 (.sym w4), .int .u8
  (.sym h4)], .int .i64 (.lit 0)])) (.ite (k == 2) (.leaf (.tup [.agg [.int .u32 (.sym z0), .bool (.sym u0), .int .i64 (.sym w0), .int .u8 (.sym h0), .bool (.lit false), .int .i64 (.sym w1), .int .u8 (.sym h1), .bool (.sym
  u2), .int .i64 (.sym w2), .int .u8 (.sym h2), .bool (.sym u3), .int .i64 (.sym w3), .int .u8 (.sym h3), .bool (.sym u4), .int .i64 (.sym w4), .int .u8 (.sym h4)], .int .i64 (.lit 0)])) (.ite (k == 3) (.leaf (.tup [.agg
  [.int .u32 (.sym z0), .bool (.sym u0), .int .i64 (.sym w0), .int .u8 (.sym h0), .bool (.sym u1), .int .i64 (.sym n), .int .u8 (.sym h1), .bool (.sym u2), .int .i64 (.sym w2), .int .u8 (.sym h2), .bool (.sym u3), .int
  .i64 (.sym w3), .int .u8 (.sym h3), .bool (.sym u4), .int .i64 (.sym w4), .int .u8 (.sym h4)], .int .i64 (.lit 0)])) (.leaf (.tup [.agg [.int .u32 (.sym z0), .bool (.sym u0), .int .i64 (.sym w0), .int .u8 (.sym h0),
  .bool (.sym u1), .int .i64 (.sym w1), .int .u8 (.sym h1), .bool (.sym u2), .int .i64 (.sym w2), .int .u8 (.sym h2), .bool (.sym u3), .int .i64 (.sym w3), .int .u8 (.sym h3), .bool (.sym u4), .int .i64 (.sym w4), .int .u8
  (.sym h4)], .int .i64 (.lit 0)]))))) (.ite (decide (o = 2)) (.ite (k == 1) (.leaf (.tup [.agg [.int .u32 (.sym z0), .bool (.sym u0), .int .i64 (.sym w0), .int .u8 (.sym h0), .bool (.sym u1), .int .i64 (.sym w1), .int .u8
  (.sym h1), .bool (.lit true), .int .i64 (.sym w2), .int .u8 (.sym h2), .bool (.sym u3), .int .i64 (.sym w3), .int .u8 (.sym h3), .bool (.sym u4), .int .i64 (.sym w4), .int .u8 (.sym h4)], .int .i64 (.lit 0)])) (.ite (k
  == 2) (.leaf (.tup [.agg [.int .u32 (.sym z0), .bool (.sym u0), .int .i64 (.sym w0), .int .u8 (.sym h0), .bool (.sym u1), .int .i64 (.sym w1), .int .u8 (.sym h1), .bool (.lit false), .int .i64 (.sym w2), .int .u8 (.sym
  h2), .bool (.sym u3), .int .i64 (.sym w3), .int .u8 (.sym h3), .bool (.sym u4), .int .i64 (.sym w4), .int .u8 (.sym h4)], .int .i64 (.lit 0)])) (.ite (k == 3) (.leaf (.tup [.agg [.int .u32 (.sym z0), .bool (.sym u0),
  .int .i64 (.sym w0), .int .u8 (.sym h0), .bool (.sym u1), .int .i64 (.sym w1), .int .u8 (.sym h1), .bool (.sym u2), .int .i64 (.sym n), .int .u8 (.sym h2), .bool (.sym u3), .int .i64 (.sym w3), .int .u8 (.sym h3), .bool
  (.sym u4), .int .i64 (.sym w4), .int .u8 (.sym h4)], .int .i64 (.lit 0)])) (.leaf (.tup [.agg [.int .u32 (.sym z0), .bool (.sym u0), .int .i64 (.sym w0), .int .u8 (.sym h0), .bool (.sym u1), .int .i64 (.sym w1), .int .u8
  (.sym h1), .bool (.sym u2), .int .i64 (.sym w2), .int .u8 (.sym h2), .bool (.sym u3), .int .i64 (.sym w3), .int .u8 (.sym h3), .bool (.sym u4), .int .i64 (.sym w4), .int .u8 (.sym h4)], .int .i64 (.lit 0)]))))) (.ite
  (decide (o = 3)) (.ite (k == 1) (.leaf (.tup [.agg [.int .u32 (.sym z0), .bool (.sym u0), .int .i64 (.sym w0), .int .u8 (.sym h0), .bool (.sym u1), .int .i64 (.sym w1), .int .u8 (.sym h1), .bool (.sym u2), .int .i64
  (.sym w2), .int .u8 (.sym h2), .bool (.lit true), .int .i64 (.sym w3), .int .u8 (.sym h3), .bool (.sym u4), .int .i64 (.sym w4), .int .u8 (.sym h4)], .int .i64 (.lit 0)])) (.ite (k == 2) (.leaf (.tup [.agg [.int .u32
  (.sym z0), .bool (.sym u0), .int .i64 (.sym w0), .int .u8 (.sym h0), .bool (.sym u1), .int .i64 (.sym w1), .int .u8 (.sym h1), .bool (.sym u2), .int .i64 (.sym w2), .int .u8 (.sym h2), .bool (.lit false), .int .i64 (.sym
  w3), .int .u8 (.sym h3), .bool (.sym u4), .int .i64 (.sym w4), .int .u8 (.sym h4)], .int .i64 (.lit 0)])) (.ite (k == 3) (.leaf (.tup [.agg [.int .u32 (.sym z0), .bool (.sym u0), .int .i64 (.sym w0), .int .u8 (.sym h0),
  .bool (.sym u1), .int .i64 (.sym w1), .int .u8 (.sym h1), .bool (.sym u2), .int .i64 (.sym w2), .int .u8 (.sym h2), .bool (.sym u3), .int .i64 (.sym n), .int .u8 (.sym h3), .bool (.sym u4), .int .i64 (.sym w4), .int .u8
  (.sym h4)], .int .i64 (.lit 0)])) (.leaf (.tup [.agg [.int .u32 (.sym z0), .bool (.sym u0), .int .i64 (.sym w0), .int .u8 (.sym h0), .bool (.sym u1), .int .i64 (.sym w1), .int .u8 (.sym h1), .bool (.sym u2), .int .i64
  (.sym w2), .int .u8 (.sym h2), .bool (.sym u3), .int .i64 (.sym w3), .int .u8 (.sym h3), .bool (.sym u4), .int .i64 (.sym w4), .int .u8 (.sym h4)], .int .i64 (.lit 0)]))))) (.ite (decide (o = 4)) (.ite (k == 1) (.leaf
  (.tup [.agg [.int .u32 (.sym z0), .bool (.sym u0), .int .i64 (.sym w0), .int .u8 (.sym h0), .bool (.sym u1), .int .i64 (.sym w1), .int .u8 (.sym h1), .bool (.sym u2), .int .i64 (.sym w2), .int .u8 (.sym h2), .bool (.sym
  u3), .int .i64 (.sym w3), .int .u8 (.sym h3), .bool (.lit true), .int .i64 (.sym w4), .int .u8 (.sym h4)], .int .i64 (.lit 0)])) (.ite (k == 2) (.leaf (.tup [.agg [.int .u32 (.sym z0), .bool (.sym u0), .int .i64 (.sym
  w0), .int .u8 (.sym h0), .bool (.sym u1), .int .i64 (.sym w1), .int .u8 (.sym h1), .bool (.sym u2), .int .i64 (.sym w2), .int .u8 (.sym h2), .bool (.sym u3), .int .i64 (.sym w3), .int .u8 (.sym h3), .bool (.lit false),
  .int .i64 (.sym w4), .int .u8 (.sym h4)], .int .i64 (.lit 0)])) (.ite (k == 3) (.leaf (.tup [.agg [.int .u32 (.sym z0), .bool (.sym u0), .int .i64 (.sym w0), .int .u8 (.sym h0), .bool (.sym u1), .int .i64 (.sym w1), .int
  .u8 (.sym h1), .bool (.sym u2), .int .i64 (.sym w2), .int .u8 (.sym h2), .bool (.sym u3), .int .i64 (.sym w3), .int .u8 (.sym h3), .bool (.sym u4), .int .i64 (.sym n), .int .u8 (.sym h4)], .int .i64 (.lit 0)])) (.leaf
  (.tup [.agg [.int .u32 (.sym z0), .bool (.sym u0), .int .i64 (.sym w0), .int .u8 (.sym h0), .bool (.sym u1), .int .i64 (.sym w1), .int .u8 (.sym h1), .bool (.sym u2), .int .i64 (.sym w2), .int .u8 (.sym h2), .bool (.sym
  u3), .int .i64 (.sym w3), .int .u8 (.sym h3), .bool (.sym u4), .int .i64 (.sym w4), .int .u8 (.sym h4)], .int .i64 (.lit 0)]))))) (.must false (.fail "index"))))))))) := by kernel_rfl

theorem rapply_tree (e w0 h0 w1 h1 w2 h2 w3 h3 w4 h4 : Int) (k o n : Int) (u0 u1 u2 u3 u4 : Bool) : runV Try.prog maT 200 27 [.agg [.int .u32 (.sym e), .bool (.sym u0), .int .i64 (.sym w0), .int .u8 (.sym h0), .bool (.sym u1), .int .i64 (.sym w1), .int .u8 (.sym h1), .bool (.sym u2), .int .i64 (.sym w2), .int .u8 (.sym h2), .bool (.sym u3), .int .i64 (.sym w3), .int .u8 (.sym h3), .bool (.sym u4), .int .i64 (.sym w4), .int .u8 (.sym h4)], .agg [.int .u8 (.sym k), .int .u8 (.sym o), .int .i64 (.sym n)]] =
  .ite (!isMapB e w0 h0 w1 h1 w2 h2 w3 h3 w4 h4) (.leaf (.tup [.agg [.int .u32 (.lit 0), .bool (.lit false), .int .i64 (.lit 0), .int .u8 (.lit 0), .bool (.lit false), .int .i64 (.lit 0), .int .u8 (.lit 0), .bool (.lit
  false), .int .i64 (.lit 0), .int .u8 (.lit 0), .bool (.lit false), .int .i64 (.lit 0), .int .u8 (.lit 0), .bool (.lit false), .int .i64 (.lit 0), .int .u8 (.lit 0)], .bool (.lit false)])) (.ite (!isIncB k o n) (.leaf
  (.tup [.agg [.int .u32 (.lit 0), .bool (.lit false), .int .i64 (.lit 0), .int .u8 (.lit 0), .bool (.lit false), .int .i64 (.lit 0), .int .u8 (.lit 0), .bool (.lit false), .int .i64 (.lit 0), .int .u8 (.lit 0), .bool
  (.lit false), .int .i64 (.lit 0), .int .u8 (.lit 0), .bool (.lit false), .int .i64 (.lit 0), .int .u8 (.lit 0)], .bool (.lit false)])) (.ite (decide (e ≥ 60)) (.leaf (.tup [.agg [.int .u32 (.lit 0), .bool (.lit false),
  .int .i64 (.lit 0), .int .u8 (.lit 0), .bool (.lit false), .int .i64 (.lit 0), .int .u8 (.lit 0), .bool (.lit false), .int .i64 (.lit 0), .int .u8 (.lit 0), .bool (.lit false), .int .i64 (.lit 0), .int .u8 (.lit 0),
  .bool (.lit false), .int .i64 (.lit 0), .int .u8 (.lit 0)], .bool (.lit false)])) (.defI (IntKind.u32.wrap (e + 1)) fun z0 => .ite (k == 1) (.ite (decide (o = 0)) (.leaf (.tup [.agg [.int .u32 (.sym z0), .bool (.sym (k
  == 1)), .int .i64 (.sym w0), .int .u8 (.sym h0), .bool (.sym u1), .int .i64 (.sym w1), .int .u8 (.sym h1), .bool (.sym u2), .int .i64 (.sym w2), .int .u8 (.sym h2), .bool (.sym u3), .int .i64 (.sym w3), .int .u8 (.sym
  h3), .bool (.sym u4), .int .i64 (.sym w4), .int .u8 (.sym h4)], .bool (.lit true)])) (.ite (decide (o = 1)) (.leaf (.tup [.agg [.int .u32 (.sym z0), .bool (.sym u0), .int .i64 (.sym w0), .int .u8 (.sym h0), .bool (.sym
  (k == 1)), .int .i64 (.sym w1), .int .u8 (.sym h1), .bool (.sym u2), .int .i64 (.sym w2), .int .u8 (.sym h2), .bool (.sym u3), .int .i64 (.sym w3), .int .u8 (.sym h3), .bool (.sym u4), .int .i64 (.sym w4), .int .u8 (.sym
  h4)], .bool (.lit true)])) (.ite (decide (o = 2)) (.leaf (.tup [.agg [.int .u32 (.sym z0), .bool (.sym u0), .int .i64 (.sym w0), .int .u8 (.sym h0), .bool (.sym u1), .int .i64 (.sym w1), .int .u8 (.sym h1), .bool (.sym
  (k == 1)), .int .i64 (.sym w2), .int .u8 (.sym h2), .bool (.sym u3), .int .i64 (.sym w3), .int .u8 (.sym h3), .bool (.sym u4), .int .i64 (.sym w4), .int .u8 (.sym h4)], .bool (.lit true)])) (.ite (decide (o = 3)) (.leaf
  (.tup [.agg [.int .u32 (.sym z0), .bool (.sym u0), .int .i64 (.sym w0), .int .u8 (.sym h0), .bool (.sym u1), .int .i64 (.sym w1), .int .u8 (.sym h1), .bool (.sym u2), .int .i64 (.sym w2), .int .u8 (.sym h2), .bool (.sym
  (k == 1)), .int .i64 (.sym w3), .int .u8 (.sym h3), .bool (.sym u4), .int .i64 (.sym w4), .int .u8 (.sym h4)], .bool (.lit true)])) (.ite (decide (o = 4)) (.leaf (.tup [.agg [.int .u32 (.sym z0), .bool (.sym u0), .int
  .i64 (.sym w0), .int .u8 (.sym h0), .bool (.sym u1), .int .i64 (.sym w1), .int .u8 (.sym h1), .bool (.sym u2), .int .i64 (.sym w2), .int .u8 (.sym h2), .bool (.sym u3), .int .i64 (.sym w3), .int .u8 (.sym h3), .bool
  (.sym (k == 1)), .int .i64 (.sym w4), .int .u8 (.sym h4)], .bool (.lit true)])) (.must false (.fail "index"))))))) (.ite (k == 2) (.ite (decide (o = 0)) (.leaf (.tup [.agg [.int .u32 (.sym z0), .bool (.sym (k == 1)),
  .int .i64 (.sym w0), .int .u8 (.sym h0), .bool (.sym u1), .int .i64 (.sym w1), .int .u8 (.sym h1), .bool (.sym u2), .int .i64 (.sym w2), .int .u8 (.sym h2), .bool (.sym u3), .int .i64 (.sym w3), .int .u8 (.sym h3), .bool
  (.sym u4), .int .i64 (.sym w4), .int .u8 (.sym h4)], .bool (.lit true)])) (.ite (decide (o = 1)) (.leaf (.tup [.agg [.int .u32 (.sym z0), .bool (.sym u0), .int .i64 (.sym w0), .int .u8 (.sym h0), .bool (.sym (k == 1)),
  .int .i64 (.sym w1), .int .u8 (.sym h1), .bool (.sym u2), .int .i64 (.sym w2), .int .u8 (.sym h2), .bool (.sym u3), .int .i64 (.sym w3), .int .u8 (.sym h3), .bool (.sym u4), .int .i64 (.sym w4), .int .u8 (.sym h4)],
  .bool (.lit true)])) (.ite (decide (o = 2)) (.leaf (.tup [.agg [.int .u32 (.sym z0), .bool (.sym u0), .int .i64 (.sym w0), .int .u8 (.sym h0), .bool (.sym u1), .int .i64 (.sym w1), .int .u8 (.sym h1), .bool (.sym (k ==
  1)), .int .i64 (.sym w2), .int .u8 (.sym h2), .bool (.sym u3), .int .i64 (.sym w3), .int .u8 (.sym h3), .bool (.sym u4), .int .i64 (.sym w4), .int .u8 (.sym h4)], .bool (.lit true)])) (.ite (decide (o = 3)) (.leaf (.tup
  [.agg [.int .u32 (.sym z0), .bool (.sym u0), .int .i64 (.sym w0), .int .u8 (.sym h0), .bool (.sym u1), .int .i64 (.sym w1), .int .u8 (.sym h1), .bool (.sym u2), .int .i64 (.sym w2), .int .u8 (.sym h2), .bool (.sym (k ==
  1)), .int .i64 (.sym w3), .int .u8 (.sym h3), .bool (.sym u4), .int .i64 (.sym w4), .int .u8 (.sym h4)], .bool (.lit true)])) (.ite (decide (o = 4)) (.leaf (.tup [.agg [.int .u32 (.sym z0), .bool (.sym u0), .int .i64
  (.sym w0), .int .u8 (.sym h0), .bool (.sym u1), .int .i64 (.sym w1), .int .u8 (.sym h1), .bool (.sym u2), .int .i64 (.sym w2), .int .u8 (.sym h2), .bool (.sym u3), .int .i64 (.sym w3), .int .u8 (.sym h3), .bool (.sym (k
  == 1)), .int .i64 (.sym w4), .int .u8 (.sym h4)], .bool (.lit true)])) (.must false (.fail "index"))))))) (.ite (k == 3) (.ite (decide (o = 0)) (.leaf (.tup [.agg [.int .u32 (.sym z0), .bool (.sym u0), .int .i64 (.sym
  n), .int .u8 (.sym h0), .bool (.sym u1), .int .i64 (.sym w1), .int .u8 (.sym h1), .bool (.sym u2), .int .i64 (.sym w2), .int .u8 (.sym h2), .bool (.sym u3), .int .i64 (.sym w3), .int .u8 (.sym h3), .bool (.sym u4), .int
  .i64 (.sym w4), .int .u8 (.sym h4)], .bool (.lit true)])) (.ite (decide (o = 1)) (.leaf (.tup [.agg [.int .u32 (.sym z0), .bool (.sym u0), .int .i64 (.sym w0), .int .u8 (.sym h0), .bool (.sym u1), .int .i64 (.sym n),
  .int .u8 (.sym h1), .bool (.sym u2), .int .i64 (.sym w2), .int .u8 (.sym h2), .bool (.sym u3), .int .i64 (.sym w3), .int .u8 (.sym h3), .bool (.sym u4), .int .i64 (.sym w4), .int .u8 (.sym h4)], .bool (.lit true)]))
  (.ite (decide (o = 2)) (.leaf (.tup [.agg [.int .u32 (.sym z0), .bool (.sym u0), .int .i64 (.sym w0), .int .u8 (.sym h0), .bool (.sym u1), .int .i64 (.sym w1), .int .u8 (.sym h1), .bool (.sym u2), .int .i64 (.sym n),
  .int .u8 (.sym h2), .bool (.sym u3), .int .i64 (.sym w3), .int .u8 (.sym h3), .bool (.sym u4), .int .i64 (.sym w4), .int .u8 (.sym h4)], .bool (.lit true)])) (.ite (decide (o = 3)) (.leaf (.tup [.agg [.int .u32 (.sym
  z0), .bool (.sym u0), .int .i64 (.sym w0), .int .u8 (.sym h0), .bool (.sym u1), .int .i64 (.sym w1), .int .u8 (.sym h1), .bool (.sym u2), .int .i64 (.sym w2), .int .u8 (.sym h2), .bool (.sym u3), .int .i64 (.sym n), .int
  .u8 (.sym h3), .bool (.sym u4), .int .i64 (.sym w4), .int .u8 (.sym h4)], .bool (.lit true)])) (.ite (decide (o = 4)) (.leaf (.tup [.agg [.int .u32 (.sym z0), .bool (.sym u0), .int .i64 (.sym w0), .int .u8 (.sym h0),
  .bool (.sym u1), .int .i64 (.sym w1), .int .u8 (.sym h1), .bool (.sym u2), .int .i64 (.sym w2), .int .u8 (.sym h2), .bool (.sym u3), .int .i64 (.sym w3), .int .u8 (.sym h3), .bool (.sym u4), .int .i64 (.sym n), .int .u8
  (.sym h4)], .bool (.lit true)])) (.must false (.fail "index"))))))) (.leaf (.tup [.agg [.int .u32 (.sym z0), .bool (.sym u0), .int .i64 (.sym w0), .int .u8 (.sym h0), .bool (.sym u1), .int .i64 (.sym w1), .int .u8 (.sym
  h1), .bool (.sym u2), .int .i64 (.sym w2), .int .u8 (.sym h2), .bool (.sym u3), .int .i64 (.sym w3), .int .u8 (.sym h3), .bool (.sym u4), .int .i64 (.sym w4), .int .u8 (.sym h4)], .bool (.lit true)]))))))) := by kernel_rfl


def apOk (e w0 h0 w1 h1 w2 h2 w3 h3 w4 h4 k o n : Int) : Bool := isMapB e w0 h0 w1 h1 w2 h2 w3 h3 w4 h4 && isIncB k o n && !(e == 60)
def upS (k o : SI) (i : Int) (u : SB) : SB := ((o.eqL i).and (k.eqL 1)).condB (.lit true) (((o.eqL i).and (k.eqL 2)).condB (.lit false) u)
def wtS (k o n : SI) (i : Int) (w : SI) : SI := ((o.eqL i).and (k.eqL 3)).condI n w
def apS (c : SB → AV) : List AV → Option (Tree AV)
  | [.agg [.int .u32 e, .bool u0, .int .i64 w0, .int .u8 h0, .bool u1, .int .i64 w1, .int .u8 h1, .bool u2, .int .i64 w2, .int .u8 h2, .bool u3, .int .i64 w3, .int .u8 h3, .bool u4, .int .i64 w4, .int .u8 h4], .agg [.int .u8 k, .int .u8 o, .int .i64 n]] => some (Tree.need (SI.cmp geB o (.lit 0)) (nameB (mkSB [e, w0, h0, w1, h1, w2, h2, w3, h3, w4, h4, k, o, n] (apOk e.v w0.v h0.v w1.v h1.v w2.v h2.v w3.v h3.v w4.v h4.v k.v o.v n.v)) fun ok => .leaf (.tup [.agg [.int .u32 (ok.condI (SI.bin (fun x y => x + y) e (.lit 1)) (.lit 0)), .bool (ok.condB (upS k o 0 u0) (.lit false)), .int .i64 (ok.condI (wtS k o n 0 w0) (.lit 0)), .int .u8 (ok.condI h0 (.lit 0)), .bool (ok.condB (upS k o 1 u1) (.lit false)), .int .i64 (ok.condI (wtS k o n 1 w1) (.lit 0)), .int .u8 (ok.condI h1 (.lit 0)), .bool (ok.condB (upS k o 2 u2) (.lit false)), .int .i64 (ok.condI (wtS k o n 2 w2) (.lit 0)), .int .u8 (ok.condI h2 (.lit 0)), .bool (ok.condB (upS k o 3 u3) (.lit false)), .int .i64 (ok.condI (wtS k o n 3 w3) (.lit 0)), .int .u8 (ok.condI h3 (.lit 0)), .bool (ok.condB (upS k o 4 u4) (.lit false)), .int .i64 (ok.condI (wtS k o n 4 w4) (.lit 0)), .int .u8 (ok.condI h4 (.lit 0))], c ok])))
  | _ => none
def errC (ok : SB) : AV := .int .i64 (ok.condI (.lit 0) (.lit 40))
theorem apOk_le {e w0 h0 w1 h1 w2 h2 w3 h3 w4 h4 k o n : Int} (h : apOk e w0 h0 w1 h1 w2 h2 w3 h3 w4 h4 k o n = true) : 1 ≤ e ∧ e < 60 ∧ isMapB e w0 h0 w1 h1 w2 h2 w3 h3 w4 h4 = true ∧ isIncB k o n = true := by
  unfold apOk at h
  simp only [Bool.and_eq_true, Bool.not_eq_true', beq_eq_false_iff_ne, ne_eq] at h
  have h2 := h.1.1
  unfold isMapB at h2
  simp only [Bool.and_eq_true, decide_eq_true_eq] at h2
  exact ⟨h2.1.2, by omega, h.1.1, h.1.2⟩
theorem incB_in {k o n : Int} (h : isIncB k o n = true) : (k = 1 ∨ k = 2 ∨ k = 3 ∨ k = 4) ∧ o < 5 := by
  simp [isIncB] at h
  omega
theorem apS26 : SummAll Try.prog 26 (pureSummT (apS errC)) := by
  refine pureSummT_tree maTab mixed (n := 200) fun args t ee => ?_
  unfold apS at ee
  split at ee
  · cases ee
    rename_i e u0 w0 h0 u1 w1 h1 u2 w2 h2 u3 w3 h3 u4 w4 h4 k o n
    refine ⟨[.agg [.int .u32 (.sym e.v), .bool (.sym u0.v), .int .i64 (.sym w0.v), .int .u8 (.sym h0.v), .bool (.sym u1.v), .int .i64 (.sym w1.v), .int .u8 (.sym h1.v), .bool (.sym u2.v), .int .i64 (.sym w2.v), .int .u8 (.sym h2.v), .bool (.sym u3.v), .int .i64 (.sym w3.v), .int .u8 (.sym h3.v), .bool (.sym u4.v), .int .i64 (.sym w4.v), .int .u8 (.sym h4.v)], .agg [.int .u8 (.sym k.v), .int .u8 (.sym o.v), .int .i64 (.sym n.v)]], fun E E' => rfl, fun v hv => ?_⟩
    obtain ⟨ho, hv⟩ := need_sel hv
    rw [nameB_sel] at hv
    cases hv
    refine ⟨?_, fun E E' => rfl⟩
    have ho : 0 ≤ o.v := by simpa [geB] using ho
    rw [apply_tree]
    cases hok : apOk e.v w0.v h0.v w1.v h1.v w2.v h2.v w3.v h3.v w4.v h4.v k.v o.v n.v with
    | true =>
      obtain ⟨e1, e2, m1, i1⟩ := apOk_le hok
      obtain ⟨hk, h5⟩ := incB_in i1
      refine holds_ite (fun h => by simp [m1] at h) fun _ => holds_ite (fun h => by simp [i1] at h) fun _ => holds_ite (fun h => by simp at h; omega) fun _ => holds_defI fun z hz => ?_
      rw [IntWalk.u32_in _ (by omega)] at hz
      subst hz
      have ho5 : o.v = 0 ∨ o.v = 1 ∨ o.v = 2 ∨ o.v = 3 ∨ o.v = 4 := by omega
      rcases ho5 with ho5 | ho5 | ho5 | ho5 | ho5 <;> rcases hk with hk | hk | hk | hk
      all_goals
        simp only [ho5, hk]
        exact ⟨_, rfl, fun E => by simp [den, denL, upS, wtS, mkSB_v, ho5, hk, hok, errC]⟩
    | false =>
      have main : ∀ b : Bool, isMapB e.v w0.v h0.v w1.v h1.v w2.v h2.v w3.v h3.v w4.v h4.v = b → ∀ c : Bool, isIncB k.v o.v n.v = c → (b && c && !(e.v == 60)) = false := fun b hb c hc => by
        rw [← hb, ← hc]; exact hok
      refine holds_ite (fun _ => ?_) fun hm => holds_ite (fun _ => ?_) fun hi => holds_ite (fun _ => ?_) fun he => ?_
      rotate_right
      · have := main true (by simpa using hm) true (by simpa using hi)
        simp at this he
        omega
      all_goals exact ⟨_, rfl, fun E => by simp [den, denL, mkSB_v, hok, errC]⟩
  · cases ee
theorem apS27 : SummAll Try.prog 27 (pureSummT (apS .bool)) := by
  refine pureSummT_tree maTab mixed (n := 200) fun args t ee => ?_
  unfold apS at ee
  split at ee
  · cases ee
    rename_i e u0 w0 h0 u1 w1 h1 u2 w2 h2 u3 w3 h3 u4 w4 h4 k o n
    refine ⟨[.agg [.int .u32 (.sym e.v), .bool (.sym u0.v), .int .i64 (.sym w0.v), .int .u8 (.sym h0.v), .bool (.sym u1.v), .int .i64 (.sym w1.v), .int .u8 (.sym h1.v), .bool (.sym u2.v), .int .i64 (.sym w2.v), .int .u8 (.sym h2.v), .bool (.sym u3.v), .int .i64 (.sym w3.v), .int .u8 (.sym h3.v), .bool (.sym u4.v), .int .i64 (.sym w4.v), .int .u8 (.sym h4.v)], .agg [.int .u8 (.sym k.v), .int .u8 (.sym o.v), .int .i64 (.sym n.v)]], fun E E' => rfl, fun v hv => ?_⟩
    obtain ⟨ho, hv⟩ := need_sel hv
    rw [nameB_sel] at hv
    cases hv
    refine ⟨?_, fun E E' => rfl⟩
    have ho : 0 ≤ o.v := by simpa [geB] using ho
    rw [rapply_tree]
    cases hok : apOk e.v w0.v h0.v w1.v h1.v w2.v h2.v w3.v h3.v w4.v h4.v k.v o.v n.v with
    | true =>
      obtain ⟨e1, e2, m1, i1⟩ := apOk_le hok
      obtain ⟨hk, h5⟩ := incB_in i1
      refine holds_ite (fun h => by simp [m1] at h) fun _ => holds_ite (fun h => by simp [i1] at h) fun _ => holds_ite (fun h => by simp at h; omega) fun _ => holds_defI fun z hz => ?_
      rw [IntWalk.u32_in _ (by omega)] at hz
      subst hz
      have ho5 : o.v = 0 ∨ o.v = 1 ∨ o.v = 2 ∨ o.v = 3 ∨ o.v = 4 := by omega
      rcases ho5 with ho5 | ho5 | ho5 | ho5 | ho5 <;> rcases hk with hk | hk | hk | hk
      all_goals
        simp only [ho5, hk]
        exact ⟨_, rfl, fun E => by simp [den, denL, upS, wtS, mkSB_v, ho5, hk, hok, errC]⟩
    | false =>
      have main : ∀ b : Bool, isMapB e.v w0.v h0.v w1.v h1.v w2.v h2.v w3.v h3.v w4.v h4.v = b → ∀ c : Bool, isIncB k.v o.v n.v = c → (b && c && !(e.v == 60)) = false := fun b hb c hc => by
        rw [← hb, ← hc]; exact hok
      refine holds_ite (fun _ => ?_) fun hm => holds_ite (fun _ => ?_) fun hi => holds_ite (fun _ => ?_) fun he => ?_
      rotate_right
      · have := main true (by simpa using hm) true (by simpa using hi)
        simp at this he
        omega
      all_goals exact ⟨_, rfl, fun E => by simp [den, denL, mkSB_v, hok, errC]⟩
  · cases ee
def mbSm : List (FuncId × Summ) := [(26, pureSummT (apS errC)), (27, pureSummT (apS .bool))] ++ mSmalls
theorem mbSm_ok : AllOk Try.prog mbSm := ⟨apS26, apS27, mSmalls_ok⟩
def mbT : Tab := smTab (tabOf mbSm)
theorem mbTab : TabAll Try.prog mbT := tab_ok mbSm_ok
end Go.Proofs.Ytobknnmalnfknaa
