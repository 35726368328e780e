/- MapsTouch: an increment touches its daemon alone; twice the same is once but for the epoch; up undoes down: trees.
   Conditions: none. -/
import Derived.Test.YtobknnmalnfknaaMe
set_option linter.unusedSimpArgs false
set_option linter.unusedVariables false
namespace Go.Proofs.Ytobknnmalnfknaa
open Go.Eng Go.RowKit Go.Joins Go.ChangeShapes Go.WideShapes
set_option maxRecDepth 100000
/-- What an increment that isn't right makes. -/
def apBad (c : AV) : List AV → Option (Tree AV)
  | [.agg [.int .u32 e, .bool u0, .int .i64 w0, .int .u8 h0, .bool u1, .int .i64 w1, .int .u8 h1, .bool u2, .int .i64 w2, .int .u8 h2, .bool u3, .int .i64 w3, .int .u8 h3, .bool u4, .int .i64 w4, .int .u8 h4], .agg [.int .u8 k, .int .u8 o, .int .i64 n]] => some (.must (!apOk e.v w0.v h0.v w1.v h1.v w2.v h2.v w3.v h3.v w4.v h4.v k.v o.v n.v) (.leaf (.tup [.agg [.int .u32 (.lit 0), .bool (.lit false), .int .i64 (.lit 0), .int .u8 (.lit 0), .bool (.lit false), .int .i64 (.lit 0), .int .u8 (.lit 0), .bool (.lit false), .int .i64 (.lit 0), .int .u8 (.lit 0), .bool (.lit false), .int .i64 (.lit 0), .int .u8 (.lit 0), .bool (.lit false), .int .i64 (.lit 0), .int .u8 (.lit 0)], c])))
  | _ => none
theorem apBad26 : SummAll Try.prog 26 (pureSummT (apBad (.int .i64 (.lit 40)))) := by
  refine pureSummT_tree maTab mixed (n := 200) fun args t ee => ?_
  unfold apBad at ee
  split at ee
  · cases ee
    rename_i e u0 w0 h0 u1 w1 h1 u2 w2 h2 u3 w3 h3 u4 w4 h4 k o n
    refine ⟨[.agg [.int .u32 (.sym e.v), .bool (.sym u0.v), .int .i64 (.sym w0.v), .int .u8 (.sym h0.v), .bool (.sym u1.v), .int .i64 (.sym w1.v), .int .u8 (.sym h1.v), .bool (.sym u2.v), .int .i64 (.sym w2.v), .int .u8 (.sym h2.v), .bool (.sym u3.v), .int .i64 (.sym w3.v), .int .u8 (.sym h3.v), .bool (.sym u4.v), .int .i64 (.sym w4.v), .int .u8 (.sym h4.v)], .agg [.int .u8 (.sym k.v), .int .u8 (.sym o.v), .int .i64 (.sym n.v)]], fun E E' => rfl, fun v hv => ?_⟩
    cases hok : apOk e.v w0.v h0.v w1.v h1.v w2.v h2.v w3.v h3.v w4.v h4.v k.v o.v n.v with
    | true => rw [hok] at hv; cases hv
    | false =>
      rw [hok] at hv
      cases hv
      refine ⟨?_, fun E E' => rfl⟩
      rw [apply_tree]
      have main : ∀ b : Bool, isMapB e.v w0.v h0.v w1.v h1.v w2.v h2.v w3.v h3.v w4.v h4.v = b → ∀ c : Bool, isIncB k.v o.v n.v = c → (b && c && !(e.v == 60)) = false := fun b hb c hc => by
        rw [← hb, ← hc]; exact hok
      refine holds_ite (fun _ => ?_) fun hm => holds_ite (fun _ => ?_) fun hi => holds_ite (fun _ => ?_) fun he => ?_
      rotate_right
      · have := main true (by simpa using hm) true (by simpa using hi)
        simp at this he
        omega
      all_goals exact ⟨_, rfl, fun E => rfl⟩
  · cases ee
def mbadSm : List (FuncId × Summ) := (26, pureSummT (apBad (.int .i64 (.lit 40)))) :: mcSm
theorem mbadSm_ok : AllOk Try.prog mbadSm := ⟨apBad26, mcSm_ok⟩
def mbadT : Tab := smTab (tabOf mbadSm)
theorem mbadTab : TabAll Try.prog mbadT := tab_ok mbadSm_ok
theorem touch_bad (e w0 h0 w1 h1 w2 h2 w3 h3 w4 h4 : Int) (u0 u1 u2 u3 u4 : Bool) (k o n : Int) : runV Try.prog mbadT 300 10 [.agg [.int .u32 (.sym e), .bool (.sym u0), .int .i64 (.sym w0), .int .u8 (.sym h0), .bool (.sym u1), .int .i64 (.sym w1), .int .u8 (.sym h1), .bool (.sym u2), .int .i64 (.sym w2), .int .u8 (.sym h2), .bool (.sym u3), .int .i64 (.sym w3), .int .u8 (.sym h3), .bool (.sym u4), .int .i64 (.sym w4), .int .u8 (.sym h4)], .agg [.int .u8 (.sym k), .int .u8 (.sym o), .int .i64 (.sym n)]] =
  .must (!apOk e w0 h0 w1 h1 w2 h2 w3 h3 w4 h4 k o n) (.leaf (.bool (.lit true))) := by kernel_rfl

theorem touch0 (e w0 h0 w1 h1 w2 h2 w3 h3 w4 h4 : Int) (u0 u1 u2 u3 u4 : Bool) (k n : Int) : runV Try.prog mcT 300 10 [.agg [.int .u32 (.sym e), .bool (.sym u0), .int .i64 (.sym w0), .int .u8 (.sym h0), .bool (.sym u1), .int .i64 (.sym w1), .int .u8 (.sym h1), .bool (.sym u2), .int .i64 (.sym w2), .int .u8 (.sym h2), .bool (.sym u3), .int .i64 (.sym w3), .int .u8 (.sym h3), .bool (.sym u4), .int .i64 (.sym w4), .int .u8 (.sym h4)], .agg [.int .u8 (.sym k), .int .u8 (.lit 0), .int .i64 (.sym n)]] =
  .defB (apOk e w0 h0 w1 h1 w2 h2 w3 h3 w4 h4 k 0 n) fun z0 => .defI (bif z0 then e + 1 else 0) fun z1 => .defI (bif z0 then bif k == 3 then n else w0 else 0) fun z2 => .defI (bif z0 then h0 else 0) fun z3 => .defI (bif z0
  then w1 else 0) fun z4 => .defI (bif z0 then h1 else 0) fun z5 => .defI (bif z0 then w2 else 0) fun z6 => .defI (bif z0 then h2 else 0) fun z7 => .defI (bif z0 then w3 else 0) fun z8 => .defI (bif z0 then h3 else 0) fun
  z9 => .defI (bif z0 then w4 else 0) fun z10 => .defI (bif z0 then h4 else 0) fun z11 => .defI (bif z0 then 0 else 40) fun z12 => .ite (z12 != 0) (.leaf (.bool (.sym (z1 == 0 && ((bif z0 then bif k == 1 then true else bif
  k == 2 then false else u0 else false) == false && (z2 == 0 && z3 == 0) && ((bif z0 then u1 else false) == false && (z4 == 0 && z5 == 0) && ((bif z0 then u2 else false) == false && (z6 == 0 && z7 == 0) && ((bif z0 then u3
  else false) == false && (z8 == 0 && z9 == 0) && ((bif z0 then u4 else false) == false && (z10 == 0 && z11 == 0)))))))))) (.ite (z3 != h0) (.leaf (.bool (.lit false))) (.ite (!((bif z0 then u1 else false) == u1 && (z4 ==
  w1 && z5 == h1))) (.leaf (.bool (.lit false))) (.ite (z5 != h1) (.leaf (.bool (.lit false))) (.ite (!((bif z0 then u2 else false) == u2 && (z6 == w2 && z7 == h2))) (.leaf (.bool (.lit false))) (.ite (z7 != h2) (.leaf
  (.bool (.lit false))) (.ite (!((bif z0 then u3 else false) == u3 && (z8 == w3 && z9 == h3))) (.leaf (.bool (.lit false))) (.ite (z9 != h3) (.leaf (.bool (.lit false))) (.ite (!((bif z0 then u4 else false) == u4 && (z10
  == w4 && z11 == h4))) (.leaf (.bool (.lit false))) (.ite (z11 != h4) (.leaf (.bool (.lit false))) (.defB (apOk z1 z2 z3 z4 z5 z6 z7 z8 z9 z10 z11 k 0 n) fun z13 => .defI (bif z13 then z1 + 1 else 0) fun z14 => .defI (bif
  z13 then bif k == 3 then n else z2 else 0) fun z15 => .defI (bif z13 then z3 else 0) fun z16 => .defI (bif z13 then z4 else 0) fun z17 => .defI (bif z13 then z5 else 0) fun z18 => .defI (bif z13 then z6 else 0) fun z19
  => .defI (bif z13 then z7 else 0) fun z20 => .defI (bif z13 then z8 else 0) fun z21 => .defI (bif z13 then z9 else 0) fun z22 => .defI (bif z13 then z10 else 0) fun z23 => .defI (bif z13 then z11 else 0) fun z24 => .defI
  (bif z13 then 0 else 40) fun z25 => .ite (z25 != 0) (.leaf (.bool (.sym (z1 == 60)))) (.ite (z1 == z1 && (((bif z0 then bif k == 1 then true else bif k == 2 then false else u0 else false) == bif z13 then bif k == 1 then
  true else bif k == 2 then false else bif z0 then bif k == 1 then true else bif k == 2 then false else u0 else false else false) && (z2 == z15 && z3 == z16) && (((bif z0 then u1 else false) == bif z13 then bif z0 then u1
  else false else false) && (z4 == z17 && z5 == z18) && (((bif z0 then u2 else false) == bif z13 then bif z0 then u2 else false else false) && (z6 == z19 && z7 == z20) && (((bif z0 then u3 else false) == bif z13 then bif
  z0 then u3 else false else false) && (z8 == z21 && z9 == z22) && (((bif z0 then u4 else false) == bif z13 then bif z0 then u4 else false else false) && (z10 == z23 && z11 == z24))))))) (.defI (IntKind.u32.wrap (e + 1))
  fun z26 => .ite (z1 == z26) (.ite (isMapB z1 z2 z3 z4 z5 z6 z7 z8 z9 z10 z11) (.ite (k != 4) (.ite (k != 3) (.ite (k != 1) (.ite (k != 2) (.leaf (.bool (.lit true))) (.ite ((bif z0 then bif k == 1 then true else bif k ==
  2 then false else u0 else false) == (k == 1)) (.leaf (.bool (.sym (z2 == w0)))) (.leaf (.bool (.lit false))))) (.ite ((bif z0 then bif k == 1 then true else bif k == 2 then false else u0 else false) == (k == 1)) (.leaf
  (.bool (.sym (z2 == w0)))) (.leaf (.bool (.lit false))))) (.ite (z2 == n) (.ite ((bif z0 then bif k == 1 then true else bif k == 2 then false else u0 else false) == u0) (.ite (k != 1) (.ite (k != 2) (.leaf (.bool (.lit
  true))) (.ite ((bif z0 then bif k == 1 then true else bif k == 2 then false else u0 else false) == (k == 1)) (.leaf (.bool (.sym (z2 == w0)))) (.leaf (.bool (.lit false))))) (.ite ((bif z0 then bif k == 1 then true else
  bif k == 2 then false else u0 else false) == (k == 1)) (.leaf (.bool (.sym (z2 == w0)))) (.leaf (.bool (.lit false))))) (.leaf (.bool (.lit false)))) (.leaf (.bool (.lit false))))) (.ite ((bif z0 then bif k == 1 then
  true else bif k == 2 then false else u0 else false) == u0 && (z2 == w0 && z3 == h0) && ((bif z0 then u1 else false) == u1 && (z4 == w1 && z5 == h1) && ((bif z0 then u2 else false) == u2 && (z6 == w2 && z7 == h2) && ((bif
  z0 then u3 else false) == u3 && (z8 == w3 && z9 == h3) && ((bif z0 then u4 else false) == u4 && (z10 == w4 && z11 == h4)))))) (.ite (k != 3) (.ite (k != 1) (.ite (k != 2) (.leaf (.bool (.lit true))) (.ite ((bif z0 then
  bif k == 1 then true else bif k == 2 then false else u0 else false) == (k == 1)) (.leaf (.bool (.sym (z2 == w0)))) (.leaf (.bool (.lit false))))) (.ite ((bif z0 then bif k == 1 then true else bif k == 2 then false else
  u0 else false) == (k == 1)) (.leaf (.bool (.sym (z2 == w0)))) (.leaf (.bool (.lit false))))) (.ite (z2 == n) (.ite ((bif z0 then bif k == 1 then true else bif k == 2 then false else u0 else false) == u0) (.ite (k != 1)
  (.ite (k != 2) (.leaf (.bool (.lit true))) (.ite ((bif z0 then bif k == 1 then true else bif k == 2 then false else u0 else false) == (k == 1)) (.leaf (.bool (.sym (z2 == w0)))) (.leaf (.bool (.lit false))))) (.ite ((bif
  z0 then bif k == 1 then true else bif k == 2 then false else u0 else false) == (k == 1)) (.leaf (.bool (.sym (z2 == w0)))) (.leaf (.bool (.lit false))))) (.leaf (.bool (.lit false)))) (.leaf (.bool (.lit false)))))
  (.leaf (.bool (.lit false))))) (.leaf (.bool (.lit false)))) (.leaf (.bool (.lit false)))) (.leaf (.bool (.lit false)))))))))))))) := by kernel_rfl

theorem touch1 (e w0 h0 w1 h1 w2 h2 w3 h3 w4 h4 : Int) (u0 u1 u2 u3 u4 : Bool) (k n : Int) : runV Try.prog mcT 300 10 [.agg [.int .u32 (.sym e), .bool (.sym u0), .int .i64 (.sym w0), .int .u8 (.sym h0), .bool (.sym u1), .int .i64 (.sym w1), .int .u8 (.sym h1), .bool (.sym u2), .int .i64 (.sym w2), .int .u8 (.sym h2), .bool (.sym u3), .int .i64 (.sym w3), .int .u8 (.sym h3), .bool (.sym u4), .int .i64 (.sym w4), .int .u8 (.sym h4)], .agg [.int .u8 (.sym k), .int .u8 (.lit 1), .int .i64 (.sym n)]] =
  .defB (apOk e w0 h0 w1 h1 w2 h2 w3 h3 w4 h4 k 1 n) fun z0 => .defI (bif z0 then e + 1 else 0) fun z1 => .defI (bif z0 then w0 else 0) fun z2 => .defI (bif z0 then h0 else 0) fun z3 => .defI (bif z0 then bif k == 3 then n
  else w1 else 0) fun z4 => .defI (bif z0 then h1 else 0) fun z5 => .defI (bif z0 then w2 else 0) fun z6 => .defI (bif z0 then h2 else 0) fun z7 => .defI (bif z0 then w3 else 0) fun z8 => .defI (bif z0 then h3 else 0) fun
  z9 => .defI (bif z0 then w4 else 0) fun z10 => .defI (bif z0 then h4 else 0) fun z11 => .defI (bif z0 then 0 else 40) fun z12 => .ite (z12 != 0) (.leaf (.bool (.sym (z1 == 0 && ((bif z0 then u0 else false) == false &&
  (z2 == 0 && z3 == 0) && ((bif z0 then bif k == 1 then true else bif k == 2 then false else u1 else false) == false && (z4 == 0 && z5 == 0) && ((bif z0 then u2 else false) == false && (z6 == 0 && z7 == 0) && ((bif z0 then
  u3 else false) == false && (z8 == 0 && z9 == 0) && ((bif z0 then u4 else false) == false && (z10 == 0 && z11 == 0)))))))))) (.ite (!((bif z0 then u0 else false) == u0 && (z2 == w0 && z3 == h0))) (.leaf (.bool (.lit
  false))) (.ite (z3 != h0) (.leaf (.bool (.lit false))) (.ite (z5 != h1) (.leaf (.bool (.lit false))) (.ite (!((bif z0 then u2 else false) == u2 && (z6 == w2 && z7 == h2))) (.leaf (.bool (.lit false))) (.ite (z7 != h2)
  (.leaf (.bool (.lit false))) (.ite (!((bif z0 then u3 else false) == u3 && (z8 == w3 && z9 == h3))) (.leaf (.bool (.lit false))) (.ite (z9 != h3) (.leaf (.bool (.lit false))) (.ite (!((bif z0 then u4 else false) == u4 &&
  (z10 == w4 && z11 == h4))) (.leaf (.bool (.lit false))) (.ite (z11 != h4) (.leaf (.bool (.lit false))) (.defB (apOk z1 z2 z3 z4 z5 z6 z7 z8 z9 z10 z11 k 1 n) fun z13 => .defI (bif z13 then z1 + 1 else 0) fun z14 => .defI
  (bif z13 then z2 else 0) fun z15 => .defI (bif z13 then z3 else 0) fun z16 => .defI (bif z13 then bif k == 3 then n else z4 else 0) fun z17 => .defI (bif z13 then z5 else 0) fun z18 => .defI (bif z13 then z6 else 0) fun
  z19 => .defI (bif z13 then z7 else 0) fun z20 => .defI (bif z13 then z8 else 0) fun z21 => .defI (bif z13 then z9 else 0) fun z22 => .defI (bif z13 then z10 else 0) fun z23 => .defI (bif z13 then z11 else 0) fun z24 =>
  .defI (bif z13 then 0 else 40) fun z25 => .ite (z25 != 0) (.leaf (.bool (.sym (z1 == 60)))) (.ite (z1 == z1 && (((bif z0 then u0 else false) == bif z13 then bif z0 then u0 else false else false) && (z2 == z15 && z3 ==
  z16) && (((bif z0 then bif k == 1 then true else bif k == 2 then false else u1 else false) == bif z13 then bif k == 1 then true else bif k == 2 then false else bif z0 then bif k == 1 then true else bif k == 2 then false
  else u1 else false else false) && (z4 == z17 && z5 == z18) && (((bif z0 then u2 else false) == bif z13 then bif z0 then u2 else false else false) && (z6 == z19 && z7 == z20) && (((bif z0 then u3 else false) == bif z13
  then bif z0 then u3 else false else false) && (z8 == z21 && z9 == z22) && (((bif z0 then u4 else false) == bif z13 then bif z0 then u4 else false else false) && (z10 == z23 && z11 == z24))))))) (.defI (IntKind.u32.wrap
  (e + 1)) fun z26 => .ite (z1 == z26) (.ite (isMapB z1 z2 z3 z4 z5 z6 z7 z8 z9 z10 z11) (.ite (k != 4) (.ite (k != 3) (.ite (k != 1) (.ite (k != 2) (.leaf (.bool (.lit true))) (.ite ((bif z0 then bif k == 1 then true else
  bif k == 2 then false else u1 else false) == (k == 1)) (.leaf (.bool (.sym (z4 == w1)))) (.leaf (.bool (.lit false))))) (.ite ((bif z0 then bif k == 1 then true else bif k == 2 then false else u1 else false) == (k == 1))
  (.leaf (.bool (.sym (z4 == w1)))) (.leaf (.bool (.lit false))))) (.ite (z4 == n) (.ite ((bif z0 then bif k == 1 then true else bif k == 2 then false else u1 else false) == u1) (.ite (k != 1) (.ite (k != 2) (.leaf (.bool
  (.lit true))) (.ite ((bif z0 then bif k == 1 then true else bif k == 2 then false else u1 else false) == (k == 1)) (.leaf (.bool (.sym (z4 == w1)))) (.leaf (.bool (.lit false))))) (.ite ((bif z0 then bif k == 1 then true
  else bif k == 2 then false else u1 else false) == (k == 1)) (.leaf (.bool (.sym (z4 == w1)))) (.leaf (.bool (.lit false))))) (.leaf (.bool (.lit false)))) (.leaf (.bool (.lit false))))) (.ite ((bif z0 then u0 else false)
  == u0 && (z2 == w0 && z3 == h0) && ((bif z0 then bif k == 1 then true else bif k == 2 then false else u1 else false) == u1 && (z4 == w1 && z5 == h1) && ((bif z0 then u2 else false) == u2 && (z6 == w2 && z7 == h2) &&
  ((bif z0 then u3 else false) == u3 && (z8 == w3 && z9 == h3) && ((bif z0 then u4 else false) == u4 && (z10 == w4 && z11 == h4)))))) (.ite (k != 3) (.ite (k != 1) (.ite (k != 2) (.leaf (.bool (.lit true))) (.ite ((bif z0
  then bif k == 1 then true else bif k == 2 then false else u1 else false) == (k == 1)) (.leaf (.bool (.sym (z4 == w1)))) (.leaf (.bool (.lit false))))) (.ite ((bif z0 then bif k == 1 then true else bif k == 2 then false
  else u1 else false) == (k == 1)) (.leaf (.bool (.sym (z4 == w1)))) (.leaf (.bool (.lit false))))) (.ite (z4 == n) (.ite ((bif z0 then bif k == 1 then true else bif k == 2 then false else u1 else false) == u1) (.ite (k !=
  1) (.ite (k != 2) (.leaf (.bool (.lit true))) (.ite ((bif z0 then bif k == 1 then true else bif k == 2 then false else u1 else false) == (k == 1)) (.leaf (.bool (.sym (z4 == w1)))) (.leaf (.bool (.lit false))))) (.ite
  ((bif z0 then bif k == 1 then true else bif k == 2 then false else u1 else false) == (k == 1)) (.leaf (.bool (.sym (z4 == w1)))) (.leaf (.bool (.lit false))))) (.leaf (.bool (.lit false)))) (.leaf (.bool (.lit false)))))
  (.leaf (.bool (.lit false))))) (.leaf (.bool (.lit false)))) (.leaf (.bool (.lit false)))) (.leaf (.bool (.lit false)))))))))))))) := by kernel_rfl

theorem touch2 (e w0 h0 w1 h1 w2 h2 w3 h3 w4 h4 : Int) (u0 u1 u2 u3 u4 : Bool) (k n : Int) : runV Try.prog mcT 300 10 [.agg [.int .u32 (.sym e), .bool (.sym u0), .int .i64 (.sym w0), .int .u8 (.sym h0), .bool (.sym u1), .int .i64 (.sym w1), .int .u8 (.sym h1), .bool (.sym u2), .int .i64 (.sym w2), .int .u8 (.sym h2), .bool (.sym u3), .int .i64 (.sym w3), .int .u8 (.sym h3), .bool (.sym u4), .int .i64 (.sym w4), .int .u8 (.sym h4)], .agg [.int .u8 (.sym k), .int .u8 (.lit 2), .int .i64 (.sym n)]] =
  .defB (apOk e w0 h0 w1 h1 w2 h2 w3 h3 w4 h4 k 2 n) fun z0 => .defI (bif z0 then e + 1 else 0) fun z1 => .defI (bif z0 then w0 else 0) fun z2 => .defI (bif z0 then h0 else 0) fun z3 => .defI (bif z0 then w1 else 0) fun z4
  => .defI (bif z0 then h1 else 0) fun z5 => .defI (bif z0 then bif k == 3 then n else w2 else 0) fun z6 => .defI (bif z0 then h2 else 0) fun z7 => .defI (bif z0 then w3 else 0) fun z8 => .defI (bif z0 then h3 else 0) fun
  z9 => .defI (bif z0 then w4 else 0) fun z10 => .defI (bif z0 then h4 else 0) fun z11 => .defI (bif z0 then 0 else 40) fun z12 => .ite (z12 != 0) (.leaf (.bool (.sym (z1 == 0 && ((bif z0 then u0 else false) == false &&
  (z2 == 0 && z3 == 0) && ((bif z0 then u1 else false) == false && (z4 == 0 && z5 == 0) && ((bif z0 then bif k == 1 then true else bif k == 2 then false else u2 else false) == false && (z6 == 0 && z7 == 0) && ((bif z0 then
  u3 else false) == false && (z8 == 0 && z9 == 0) && ((bif z0 then u4 else false) == false && (z10 == 0 && z11 == 0)))))))))) (.ite (!((bif z0 then u0 else false) == u0 && (z2 == w0 && z3 == h0))) (.leaf (.bool (.lit
  false))) (.ite (z3 != h0) (.leaf (.bool (.lit false))) (.ite (!((bif z0 then u1 else false) == u1 && (z4 == w1 && z5 == h1))) (.leaf (.bool (.lit false))) (.ite (z5 != h1) (.leaf (.bool (.lit false))) (.ite (z7 != h2)
  (.leaf (.bool (.lit false))) (.ite (!((bif z0 then u3 else false) == u3 && (z8 == w3 && z9 == h3))) (.leaf (.bool (.lit false))) (.ite (z9 != h3) (.leaf (.bool (.lit false))) (.ite (!((bif z0 then u4 else false) == u4 &&
  (z10 == w4 && z11 == h4))) (.leaf (.bool (.lit false))) (.ite (z11 != h4) (.leaf (.bool (.lit false))) (.defB (apOk z1 z2 z3 z4 z5 z6 z7 z8 z9 z10 z11 k 2 n) fun z13 => .defI (bif z13 then z1 + 1 else 0) fun z14 => .defI
  (bif z13 then z2 else 0) fun z15 => .defI (bif z13 then z3 else 0) fun z16 => .defI (bif z13 then z4 else 0) fun z17 => .defI (bif z13 then z5 else 0) fun z18 => .defI (bif z13 then bif k == 3 then n else z6 else 0) fun
  z19 => .defI (bif z13 then z7 else 0) fun z20 => .defI (bif z13 then z8 else 0) fun z21 => .defI (bif z13 then z9 else 0) fun z22 => .defI (bif z13 then z10 else 0) fun z23 => .defI (bif z13 then z11 else 0) fun z24 =>
  .defI (bif z13 then 0 else 40) fun z25 => .ite (z25 != 0) (.leaf (.bool (.sym (z1 == 60)))) (.ite (z1 == z1 && (((bif z0 then u0 else false) == bif z13 then bif z0 then u0 else false else false) && (z2 == z15 && z3 ==
  z16) && (((bif z0 then u1 else false) == bif z13 then bif z0 then u1 else false else false) && (z4 == z17 && z5 == z18) && (((bif z0 then bif k == 1 then true else bif k == 2 then false else u2 else false) == bif z13
  then bif k == 1 then true else bif k == 2 then false else bif z0 then bif k == 1 then true else bif k == 2 then false else u2 else false else false) && (z6 == z19 && z7 == z20) && (((bif z0 then u3 else false) == bif z13
  then bif z0 then u3 else false else false) && (z8 == z21 && z9 == z22) && (((bif z0 then u4 else false) == bif z13 then bif z0 then u4 else false else false) && (z10 == z23 && z11 == z24))))))) (.defI (IntKind.u32.wrap
  (e + 1)) fun z26 => .ite (z1 == z26) (.ite (isMapB z1 z2 z3 z4 z5 z6 z7 z8 z9 z10 z11) (.ite (k != 4) (.ite (k != 3) (.ite (k != 1) (.ite (k != 2) (.leaf (.bool (.lit true))) (.ite ((bif z0 then bif k == 1 then true else
  bif k == 2 then false else u2 else false) == (k == 1)) (.leaf (.bool (.sym (z6 == w2)))) (.leaf (.bool (.lit false))))) (.ite ((bif z0 then bif k == 1 then true else bif k == 2 then false else u2 else false) == (k == 1))
  (.leaf (.bool (.sym (z6 == w2)))) (.leaf (.bool (.lit false))))) (.ite (z6 == n) (.ite ((bif z0 then bif k == 1 then true else bif k == 2 then false else u2 else false) == u2) (.ite (k != 1) (.ite (k != 2) (.leaf (.bool
  (.lit true))) (.ite ((bif z0 then bif k == 1 then true else bif k == 2 then false else u2 else false) == (k == 1)) (.leaf (.bool (.sym (z6 == w2)))) (.leaf (.bool (.lit false))))) (.ite ((bif z0 then bif k == 1 then true
  else bif k == 2 then false else u2 else false) == (k == 1)) (.leaf (.bool (.sym (z6 == w2)))) (.leaf (.bool (.lit false))))) (.leaf (.bool (.lit false)))) (.leaf (.bool (.lit false))))) (.ite ((bif z0 then u0 else false)
  == u0 && (z2 == w0 && z3 == h0) && ((bif z0 then u1 else false) == u1 && (z4 == w1 && z5 == h1) && ((bif z0 then bif k == 1 then true else bif k == 2 then false else u2 else false) == u2 && (z6 == w2 && z7 == h2) &&
  ((bif z0 then u3 else false) == u3 && (z8 == w3 && z9 == h3) && ((bif z0 then u4 else false) == u4 && (z10 == w4 && z11 == h4)))))) (.ite (k != 3) (.ite (k != 1) (.ite (k != 2) (.leaf (.bool (.lit true))) (.ite ((bif z0
  then bif k == 1 then true else bif k == 2 then false else u2 else false) == (k == 1)) (.leaf (.bool (.sym (z6 == w2)))) (.leaf (.bool (.lit false))))) (.ite ((bif z0 then bif k == 1 then true else bif k == 2 then false
  else u2 else false) == (k == 1)) (.leaf (.bool (.sym (z6 == w2)))) (.leaf (.bool (.lit false))))) (.ite (z6 == n) (.ite ((bif z0 then bif k == 1 then true else bif k == 2 then false else u2 else false) == u2) (.ite (k !=
  1) (.ite (k != 2) (.leaf (.bool (.lit true))) (.ite ((bif z0 then bif k == 1 then true else bif k == 2 then false else u2 else false) == (k == 1)) (.leaf (.bool (.sym (z6 == w2)))) (.leaf (.bool (.lit false))))) (.ite
  ((bif z0 then bif k == 1 then true else bif k == 2 then false else u2 else false) == (k == 1)) (.leaf (.bool (.sym (z6 == w2)))) (.leaf (.bool (.lit false))))) (.leaf (.bool (.lit false)))) (.leaf (.bool (.lit false)))))
  (.leaf (.bool (.lit false))))) (.leaf (.bool (.lit false)))) (.leaf (.bool (.lit false)))) (.leaf (.bool (.lit false)))))))))))))) := by kernel_rfl

theorem touch3 (e w0 h0 w1 h1 w2 h2 w3 h3 w4 h4 : Int) (u0 u1 u2 u3 u4 : Bool) (k n : Int) : runV Try.prog mcT 300 10 [.agg [.int .u32 (.sym e), .bool (.sym u0), .int .i64 (.sym w0), .int .u8 (.sym h0), .bool (.sym u1), .int .i64 (.sym w1), .int .u8 (.sym h1), .bool (.sym u2), .int .i64 (.sym w2), .int .u8 (.sym h2), .bool (.sym u3), .int .i64 (.sym w3), .int .u8 (.sym h3), .bool (.sym u4), .int .i64 (.sym w4), .int .u8 (.sym h4)], .agg [.int .u8 (.sym k), .int .u8 (.lit 3), .int .i64 (.sym n)]] =
  .defB (apOk e w0 h0 w1 h1 w2 h2 w3 h3 w4 h4 k 3 n) fun z0 => .defI (bif z0 then e + 1 else 0) fun z1 => .defI (bif z0 then w0 else 0) fun z2 => .defI (bif z0 then h0 else 0) fun z3 => .defI (bif z0 then w1 else 0) fun z4
  => .defI (bif z0 then h1 else 0) fun z5 => .defI (bif z0 then w2 else 0) fun z6 => .defI (bif z0 then h2 else 0) fun z7 => .defI (bif z0 then bif k == 3 then n else w3 else 0) fun z8 => .defI (bif z0 then h3 else 0) fun
  z9 => .defI (bif z0 then w4 else 0) fun z10 => .defI (bif z0 then h4 else 0) fun z11 => .defI (bif z0 then 0 else 40) fun z12 => .ite (z12 != 0) (.leaf (.bool (.sym (z1 == 0 && ((bif z0 then u0 else false) == false &&
  (z2 == 0 && z3 == 0) && ((bif z0 then u1 else false) == false && (z4 == 0 && z5 == 0) && ((bif z0 then u2 else false) == false && (z6 == 0 && z7 == 0) && ((bif z0 then bif k == 1 then true else bif k == 2 then false else
  u3 else false) == false && (z8 == 0 && z9 == 0) && ((bif z0 then u4 else false) == false && (z10 == 0 && z11 == 0)))))))))) (.ite (!((bif z0 then u0 else false) == u0 && (z2 == w0 && z3 == h0))) (.leaf (.bool (.lit
  false))) (.ite (z3 != h0) (.leaf (.bool (.lit false))) (.ite (!((bif z0 then u1 else false) == u1 && (z4 == w1 && z5 == h1))) (.leaf (.bool (.lit false))) (.ite (z5 != h1) (.leaf (.bool (.lit false))) (.ite (!((bif z0
  then u2 else false) == u2 && (z6 == w2 && z7 == h2))) (.leaf (.bool (.lit false))) (.ite (z7 != h2) (.leaf (.bool (.lit false))) (.ite (z9 != h3) (.leaf (.bool (.lit false))) (.ite (!((bif z0 then u4 else false) == u4 &&
  (z10 == w4 && z11 == h4))) (.leaf (.bool (.lit false))) (.ite (z11 != h4) (.leaf (.bool (.lit false))) (.defB (apOk z1 z2 z3 z4 z5 z6 z7 z8 z9 z10 z11 k 3 n) fun z13 => .defI (bif z13 then z1 + 1 else 0) fun z14 => .defI
  (bif z13 then z2 else 0) fun z15 => .defI (bif z13 then z3 else 0) fun z16 => .defI (bif z13 then z4 else 0) fun z17 => .defI (bif z13 then z5 else 0) fun z18 => .defI (bif z13 then z6 else 0) fun z19 => .defI (bif z13
  then z7 else 0) fun z20 => .defI (bif z13 then bif k == 3 then n else z8 else 0) fun z21 => .defI (bif z13 then z9 else 0) fun z22 => .defI (bif z13 then z10 else 0) fun z23 => .defI (bif z13 then z11 else 0) fun z24 =>
  .defI (bif z13 then 0 else 40) fun z25 => .ite (z25 != 0) (.leaf (.bool (.sym (z1 == 60)))) (.ite (z1 == z1 && (((bif z0 then u0 else false) == bif z13 then bif z0 then u0 else false else false) && (z2 == z15 && z3 ==
  z16) && (((bif z0 then u1 else false) == bif z13 then bif z0 then u1 else false else false) && (z4 == z17 && z5 == z18) && (((bif z0 then u2 else false) == bif z13 then bif z0 then u2 else false else false) && (z6 == z19
  && z7 == z20) && (((bif z0 then bif k == 1 then true else bif k == 2 then false else u3 else false) == bif z13 then bif k == 1 then true else bif k == 2 then false else bif z0 then bif k == 1 then true else bif k == 2
  then false else u3 else false else false) && (z8 == z21 && z9 == z22) && (((bif z0 then u4 else false) == bif z13 then bif z0 then u4 else false else false) && (z10 == z23 && z11 == z24))))))) (.defI (IntKind.u32.wrap (e
  + 1)) fun z26 => .ite (z1 == z26) (.ite (isMapB z1 z2 z3 z4 z5 z6 z7 z8 z9 z10 z11) (.ite (k != 4) (.ite (k != 3) (.ite (k != 1) (.ite (k != 2) (.leaf (.bool (.lit true))) (.ite ((bif z0 then bif k == 1 then true else
  bif k == 2 then false else u3 else false) == (k == 1)) (.leaf (.bool (.sym (z8 == w3)))) (.leaf (.bool (.lit false))))) (.ite ((bif z0 then bif k == 1 then true else bif k == 2 then false else u3 else false) == (k == 1))
  (.leaf (.bool (.sym (z8 == w3)))) (.leaf (.bool (.lit false))))) (.ite (z8 == n) (.ite ((bif z0 then bif k == 1 then true else bif k == 2 then false else u3 else false) == u3) (.ite (k != 1) (.ite (k != 2) (.leaf (.bool
  (.lit true))) (.ite ((bif z0 then bif k == 1 then true else bif k == 2 then false else u3 else false) == (k == 1)) (.leaf (.bool (.sym (z8 == w3)))) (.leaf (.bool (.lit false))))) (.ite ((bif z0 then bif k == 1 then true
  else bif k == 2 then false else u3 else false) == (k == 1)) (.leaf (.bool (.sym (z8 == w3)))) (.leaf (.bool (.lit false))))) (.leaf (.bool (.lit false)))) (.leaf (.bool (.lit false))))) (.ite ((bif z0 then u0 else false)
  == u0 && (z2 == w0 && z3 == h0) && ((bif z0 then u1 else false) == u1 && (z4 == w1 && z5 == h1) && ((bif z0 then u2 else false) == u2 && (z6 == w2 && z7 == h2) && ((bif z0 then bif k == 1 then true else bif k == 2 then
  false else u3 else false) == u3 && (z8 == w3 && z9 == h3) && ((bif z0 then u4 else false) == u4 && (z10 == w4 && z11 == h4)))))) (.ite (k != 3) (.ite (k != 1) (.ite (k != 2) (.leaf (.bool (.lit true))) (.ite ((bif z0
  then bif k == 1 then true else bif k == 2 then false else u3 else false) == (k == 1)) (.leaf (.bool (.sym (z8 == w3)))) (.leaf (.bool (.lit false))))) (.ite ((bif z0 then bif k == 1 then true else bif k == 2 then false
  else u3 else false) == (k == 1)) (.leaf (.bool (.sym (z8 == w3)))) (.leaf (.bool (.lit false))))) (.ite (z8 == n) (.ite ((bif z0 then bif k == 1 then true else bif k == 2 then false else u3 else false) == u3) (.ite (k !=
  1) (.ite (k != 2) (.leaf (.bool (.lit true))) (.ite ((bif z0 then bif k == 1 then true else bif k == 2 then false else u3 else false) == (k == 1)) (.leaf (.bool (.sym (z8 == w3)))) (.leaf (.bool (.lit false))))) (.ite
  ((bif z0 then bif k == 1 then true else bif k == 2 then false else u3 else false) == (k == 1)) (.leaf (.bool (.sym (z8 == w3)))) (.leaf (.bool (.lit false))))) (.leaf (.bool (.lit false)))) (.leaf (.bool (.lit false)))))
  (.leaf (.bool (.lit false))))) (.leaf (.bool (.lit false)))) (.leaf (.bool (.lit false)))) (.leaf (.bool (.lit false)))))))))))))) := by kernel_rfl

theorem touch4 (e w0 h0 w1 h1 w2 h2 w3 h3 w4 h4 : Int) (u0 u1 u2 u3 u4 : Bool) (k n : Int) : runV Try.prog mcT 300 10 [.agg [.int .u32 (.sym e), .bool (.sym u0), .int .i64 (.sym w0), .int .u8 (.sym h0), .bool (.sym u1), .int .i64 (.sym w1), .int .u8 (.sym h1), .bool (.sym u2), .int .i64 (.sym w2), .int .u8 (.sym h2), .bool (.sym u3), .int .i64 (.sym w3), .int .u8 (.sym h3), .bool (.sym u4), .int .i64 (.sym w4), .int .u8 (.sym h4)], .agg [.int .u8 (.sym k), .int .u8 (.lit 4), .int .i64 (.sym n)]] =
  .defB (apOk e w0 h0 w1 h1 w2 h2 w3 h3 w4 h4 k 4 n) fun z0 => .defI (bif z0 then e + 1 else 0) fun z1 => .defI (bif z0 then w0 else 0) fun z2 => .defI (bif z0 then h0 else 0) fun z3 => .defI (bif z0 then w1 else 0) fun z4
  => .defI (bif z0 then h1 else 0) fun z5 => .defI (bif z0 then w2 else 0) fun z6 => .defI (bif z0 then h2 else 0) fun z7 => .defI (bif z0 then w3 else 0) fun z8 => .defI (bif z0 then h3 else 0) fun z9 => .defI (bif z0
  then bif k == 3 then n else w4 else 0) fun z10 => .defI (bif z0 then h4 else 0) fun z11 => .defI (bif z0 then 0 else 40) fun z12 => .ite (z12 != 0) (.leaf (.bool (.sym (z1 == 0 && ((bif z0 then u0 else false) == false &&
  (z2 == 0 && z3 == 0) && ((bif z0 then u1 else false) == false && (z4 == 0 && z5 == 0) && ((bif z0 then u2 else false) == false && (z6 == 0 && z7 == 0) && ((bif z0 then u3 else false) == false && (z8 == 0 && z9 == 0) &&
  ((bif z0 then bif k == 1 then true else bif k == 2 then false else u4 else false) == false && (z10 == 0 && z11 == 0)))))))))) (.ite (!((bif z0 then u0 else false) == u0 && (z2 == w0 && z3 == h0))) (.leaf (.bool (.lit
  false))) (.ite (z3 != h0) (.leaf (.bool (.lit false))) (.ite (!((bif z0 then u1 else false) == u1 && (z4 == w1 && z5 == h1))) (.leaf (.bool (.lit false))) (.ite (z5 != h1) (.leaf (.bool (.lit false))) (.ite (!((bif z0
  then u2 else false) == u2 && (z6 == w2 && z7 == h2))) (.leaf (.bool (.lit false))) (.ite (z7 != h2) (.leaf (.bool (.lit false))) (.ite (!((bif z0 then u3 else false) == u3 && (z8 == w3 && z9 == h3))) (.leaf (.bool (.lit
  false))) (.ite (z9 != h3) (.leaf (.bool (.lit false))) (.ite (z11 != h4) (.leaf (.bool (.lit false))) (.defB (apOk z1 z2 z3 z4 z5 z6 z7 z8 z9 z10 z11 k 4 n) fun z13 => .defI (bif z13 then z1 + 1 else 0) fun z14 => .defI
  (bif z13 then z2 else 0) fun z15 => .defI (bif z13 then z3 else 0) fun z16 => .defI (bif z13 then z4 else 0) fun z17 => .defI (bif z13 then z5 else 0) fun z18 => .defI (bif z13 then z6 else 0) fun z19 => .defI (bif z13
  then z7 else 0) fun z20 => .defI (bif z13 then z8 else 0) fun z21 => .defI (bif z13 then z9 else 0) fun z22 => .defI (bif z13 then bif k == 3 then n else z10 else 0) fun z23 => .defI (bif z13 then z11 else 0) fun z24 =>
  .defI (bif z13 then 0 else 40) fun z25 => .ite (z25 != 0) (.leaf (.bool (.sym (z1 == 60)))) (.ite (z1 == z1 && (((bif z0 then u0 else false) == bif z13 then bif z0 then u0 else false else false) && (z2 == z15 && z3 ==
  z16) && (((bif z0 then u1 else false) == bif z13 then bif z0 then u1 else false else false) && (z4 == z17 && z5 == z18) && (((bif z0 then u2 else false) == bif z13 then bif z0 then u2 else false else false) && (z6 == z19
  && z7 == z20) && (((bif z0 then u3 else false) == bif z13 then bif z0 then u3 else false else false) && (z8 == z21 && z9 == z22) && (((bif z0 then bif k == 1 then true else bif k == 2 then false else u4 else false) ==
  bif z13 then bif k == 1 then true else bif k == 2 then false else bif z0 then bif k == 1 then true else bif k == 2 then false else u4 else false else false) && (z10 == z23 && z11 == z24))))))) (.defI (IntKind.u32.wrap (e
  + 1)) fun z26 => .ite (z1 == z26) (.ite (isMapB z1 z2 z3 z4 z5 z6 z7 z8 z9 z10 z11) (.ite (k != 4) (.ite (k != 3) (.ite (k != 1) (.ite (k != 2) (.leaf (.bool (.lit true))) (.ite ((bif z0 then bif k == 1 then true else
  bif k == 2 then false else u4 else false) == (k == 1)) (.leaf (.bool (.sym (z10 == w4)))) (.leaf (.bool (.lit false))))) (.ite ((bif z0 then bif k == 1 then true else bif k == 2 then false else u4 else false) == (k ==
  1)) (.leaf (.bool (.sym (z10 == w4)))) (.leaf (.bool (.lit false))))) (.ite (z10 == n) (.ite ((bif z0 then bif k == 1 then true else bif k == 2 then false else u4 else false) == u4) (.ite (k != 1) (.ite (k != 2) (.leaf
  (.bool (.lit true))) (.ite ((bif z0 then bif k == 1 then true else bif k == 2 then false else u4 else false) == (k == 1)) (.leaf (.bool (.sym (z10 == w4)))) (.leaf (.bool (.lit false))))) (.ite ((bif z0 then bif k == 1
  then true else bif k == 2 then false else u4 else false) == (k == 1)) (.leaf (.bool (.sym (z10 == w4)))) (.leaf (.bool (.lit false))))) (.leaf (.bool (.lit false)))) (.leaf (.bool (.lit false))))) (.ite ((bif z0 then u0
  else false) == u0 && (z2 == w0 && z3 == h0) && ((bif z0 then u1 else false) == u1 && (z4 == w1 && z5 == h1) && ((bif z0 then u2 else false) == u2 && (z6 == w2 && z7 == h2) && ((bif z0 then u3 else false) == u3 && (z8 ==
  w3 && z9 == h3) && ((bif z0 then bif k == 1 then true else bif k == 2 then false else u4 else false) == u4 && (z10 == w4 && z11 == h4)))))) (.ite (k != 3) (.ite (k != 1) (.ite (k != 2) (.leaf (.bool (.lit true))) (.ite
  ((bif z0 then bif k == 1 then true else bif k == 2 then false else u4 else false) == (k == 1)) (.leaf (.bool (.sym (z10 == w4)))) (.leaf (.bool (.lit false))))) (.ite ((bif z0 then bif k == 1 then true else bif k == 2
  then false else u4 else false) == (k == 1)) (.leaf (.bool (.sym (z10 == w4)))) (.leaf (.bool (.lit false))))) (.ite (z10 == n) (.ite ((bif z0 then bif k == 1 then true else bif k == 2 then false else u4 else false) ==
  u4) (.ite (k != 1) (.ite (k != 2) (.leaf (.bool (.lit true))) (.ite ((bif z0 then bif k == 1 then true else bif k == 2 then false else u4 else false) == (k == 1)) (.leaf (.bool (.sym (z10 == w4)))) (.leaf (.bool (.lit
  false))))) (.ite ((bif z0 then bif k == 1 then true else bif k == 2 then false else u4 else false) == (k == 1)) (.leaf (.bool (.sym (z10 == w4)))) (.leaf (.bool (.lit false))))) (.leaf (.bool (.lit false)))) (.leaf
  (.bool (.lit false))))) (.leaf (.bool (.lit false))))) (.leaf (.bool (.lit false)))) (.leaf (.bool (.lit false)))) (.leaf (.bool (.lit false)))))))))))))) := by kernel_rfl

set_option maxHeartbeats 4000000 in
theorem touch0_good (e w0 h0 w1 h1 w2 h2 w3 h3 w4 h4 : Int) (u0 u1 u2 u3 u4 : Bool) (k n : Int) : (runV Try.prog mcT 300 10 [.agg [.int .u32 (.sym e), .bool (.sym u0), .int .i64 (.sym w0), .int .u8 (.sym h0), .bool (.sym u1), .int .i64 (.sym w1), .int .u8 (.sym h1), .bool (.sym u2), .int .i64 (.sym w2), .int .u8 (.sym h2), .bool (.sym u3), .int .i64 (.sym w3), .int .u8 (.sym h3), .bool (.sym u4), .int .i64 (.sym w4), .int .u8 (.sym h4)], .agg [.int .u8 (.sym k), .int .u8 (.lit 0), .int .i64 (.sym n)]]).Holds GoodV := by
  rw [touch0]
  cases hok : apOk e w0 h0 w1 h1 w2 h2 w3 h3 w4 h4 k 0 n with
  | false =>
    repeat' (first | refine holds_inI ?_ | refine holds_inB ?_ | refine holds_must ?_ ?_ | refine holds_ite (fun h => ?_) (fun h => ?_) | refine good_sym ?_ | refine good_lit)
    all_goals simp only [hok, cond_false] at *
    all_goals simp at *
  | true =>
    obtain ⟨e1, e2, m1, i1⟩ := apOk_le hok
    obtain ⟨hk, _⟩ := incB_in i1
    have hw : IntKind.u32.wrap (e + 1) = e + 1 := IntWalk.u32_in _ (by omega)
    have m2 : isMapB (e + 1) (bif k == 3 then n else w0) h0 w1 h1 w2 h2 w3 h3 w4 h4 = true := by simpa using map_next m1 i1 e2
    have o2 : apOk (e + 1) (bif k == 3 then n else w0) h0 w1 h1 w2 h2 w3 h3 w4 h4 k 0 n = !(e + 1 == 60) := by unfold apOk; rw [m2, i1]; rfl
    clear m1 i1 e1
    repeat' (first | refine holds_inI ?_ | refine holds_inB ?_ | refine holds_must ?_ ?_ | refine holds_ite (fun h => ?_) (fun h => ?_) | refine good_sym ?_ | refine good_lit)
    all_goals simp only [hok, cond_true, o2, hw, m2] at *
    all_goals generalize (e + 1 == 60) = c at *
    all_goals cases c
    all_goals (rcases hk with rfl | rfl | rfl | rfl <;> first | (simp at *; done) | (simp at *; omega) | simp_all)
set_option maxHeartbeats 4000000 in
theorem touch1_good (e w0 h0 w1 h1 w2 h2 w3 h3 w4 h4 : Int) (u0 u1 u2 u3 u4 : Bool) (k n : Int) : (runV Try.prog mcT 300 10 [.agg [.int .u32 (.sym e), .bool (.sym u0), .int .i64 (.sym w0), .int .u8 (.sym h0), .bool (.sym u1), .int .i64 (.sym w1), .int .u8 (.sym h1), .bool (.sym u2), .int .i64 (.sym w2), .int .u8 (.sym h2), .bool (.sym u3), .int .i64 (.sym w3), .int .u8 (.sym h3), .bool (.sym u4), .int .i64 (.sym w4), .int .u8 (.sym h4)], .agg [.int .u8 (.sym k), .int .u8 (.lit 1), .int .i64 (.sym n)]]).Holds GoodV := by
  rw [touch1]
  cases hok : apOk e w0 h0 w1 h1 w2 h2 w3 h3 w4 h4 k 1 n with
  | false =>
    repeat' (first | refine holds_inI ?_ | refine holds_inB ?_ | refine holds_must ?_ ?_ | refine holds_ite (fun h => ?_) (fun h => ?_) | refine good_sym ?_ | refine good_lit)
    all_goals simp only [hok, cond_false] at *
    all_goals simp at *
  | true =>
    obtain ⟨e1, e2, m1, i1⟩ := apOk_le hok
    obtain ⟨hk, _⟩ := incB_in i1
    have hw : IntKind.u32.wrap (e + 1) = e + 1 := IntWalk.u32_in _ (by omega)
    have m2 : isMapB (e + 1) w0 h0 (bif k == 3 then n else w1) h1 w2 h2 w3 h3 w4 h4 = true := by simpa using map_next m1 i1 e2
    have o2 : apOk (e + 1) w0 h0 (bif k == 3 then n else w1) h1 w2 h2 w3 h3 w4 h4 k 1 n = !(e + 1 == 60) := by unfold apOk; rw [m2, i1]; rfl
    clear m1 i1 e1
    repeat' (first | refine holds_inI ?_ | refine holds_inB ?_ | refine holds_must ?_ ?_ | refine holds_ite (fun h => ?_) (fun h => ?_) | refine good_sym ?_ | refine good_lit)
    all_goals simp only [hok, cond_true, o2, hw, m2] at *
    all_goals generalize (e + 1 == 60) = c at *
    all_goals cases c
    all_goals (rcases hk with rfl | rfl | rfl | rfl <;> first | (simp at *; done) | (simp at *; omega) | simp_all)
set_option maxHeartbeats 4000000 in
theorem touch2_good (e w0 h0 w1 h1 w2 h2 w3 h3 w4 h4 : Int) (u0 u1 u2 u3 u4 : Bool) (k n : Int) : (runV Try.prog mcT 300 10 [.agg [.int .u32 (.sym e), .bool (.sym u0), .int .i64 (.sym w0), .int .u8 (.sym h0), .bool (.sym u1), .int .i64 (.sym w1), .int .u8 (.sym h1), .bool (.sym u2), .int .i64 (.sym w2), .int .u8 (.sym h2), .bool (.sym u3), .int .i64 (.sym w3), .int .u8 (.sym h3), .bool (.sym u4), .int .i64 (.sym w4), .int .u8 (.sym h4)], .agg [.int .u8 (.sym k), .int .u8 (.lit 2), .int .i64 (.sym n)]]).Holds GoodV := by
  rw [touch2]
  cases hok : apOk e w0 h0 w1 h1 w2 h2 w3 h3 w4 h4 k 2 n with
  | false =>
    repeat' (first | refine holds_inI ?_ | refine holds_inB ?_ | refine holds_must ?_ ?_ | refine holds_ite (fun h => ?_) (fun h => ?_) | refine good_sym ?_ | refine good_lit)
    all_goals simp only [hok, cond_false] at *
    all_goals simp at *
  | true =>
    obtain ⟨e1, e2, m1, i1⟩ := apOk_le hok
    obtain ⟨hk, _⟩ := incB_in i1
    have hw : IntKind.u32.wrap (e + 1) = e + 1 := IntWalk.u32_in _ (by omega)
    have m2 : isMapB (e + 1) w0 h0 w1 h1 (bif k == 3 then n else w2) h2 w3 h3 w4 h4 = true := by simpa using map_next m1 i1 e2
    have o2 : apOk (e + 1) w0 h0 w1 h1 (bif k == 3 then n else w2) h2 w3 h3 w4 h4 k 2 n = !(e + 1 == 60) := by unfold apOk; rw [m2, i1]; rfl
    clear m1 i1 e1
    repeat' (first | refine holds_inI ?_ | refine holds_inB ?_ | refine holds_must ?_ ?_ | refine holds_ite (fun h => ?_) (fun h => ?_) | refine good_sym ?_ | refine good_lit)
    all_goals simp only [hok, cond_true, o2, hw, m2] at *
    all_goals generalize (e + 1 == 60) = c at *
    all_goals cases c
    all_goals (rcases hk with rfl | rfl | rfl | rfl <;> first | (simp at *; done) | (simp at *; omega) | simp_all)
set_option maxHeartbeats 4000000 in
theorem touch3_good (e w0 h0 w1 h1 w2 h2 w3 h3 w4 h4 : Int) (u0 u1 u2 u3 u4 : Bool) (k n : Int) : (runV Try.prog mcT 300 10 [.agg [.int .u32 (.sym e), .bool (.sym u0), .int .i64 (.sym w0), .int .u8 (.sym h0), .bool (.sym u1), .int .i64 (.sym w1), .int .u8 (.sym h1), .bool (.sym u2), .int .i64 (.sym w2), .int .u8 (.sym h2), .bool (.sym u3), .int .i64 (.sym w3), .int .u8 (.sym h3), .bool (.sym u4), .int .i64 (.sym w4), .int .u8 (.sym h4)], .agg [.int .u8 (.sym k), .int .u8 (.lit 3), .int .i64 (.sym n)]]).Holds GoodV := by
  rw [touch3]
  cases hok : apOk e w0 h0 w1 h1 w2 h2 w3 h3 w4 h4 k 3 n with
  | false =>
    repeat' (first | refine holds_inI ?_ | refine holds_inB ?_ | refine holds_must ?_ ?_ | refine holds_ite (fun h => ?_) (fun h => ?_) | refine good_sym ?_ | refine good_lit)
    all_goals simp only [hok, cond_false] at *
    all_goals simp at *
  | true =>
    obtain ⟨e1, e2, m1, i1⟩ := apOk_le hok
    obtain ⟨hk, _⟩ := incB_in i1
    have hw : IntKind.u32.wrap (e + 1) = e + 1 := IntWalk.u32_in _ (by omega)
    have m2 : isMapB (e + 1) w0 h0 w1 h1 w2 h2 (bif k == 3 then n else w3) h3 w4 h4 = true := by simpa using map_next m1 i1 e2
    have o2 : apOk (e + 1) w0 h0 w1 h1 w2 h2 (bif k == 3 then n else w3) h3 w4 h4 k 3 n = !(e + 1 == 60) := by unfold apOk; rw [m2, i1]; rfl
    clear m1 i1 e1
    repeat' (first | refine holds_inI ?_ | refine holds_inB ?_ | refine holds_must ?_ ?_ | refine holds_ite (fun h => ?_) (fun h => ?_) | refine good_sym ?_ | refine good_lit)
    all_goals simp only [hok, cond_true, o2, hw, m2] at *
    all_goals generalize (e + 1 == 60) = c at *
    all_goals cases c
    all_goals (rcases hk with rfl | rfl | rfl | rfl <;> first | (simp at *; done) | (simp at *; omega) | simp_all)
set_option maxHeartbeats 4000000 in
theorem touch4_good (e w0 h0 w1 h1 w2 h2 w3 h3 w4 h4 : Int) (u0 u1 u2 u3 u4 : Bool) (k n : Int) : (runV Try.prog mcT 300 10 [.agg [.int .u32 (.sym e), .bool (.sym u0), .int .i64 (.sym w0), .int .u8 (.sym h0), .bool (.sym u1), .int .i64 (.sym w1), .int .u8 (.sym h1), .bool (.sym u2), .int .i64 (.sym w2), .int .u8 (.sym h2), .bool (.sym u3), .int .i64 (.sym w3), .int .u8 (.sym h3), .bool (.sym u4), .int .i64 (.sym w4), .int .u8 (.sym h4)], .agg [.int .u8 (.sym k), .int .u8 (.lit 4), .int .i64 (.sym n)]]).Holds GoodV := by
  rw [touch4]
  cases hok : apOk e w0 h0 w1 h1 w2 h2 w3 h3 w4 h4 k 4 n with
  | false =>
    repeat' (first | refine holds_inI ?_ | refine holds_inB ?_ | refine holds_must ?_ ?_ | refine holds_ite (fun h => ?_) (fun h => ?_) | refine good_sym ?_ | refine good_lit)
    all_goals simp only [hok, cond_false] at *
    all_goals simp at *
  | true =>
    obtain ⟨e1, e2, m1, i1⟩ := apOk_le hok
    obtain ⟨hk, _⟩ := incB_in i1
    have hw : IntKind.u32.wrap (e + 1) = e + 1 := IntWalk.u32_in _ (by omega)
    have m2 : isMapB (e + 1) w0 h0 w1 h1 w2 h2 w3 h3 (bif k == 3 then n else w4) h4 = true := by simpa using map_next m1 i1 e2
    have o2 : apOk (e + 1) w0 h0 w1 h1 w2 h2 w3 h3 (bif k == 3 then n else w4) h4 k 4 n = !(e + 1 == 60) := by unfold apOk; rw [m2, i1]; rfl
    clear m1 i1 e1
    repeat' (first | refine holds_inI ?_ | refine holds_inB ?_ | refine holds_must ?_ ?_ | refine holds_ite (fun h => ?_) (fun h => ?_) | refine good_sym ?_ | refine good_lit)
    all_goals simp only [hok, cond_true, o2, hw, m2] at *
    all_goals generalize (e + 1 == 60) = c at *
    all_goals cases c
    all_goals (rcases hk with rfl | rfl | rfl | rfl <;> first | (simp at *; done) | (simp at *; omega) | simp_all)
theorem touch_c (e w0 h0 w1 h1 w2 h2 w3 h3 w4 h4 : Int) (u0 u1 u2 u3 u4 : Bool) (k o n : Int) (ho : 0 ≤ o) (W : World) : Calls Try.prog 10 (denL default [.agg [.int .u32 (.sym e), .bool (.sym u0), .int .i64 (.sym w0), .int .u8 (.sym h0), .bool (.sym u1), .int .i64 (.sym w1), .int .u8 (.sym h1), .bool (.sym u2), .int .i64 (.sym w2), .int .u8 (.sym h2), .bool (.sym u3), .int .i64 (.sym w3), .int .u8 (.sym h3), .bool (.sym u4), .int .i64 (.sym w4), .int .u8 (.sym h4)], .agg [.int .u8 (.sym k), .int .u8 (.sym o), .int .i64 (.sym n)]]).toArray W fun e W' => e = .returned (.bool true) ∧ Below W.heap.size W W' := by
  by_cases h5 : o < 5
  · have oo : o = 0 ∨ o = 1 ∨ o = 2 ∨ o = 3 ∨ o = 4 := by omega
    rcases oo with rfl | rfl | rfl | rfl | rfl
    · exact law_c mcTab mixed (touch0_good e w0 h0 w1 h1 w2 h2 w3 h3 w4 h4 u0 u1 u2 u3 u4 k n) W fun E => rfl
    · exact law_c mcTab mixed (touch1_good e w0 h0 w1 h1 w2 h2 w3 h3 w4 h4 u0 u1 u2 u3 u4 k n) W fun E => rfl
    · exact law_c mcTab mixed (touch2_good e w0 h0 w1 h1 w2 h2 w3 h3 w4 h4 u0 u1 u2 u3 u4 k n) W fun E => rfl
    · exact law_c mcTab mixed (touch3_good e w0 h0 w1 h1 w2 h2 w3 h3 w4 h4 u0 u1 u2 u3 u4 k n) W fun E => rfl
    · exact law_c mcTab mixed (touch4_good e w0 h0 w1 h1 w2 h2 w3 h3 w4 h4 u0 u1 u2 u3 u4 k n) W fun E => rfl
  · refine law_c mbadTab mixed (show (runV Try.prog mbadT 300 10 [.agg [.int .u32 (.sym e), .bool (.sym u0), .int .i64 (.sym w0), .int .u8 (.sym h0), .bool (.sym u1), .int .i64 (.sym w1), .int .u8 (.sym h1), .bool (.sym u2), .int .i64 (.sym w2), .int .u8 (.sym h2), .bool (.sym u3), .int .i64 (.sym w3), .int .u8 (.sym h3), .bool (.sym u4), .int .i64 (.sym w4), .int .u8 (.sym h4)], .agg [.int .u8 (.sym k), .int .u8 (.sym o), .int .i64 (.sym n)]]).Holds GoodV from ?_) W fun E => rfl
    rw [touch_bad]
    refine holds_must ?_ good_lit
    cases hok : apOk e w0 h0 w1 h1 w2 h2 w3 h3 w4 h4 k o n with
    | false => rfl
    | true =>
      have := (incB_in (apOk_le hok).2.2.2).2
      omega
set_option maxRecDepth 100000 in
theorem touch_lifted (os : Os) (started : os.Started) (H : Type) (enc : TypeId × Value → H) :
    ReturnsInHanded {} Try.checked os 10 .any (Rows.mapsTouchSpec.pre6 enc Try.prog Try.f10 Rows.mapsTouchRow.domain false) (Rows.mapsTouchSpec.post enc Try.prog Try.f10 false true false false) := by
  refine law_lifted (C := Try.checked) Try.own started (by kernel_rfl) Try.func10
    (ChangeSpec.witness6 (enc := enc) (C := Try.checked) false ⟨#[], #[.agg #[.int .u32 0, .bool false, .int .i64 0, .int .u8 0, .bool false, .int .i64 0, .int .u8 0, .bool false, .int .i64 0, .int .u8 0, .bool false, .int .i64 0, .int .u8 0, .bool false, .int .i64 0, .int .u8 0], .agg #[.int .u8 0, .int .u8 0, .int .i64 0]], []⟩ 8 (by kernel_rfl) (by kernel_rfl) (by kernel_rfl) (by kernel_rfl))
    Try.laidOut ?_ (B := 4) (by kernel_rfl) (by kernel_rfl) rfl ?_ ?_
  · intro t ht
    rw [Try.params10] at ht
    have : t = 59 ∨ t = 31 := by
      simp at ht
      first | exact ht | omega
    rcases this with rfl | rfl <;> exact ⟨by kernel_rfl, of_decide_eq_true (by kernel_rfl)⟩
  · intro ds h
    rw [Try.params10] at h
    match ds, h with
    | [d1, d2], _ => rfl
  · intro W base args ds p hval hA hlt
    rw [Try.params10] at hA hval
    obtain ⟨v0, v1, d0, d1, p0, p1, rfl, rfl, rfl, h0, h1⟩ := trodAll_two hA
    obtain ⟨m, b, wm, hm⟩ := open_plain Try.underlying59 pk59 (hval 0 59 v0 rfl rfl) h0
    obtain ⟨x, _, wx, hx⟩ := open_plain Try.underlying31 pk31 (hval 1 31 v1 rfl rfl) h1
    rw [hm default, hx default]
    exact touch_c (m 0) (m 2) (m 3) (m 5) (m 6) (m 8) (m 9) (m 11) (m 12) (m 14) (m 15) (b 1) (b 4) (b 7) (b 10) (b 13) (x 0) (x 1) (x 2) (wf_u8 wx.2.1).1 W

theorem mapsTouch_holds : Rows.MapsTouchSaid :=
  OpenClaim.holds_of_wide 10 Try.f10 rfl rfl rfl rfl rfl rfl rfl ⟨rfl, rfl, rfl, rfl, rfl⟩ rfl rfl rfl rfl rfl (by kernel_rfl) Try.func10 (by kernel_rfl)
    (of_decide_eq_true (by kernel_rfl)) (by unfold Func.isWrapper; rw [if_neg (by decide +kernel)]; exact ⟨rfl, rfl⟩)
    (fun os started H enc _ => touch_lifted os started H enc)
end Go.Proofs.Ytobknnmalnfknaa
