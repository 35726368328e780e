/- MapsEither: increments of unlike daemons come to the same in either order.
   Conditions: none. -/
import Derived.Test.YtobknnmalnfknaaMi
set_option linter.unusedSimpArgs false
set_option linter.unusedVariables false
namespace Go.Proofs.Ytobknnmalnfknaa
open Go.Eng Go.RowKit Go.Joins Go.ChangeShapes Go.WideShapes
set_option maxRecDepth 100000
theorem either_tree (k o n l p q : Int) : runV Try.prog mcT 300 15 [.agg [.int .u8 (.sym k), .int .u8 (.sym o), .int .i64 (.sym n)], .agg [.int .u8 (.sym l), .int .u8 (.sym p), .int .i64 (.sym q)]] =
  .ite (!isIncB k o n) (.leaf (.bool (.lit true))) (.ite (!isIncB l p q) (.leaf (.bool (.lit true))) (.ite (o == p) (.leaf (.bool (.lit true))) (.defI k fun z0 => .defI o fun z1 => .defI n fun z2 => .must (decide (z1 ≥ 0))
  (.defB (apOk 1 8 0 8 1 8 2 8 3 8 0 z0 z1 z2) fun z3 => .defI (bif z3 then 2 else 0) fun z4 => .defI (bif z3 then bif z1 == 0 && z0 == 3 then z2 else 8 else 0) fun z5 => .defI (bif z3 then 0 else 0) fun z6 => .defI (bif
  z3 then bif z1 == 1 && z0 == 3 then z2 else 8 else 0) fun z7 => .defI (bif z3 then 1 else 0) fun z8 => .defI (bif z3 then bif z1 == 2 && z0 == 3 then z2 else 8 else 0) fun z9 => .defI (bif z3 then 2 else 0) fun z10 =>
  .defI (bif z3 then bif z1 == 3 && z0 == 3 then z2 else 8 else 0) fun z11 => .defI (bif z3 then 3 else 0) fun z12 => .defI (bif z3 then bif z1 == 4 && z0 == 3 then z2 else 8 else 0) fun z13 => .defI (bif z3 then 0 else 0)
  fun z14 => .defI (bif z3 then 0 else 40) fun z15 => .ite (z15 != 0) (.defI l fun z16 => .defI p fun z17 => .defI q fun z18 => .must (decide (z17 ≥ 0)) (.defB (apOk 1 8 0 8 1 8 2 8 3 8 0 z16 z17 z18) fun z19 => .defI (bif
  z19 then 2 else 0) fun z20 => .defI (bif z19 then bif z17 == 0 && z16 == 3 then z18 else 8 else 0) fun z21 => .defI (bif z19 then 0 else 0) fun z22 => .defI (bif z19 then bif z17 == 1 && z16 == 3 then z18 else 8 else 0)
  fun z23 => .defI (bif z19 then 1 else 0) fun z24 => .defI (bif z19 then bif z17 == 2 && z16 == 3 then z18 else 8 else 0) fun z25 => .defI (bif z19 then 2 else 0) fun z26 => .defI (bif z19 then bif z17 == 3 && z16 == 3
  then z18 else 8 else 0) fun z27 => .defI (bif z19 then 3 else 0) fun z28 => .defI (bif z19 then bif z17 == 4 && z16 == 3 then z18 else 8 else 0) fun z29 => .defI (bif z19 then 0 else 0) fun z30 => .defI (bif z19 then 0
  else 40) fun z31 => .ite (z31 != 0) (.ite (z15 == 0) (.ite (z31 == 0) (.leaf (.bool (.lit true))) (.leaf (.bool (.lit false)))) (.leaf (.bool (.lit false)))) (.defI k fun z32 => .defI o fun z33 => .defI n fun z34 =>
  .must (decide (z33 ≥ 0)) (.defB (apOk z20 z21 z22 z23 z24 z25 z26 z27 z28 z29 z30 z32 z33 z34) fun z35 => .defI (bif z35 then z20 + 1 else 0) fun z36 => .defI (bif z35 then bif z33 == 0 && z32 == 3 then z34 else z21 else
  0) fun z37 => .defI (bif z35 then z22 else 0) fun z38 => .defI (bif z35 then bif z33 == 1 && z32 == 3 then z34 else z23 else 0) fun z39 => .defI (bif z35 then z24 else 0) fun z40 => .defI (bif z35 then bif z33 == 2 &&
  z32 == 3 then z34 else z25 else 0) fun z41 => .defI (bif z35 then z26 else 0) fun z42 => .defI (bif z35 then bif z33 == 3 && z32 == 3 then z34 else z27 else 0) fun z43 => .defI (bif z35 then z28 else 0) fun z44 => .defI
  (bif z35 then bif z33 == 4 && z32 == 3 then z34 else z29 else 0) fun z45 => .defI (bif z35 then z30 else 0) fun z46 => .defI (bif z35 then 0 else 40) fun z47 => .ite (z47 != 0) (.ite (z15 == 0) (.ite (z47 == 0) (.leaf
  (.bool (.lit true))) (.leaf (.bool (.lit false)))) (.leaf (.bool (.lit false)))) (.ite (z15 == 0) (.leaf (.bool (.sym (0 == z36 && ((false == bif z35 then bif z33 == 0 && z32 == 1 then true else bif z33 == 0 && z32 == 2
  then false else bif z19 then bif z17 == 0 && z16 == 1 then true else bif z17 == 0 && z16 == 2 then false else true else false else false) && (0 == z37 && 0 == z38) && ((false == bif z35 then bif z33 == 1 && z32 == 1 then
  true else bif z33 == 1 && z32 == 2 then false else bif z19 then bif z17 == 1 && z16 == 1 then true else bif z17 == 1 && z16 == 2 then false else true else false else false) && (0 == z39 && 0 == z40) && ((false == bif z35
  then bif z33 == 2 && z32 == 1 then true else bif z33 == 2 && z32 == 2 then false else bif z19 then bif z17 == 2 && z16 == 1 then true else bif z17 == 2 && z16 == 2 then false else true else false else false) && (0 == z41
  && 0 == z42) && ((false == bif z35 then bif z33 == 3 && z32 == 1 then true else bif z33 == 3 && z32 == 2 then false else bif z19 then bif z17 == 3 && z16 == 1 then true else bif z17 == 3 && z16 == 2 then false else true
  else false else false) && (0 == z43 && 0 == z44) && ((false == bif z35 then bif z33 == 4 && z32 == 1 then true else bif z33 == 4 && z32 == 2 then false else bif z19 then bif z17 == 4 && z16 == 1 then true else bif z17 ==
  4 && z16 == 2 then false else true else false else false) && (0 == z45 && 0 == z46)))))))))) (.leaf (.bool (.lit false)))))))) (.defI l fun z48 => .defI p fun z49 => .defI q fun z50 => .must (decide (z49 ≥ 0)) (.defB
  (apOk z4 z5 z6 z7 z8 z9 z10 z11 z12 z13 z14 z48 z49 z50) fun z51 => .defI (bif z51 then z4 + 1 else 0) fun z52 => .defI (bif z51 then bif z49 == 0 && z48 == 3 then z50 else z5 else 0) fun z53 => .defI (bif z51 then z6
  else 0) fun z54 => .defI (bif z51 then bif z49 == 1 && z48 == 3 then z50 else z7 else 0) fun z55 => .defI (bif z51 then z8 else 0) fun z56 => .defI (bif z51 then bif z49 == 2 && z48 == 3 then z50 else z9 else 0) fun z57
  => .defI (bif z51 then z10 else 0) fun z58 => .defI (bif z51 then bif z49 == 3 && z48 == 3 then z50 else z11 else 0) fun z59 => .defI (bif z51 then z12 else 0) fun z60 => .defI (bif z51 then bif z49 == 4 && z48 == 3 then
  z50 else z13 else 0) fun z61 => .defI (bif z51 then z14 else 0) fun z62 => .defI (bif z51 then 0 else 40) fun z63 => .ite (z63 != 0) (.defI l fun z64 => .defI p fun z65 => .defI q fun z66 => .must (decide (z65 ≥ 0))
  (.defB (apOk 1 8 0 8 1 8 2 8 3 8 0 z64 z65 z66) fun z67 => .defI (bif z67 then 2 else 0) fun z68 => .defI (bif z67 then bif z65 == 0 && z64 == 3 then z66 else 8 else 0) fun z69 => .defI (bif z67 then 0 else 0) fun z70 =>
  .defI (bif z67 then bif z65 == 1 && z64 == 3 then z66 else 8 else 0) fun z71 => .defI (bif z67 then 1 else 0) fun z72 => .defI (bif z67 then bif z65 == 2 && z64 == 3 then z66 else 8 else 0) fun z73 => .defI (bif z67 then
  2 else 0) fun z74 => .defI (bif z67 then bif z65 == 3 && z64 == 3 then z66 else 8 else 0) fun z75 => .defI (bif z67 then 3 else 0) fun z76 => .defI (bif z67 then bif z65 == 4 && z64 == 3 then z66 else 8 else 0) fun z77
  => .defI (bif z67 then 0 else 0) fun z78 => .defI (bif z67 then 0 else 40) fun z79 => .ite (z79 != 0) (.ite (z63 == 0) (.ite (z79 == 0) (.leaf (.bool (.lit true))) (.leaf (.bool (.lit false)))) (.leaf (.bool (.lit
  false)))) (.defI k fun z80 => .defI o fun z81 => .defI n fun z82 => .must (decide (z81 ≥ 0)) (.defB (apOk z68 z69 z70 z71 z72 z73 z74 z75 z76 z77 z78 z80 z81 z82) fun z83 => .defI (bif z83 then z68 + 1 else 0) fun z84 =>
  .defI (bif z83 then bif z81 == 0 && z80 == 3 then z82 else z69 else 0) fun z85 => .defI (bif z83 then z70 else 0) fun z86 => .defI (bif z83 then bif z81 == 1 && z80 == 3 then z82 else z71 else 0) fun z87 => .defI (bif
  z83 then z72 else 0) fun z88 => .defI (bif z83 then bif z81 == 2 && z80 == 3 then z82 else z73 else 0) fun z89 => .defI (bif z83 then z74 else 0) fun z90 => .defI (bif z83 then bif z81 == 3 && z80 == 3 then z82 else z75
  else 0) fun z91 => .defI (bif z83 then z76 else 0) fun z92 => .defI (bif z83 then bif z81 == 4 && z80 == 3 then z82 else z77 else 0) fun z93 => .defI (bif z83 then z78 else 0) fun z94 => .defI (bif z83 then 0 else 40)
  fun z95 => .ite (z95 != 0) (.ite (z63 == 0) (.ite (z95 == 0) (.leaf (.bool (.lit true))) (.leaf (.bool (.lit false)))) (.leaf (.bool (.lit false)))) (.ite (z63 == 0) (.leaf (.bool (.sym (0 == z84 && ((false == bif z83
  then bif z81 == 0 && z80 == 1 then true else bif z81 == 0 && z80 == 2 then false else bif z67 then bif z65 == 0 && z64 == 1 then true else bif z65 == 0 && z64 == 2 then false else true else false else false) && (0 == z85
  && 0 == z86) && ((false == bif z83 then bif z81 == 1 && z80 == 1 then true else bif z81 == 1 && z80 == 2 then false else bif z67 then bif z65 == 1 && z64 == 1 then true else bif z65 == 1 && z64 == 2 then false else true
  else false else false) && (0 == z87 && 0 == z88) && ((false == bif z83 then bif z81 == 2 && z80 == 1 then true else bif z81 == 2 && z80 == 2 then false else bif z67 then bif z65 == 2 && z64 == 1 then true else bif z65 ==
  2 && z64 == 2 then false else true else false else false) && (0 == z89 && 0 == z90) && ((false == bif z83 then bif z81 == 3 && z80 == 1 then true else bif z81 == 3 && z80 == 2 then false else bif z67 then bif z65 == 3 &&
  z64 == 1 then true else bif z65 == 3 && z64 == 2 then false else true else false else false) && (0 == z91 && 0 == z92) && ((false == bif z83 then bif z81 == 4 && z80 == 1 then true else bif z81 == 4 && z80 == 2 then
  false else bif z67 then bif z65 == 4 && z64 == 1 then true else bif z65 == 4 && z64 == 2 then false else true else false else false) && (0 == z93 && 0 == z94)))))))))) (.leaf (.bool (.lit false)))))))) (.defI l fun z96
  => .defI p fun z97 => .defI q fun z98 => .must (decide (z97 ≥ 0)) (.defB (apOk 1 8 0 8 1 8 2 8 3 8 0 z96 z97 z98) fun z99 => .defI (bif z99 then 2 else 0) fun z100 => .defI (bif z99 then bif z97 == 0 && z96 == 3 then z98
  else 8 else 0) fun z101 => .defI (bif z99 then 0 else 0) fun z102 => .defI (bif z99 then bif z97 == 1 && z96 == 3 then z98 else 8 else 0) fun z103 => .defI (bif z99 then 1 else 0) fun z104 => .defI (bif z99 then bif z97
  == 2 && z96 == 3 then z98 else 8 else 0) fun z105 => .defI (bif z99 then 2 else 0) fun z106 => .defI (bif z99 then bif z97 == 3 && z96 == 3 then z98 else 8 else 0) fun z107 => .defI (bif z99 then 3 else 0) fun z108 =>
  .defI (bif z99 then bif z97 == 4 && z96 == 3 then z98 else 8 else 0) fun z109 => .defI (bif z99 then 0 else 0) fun z110 => .defI (bif z99 then 0 else 40) fun z111 => .ite (z111 != 0) (.ite (z111 == 0) (.leaf (.bool (.sym
  (z52 == 0 && ((bif z51 then bif z49 == 0 && z48 == 1 then true else bif z49 == 0 && z48 == 2 then false else bif z3 then bif z1 == 0 && z0 == 1 then true else bif z1 == 0 && z0 == 2 then false else true else false else
  false) == false && (z53 == 0 && z54 == 0) && ((bif z51 then bif z49 == 1 && z48 == 1 then true else bif z49 == 1 && z48 == 2 then false else bif z3 then bif z1 == 1 && z0 == 1 then true else bif z1 == 1 && z0 == 2 then
  false else true else false else false) == false && (z55 == 0 && z56 == 0) && ((bif z51 then bif z49 == 2 && z48 == 1 then true else bif z49 == 2 && z48 == 2 then false else bif z3 then bif z1 == 2 && z0 == 1 then true
  else bif z1 == 2 && z0 == 2 then false else true else false else false) == false && (z57 == 0 && z58 == 0) && ((bif z51 then bif z49 == 3 && z48 == 1 then true else bif z49 == 3 && z48 == 2 then false else bif z3 then
  bif z1 == 3 && z0 == 1 then true else bif z1 == 3 && z0 == 2 then false else true else false else false) == false && (z59 == 0 && z60 == 0) && ((bif z51 then bif z49 == 4 && z48 == 1 then true else bif z49 == 4 && z48 ==
  2 then false else bif z3 then bif z1 == 4 && z0 == 1 then true else bif z1 == 4 && z0 == 2 then false else true else false else false) == false && (z61 == 0 && z62 == 0)))))))))) (.leaf (.bool (.lit false)))) (.defI k
  fun z112 => .defI o fun z113 => .defI n fun z114 => .must (decide (z113 ≥ 0)) (.defB (apOk z100 z101 z102 z103 z104 z105 z106 z107 z108 z109 z110 z112 z113 z114) fun z115 => .defI (bif z115 then z100 + 1 else 0) fun z116
  => .defI (bif z115 then bif z113 == 0 && z112 == 3 then z114 else z101 else 0) fun z117 => .defI (bif z115 then z102 else 0) fun z118 => .defI (bif z115 then bif z113 == 1 && z112 == 3 then z114 else z103 else 0) fun
  z119 => .defI (bif z115 then z104 else 0) fun z120 => .defI (bif z115 then bif z113 == 2 && z112 == 3 then z114 else z105 else 0) fun z121 => .defI (bif z115 then z106 else 0) fun z122 => .defI (bif z115 then bif z113 ==
  3 && z112 == 3 then z114 else z107 else 0) fun z123 => .defI (bif z115 then z108 else 0) fun z124 => .defI (bif z115 then bif z113 == 4 && z112 == 3 then z114 else z109 else 0) fun z125 => .defI (bif z115 then z110 else
  0) fun z126 => .defI (bif z115 then 0 else 40) fun z127 => .ite (z127 != 0) (.ite (z127 == 0) (.leaf (.bool (.sym (z52 == 0 && ((bif z51 then bif z49 == 0 && z48 == 1 then true else bif z49 == 0 && z48 == 2 then false
  else bif z3 then bif z1 == 0 && z0 == 1 then true else bif z1 == 0 && z0 == 2 then false else true else false else false) == false && (z53 == 0 && z54 == 0) && ((bif z51 then bif z49 == 1 && z48 == 1 then true else bif
  z49 == 1 && z48 == 2 then false else bif z3 then bif z1 == 1 && z0 == 1 then true else bif z1 == 1 && z0 == 2 then false else true else false else false) == false && (z55 == 0 && z56 == 0) && ((bif z51 then bif z49 == 2
  && z48 == 1 then true else bif z49 == 2 && z48 == 2 then false else bif z3 then bif z1 == 2 && z0 == 1 then true else bif z1 == 2 && z0 == 2 then false else true else false else false) == false && (z57 == 0 && z58 == 0)
  && ((bif z51 then bif z49 == 3 && z48 == 1 then true else bif z49 == 3 && z48 == 2 then false else bif z3 then bif z1 == 3 && z0 == 1 then true else bif z1 == 3 && z0 == 2 then false else true else false else false) ==
  false && (z59 == 0 && z60 == 0) && ((bif z51 then bif z49 == 4 && z48 == 1 then true else bif z49 == 4 && z48 == 2 then false else bif z3 then bif z1 == 4 && z0 == 1 then true else bif z1 == 4 && z0 == 2 then false else
  true else false else false) == false && (z61 == 0 && z62 == 0)))))))))) (.leaf (.bool (.lit false)))) (.leaf (.bool (.sym (z52 == z116 && (((bif z51 then bif z49 == 0 && z48 == 1 then true else bif z49 == 0 && z48 == 2
  then false else bif z3 then bif z1 == 0 && z0 == 1 then true else bif z1 == 0 && z0 == 2 then false else true else false else false) == bif z115 then bif z113 == 0 && z112 == 1 then true else bif z113 == 0 && z112 == 2
  then false else bif z99 then bif z97 == 0 && z96 == 1 then true else bif z97 == 0 && z96 == 2 then false else true else false else false) && (z53 == z117 && z54 == z118) && (((bif z51 then bif z49 == 1 && z48 == 1 then
  true else bif z49 == 1 && z48 == 2 then false else bif z3 then bif z1 == 1 && z0 == 1 then true else bif z1 == 1 && z0 == 2 then false else true else false else false) == bif z115 then bif z113 == 1 && z112 == 1 then
  true else bif z113 == 1 && z112 == 2 then false else bif z99 then bif z97 == 1 && z96 == 1 then true else bif z97 == 1 && z96 == 2 then false else true else false else false) && (z55 == z119 && z56 == z120) && (((bif z51
  then bif z49 == 2 && z48 == 1 then true else bif z49 == 2 && z48 == 2 then false else bif z3 then bif z1 == 2 && z0 == 1 then true else bif z1 == 2 && z0 == 2 then false else true else false else false) == bif z115 then
  bif z113 == 2 && z112 == 1 then true else bif z113 == 2 && z112 == 2 then false else bif z99 then bif z97 == 2 && z96 == 1 then true else bif z97 == 2 && z96 == 2 then false else true else false else false) && (z57 ==
  z121 && z58 == z122) && (((bif z51 then bif z49 == 3 && z48 == 1 then true else bif z49 == 3 && z48 == 2 then false else bif z3 then bif z1 == 3 && z0 == 1 then true else bif z1 == 3 && z0 == 2 then false else true else
  false else false) == bif z115 then bif z113 == 3 && z112 == 1 then true else bif z113 == 3 && z112 == 2 then false else bif z99 then bif z97 == 3 && z96 == 1 then true else bif z97 == 3 && z96 == 2 then false else true
  else false else false) && (z59 == z123 && z60 == z124) && (((bif z51 then bif z49 == 4 && z48 == 1 then true else bif z49 == 4 && z48 == 2 then false else bif z3 then bif z1 == 4 && z0 == 1 then true else bif z1 == 4 &&
  z0 == 2 then false else true else false else false) == bif z115 then bif z113 == 4 && z112 == 1 then true else bif z113 == 4 && z112 == 2 then false else bif z99 then bif z97 == 4 && z96 == 1 then true else bif z97 == 4
  && z96 == 2 then false else true else false else false) && (z61 == z125 && z62 == z126)))))))))))))))))))) := by kernel_rfl


theorem wt_in {k o n i w : Int} (h : isIncB k o n = true) (hw : 0 ≤ w ∧ w ≤ 16) : 0 ≤ (bif o == i && k == 3 then n else w) ∧ (bif o == i && k == 3 then n else w) ≤ 16 := by
  cases hc : (o == i && k == 3) with
  | false => exact hw
  | true =>
    simp [isIncB] at h hc
    show 0 ≤ n ∧ n ≤ 16
    omega
theorem map_next {e w0 h0 w1 h1 w2 h2 w3 h3 w4 h4 k o n : Int} (hm : isMapB e w0 h0 w1 h1 w2 h2 w3 h3 w4 h4 = true) (hi : isIncB k o n = true) (he : e < 60) :
    isMapB (e + 1) (bif o == 0 && k == 3 then n else w0) h0 (bif o == 1 && k == 3 then n else w1) h1 (bif o == 2 && k == 3 then n else w2) h2 (bif o == 3 && k == 3 then n else w3) h3 (bif o == 4 && k == 3 then n else w4) h4 = true := by
  simp only [isMapB, osdB, Bool.and_eq_true, decide_eq_true_eq] at hm ⊢
  have a0 := wt_in (i := 0) hi hm.1.1.1.1.1.1.1
  have a1 := wt_in (i := 1) hi hm.1.1.1.1.1.2.1
  have a2 := wt_in (i := 2) hi hm.1.1.1.1.2.1
  have a3 := wt_in (i := 3) hi hm.1.1.1.2.1
  have a4 := wt_in (i := 4) hi hm.1.1.2.1
  omega
theorem ap_of {e w0 h0 w1 h1 w2 h2 w3 h3 w4 h4 k o n : Int} (hm : isMapB e w0 h0 w1 h1 w2 h2 w3 h3 w4 h4 = true) (hi : isIncB k o n = true) (he : e < 60) : apOk e w0 h0 w1 h1 w2 h2 w3 h3 w4 h4 k o n = true := by
  unfold apOk
  rw [hm, hi]
  simp
  omega
theorem first_map : isMapB 1 8 0 8 1 8 2 8 3 8 0 = true := rfl
theorem ap_second {k o n l p q : Int} (hk : isIncB k o n = true) (hl : isIncB l p q = true) : apOk 2 (bif o == 0 && k == 3 then n else 8) 0 (bif o == 1 && k == 3 then n else 8) 1 (bif o == 2 && k == 3 then n else 8) 2 (bif o == 3 && k == 3 then n else 8) 3 (bif o == 4 && k == 3 then n else 8) 0 l p q = true :=
  ap_of (map_next first_map hk (by decide)) hl (by decide)
set_option maxHeartbeats 4000000 in
theorem either_good (k o n l p q : Int) (ho : 0 ≤ o) (hp : 0 ≤ p) : (runV Try.prog mcT 300 15 [.agg [.int .u8 (.sym k), .int .u8 (.sym o), .int .i64 (.sym n)], .agg [.int .u8 (.sym l), .int .u8 (.sym p), .int .i64 (.sym q)]]).Holds GoodV := by
  rw [either_tree]
  refine holds_ite (fun _ => good_lit) fun hk => holds_ite (fun _ => good_lit) fun hl => holds_ite (fun _ => good_lit) fun hne => ?_
  have hk : isIncB k o n = true := by simpa using hk
  have hl : isIncB l p q = true := by simpa using hl
  have hne : o ≠ p := by simpa using hne
  have m1 : decide (o ≥ 0) = true := decide_eq_true ho
  have m2 : decide (p ≥ 0) = true := decide_eq_true hp
  have ko := (incB_in hk).2
  have lo := (incB_in hl).2
  have oo : o = 0 ∨ o = 1 ∨ o = 2 ∨ o = 3 ∨ o = 4 := by omega
  have po : p = 0 ∨ p = 1 ∨ p = 2 ∨ p = 3 ∨ p = 4 := by omega
  have s1 := ap_second hk hl
  have s2 := ap_second hl hk
  repeat' (first | refine holds_inI ?_ | refine holds_inB ?_ | exact holds_must m1 ?_ | exact holds_must m2 ?_ | refine holds_must m1 ?_ | refine holds_must m2 ?_)
  repeat' (first | refine holds_inI ?_ | refine holds_inB ?_ | refine holds_must m1 ?_ | refine holds_must m2 ?_ | refine holds_ite (fun h => ?_) (fun h => ?_) | refine good_sym ?_ | refine good_lit)
  all_goals simp only [ap_first, hk, hl, s1, s2, cond_true, cond_false, bne_self_eq_false, beq_self_eq_true, Bool.false_eq_true, Bool.true_eq_false] at *
  have oo := oo
  have po := po
  clear m1 m2
  rcases oo with rfl | rfl | rfl | rfl | rfl <;> rcases po with rfl | rfl | rfl | rfl | rfl <;> first | exact absurd rfl hne | simp
set_option maxRecDepth 100000 in
theorem either_lifted (os : Os) (started : os.Started) (H : Type) (enc : TypeId × Value → H) :
    ReturnsInHanded {} Try.checked os 15 .any (Rows.mapsEitherSpec.pre6 enc Try.prog Try.f15 Rows.mapsEitherRow.domain false) (Rows.mapsEitherSpec.post enc Try.prog Try.f15 false true false false) := by
  refine law_lifted (C := Try.checked) Try.own started (by kernel_rfl) Try.func15
    (ChangeSpec.witness6 (enc := enc) (C := Try.checked) false ⟨#[], #[.agg #[.int .u8 0, .int .u8 0, .int .i64 0], .agg #[.int .u8 0, .int .u8 0, .int .i64 0]], []⟩ 8 (by kernel_rfl) (by kernel_rfl) (by kernel_rfl) (by kernel_rfl))
    Try.laidOut ?_ (B := 4) (by kernel_rfl) (by kernel_rfl) rfl ?_ ?_
  · intro t ht
    rw [Try.params15] at ht
    have : t = 31 := by
      simp at ht
      first | exact ht | omega
    rcases this with rfl <;> exact ⟨by kernel_rfl, of_decide_eq_true (by kernel_rfl)⟩
  · intro ds h
    rw [Try.params15] at h
    match ds, h with
    | [d1, d2], _ => rfl
  · intro W base args ds p hval hA hlt
    rw [Try.params15] at hA hval
    obtain ⟨v0, v1, d0, d1, p0, p1, rfl, rfl, rfl, h0, h1⟩ := trodAll_two hA
    obtain ⟨x, _, wx, hx⟩ := open_plain Try.underlying31 pk31 (hval 0 31 v0 rfl rfl) h0
    obtain ⟨y, _, wy, hy⟩ := open_plain Try.underlying31 pk31 (hval 1 31 v1 rfl rfl) h1
    exact law_c mcTab mixed (either_good (x 0) (x 1) (x 2) (y 0) (y 1) (y 2) (wf_u8 wx.2.1).1 (wf_u8 wy.2.1).1) W fun E => by rw [hx E, hy E]; rfl

theorem mapsEither_holds : Rows.MapsEitherSaid :=
  OpenClaim.holds_of_wide 15 Try.f15 rfl rfl rfl rfl rfl rfl rfl ⟨rfl, rfl, rfl, rfl, rfl⟩ rfl rfl rfl rfl rfl (by kernel_rfl) Try.func15 (by kernel_rfl)
    (of_decide_eq_true (by kernel_rfl)) (by unfold Func.isWrapper; rw [if_neg (by decide +kernel)]; exact ⟨rfl, rfl⟩)
    (fun os started H enc _ => either_lifted os started H enc)

end Go.Proofs.Ytobknnmalnfknaa
