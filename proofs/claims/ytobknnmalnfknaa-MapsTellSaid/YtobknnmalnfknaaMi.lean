/- MapsIncs: increments are of their kinds, of daemons that there are, with numbers that they have.
   Conditions: none. -/
import Derived.Test.YtobknnmalnfknaaMc
set_option linter.unusedSimpArgs false
set_option linter.unusedVariables false
namespace Go.Proofs.Ytobknnmalnfknaa
open Go.Eng Go.RowKit Go.Joins Go.ChangeShapes Go.WideShapes
set_option maxRecDepth 100000
theorem incs_tree (k o n : Int) : runV Try.prog mcT 300 14 [.int .u8 (.sym k), .int .u8 (.sym o), .int .i64 (.sym n)] =
  .ite (k == 1) (.ite (decide (o < 5)) (.must (decide (o ≥ 0)) (.defB (apOk 1 8 0 8 1 8 2 8 3 8 0 k o n) fun z0 => .defI (bif z0 then 2 else 0) fun z1 => .defI (bif z0 then bif o == 0 && k == 3 then n else 8 else 0) fun z2
  => .defI (bif z0 then 0 else 0) fun z3 => .defI (bif z0 then bif o == 1 && k == 3 then n else 8 else 0) fun z4 => .defI (bif z0 then 1 else 0) fun z5 => .defI (bif z0 then bif o == 2 && k == 3 then n else 8 else 0) fun
  z6 => .defI (bif z0 then 2 else 0) fun z7 => .defI (bif z0 then bif o == 3 && k == 3 then n else 8 else 0) fun z8 => .defI (bif z0 then 3 else 0) fun z9 => .defI (bif z0 then bif o == 4 && k == 3 then n else 8 else 0)
  fun z10 => .defI (bif z0 then 0 else 0) fun z11 => .defI (bif z0 then 0 else 40) fun z12 => .defI k fun z13 => .defI o fun z14 => .defI n fun z15 => .must (decide (z14 ≥ 0)) (.defB (apOk 1 8 0 8 1 8 2 8 3 8 0 z13 z14
  z15) fun z16 => .defI (bif z16 then 2 else 0) fun z17 => .defI (bif z16 then bif z14 == 0 && z13 == 3 then z15 else 8 else 0) fun z18 => .defI (bif z16 then 0 else 0) fun z19 => .defI (bif z16 then bif z14 == 1 && z13 ==
  3 then z15 else 8 else 0) fun z20 => .defI (bif z16 then 1 else 0) fun z21 => .defI (bif z16 then bif z14 == 2 && z13 == 3 then z15 else 8 else 0) fun z22 => .defI (bif z16 then 2 else 0) fun z23 => .defI (bif z16 then
  bif z14 == 3 && z13 == 3 then z15 else 8 else 0) fun z24 => .defI (bif z16 then 3 else 0) fun z25 => .defI (bif z16 then bif z14 == 4 && z13 == 3 then z15 else 8 else 0) fun z26 => .defI (bif z16 then 0 else 0) fun z27
  => .defI (bif z16 then 0 else 40) fun z28 => .ite (z28 != 0) (.ite (isIncB k o n == (n == 0)) (.ite ((z12 == 0) == (n == 0)) (.leaf (.bool (.sym ((z28 == 0) == (n == 0))))) (.leaf (.bool (.lit false)))) (.leaf (.bool
  (.lit false)))) (.ite (isIncB k o n == (n == 0)) (.ite ((z12 == 0) == (n == 0)) (.leaf (.bool (.sym (true == (n == 0))))) (.leaf (.bool (.lit false)))) (.leaf (.bool (.lit false))))))) (.must (decide (o ≥ 0)) (.defB
  (apOk 1 8 0 8 1 8 2 8 3 8 0 k o n) fun z29 => .defI (bif z29 then 2 else 0) fun z30 => .defI (bif z29 then bif o == 0 && k == 3 then n else 8 else 0) fun z31 => .defI (bif z29 then 0 else 0) fun z32 => .defI (bif z29
  then bif o == 1 && k == 3 then n else 8 else 0) fun z33 => .defI (bif z29 then 1 else 0) fun z34 => .defI (bif z29 then bif o == 2 && k == 3 then n else 8 else 0) fun z35 => .defI (bif z29 then 2 else 0) fun z36 => .defI
  (bif z29 then bif o == 3 && k == 3 then n else 8 else 0) fun z37 => .defI (bif z29 then 3 else 0) fun z38 => .defI (bif z29 then bif o == 4 && k == 3 then n else 8 else 0) fun z39 => .defI (bif z29 then 0 else 0) fun z40
  => .defI (bif z29 then 0 else 40) fun z41 => .defI k fun z42 => .defI o fun z43 => .defI n fun z44 => .must (decide (z43 ≥ 0)) (.defB (apOk 1 8 0 8 1 8 2 8 3 8 0 z42 z43 z44) fun z45 => .defI (bif z45 then 2 else 0) fun
  z46 => .defI (bif z45 then bif z43 == 0 && z42 == 3 then z44 else 8 else 0) fun z47 => .defI (bif z45 then 0 else 0) fun z48 => .defI (bif z45 then bif z43 == 1 && z42 == 3 then z44 else 8 else 0) fun z49 => .defI (bif
  z45 then 1 else 0) fun z50 => .defI (bif z45 then bif z43 == 2 && z42 == 3 then z44 else 8 else 0) fun z51 => .defI (bif z45 then 2 else 0) fun z52 => .defI (bif z45 then bif z43 == 3 && z42 == 3 then z44 else 8 else 0)
  fun z53 => .defI (bif z45 then 3 else 0) fun z54 => .defI (bif z45 then bif z43 == 4 && z42 == 3 then z44 else 8 else 0) fun z55 => .defI (bif z45 then 0 else 0) fun z56 => .defI (bif z45 then 0 else 40) fun z57 => .ite
  (z57 != 0) (.ite (isIncB k o n == false) (.ite ((z41 == 0) == false) (.leaf (.bool (.sym ((z57 == 0) == false)))) (.leaf (.bool (.lit false)))) (.leaf (.bool (.lit false)))) (.ite (isIncB k o n == false) (.ite ((z41 ==
  0) == false) (.leaf (.bool (.lit false))) (.leaf (.bool (.lit false)))) (.leaf (.bool (.lit false)))))))) (.ite (k == 2) (.ite (decide (o < 5)) (.must (decide (o ≥ 0)) (.defB (apOk 1 8 0 8 1 8 2 8 3 8 0 k o n) fun z58 =>
  .defI (bif z58 then 2 else 0) fun z59 => .defI (bif z58 then bif o == 0 && k == 3 then n else 8 else 0) fun z60 => .defI (bif z58 then 0 else 0) fun z61 => .defI (bif z58 then bif o == 1 && k == 3 then n else 8 else 0)
  fun z62 => .defI (bif z58 then 1 else 0) fun z63 => .defI (bif z58 then bif o == 2 && k == 3 then n else 8 else 0) fun z64 => .defI (bif z58 then 2 else 0) fun z65 => .defI (bif z58 then bif o == 3 && k == 3 then n else
  8 else 0) fun z66 => .defI (bif z58 then 3 else 0) fun z67 => .defI (bif z58 then bif o == 4 && k == 3 then n else 8 else 0) fun z68 => .defI (bif z58 then 0 else 0) fun z69 => .defI (bif z58 then 0 else 40) fun z70 =>
  .defI k fun z71 => .defI o fun z72 => .defI n fun z73 => .must (decide (z72 ≥ 0)) (.defB (apOk 1 8 0 8 1 8 2 8 3 8 0 z71 z72 z73) fun z74 => .defI (bif z74 then 2 else 0) fun z75 => .defI (bif z74 then bif z72 == 0 &&
  z71 == 3 then z73 else 8 else 0) fun z76 => .defI (bif z74 then 0 else 0) fun z77 => .defI (bif z74 then bif z72 == 1 && z71 == 3 then z73 else 8 else 0) fun z78 => .defI (bif z74 then 1 else 0) fun z79 => .defI (bif z74
  then bif z72 == 2 && z71 == 3 then z73 else 8 else 0) fun z80 => .defI (bif z74 then 2 else 0) fun z81 => .defI (bif z74 then bif z72 == 3 && z71 == 3 then z73 else 8 else 0) fun z82 => .defI (bif z74 then 3 else 0) fun
  z83 => .defI (bif z74 then bif z72 == 4 && z71 == 3 then z73 else 8 else 0) fun z84 => .defI (bif z74 then 0 else 0) fun z85 => .defI (bif z74 then 0 else 40) fun z86 => .ite (z86 != 0) (.ite (isIncB k o n == (n == 0))
  (.ite ((z70 == 0) == (n == 0)) (.leaf (.bool (.sym ((z86 == 0) == (n == 0))))) (.leaf (.bool (.lit false)))) (.leaf (.bool (.lit false)))) (.ite (isIncB k o n == (n == 0)) (.ite ((z70 == 0) == (n == 0)) (.leaf (.bool
  (.sym (true == (n == 0))))) (.leaf (.bool (.lit false)))) (.leaf (.bool (.lit false))))))) (.must (decide (o ≥ 0)) (.defB (apOk 1 8 0 8 1 8 2 8 3 8 0 k o n) fun z87 => .defI (bif z87 then 2 else 0) fun z88 => .defI (bif
  z87 then bif o == 0 && k == 3 then n else 8 else 0) fun z89 => .defI (bif z87 then 0 else 0) fun z90 => .defI (bif z87 then bif o == 1 && k == 3 then n else 8 else 0) fun z91 => .defI (bif z87 then 1 else 0) fun z92 =>
  .defI (bif z87 then bif o == 2 && k == 3 then n else 8 else 0) fun z93 => .defI (bif z87 then 2 else 0) fun z94 => .defI (bif z87 then bif o == 3 && k == 3 then n else 8 else 0) fun z95 => .defI (bif z87 then 3 else 0)
  fun z96 => .defI (bif z87 then bif o == 4 && k == 3 then n else 8 else 0) fun z97 => .defI (bif z87 then 0 else 0) fun z98 => .defI (bif z87 then 0 else 40) fun z99 => .defI k fun z100 => .defI o fun z101 => .defI n fun
  z102 => .must (decide (z101 ≥ 0)) (.defB (apOk 1 8 0 8 1 8 2 8 3 8 0 z100 z101 z102) fun z103 => .defI (bif z103 then 2 else 0) fun z104 => .defI (bif z103 then bif z101 == 0 && z100 == 3 then z102 else 8 else 0) fun
  z105 => .defI (bif z103 then 0 else 0) fun z106 => .defI (bif z103 then bif z101 == 1 && z100 == 3 then z102 else 8 else 0) fun z107 => .defI (bif z103 then 1 else 0) fun z108 => .defI (bif z103 then bif z101 == 2 &&
  z100 == 3 then z102 else 8 else 0) fun z109 => .defI (bif z103 then 2 else 0) fun z110 => .defI (bif z103 then bif z101 == 3 && z100 == 3 then z102 else 8 else 0) fun z111 => .defI (bif z103 then 3 else 0) fun z112 =>
  .defI (bif z103 then bif z101 == 4 && z100 == 3 then z102 else 8 else 0) fun z113 => .defI (bif z103 then 0 else 0) fun z114 => .defI (bif z103 then 0 else 40) fun z115 => .ite (z115 != 0) (.ite (isIncB k o n == false)
  (.ite ((z99 == 0) == false) (.leaf (.bool (.sym ((z115 == 0) == false)))) (.leaf (.bool (.lit false)))) (.leaf (.bool (.lit false)))) (.ite (isIncB k o n == false) (.ite ((z99 == 0) == false) (.leaf (.bool (.lit false)))
  (.leaf (.bool (.lit false)))) (.leaf (.bool (.lit false)))))))) (.ite (k == 3) (.ite (decide (o < 5)) (.ite (decide (n ≥ 0)) (.must (decide (o ≥ 0)) (.defB (apOk 1 8 0 8 1 8 2 8 3 8 0 k o n) fun z116 => .defI (bif z116
  then 2 else 0) fun z117 => .defI (bif z116 then bif o == 0 && k == 3 then n else 8 else 0) fun z118 => .defI (bif z116 then 0 else 0) fun z119 => .defI (bif z116 then bif o == 1 && k == 3 then n else 8 else 0) fun z120
  => .defI (bif z116 then 1 else 0) fun z121 => .defI (bif z116 then bif o == 2 && k == 3 then n else 8 else 0) fun z122 => .defI (bif z116 then 2 else 0) fun z123 => .defI (bif z116 then bif o == 3 && k == 3 then n else 8
  else 0) fun z124 => .defI (bif z116 then 3 else 0) fun z125 => .defI (bif z116 then bif o == 4 && k == 3 then n else 8 else 0) fun z126 => .defI (bif z116 then 0 else 0) fun z127 => .defI (bif z116 then 0 else 40) fun
  z128 => .defI k fun z129 => .defI o fun z130 => .defI n fun z131 => .must (decide (z130 ≥ 0)) (.defB (apOk 1 8 0 8 1 8 2 8 3 8 0 z129 z130 z131) fun z132 => .defI (bif z132 then 2 else 0) fun z133 => .defI (bif z132 then
  bif z130 == 0 && z129 == 3 then z131 else 8 else 0) fun z134 => .defI (bif z132 then 0 else 0) fun z135 => .defI (bif z132 then bif z130 == 1 && z129 == 3 then z131 else 8 else 0) fun z136 => .defI (bif z132 then 1 else
  0) fun z137 => .defI (bif z132 then bif z130 == 2 && z129 == 3 then z131 else 8 else 0) fun z138 => .defI (bif z132 then 2 else 0) fun z139 => .defI (bif z132 then bif z130 == 3 && z129 == 3 then z131 else 8 else 0) fun
  z140 => .defI (bif z132 then 3 else 0) fun z141 => .defI (bif z132 then bif z130 == 4 && z129 == 3 then z131 else 8 else 0) fun z142 => .defI (bif z132 then 0 else 0) fun z143 => .defI (bif z132 then 0 else 40) fun z144
  => .ite (z144 != 0) (.ite (isIncB k o n == decide (n ≤ 16)) (.ite ((z128 == 0) == decide (n ≤ 16)) (.leaf (.bool (.sym ((z144 == 0) == decide (n ≤ 16))))) (.leaf (.bool (.lit false)))) (.leaf (.bool (.lit false)))) (.ite
  (isIncB k o n == decide (n ≤ 16)) (.ite ((z128 == 0) == decide (n ≤ 16)) (.leaf (.bool (.sym (true == decide (n ≤ 16))))) (.leaf (.bool (.lit false)))) (.leaf (.bool (.lit false))))))) (.must (decide (o ≥ 0)) (.defB
  (apOk 1 8 0 8 1 8 2 8 3 8 0 k o n) fun z145 => .defI (bif z145 then 2 else 0) fun z146 => .defI (bif z145 then bif o == 0 && k == 3 then n else 8 else 0) fun z147 => .defI (bif z145 then 0 else 0) fun z148 => .defI (bif
  z145 then bif o == 1 && k == 3 then n else 8 else 0) fun z149 => .defI (bif z145 then 1 else 0) fun z150 => .defI (bif z145 then bif o == 2 && k == 3 then n else 8 else 0) fun z151 => .defI (bif z145 then 2 else 0) fun
  z152 => .defI (bif z145 then bif o == 3 && k == 3 then n else 8 else 0) fun z153 => .defI (bif z145 then 3 else 0) fun z154 => .defI (bif z145 then bif o == 4 && k == 3 then n else 8 else 0) fun z155 => .defI (bif z145
  then 0 else 0) fun z156 => .defI (bif z145 then 0 else 40) fun z157 => .defI k fun z158 => .defI o fun z159 => .defI n fun z160 => .must (decide (z159 ≥ 0)) (.defB (apOk 1 8 0 8 1 8 2 8 3 8 0 z158 z159 z160) fun z161 =>
  .defI (bif z161 then 2 else 0) fun z162 => .defI (bif z161 then bif z159 == 0 && z158 == 3 then z160 else 8 else 0) fun z163 => .defI (bif z161 then 0 else 0) fun z164 => .defI (bif z161 then bif z159 == 1 && z158 == 3
  then z160 else 8 else 0) fun z165 => .defI (bif z161 then 1 else 0) fun z166 => .defI (bif z161 then bif z159 == 2 && z158 == 3 then z160 else 8 else 0) fun z167 => .defI (bif z161 then 2 else 0) fun z168 => .defI (bif
  z161 then bif z159 == 3 && z158 == 3 then z160 else 8 else 0) fun z169 => .defI (bif z161 then 3 else 0) fun z170 => .defI (bif z161 then bif z159 == 4 && z158 == 3 then z160 else 8 else 0) fun z171 => .defI (bif z161
  then 0 else 0) fun z172 => .defI (bif z161 then 0 else 40) fun z173 => .ite (z173 != 0) (.ite (isIncB k o n == false) (.ite ((z157 == 0) == false) (.leaf (.bool (.sym ((z173 == 0) == false)))) (.leaf (.bool (.lit
  false)))) (.leaf (.bool (.lit false)))) (.ite (isIncB k o n == false) (.ite ((z157 == 0) == false) (.leaf (.bool (.lit false))) (.leaf (.bool (.lit false)))) (.leaf (.bool (.lit false)))))))) (.must (decide (o ≥ 0))
  (.defB (apOk 1 8 0 8 1 8 2 8 3 8 0 k o n) fun z174 => .defI (bif z174 then 2 else 0) fun z175 => .defI (bif z174 then bif o == 0 && k == 3 then n else 8 else 0) fun z176 => .defI (bif z174 then 0 else 0) fun z177 =>
  .defI (bif z174 then bif o == 1 && k == 3 then n else 8 else 0) fun z178 => .defI (bif z174 then 1 else 0) fun z179 => .defI (bif z174 then bif o == 2 && k == 3 then n else 8 else 0) fun z180 => .defI (bif z174 then 2
  else 0) fun z181 => .defI (bif z174 then bif o == 3 && k == 3 then n else 8 else 0) fun z182 => .defI (bif z174 then 3 else 0) fun z183 => .defI (bif z174 then bif o == 4 && k == 3 then n else 8 else 0) fun z184 => .defI
  (bif z174 then 0 else 0) fun z185 => .defI (bif z174 then 0 else 40) fun z186 => .defI k fun z187 => .defI o fun z188 => .defI n fun z189 => .must (decide (z188 ≥ 0)) (.defB (apOk 1 8 0 8 1 8 2 8 3 8 0 z187 z188 z189)
  fun z190 => .defI (bif z190 then 2 else 0) fun z191 => .defI (bif z190 then bif z188 == 0 && z187 == 3 then z189 else 8 else 0) fun z192 => .defI (bif z190 then 0 else 0) fun z193 => .defI (bif z190 then bif z188 == 1 &&
  z187 == 3 then z189 else 8 else 0) fun z194 => .defI (bif z190 then 1 else 0) fun z195 => .defI (bif z190 then bif z188 == 2 && z187 == 3 then z189 else 8 else 0) fun z196 => .defI (bif z190 then 2 else 0) fun z197 =>
  .defI (bif z190 then bif z188 == 3 && z187 == 3 then z189 else 8 else 0) fun z198 => .defI (bif z190 then 3 else 0) fun z199 => .defI (bif z190 then bif z188 == 4 && z187 == 3 then z189 else 8 else 0) fun z200 => .defI
  (bif z190 then 0 else 0) fun z201 => .defI (bif z190 then 0 else 40) fun z202 => .ite (z202 != 0) (.ite (isIncB k o n == false) (.ite ((z186 == 0) == false) (.leaf (.bool (.sym ((z202 == 0) == false)))) (.leaf (.bool
  (.lit false)))) (.leaf (.bool (.lit false)))) (.ite (isIncB k o n == false) (.ite ((z186 == 0) == false) (.leaf (.bool (.lit false))) (.leaf (.bool (.lit false)))) (.leaf (.bool (.lit false)))))))) (.ite (k == 4) (.ite
  (o == 0) (.must (decide (o ≥ 0)) (.defB (apOk 1 8 0 8 1 8 2 8 3 8 0 k o n) fun z203 => .defI (bif z203 then 2 else 0) fun z204 => .defI (bif z203 then bif o == 0 && k == 3 then n else 8 else 0) fun z205 => .defI (bif
  z203 then 0 else 0) fun z206 => .defI (bif z203 then bif o == 1 && k == 3 then n else 8 else 0) fun z207 => .defI (bif z203 then 1 else 0) fun z208 => .defI (bif z203 then bif o == 2 && k == 3 then n else 8 else 0) fun
  z209 => .defI (bif z203 then 2 else 0) fun z210 => .defI (bif z203 then bif o == 3 && k == 3 then n else 8 else 0) fun z211 => .defI (bif z203 then 3 else 0) fun z212 => .defI (bif z203 then bif o == 4 && k == 3 then n
  else 8 else 0) fun z213 => .defI (bif z203 then 0 else 0) fun z214 => .defI (bif z203 then 0 else 40) fun z215 => .defI k fun z216 => .defI o fun z217 => .defI n fun z218 => .must (decide (z217 ≥ 0)) (.defB (apOk 1 8 0 8
  1 8 2 8 3 8 0 z216 z217 z218) fun z219 => .defI (bif z219 then 2 else 0) fun z220 => .defI (bif z219 then bif z217 == 0 && z216 == 3 then z218 else 8 else 0) fun z221 => .defI (bif z219 then 0 else 0) fun z222 => .defI
  (bif z219 then bif z217 == 1 && z216 == 3 then z218 else 8 else 0) fun z223 => .defI (bif z219 then 1 else 0) fun z224 => .defI (bif z219 then bif z217 == 2 && z216 == 3 then z218 else 8 else 0) fun z225 => .defI (bif
  z219 then 2 else 0) fun z226 => .defI (bif z219 then bif z217 == 3 && z216 == 3 then z218 else 8 else 0) fun z227 => .defI (bif z219 then 3 else 0) fun z228 => .defI (bif z219 then bif z217 == 4 && z216 == 3 then z218
  else 8 else 0) fun z229 => .defI (bif z219 then 0 else 0) fun z230 => .defI (bif z219 then 0 else 40) fun z231 => .ite (z231 != 0) (.ite (isIncB k o n == (n == 0)) (.ite ((z215 == 0) == (n == 0)) (.leaf (.bool (.sym
  ((z231 == 0) == (n == 0))))) (.leaf (.bool (.lit false)))) (.leaf (.bool (.lit false)))) (.ite (isIncB k o n == (n == 0)) (.ite ((z215 == 0) == (n == 0)) (.leaf (.bool (.sym (true == (n == 0))))) (.leaf (.bool (.lit
  false)))) (.leaf (.bool (.lit false))))))) (.must (decide (o ≥ 0)) (.defB (apOk 1 8 0 8 1 8 2 8 3 8 0 k o n) fun z232 => .defI (bif z232 then 2 else 0) fun z233 => .defI (bif z232 then bif o == 0 && k == 3 then n else 8
  else 0) fun z234 => .defI (bif z232 then 0 else 0) fun z235 => .defI (bif z232 then bif o == 1 && k == 3 then n else 8 else 0) fun z236 => .defI (bif z232 then 1 else 0) fun z237 => .defI (bif z232 then bif o == 2 && k
  == 3 then n else 8 else 0) fun z238 => .defI (bif z232 then 2 else 0) fun z239 => .defI (bif z232 then bif o == 3 && k == 3 then n else 8 else 0) fun z240 => .defI (bif z232 then 3 else 0) fun z241 => .defI (bif z232
  then bif o == 4 && k == 3 then n else 8 else 0) fun z242 => .defI (bif z232 then 0 else 0) fun z243 => .defI (bif z232 then 0 else 40) fun z244 => .defI k fun z245 => .defI o fun z246 => .defI n fun z247 => .must (decide
  (z246 ≥ 0)) (.defB (apOk 1 8 0 8 1 8 2 8 3 8 0 z245 z246 z247) fun z248 => .defI (bif z248 then 2 else 0) fun z249 => .defI (bif z248 then bif z246 == 0 && z245 == 3 then z247 else 8 else 0) fun z250 => .defI (bif z248
  then 0 else 0) fun z251 => .defI (bif z248 then bif z246 == 1 && z245 == 3 then z247 else 8 else 0) fun z252 => .defI (bif z248 then 1 else 0) fun z253 => .defI (bif z248 then bif z246 == 2 && z245 == 3 then z247 else 8
  else 0) fun z254 => .defI (bif z248 then 2 else 0) fun z255 => .defI (bif z248 then bif z246 == 3 && z245 == 3 then z247 else 8 else 0) fun z256 => .defI (bif z248 then 3 else 0) fun z257 => .defI (bif z248 then bif z246
  == 4 && z245 == 3 then z247 else 8 else 0) fun z258 => .defI (bif z248 then 0 else 0) fun z259 => .defI (bif z248 then 0 else 40) fun z260 => .ite (z260 != 0) (.ite (isIncB k o n == false) (.ite ((z244 == 0) == false)
  (.leaf (.bool (.sym ((z260 == 0) == false)))) (.leaf (.bool (.lit false)))) (.leaf (.bool (.lit false)))) (.ite (isIncB k o n == false) (.ite ((z244 == 0) == false) (.leaf (.bool (.lit false))) (.leaf (.bool (.lit
  false)))) (.leaf (.bool (.lit false)))))))) (.must (decide (o ≥ 0)) (.defB (apOk 1 8 0 8 1 8 2 8 3 8 0 k o n) fun z261 => .defI (bif z261 then 2 else 0) fun z262 => .defI (bif z261 then bif o == 0 && k == 3 then n else 8
  else 0) fun z263 => .defI (bif z261 then 0 else 0) fun z264 => .defI (bif z261 then bif o == 1 && k == 3 then n else 8 else 0) fun z265 => .defI (bif z261 then 1 else 0) fun z266 => .defI (bif z261 then bif o == 2 && k
  == 3 then n else 8 else 0) fun z267 => .defI (bif z261 then 2 else 0) fun z268 => .defI (bif z261 then bif o == 3 && k == 3 then n else 8 else 0) fun z269 => .defI (bif z261 then 3 else 0) fun z270 => .defI (bif z261
  then bif o == 4 && k == 3 then n else 8 else 0) fun z271 => .defI (bif z261 then 0 else 0) fun z272 => .defI (bif z261 then 0 else 40) fun z273 => .defI k fun z274 => .defI o fun z275 => .defI n fun z276 => .must (decide
  (z275 ≥ 0)) (.defB (apOk 1 8 0 8 1 8 2 8 3 8 0 z274 z275 z276) fun z277 => .defI (bif z277 then 2 else 0) fun z278 => .defI (bif z277 then bif z275 == 0 && z274 == 3 then z276 else 8 else 0) fun z279 => .defI (bif z277
  then 0 else 0) fun z280 => .defI (bif z277 then bif z275 == 1 && z274 == 3 then z276 else 8 else 0) fun z281 => .defI (bif z277 then 1 else 0) fun z282 => .defI (bif z277 then bif z275 == 2 && z274 == 3 then z276 else 8
  else 0) fun z283 => .defI (bif z277 then 2 else 0) fun z284 => .defI (bif z277 then bif z275 == 3 && z274 == 3 then z276 else 8 else 0) fun z285 => .defI (bif z277 then 3 else 0) fun z286 => .defI (bif z277 then bif z275
  == 4 && z274 == 3 then z276 else 8 else 0) fun z287 => .defI (bif z277 then 0 else 0) fun z288 => .defI (bif z277 then 0 else 40) fun z289 => .ite (z289 != 0) (.ite (isIncB k o n == false) (.ite ((z273 == 0) == false)
  (.leaf (.bool (.sym ((z289 == 0) == false)))) (.leaf (.bool (.lit false)))) (.leaf (.bool (.lit false)))) (.ite (isIncB k o n == false) (.ite ((z273 == 0) == false) (.leaf (.bool (.lit false))) (.leaf (.bool (.lit
  false)))) (.leaf (.bool (.lit false)))))))))) := by kernel_rfl


theorem ap_first (k o n : Int) : apOk 1 8 0 8 1 8 2 8 3 8 0 k o n = isIncB k o n := by
  simp [apOk, isMapB, osdB]
set_option maxHeartbeats 1000000 in
theorem incs_good (k o n : Int) (ho : 0 ≤ o) : (runV Try.prog mcT 300 14 [.int .u8 (.sym k), .int .u8 (.sym o), .int .i64 (.sym n)]).Holds GoodV := by
  rw [incs_tree]
  simp only [ap_first]
  repeat' (first | refine holds_inI ?_ | refine holds_inB ?_ | refine holds_ite (fun h => ?_) (fun h => ?_) | refine holds_must ?_ ?_ | refine good_sym ?_ | refine good_lit)
  all_goals first | exact decide_eq_true ho | skip
  all_goals
    have hI : isIncB k o n = (((k == 1 || k == 2) && (decide (o < 5) && n == 0)) || (k == 3 && (decide (o < 5) && (decide (n ≥ 0) && decide (n ≤ 16)))) || (k == 4 && (o == 0 && n == 0))) := rfl
    generalize isIncB k o n = c at *
    cases c <;> (simp at * <;> omega)
set_option maxRecDepth 100000 in
theorem incs_lifted (os : Os) (started : os.Started) (H : Type) (enc : TypeId × Value → H) :
    ReturnsInHanded {} Try.checked os 14 .any (Rows.mapsIncsSpec.pre6 enc Try.prog Try.f14 Rows.mapsIncsRow.domain false) (Rows.mapsIncsSpec.post enc Try.prog Try.f14 false true false false) := by
  refine law_lifted (C := Try.checked) Try.own started (by kernel_rfl) Try.func14
    (ChangeSpec.witness6 (enc := enc) (C := Try.checked) false ⟨#[], #[.int .u8 0, .int .u8 0, .int .i64 0], []⟩ 8 (by kernel_rfl) (by kernel_rfl) (by kernel_rfl) (by kernel_rfl))
    Try.laidOut ?_ (B := 4) (by kernel_rfl) (by kernel_rfl) rfl ?_ ?_
  · intro t ht
    rw [Try.params14] at ht
    have : t = 5 ∨ t = 3 := by
      simp at ht
      first | exact ht | omega
    rcases this with rfl | rfl <;> exact ⟨by kernel_rfl, of_decide_eq_true (by kernel_rfl)⟩
  · intro ds h
    rw [Try.params14] at h
    match ds, h with
    | [d1, d2, d3], _ => rfl
  · intro W base args ds p hval hA hlt
    rw [Try.params14] at hA hval
    obtain ⟨v0, v1, v2, d0, d1, d2, p0, p1, p2, rfl, rfl, rfl, h0, h1, h2⟩ := trodAll_three hA
    obtain ⟨k, rfl, _, _, wk⟩ := open_int Try.underlying5 (hval 0 5 v0 rfl rfl) h0
    obtain ⟨o, rfl, _, _, wo⟩ := open_int Try.underlying5 (hval 1 5 v1 rfl rfl) h1
    obtain ⟨n, rfl, _, _, wn⟩ := open_int Try.underlying3 (hval 2 3 v2 rfl rfl) h2
    exact law_c mcTab mixed (incs_good k o n (wf_u8 wo).1) W fun E => rfl

theorem mapsIncs_holds : Rows.MapsIncsSaid :=
  OpenClaim.holds_of_wide 14 Try.f14 rfl rfl rfl rfl rfl rfl rfl ⟨rfl, rfl, rfl, rfl, rfl⟩ rfl rfl rfl rfl rfl (by kernel_rfl) Try.func14 (by kernel_rfl)
    (of_decide_eq_true (by kernel_rfl)) (by unfold Func.isWrapper; rw [if_neg (by decide +kernel)]; exact ⟨rfl, rfl⟩)
    (fun os started H enc _ => incs_lifted os started H enc)

end Go.Proofs.Ytobknnmalnfknaa
