/- Messages: is one of a kind one? Some answer comes.
   Conditions: none. -/
import Derived.Test.YtnfmdpelafaoaaaEc
set_option linter.unusedSimpArgs false
set_option linter.unusedVariables false
namespace Go.Proofs.Ytnfmdpelafaoaaa
open Go.Eng Go.RowKit Go.ChangeShapes Go.WideShapes
set_option maxRecDepth 100000
abbrev lFe : Tree EN := .leaf ⟨[[.b false]], []⟩
theorem m24_13 (c : Nat → Num) (n0 : Nat) (s0 : Nat → List Num) (n1 : Nat) (s1 : Nat → List Num) (n2 : Nat) (s2 : Nat → List Num) : callW Try.prog (codeT Try.prog ecT 400) 24 ((mT (.il .u8 13)).vals (mE c n0 s0 n1 s1 n2 s2)) ((mT (.il .u8 13)).heap (mE c n0 s0 n1 s1 n2 s2)) 3 (outV 3 (tYN 3)) =
  .ite (decide ((c 1).I < 3)) (.ite (decide ((c 1).I ≥ 10)) (.ite (decide ((c 1).I < 15)) (.ite (decide ((c 2).I ≥ 10)) (.ite (!decide ((c 2).I < 15)) lFe (.ite ((c 1).I == (c 2).I) lFe (.ite ((n1 : Int) == 0) (.ite ((c 62).I == 0) (.ite ((c 63).I == 0) (.must (rbE s2 n2) (.defE ⟨[stL c 65, zL], [.lst n2 (rnE s2)]⟩ fun e0 => .ite ((c 6).I == 0 && (c 7).I == 0) (.must (rbE s0 n0) (.defE
  ⟨[stL c 13, zL], [.lst n0 (rnE s0)]⟩ fun e1 => .ite (false == ((c 4).I == 0 && (c 5).I == 0)) lFe (.ite (false == !(c 8).B) lFe (.ite (false == ((c 9).I == 0 && ((c 10).I ==
  0 && (c 11).I == 0))) lFe (.ite (false == smE e1) lFe (.ite (false == smE e0) lFe (.ite (false == ((c 114).I == 0 && ((c 115).I == 0 && ((c 116).I == 0
  && ((c 117).I == 0 && ((c 118).I == 0 && ((c 119).I == 0 && ((c 120).I == 0 && (c 121).S == (ByteArray.mk #[]))))))))) lFe (.ite (false == ((c 122).I == 0)) lFe (.ite (false
  == ((c 129).I == 0 && (c 130).S == (ByteArray.mk #[]))) lFe (.ite (decide ((c 3).I ≥ 1)) (.ite (decide ((c 3).I ≤ 60)) (.ite (decide ((c 12).I < 4)) (.ite (isOpB (opE ⟨[[.i (c 123).I, .i (c 124).I,
  .i (c 125).I, .i (c 126).I, .i (c 127).I, .s (c 128).S]], []⟩ 0 0)) (.ite ((c 125).I == 5) (.ite (decide ((c 129).I ≤ 3)) (.leaf ⟨[[.b (decide (((c 130).S.size : Int) ≤ 80))]], []⟩) lFe) lFe) lFe) lFe) lFe) lFe)))))))))) (.must (rbE s0 n0) (.defE ⟨[stL c 13, zL], [.lst n0 (rnE s0)]⟩ fun e2 => .ite
  (false == ((c 4).I == 0 && (c 5).I == 0)) lFe lFe)))) (.ite ((c 6).I == 0 && (c 7).I == 0) (.must (rbE s0 n0) (.defE ⟨[stL c 13, zL], [.lst n0 (rnE s0)]⟩ fun e3 => .ite
  (false == ((c 4).I == 0 && (c 5).I == 0)) lFe (.ite (false == !(c 8).B) lFe (.ite (false == ((c 9).I == 0 && ((c 10).I == 0 && (c 11).I == 0))) lFe
  (.ite (false == smE e3) lFe lFe))))) (.must (rbE s0 n0) (.defE ⟨[stL c 13, zL], [.lst n0 (rnE s0)]⟩ fun e4 => .ite (false == ((c 4).I == 0 && (c 5).I == 0)) lFe lFe)))) (.ite ((c 6).I == 0 && (c 7).I == 0) (.must (rbE s0 n0) (.defE ⟨[stL c 13, zL], [.lst n0 (rnE s0)]⟩ fun e5 => .ite (false == ((c 4).I == 0 && (c 5).I == 0)) lFe (.ite (false == !(c 8).B) lFe (.ite (false == ((c 9).I == 0 && ((c 10).I == 0 && (c 11).I == 0))) lFe (.ite (false == smE e5) lFe lFe))))) (.must (rbE s0 n0) (.defE ⟨[stL c 13, zL], [.lst n0 (rnE s0)]⟩ fun e6 => .ite (false == ((c 4).I == 0 && (c 5).I == 0)) lFe lFe)))) (.ite ((c 6).I ==
  0 && (c 7).I == 0) (.must (rbE s0 n0) (.defE ⟨[stL c 13, zL], [.lst n0 (rnE s0)]⟩ fun e7 => .ite (false == ((c 4).I == 0 && (c 5).I == 0)) lFe (.ite (false == !(c 8).B) lFe
  (.ite (false == ((c 9).I == 0 && ((c 10).I == 0 && (c 11).I == 0))) lFe (.ite (false == smE e7) lFe lFe))))) (.must (rbE s0 n0) (.defE ⟨[stL c 13, zL],
  [.lst n0 (rnE s0)]⟩ fun e8 => .ite (false == ((c 4).I == 0 && (c 5).I == 0)) lFe lFe)))))) lFe) lFe) lFe)
  (.ite (decide ((c 1).I ≥ 10)) (.ite (decide ((c 1).I < 15)) (.ite (decide ((c 2).I ≥ 10)) (.ite (!decide ((c 2).I < 15)) lFe (.ite ((c 1).I == (c 2).I) lFe (.ite ((n1 : Int)
  == 0) (.ite ((c 62).I == 0) (.ite ((c 63).I == 0) (.must (rbE s2 n2) (.defE ⟨[stL c 65, zL], [.lst n2 (rnE s2)]⟩ fun e9 => .ite ((c 6).I == 0 && (c 7).I == 0) (.must (rbE s0 n0) (.defE ⟨[stL c 13, zL], [.lst n0 (rnE
  s0)]⟩ fun e10 => .ite (false == ((c 4).I == 0 && (c 5).I == 0)) lFe (.ite (false == !(c 8).B) lFe (.ite (false == ((c 9).I == 0 && ((c 10).I == 0 && (c 11).I == 0))) lFe (.ite (false == smE e10) lFe (.ite (false == smE e9) lFe (.ite (false == ((c 114).I == 0 && ((c 115).I == 0 && ((c 116).I == 0 && ((c 117).I == 0 && ((c
  118).I == 0 && ((c 119).I == 0 && ((c 120).I == 0 && (c 121).S == (ByteArray.mk #[]))))))))) lFe (.ite (false == ((c 122).I == 0)) lFe (.ite (false == ((c 129).I == 0 && (c
  130).S == (ByteArray.mk #[]))) lFe (.ite (decide ((c 3).I ≥ 1)) (.ite (decide ((c 3).I ≤ 60)) (.ite (decide ((c 12).I < 4)) (.ite (isOpB (opE ⟨[[.i (c 123).I, .i (c 124).I, .i (c 125).I, .i (c
  126).I, .i (c 127).I, .s (c 128).S]], []⟩ 0 0)) (.ite ((c 125).I == 5) (.ite (decide ((c 129).I ≤ 3)) (.leaf ⟨[[.b (decide (((c 130).S.size : Int) ≤ 80))]], []⟩) lFe) lFe)
  lFe) lFe) lFe) lFe)))))))))) (.must (rbE s0 n0) (.defE ⟨[stL c 13, zL], [.lst n0 (rnE s0)]⟩ fun e11 => .ite (false == ((c 4).I
  == 0 && (c 5).I == 0)) lFe lFe)))) (.ite ((c 6).I == 0 && (c 7).I == 0) (.must (rbE s0 n0) (.defE ⟨[stL c 13, zL], [.lst n0 (rnE s0)]⟩ fun e12 => .ite (false == ((c 4).I == 0
  && (c 5).I == 0)) lFe (.ite (false == !(c 8).B) lFe (.ite (false == ((c 9).I == 0 && ((c 10).I == 0 && (c 11).I == 0))) lFe (.ite (false == smE e12)
  lFe lFe))))) (.must (rbE s0 n0) (.defE ⟨[stL c 13, zL], [.lst n0 (rnE s0)]⟩ fun e13 => .ite (false == ((c 4).I == 0 && (c 5).I == 0)) lFe lFe)))) (.ite ((c 6).I == 0 && (c 7).I == 0) (.must (rbE s0 n0) (.defE ⟨[stL c 13, zL], [.lst n0 (rnE s0)]⟩ fun e14 => .ite (false == ((c 4).I == 0 && (c 5).I == 0)) lFe (.ite (false ==
  !(c 8).B) lFe (.ite (false == ((c 9).I == 0 && ((c 10).I == 0 && (c 11).I == 0))) lFe (.ite (false == smE e14) lFe lFe)))))
  (.must (rbE s0 n0) (.defE ⟨[stL c 13, zL], [.lst n0 (rnE s0)]⟩ fun e15 => .ite (false == ((c 4).I == 0 && (c 5).I == 0)) lFe lFe)))) (.ite ((c 6).I == 0 && (c 7).I == 0)
  (.must (rbE s0 n0) (.defE ⟨[stL c 13, zL], [.lst n0 (rnE s0)]⟩ fun e16 => .ite (false == ((c 4).I == 0 && (c 5).I == 0)) lFe (.ite (false == !(c 8).B) lFe (.ite (false == ((c
  9).I == 0 && ((c 10).I == 0 && (c 11).I == 0))) lFe (.ite (false == smE e16) lFe lFe))))) (.must (rbE s0 n0) (.defE ⟨[stL c 13, zL], [.lst n0 (rnE
  s0)]⟩ fun e17 => .ite (false == ((c 4).I == 0 && (c 5).I == 0)) lFe lFe)))))) lFe) lFe) lFe) := by kernel_rfl
theorem k24_13 (c : Nat → Num) (n0 : Nat) (s0 : Nat → List Num) (n1 : Nat) (s1 : Nat → List Num) (n2 : Nat) (s2 : Nat → List Num) : ∃ b, noQ (mE c n0 s0 n1 s1 n2 s2) b ∧ StdX Try.prog 24 (mT (.il .u8 13)) (mE c n0 s0 n1 s1 n2 s2) (tYN 3) ⟨[[.b b]], []⟩ := by
  refine anyS ecTab (n := 400) rfl (TS.eqv_refl _ _) (holds_of_eq (m24_13 c n0 s0 n1 s1 n2 s2) ?_)
  (repeat' with_reducible (first | refine holds_inE ?_ | refine holds_inI ?_ | refine holds_inB ?_ | refine holds_must (rbE_ok _ _) ?_ | refine holds_ite (fun _ => ?_) (fun _ => ?_)))
  all_goals exact holds_leaf trivial
theorem m24_14 (c : Nat → Num) (n0 : Nat) (s0 : Nat → List Num) (n1 : Nat) (s1 : Nat → List Num) (n2 : Nat) (s2 : Nat → List Num) : callW Try.prog (codeT Try.prog ecT 400) 24 ((mT (.il .u8 14)).vals (mE c n0 s0 n1 s1 n2 s2)) ((mT (.il .u8 14)).heap (mE c n0 s0 n1 s1 n2 s2)) 3 (outV 3 (tYN 3)) =
  .ite (decide ((c 1).I < 3)) (.ite (decide ((c 1).I ≥ 10)) (.ite (decide ((c 1).I < 15)) (.ite (decide ((c 2).I ≥ 10)) (.ite (!decide ((c 2).I < 15)) lFe (.ite ((c 1).I == (c 2).I) lFe (.ite ((n1 : Int) == 0) (.ite ((c 62).I == 0) (.ite ((c 63).I == 0) (.must (rbE s2 n2) (.defE ⟨[stL c 65, zL], [.lst n2 (rnE s2)]⟩ fun e0 => .ite ((c 6).I == 0 && (c 7).I == 0) (.must (rbE s0 n0) (.defE
  ⟨[stL c 13, zL], [.lst n0 (rnE s0)]⟩ fun e1 => .ite (false == ((c 4).I == 0 && (c 5).I == 0)) lFe (.ite (false == !(c 8).B) lFe (.ite (false == ((c 9).I == 0 && ((c 10).I ==
  0 && (c 11).I == 0))) lFe (.ite (false == smE e1) lFe (.ite (false == smE e0) lFe (.ite (false == ((c 114).I == 0 && ((c 115).I == 0 && ((c 116).I == 0
  && ((c 117).I == 0 && ((c 118).I == 0 && ((c 119).I == 0 && ((c 120).I == 0 && (c 121).S == (ByteArray.mk #[]))))))))) lFe (.ite (false == ((c 122).I == 0)) lFe (.ite (false
  == ((c 129).I == 0 && (c 130).S == (ByteArray.mk #[]))) lFe (.ite (decide ((c 3).I ≥ 1)) (.ite (decide ((c 3).I ≤ 60)) (.ite (decide ((c 12).I < 4)) (.ite (isOpB (opE ⟨[[.i (c 123).I, .i (c 124).I,
  .i (c 125).I, .i (c 126).I, .i (c 127).I, .s (c 128).S]], []⟩ 0 0)) (.ite ((c 125).I == 5) (.ite (decide ((c 129).I ≤ 3)) (.leaf ⟨[[.b (decide (((c 130).S.size : Int) ≤ 80))]], []⟩) lFe) lFe) lFe) lFe) lFe) lFe)))))))))) (.must (rbE s0 n0) (.defE ⟨[stL c 13, zL], [.lst n0 (rnE s0)]⟩ fun e2 => .ite
  (false == ((c 4).I == 0 && (c 5).I == 0)) lFe lFe)))) (.ite ((c 6).I == 0 && (c 7).I == 0) (.must (rbE s0 n0) (.defE ⟨[stL c 13, zL], [.lst n0 (rnE s0)]⟩ fun e3 => .ite
  (false == ((c 4).I == 0 && (c 5).I == 0)) lFe (.ite (false == !(c 8).B) lFe (.ite (false == ((c 9).I == 0 && ((c 10).I == 0 && (c 11).I == 0))) lFe
  (.ite (false == smE e3) lFe lFe))))) (.must (rbE s0 n0) (.defE ⟨[stL c 13, zL], [.lst n0 (rnE s0)]⟩ fun e4 => .ite (false == ((c 4).I == 0 && (c 5).I == 0)) lFe lFe)))) (.ite ((c 6).I == 0 && (c 7).I == 0) (.must (rbE s0 n0) (.defE ⟨[stL c 13, zL], [.lst n0 (rnE s0)]⟩ fun e5 => .ite (false == ((c 4).I == 0 && (c 5).I == 0)) lFe (.ite (false == !(c 8).B) lFe (.ite (false == ((c 9).I == 0 && ((c 10).I == 0 && (c 11).I == 0))) lFe (.ite (false == smE e5) lFe lFe))))) (.must (rbE s0 n0) (.defE ⟨[stL c 13, zL], [.lst n0 (rnE s0)]⟩ fun e6 => .ite (false == ((c 4).I == 0 && (c 5).I == 0)) lFe lFe)))) (.ite ((c 6).I ==
  0 && (c 7).I == 0) (.must (rbE s0 n0) (.defE ⟨[stL c 13, zL], [.lst n0 (rnE s0)]⟩ fun e7 => .ite (false == ((c 4).I == 0 && (c 5).I == 0)) lFe (.ite (false == !(c 8).B) lFe
  (.ite (false == ((c 9).I == 0 && ((c 10).I == 0 && (c 11).I == 0))) lFe (.ite (false == smE e7) lFe lFe))))) (.must (rbE s0 n0) (.defE ⟨[stL c 13, zL],
  [.lst n0 (rnE s0)]⟩ fun e8 => .ite (false == ((c 4).I == 0 && (c 5).I == 0)) lFe lFe)))))) lFe) lFe) lFe)
  (.ite (decide ((c 1).I ≥ 10)) (.ite (decide ((c 1).I < 15)) (.ite (decide ((c 2).I ≥ 10)) (.ite (!decide ((c 2).I < 15)) lFe (.ite ((c 1).I == (c 2).I) lFe (.ite ((n1 : Int)
  == 0) (.ite ((c 62).I == 0) (.ite ((c 63).I == 0) (.must (rbE s2 n2) (.defE ⟨[stL c 65, zL], [.lst n2 (rnE s2)]⟩ fun e9 => .ite ((c 6).I == 0 && (c 7).I == 0) (.must (rbE s0 n0) (.defE ⟨[stL c 13, zL], [.lst n0 (rnE
  s0)]⟩ fun e10 => .ite (false == ((c 4).I == 0 && (c 5).I == 0)) lFe (.ite (false == !(c 8).B) lFe (.ite (false == ((c 9).I == 0 && ((c 10).I == 0 && (c 11).I == 0))) lFe (.ite (false == smE e10) lFe (.ite (false == smE e9) lFe (.ite (false == ((c 114).I == 0 && ((c 115).I == 0 && ((c 116).I == 0 && ((c 117).I == 0 && ((c
  118).I == 0 && ((c 119).I == 0 && ((c 120).I == 0 && (c 121).S == (ByteArray.mk #[]))))))))) lFe (.ite (false == ((c 122).I == 0)) lFe (.ite (false == ((c 129).I == 0 && (c
  130).S == (ByteArray.mk #[]))) lFe (.ite (decide ((c 3).I ≥ 1)) (.ite (decide ((c 3).I ≤ 60)) (.ite (decide ((c 12).I < 4)) (.ite (isOpB (opE ⟨[[.i (c 123).I, .i (c 124).I, .i (c 125).I, .i (c
  126).I, .i (c 127).I, .s (c 128).S]], []⟩ 0 0)) (.ite ((c 125).I == 5) (.ite (decide ((c 129).I ≤ 3)) (.leaf ⟨[[.b (decide (((c 130).S.size : Int) ≤ 80))]], []⟩) lFe) lFe)
  lFe) lFe) lFe) lFe)))))))))) (.must (rbE s0 n0) (.defE ⟨[stL c 13, zL], [.lst n0 (rnE s0)]⟩ fun e11 => .ite (false == ((c 4).I
  == 0 && (c 5).I == 0)) lFe lFe)))) (.ite ((c 6).I == 0 && (c 7).I == 0) (.must (rbE s0 n0) (.defE ⟨[stL c 13, zL], [.lst n0 (rnE s0)]⟩ fun e12 => .ite (false == ((c 4).I == 0
  && (c 5).I == 0)) lFe (.ite (false == !(c 8).B) lFe (.ite (false == ((c 9).I == 0 && ((c 10).I == 0 && (c 11).I == 0))) lFe (.ite (false == smE e12)
  lFe lFe))))) (.must (rbE s0 n0) (.defE ⟨[stL c 13, zL], [.lst n0 (rnE s0)]⟩ fun e13 => .ite (false == ((c 4).I == 0 && (c 5).I == 0)) lFe lFe)))) (.ite ((c 6).I == 0 && (c 7).I == 0) (.must (rbE s0 n0) (.defE ⟨[stL c 13, zL], [.lst n0 (rnE s0)]⟩ fun e14 => .ite (false == ((c 4).I == 0 && (c 5).I == 0)) lFe (.ite (false ==
  !(c 8).B) lFe (.ite (false == ((c 9).I == 0 && ((c 10).I == 0 && (c 11).I == 0))) lFe (.ite (false == smE e14) lFe lFe)))))
  (.must (rbE s0 n0) (.defE ⟨[stL c 13, zL], [.lst n0 (rnE s0)]⟩ fun e15 => .ite (false == ((c 4).I == 0 && (c 5).I == 0)) lFe lFe)))) (.ite ((c 6).I == 0 && (c 7).I == 0)
  (.must (rbE s0 n0) (.defE ⟨[stL c 13, zL], [.lst n0 (rnE s0)]⟩ fun e16 => .ite (false == ((c 4).I == 0 && (c 5).I == 0)) lFe (.ite (false == !(c 8).B) lFe (.ite (false == ((c
  9).I == 0 && ((c 10).I == 0 && (c 11).I == 0))) lFe (.ite (false == smE e16) lFe lFe))))) (.must (rbE s0 n0) (.defE ⟨[stL c 13, zL], [.lst n0 (rnE
  s0)]⟩ fun e17 => .ite (false == ((c 4).I == 0 && (c 5).I == 0)) lFe lFe)))))) lFe) lFe) lFe) := by kernel_rfl
theorem k24_14 (c : Nat → Num) (n0 : Nat) (s0 : Nat → List Num) (n1 : Nat) (s1 : Nat → List Num) (n2 : Nat) (s2 : Nat → List Num) : ∃ b, noQ (mE c n0 s0 n1 s1 n2 s2) b ∧ StdX Try.prog 24 (mT (.il .u8 14)) (mE c n0 s0 n1 s1 n2 s2) (tYN 3) ⟨[[.b b]], []⟩ := by
  refine anyS ecTab (n := 400) rfl (TS.eqv_refl _ _) (holds_of_eq (m24_14 c n0 s0 n1 s1 n2 s2) ?_)
  (repeat' with_reducible (first | refine holds_inE ?_ | refine holds_inI ?_ | refine holds_inB ?_ | refine holds_must (rbE_ok _ _) ?_ | refine holds_ite (fun _ => ?_) (fun _ => ?_)))
  all_goals exact holds_leaf trivial
theorem m24_15 (c : Nat → Num) (n0 : Nat) (s0 : Nat → List Num) (n1 : Nat) (s1 : Nat → List Num) (n2 : Nat) (s2 : Nat → List Num) : callW Try.prog (codeT Try.prog ecT 400) 24 ((mT (.il .u8 15)).vals (mE c n0 s0 n1 s1 n2 s2)) ((mT (.il .u8 15)).heap (mE c n0 s0 n1 s1 n2 s2)) 3 (outV 3 (tYN 3)) =
  .ite (decide ((c 1).I < 3)) (.ite (decide ((c 1).I ≥ 10)) (.ite (decide ((c 1).I < 15)) (.ite (decide ((c 2).I ≥ 10)) (.ite (decide ((c 1).I ≥ 21)) (.ite (decide ((c 1).I < 24)) (.ite (decide ((c 2).I ≥ 10)) (.ite
  (!decide ((c 2).I < 15)) lFe (.ite ((c 1).I == (c 2).I) lFe (.ite ((n1 : Int) == 0) (.ite ((c 62).I == 0) (.ite ((c 63).I == 0) (.must (rbE s2 n2) (.defE ⟨[stL c 65, zL],
  [.lst n2 (rnE s2)]⟩ fun e0 => .ite ((c 6).I == 0 && (c 7).I == 0) (.must (rbE s0 n0) (.defE ⟨[stL c 13, zL], [.lst n0 (rnE s0)]⟩ fun e1 => .ite (false == ((c 3).I == 0)) lFe (.ite (false == ((c
  4).I == 0 && (c 5).I == 0)) lFe (.ite (false == !(c 8).B) lFe (.ite (false == ((c 9).I == 0 && ((c 10).I == 0 && (c 11).I == 0))) lFe (.ite (false ==
  ((c 12).I == 0)) lFe (.ite (false == smE e1) lFe (.ite (false == smE e0) lFe (.ite (false == ((c 114).I == 0 && ((c 115).I == 0 && ((c 116).I == 0 &&
  ((c 117).I == 0 && ((c 118).I == 0 && ((c 119).I == 0 && ((c 120).I == 0 && (c 121).S == (ByteArray.mk #[]))))))))) lFe (.ite (false == ((c 122).I == 0)) lFe (.ite (false ==
  ((c 129).I == 0 && (c 130).S == (ByteArray.mk #[]))) lFe (.ite (decide ((c 12).I < 4)) (.ite (isOpB (opE ⟨[[.i (c 123).I, .i (c 124).I, .i (c 125).I, .i (c 126).I, .i (c 127).I, .s (c 128).S]], []⟩
  0 0)) (.defI (IntKind.u8.wrap (20 + (c 123).I)) fun z2 => .ite ((c 1).I == z2) (.ite (decide ((c 129).I ≤ 3)) (.leaf ⟨[[.b (decide (((c 130).S.size : Int) ≤ 80))]], []⟩) lFe) lFe) lFe) lFe)))))))))))) (.must (rbE s0 n0) (.defE ⟨[stL c 13, zL], [.lst n0 (rnE s0)]⟩ fun e3 => .ite (false == ((c 3).I == 0)) lFe (.ite (false ==
  ((c 4).I == 0 && (c 5).I == 0)) lFe lFe))))) (.ite ((c 6).I == 0 && (c 7).I == 0) (.must (rbE s0 n0) (.defE ⟨[stL c 13, zL], [.lst n0 (rnE s0)]⟩ fun e4 => .ite (false == ((c
  3).I == 0)) lFe (.ite (false == ((c 4).I == 0 && (c 5).I == 0)) lFe (.ite (false == !(c 8).B) lFe (.ite (false == ((c 9).I == 0 && ((c 10).I == 0 && (c
  11).I == 0))) lFe (.ite (false == ((c 12).I == 0)) lFe (.ite (false == smE e4) lFe lFe))))))) (.must (rbE s0 n0) (.defE ⟨[stL c
  13, zL], [.lst n0 (rnE s0)]⟩ fun e5 => .ite (false == ((c 3).I == 0)) lFe (.ite (false == ((c 4).I == 0 && (c 5).I == 0)) lFe lFe))))) (.ite ((c 6).I
  == 0 && (c 7).I == 0) (.must (rbE s0 n0) (.defE ⟨[stL c 13, zL], [.lst n0 (rnE s0)]⟩ fun e6 => .ite (false == ((c 3).I == 0)) lFe (.ite (false == ((c 4).I == 0 && (c 5).I == 0)) lFe (.ite (false == !(c 8).B) lFe (.ite (false == ((c 9).I == 0 && ((c 10).I == 0 && (c 11).I == 0))) lFe (.ite (false == ((c 12).I == 0)) lFe (.ite (false == smE e6) lFe lFe))))))) (.must (rbE s0 n0) (.defE ⟨[stL c 13, zL], [.lst n0 (rnE s0)]⟩ fun e7 => .ite (false == ((c 3).I == 0)) lFe
  (.ite (false == ((c 4).I == 0 && (c 5).I == 0)) lFe lFe))))) (.ite ((c 6).I == 0 && (c 7).I == 0) (.must (rbE s0 n0) (.defE ⟨[stL c 13, zL], [.lst n0 (rnE s0)]⟩ fun e8 =>
  .ite (false == ((c 3).I == 0)) lFe (.ite (false == ((c 4).I == 0 && (c 5).I == 0)) lFe (.ite (false == !(c 8).B) lFe (.ite (false == ((c 9).I == 0 &&
  ((c 10).I == 0 && (c 11).I == 0))) lFe (.ite (false == ((c 12).I == 0)) lFe (.ite (false == smE e8) lFe lFe))))))) (.must (rbE
  s0 n0) (.defE ⟨[stL c 13, zL], [.lst n0 (rnE s0)]⟩ fun e9 => .ite (false == ((c 3).I == 0)) lFe (.ite (false == ((c 4).I == 0 && (c 5).I == 0)) lFe lFe))))))) lFe) lFe) lFe) (.ite (decide ((c 1).I ≥ 21)) (.ite (decide ((c 1).I < 24)) (.ite (decide ((c 2).I ≥ 10)) (.ite (!decide ((c 2).I < 15))
  lFe (.ite ((c 1).I == (c 2).I) lFe (.ite ((n1 : Int) == 0) (.ite ((c 62).I == 0) (.ite ((c 63).I == 0) (.must (rbE s2 n2) (.defE ⟨[stL c 65, zL], [.lst n2 (rnE s2)]⟩ fun e10
  => .ite ((c 6).I == 0 && (c 7).I == 0) (.must (rbE s0 n0) (.defE ⟨[stL c 13, zL], [.lst n0 (rnE s0)]⟩ fun e11 => .ite (false == ((c 3).I == 0)) lFe (.ite (false == ((c 4).I == 0 && (c 5).I == 0))
  lFe (.ite (false == !(c 8).B) lFe (.ite (false == ((c 9).I == 0 && ((c 10).I == 0 && (c 11).I == 0))) lFe (.ite (false == ((c 12).I == 0)) lFe (.ite (false == smE e11) lFe (.ite (false == smE e10) lFe (.ite (false == ((c 114).I == 0 && ((c 115).I == 0 && ((c 116).I == 0 && ((c 117).I == 0 && ((c 118).I
  == 0 && ((c 119).I == 0 && ((c 120).I == 0 && (c 121).S == (ByteArray.mk #[]))))))))) lFe (.ite (false == ((c 122).I == 0)) lFe (.ite (false == ((c 129).I == 0 && (c 130).S
  == (ByteArray.mk #[]))) lFe (.ite (decide ((c 12).I < 4)) (.ite (isOpB (opE ⟨[[.i (c 123).I, .i (c 124).I, .i (c 125).I, .i (c 126).I, .i (c 127).I, .s (c 128).S]], []⟩ 0 0)) (.defI
  (IntKind.u8.wrap (20 + (c 123).I)) fun z12 => .ite ((c 1).I == z12) (.ite (decide ((c 129).I ≤ 3)) (.leaf ⟨[[.b (decide (((c 130).S.size : Int) ≤ 80))]], []⟩) lFe) lFe)
  lFe) lFe)))))))))))) (.must (rbE s0 n0) (.defE ⟨[stL c 13, zL], [.lst n0 (rnE s0)]⟩ fun e13 => .ite (false == ((c 3).I == 0)) lFe (.ite (false == ((c
  4).I == 0 && (c 5).I == 0)) lFe lFe))))) (.ite ((c 6).I == 0 && (c 7).I == 0) (.must (rbE s0 n0) (.defE ⟨[stL c 13, zL], [.lst n0 (rnE s0)]⟩ fun e14 => .ite (false == ((c
  3).I == 0)) lFe (.ite (false == ((c 4).I == 0 && (c 5).I == 0)) lFe (.ite (false == !(c 8).B) lFe (.ite (false == ((c 9).I == 0 && ((c 10).I == 0 && (c
  11).I == 0))) lFe (.ite (false == ((c 12).I == 0)) lFe (.ite (false == smE e14) lFe lFe))))))) (.must (rbE s0 n0) (.defE ⟨[stL c
  13, zL], [.lst n0 (rnE s0)]⟩ fun e15 => .ite (false == ((c 3).I == 0)) lFe (.ite (false == ((c 4).I == 0 && (c 5).I == 0)) lFe lFe))))) (.ite ((c 6).I
  == 0 && (c 7).I == 0) (.must (rbE s0 n0) (.defE ⟨[stL c 13, zL], [.lst n0 (rnE s0)]⟩ fun e16 => .ite (false == ((c 3).I == 0)) lFe (.ite (false == ((c 4).I == 0 && (c 5).I == 0)) lFe (.ite (false == !(c 8).B) lFe (.ite (false == ((c 9).I == 0 && ((c 10).I == 0 && (c 11).I == 0))) lFe (.ite (false == ((c 12).I == 0)) lFe (.ite (false == smE e16) lFe lFe))))))) (.must (rbE s0 n0) (.defE ⟨[stL c 13, zL], [.lst n0 (rnE s0)]⟩ fun e17 => .ite (false == ((c 3).I == 0)) lFe (.ite (false == ((c 4).I == 0 && (c 5).I == 0)) lFe lFe))))) (.ite ((c 6).I == 0 && (c 7).I == 0) (.must (rbE s0 n0) (.defE ⟨[stL c 13, zL], [.lst n0 (rnE s0)]⟩ fun e18
  => .ite (false == ((c 3).I == 0)) lFe (.ite (false == ((c 4).I == 0 && (c 5).I == 0)) lFe (.ite (false == !(c 8).B) lFe (.ite (false == ((c 9).I == 0
  && ((c 10).I == 0 && (c 11).I == 0))) lFe (.ite (false == ((c 12).I == 0)) lFe (.ite (false == smE e18) lFe lFe))))))) (.must
  (rbE s0 n0) (.defE ⟨[stL c 13, zL], [.lst n0 (rnE s0)]⟩ fun e19 => .ite (false == ((c 3).I == 0)) lFe (.ite (false == ((c 4).I == 0 && (c 5).I == 0)) lFe lFe))))))) lFe) lFe) lFe)) (.ite (decide ((c 1).I ≥ 21)) (.ite (decide ((c 1).I < 24)) (.ite (decide ((c 2).I ≥ 10)) (.ite (!decide ((c 2).I
  < 15)) lFe (.ite ((c 1).I == (c 2).I) lFe (.ite ((n1 : Int) == 0) (.ite ((c 62).I == 0) (.ite ((c 63).I == 0) (.must (rbE s2 n2) (.defE ⟨[stL c 65, zL], [.lst n2 (rnE s2)]⟩
  fun e20 => .ite ((c 6).I == 0 && (c 7).I == 0) (.must (rbE s0 n0) (.defE ⟨[stL c 13, zL], [.lst n0 (rnE s0)]⟩ fun e21 => .ite (false == ((c 3).I == 0)) lFe (.ite (false == ((c 4).I == 0 && (c 5).I
  == 0)) lFe (.ite (false == !(c 8).B) lFe (.ite (false == ((c 9).I == 0 && ((c 10).I == 0 && (c 11).I == 0))) lFe (.ite (false == ((c 12).I == 0))
  lFe (.ite (false == smE e21) lFe (.ite (false == smE e20) lFe (.ite (false == ((c 114).I == 0 && ((c 115).I == 0 && ((c 116).I == 0 && ((c 117).I == 0
  && ((c 118).I == 0 && ((c 119).I == 0 && ((c 120).I == 0 && (c 121).S == (ByteArray.mk #[]))))))))) lFe (.ite (false == ((c 122).I == 0)) lFe (.ite (false == ((c 129).I == 0
  && (c 130).S == (ByteArray.mk #[]))) lFe (.ite (decide ((c 12).I < 4)) (.ite (isOpB (opE ⟨[[.i (c 123).I, .i (c 124).I, .i (c 125).I, .i (c 126).I, .i (c 127).I, .s (c 128).S]], []⟩ 0 0)) (.defI
  (IntKind.u8.wrap (20 + (c 123).I)) fun z22 => .ite ((c 1).I == z22) (.ite (decide ((c 129).I ≤ 3)) (.leaf ⟨[[.b (decide (((c 130).S.size : Int) ≤ 80))]], []⟩) lFe) lFe)
  lFe) lFe)))))))))))) (.must (rbE s0 n0) (.defE ⟨[stL c 13, zL], [.lst n0 (rnE s0)]⟩ fun e23 => .ite (false == ((c 3).I == 0)) lFe (.ite (false == ((c
  4).I == 0 && (c 5).I == 0)) lFe lFe))))) (.ite ((c 6).I == 0 && (c 7).I == 0) (.must (rbE s0 n0) (.defE ⟨[stL c 13, zL], [.lst n0 (rnE s0)]⟩ fun e24 => .ite (false == ((c
  3).I == 0)) lFe (.ite (false == ((c 4).I == 0 && (c 5).I == 0)) lFe (.ite (false == !(c 8).B) lFe (.ite (false == ((c 9).I == 0 && ((c 10).I == 0 && (c
  11).I == 0))) lFe (.ite (false == ((c 12).I == 0)) lFe (.ite (false == smE e24) lFe lFe))))))) (.must (rbE s0 n0) (.defE ⟨[stL c
  13, zL], [.lst n0 (rnE s0)]⟩ fun e25 => .ite (false == ((c 3).I == 0)) lFe (.ite (false == ((c 4).I == 0 && (c 5).I == 0)) lFe lFe))))) (.ite ((c 6).I
  == 0 && (c 7).I == 0) (.must (rbE s0 n0) (.defE ⟨[stL c 13, zL], [.lst n0 (rnE s0)]⟩ fun e26 => .ite (false == ((c 3).I == 0)) lFe (.ite (false == ((c 4).I == 0 && (c 5).I == 0)) lFe (.ite (false == !(c 8).B) lFe (.ite (false == ((c 9).I == 0 && ((c 10).I == 0 && (c 11).I == 0))) lFe (.ite (false == ((c 12).I == 0)) lFe (.ite (false == smE e26) lFe lFe))))))) (.must (rbE s0 n0) (.defE ⟨[stL c 13, zL], [.lst n0 (rnE s0)]⟩ fun e27 => .ite (false == ((c 3).I == 0)) lFe (.ite (false == ((c 4).I == 0 && (c 5).I == 0)) lFe lFe))))) (.ite ((c 6).I == 0 && (c 7).I == 0) (.must (rbE s0 n0) (.defE ⟨[stL c 13, zL], [.lst n0 (rnE s0)]⟩ fun e28
  => .ite (false == ((c 3).I == 0)) lFe (.ite (false == ((c 4).I == 0 && (c 5).I == 0)) lFe (.ite (false == !(c 8).B) lFe (.ite (false == ((c 9).I == 0
  && ((c 10).I == 0 && (c 11).I == 0))) lFe (.ite (false == ((c 12).I == 0)) lFe (.ite (false == smE e28) lFe lFe))))))) (.must
  (rbE s0 n0) (.defE ⟨[stL c 13, zL], [.lst n0 (rnE s0)]⟩ fun e29 => .ite (false == ((c 3).I == 0)) lFe (.ite (false == ((c 4).I == 0 && (c 5).I == 0)) lFe lFe))))))) lFe) lFe) lFe)) (.ite (decide ((c 1).I ≥ 21)) (.ite (decide ((c 1).I < 24)) (.ite (decide ((c 2).I ≥ 10)) (.ite (!decide ((c 2).I
  < 15)) lFe (.ite ((c 1).I == (c 2).I) lFe (.ite ((n1 : Int) == 0) (.ite ((c 62).I == 0) (.ite ((c 63).I == 0) (.must (rbE s2 n2) (.defE ⟨[stL c 65, zL], [.lst n2 (rnE s2)]⟩
  fun e30 => .ite ((c 6).I == 0 && (c 7).I == 0) (.must (rbE s0 n0) (.defE ⟨[stL c 13, zL], [.lst n0 (rnE s0)]⟩ fun e31 => .ite (false == ((c 3).I == 0)) lFe (.ite (false == ((c 4).I == 0 && (c 5).I
  == 0)) lFe (.ite (false == !(c 8).B) lFe (.ite (false == ((c 9).I == 0 && ((c 10).I == 0 && (c 11).I == 0))) lFe (.ite (false == ((c 12).I == 0))
  lFe (.ite (false == smE e31) lFe (.ite (false == smE e30) lFe (.ite (false == ((c 114).I == 0 && ((c 115).I == 0 && ((c 116).I == 0 && ((c 117).I == 0
  && ((c 118).I == 0 && ((c 119).I == 0 && ((c 120).I == 0 && (c 121).S == (ByteArray.mk #[]))))))))) lFe (.ite (false == ((c 122).I == 0)) lFe (.ite (false == ((c 129).I == 0
  && (c 130).S == (ByteArray.mk #[]))) lFe (.ite (decide ((c 12).I < 4)) (.ite (isOpB (opE ⟨[[.i (c 123).I, .i (c 124).I, .i (c 125).I, .i (c 126).I, .i (c 127).I, .s (c 128).S]], []⟩ 0 0)) (.defI
  (IntKind.u8.wrap (20 + (c 123).I)) fun z32 => .ite ((c 1).I == z32) (.ite (decide ((c 129).I ≤ 3)) (.leaf ⟨[[.b (decide (((c 130).S.size : Int) ≤ 80))]], []⟩) lFe) lFe)
  lFe) lFe)))))))))))) (.must (rbE s0 n0) (.defE ⟨[stL c 13, zL], [.lst n0 (rnE s0)]⟩ fun e33 => .ite (false == ((c 3).I == 0)) lFe (.ite (false == ((c
  4).I == 0 && (c 5).I == 0)) lFe lFe))))) (.ite ((c 6).I == 0 && (c 7).I == 0) (.must (rbE s0 n0) (.defE ⟨[stL c 13, zL], [.lst n0 (rnE s0)]⟩ fun e34 => .ite (false == ((c
  3).I == 0)) lFe (.ite (false == ((c 4).I == 0 && (c 5).I == 0)) lFe (.ite (false == !(c 8).B) lFe (.ite (false == ((c 9).I == 0 && ((c 10).I == 0 && (c
  11).I == 0))) lFe (.ite (false == ((c 12).I == 0)) lFe (.ite (false == smE e34) lFe lFe))))))) (.must (rbE s0 n0) (.defE ⟨[stL c
  13, zL], [.lst n0 (rnE s0)]⟩ fun e35 => .ite (false == ((c 3).I == 0)) lFe (.ite (false == ((c 4).I == 0 && (c 5).I == 0)) lFe lFe))))) (.ite ((c 6).I
  == 0 && (c 7).I == 0) (.must (rbE s0 n0) (.defE ⟨[stL c 13, zL], [.lst n0 (rnE s0)]⟩ fun e36 => .ite (false == ((c 3).I == 0)) lFe (.ite (false == ((c 4).I == 0 && (c 5).I == 0)) lFe (.ite (false == !(c 8).B) lFe (.ite (false == ((c 9).I == 0 && ((c 10).I == 0 && (c 11).I == 0))) lFe (.ite (false == ((c 12).I == 0)) lFe (.ite (false == smE e36) lFe lFe))))))) (.must (rbE s0 n0) (.defE ⟨[stL c 13, zL], [.lst n0 (rnE s0)]⟩ fun e37 => .ite (false == ((c 3).I == 0)) lFe (.ite (false == ((c 4).I == 0 && (c 5).I == 0)) lFe lFe))))) (.ite ((c 6).I == 0 && (c 7).I == 0) (.must (rbE s0 n0) (.defE ⟨[stL c 13, zL], [.lst n0 (rnE s0)]⟩ fun e38
  => .ite (false == ((c 3).I == 0)) lFe (.ite (false == ((c 4).I == 0 && (c 5).I == 0)) lFe (.ite (false == !(c 8).B) lFe (.ite (false == ((c 9).I == 0
  && ((c 10).I == 0 && (c 11).I == 0))) lFe (.ite (false == ((c 12).I == 0)) lFe (.ite (false == smE e38) lFe lFe))))))) (.must
  (rbE s0 n0) (.defE ⟨[stL c 13, zL], [.lst n0 (rnE s0)]⟩ fun e39 => .ite (false == ((c 3).I == 0)) lFe (.ite (false == ((c 4).I == 0 && (c 5).I == 0)) lFe lFe))))))) lFe) lFe) lFe)) (.ite (decide ((c 1).I ≥ 10)) (.ite (decide ((c 1).I < 15)) (.ite (decide ((c 2).I ≥ 10)) (.ite (decide ((c 1).I ≥
  21)) (.ite (decide ((c 1).I < 24)) (.ite (decide ((c 2).I ≥ 10)) (.ite (!decide ((c 2).I < 15)) lFe (.ite ((c 1).I == (c 2).I) lFe (.ite ((n1 : Int) == 0) (.ite ((c 62).I ==
  0) (.ite ((c 63).I == 0) (.must (rbE s2 n2) (.defE ⟨[stL c 65, zL], [.lst n2 (rnE s2)]⟩ fun e40 => .ite ((c 6).I == 0 && (c 7).I == 0) (.must (rbE s0 n0) (.defE ⟨[stL c 13, zL], [.lst n0 (rnE s0)]⟩ fun e41 => .ite (false
  == ((c 3).I == 0)) lFe (.ite (false == ((c 4).I == 0 && (c 5).I == 0)) lFe (.ite (false == !(c 8).B) lFe (.ite (false == ((c 9).I == 0 && ((c 10).I ==
  0 && (c 11).I == 0))) lFe (.ite (false == ((c 12).I == 0)) lFe (.ite (false == smE e41) lFe (.ite (false == smE e40) lFe (.ite
  (false == ((c 114).I == 0 && ((c 115).I == 0 && ((c 116).I == 0 && ((c 117).I == 0 && ((c 118).I == 0 && ((c 119).I == 0 && ((c 120).I == 0 && (c 121).S == (ByteArray.mk #[]))))))))) lFe (.ite
  (false == ((c 122).I == 0)) lFe (.ite (false == ((c 129).I == 0 && (c 130).S == (ByteArray.mk #[]))) lFe (.ite (decide ((c 12).I < 4)) (.ite (isOpB (opE ⟨[[.i (c 123).I, .i
  (c 124).I, .i (c 125).I, .i (c 126).I, .i (c 127).I, .s (c 128).S]], []⟩ 0 0)) (.defI (IntKind.u8.wrap (20 + (c 123).I)) fun z42 => .ite ((c 1).I == z42) (.ite (decide ((c 129).I ≤ 3)) (.leaf ⟨[[.b (decide (((c
  130).S.size : Int) ≤ 80))]], []⟩) lFe) lFe) lFe) lFe)))))))))))) (.must (rbE s0 n0) (.defE ⟨[stL c 13, zL], [.lst n0 (rnE s0)]⟩
  fun e43 => .ite (false == ((c 3).I == 0)) lFe (.ite (false == ((c 4).I == 0 && (c 5).I == 0)) lFe lFe))))) (.ite ((c 6).I == 0 && (c 7).I == 0) (.must
  (rbE s0 n0) (.defE ⟨[stL c 13, zL], [.lst n0 (rnE s0)]⟩ fun e44 => .ite (false == ((c 3).I == 0)) lFe (.ite (false == ((c 4).I == 0 && (c 5).I == 0)) lFe (.ite (false == !(c
  8).B) lFe (.ite (false == ((c 9).I == 0 && ((c 10).I == 0 && (c 11).I == 0))) lFe (.ite (false == ((c 12).I == 0)) lFe (.ite (false == smE e44) lFe lFe))))))) (.must (rbE s0 n0) (.defE ⟨[stL c 13, zL], [.lst n0 (rnE s0)]⟩ fun e45 => .ite (false == ((c 3).I == 0)) lFe (.ite (false == ((c 4).I == 0 &&
  (c 5).I == 0)) lFe lFe))))) (.ite ((c 6).I == 0 && (c 7).I == 0) (.must (rbE s0 n0) (.defE ⟨[stL c 13, zL], [.lst n0 (rnE s0)]⟩ fun e46 => .ite (false == ((c 3).I == 0))
  lFe (.ite (false == ((c 4).I == 0 && (c 5).I == 0)) lFe (.ite (false == !(c 8).B) lFe (.ite (false == ((c 9).I == 0 && ((c 10).I == 0 && (c 11).I ==
  0))) lFe (.ite (false == ((c 12).I == 0)) lFe (.ite (false == smE e46) lFe lFe))))))) (.must (rbE s0 n0) (.defE ⟨[stL c 13, zL],
  [.lst n0 (rnE s0)]⟩ fun e47 => .ite (false == ((c 3).I == 0)) lFe (.ite (false == ((c 4).I == 0 && (c 5).I == 0)) lFe lFe))))) (.ite ((c 6).I == 0 &&
  (c 7).I == 0) (.must (rbE s0 n0) (.defE ⟨[stL c 13, zL], [.lst n0 (rnE s0)]⟩ fun e48 => .ite (false == ((c 3).I == 0)) lFe (.ite (false == ((c 4).I == 0 && (c 5).I == 0)) lFe
  (.ite (false == !(c 8).B) lFe (.ite (false == ((c 9).I == 0 && ((c 10).I == 0 && (c 11).I == 0))) lFe (.ite (false == ((c 12).I == 0)) lFe (.ite (false
  == smE e48) lFe lFe))))))) (.must (rbE s0 n0) (.defE ⟨[stL c 13, zL], [.lst n0 (rnE s0)]⟩ fun e49 => .ite (false == ((c 3).I == 0)) lFe (.ite (false ==
  ((c 4).I == 0 && (c 5).I == 0)) lFe lFe))))))) lFe) lFe) lFe) (.ite (decide ((c 1).I ≥ 21)) (.ite (decide
  ((c 1).I < 24)) (.ite (decide ((c 2).I ≥ 10)) (.ite (!decide ((c 2).I < 15)) lFe (.ite ((c 1).I == (c 2).I) lFe (.ite ((n1 : Int) == 0) (.ite ((c 62).I == 0) (.ite ((c 63).I
  == 0) (.must (rbE s2 n2) (.defE ⟨[stL c 65, zL], [.lst n2 (rnE s2)]⟩ fun e50 => .ite ((c 6).I == 0 && (c 7).I == 0) (.must (rbE s0 n0) (.defE ⟨[stL c 13, zL], [.lst n0 (rnE s0)]⟩ fun e51 => .ite (false == ((c 3).I == 0))
  lFe (.ite (false == ((c 4).I == 0 && (c 5).I == 0)) lFe (.ite (false == !(c 8).B) lFe (.ite (false == ((c 9).I == 0 && ((c 10).I == 0 && (c 11).I ==
  0))) lFe (.ite (false == ((c 12).I == 0)) lFe (.ite (false == smE e51) lFe (.ite (false == smE e50) lFe (.ite (false == ((c
  114).I == 0 && ((c 115).I == 0 && ((c 116).I == 0 && ((c 117).I == 0 && ((c 118).I == 0 && ((c 119).I == 0 && ((c 120).I == 0 && (c 121).S == (ByteArray.mk #[]))))))))) lFe (.ite (false == ((c
  122).I == 0)) lFe (.ite (false == ((c 129).I == 0 && (c 130).S == (ByteArray.mk #[]))) lFe (.ite (decide ((c 12).I < 4)) (.ite (isOpB (opE ⟨[[.i (c 123).I, .i (c 124).I, .i
  (c 125).I, .i (c 126).I, .i (c 127).I, .s (c 128).S]], []⟩ 0 0)) (.defI (IntKind.u8.wrap (20 + (c 123).I)) fun z52 => .ite ((c 1).I == z52) (.ite (decide ((c 129).I ≤ 3)) (.leaf ⟨[[.b (decide (((c 130).S.size : Int) ≤
  80))]], []⟩) lFe) lFe) lFe) lFe)))))))))))) (.must (rbE s0 n0) (.defE ⟨[stL c 13, zL], [.lst n0 (rnE s0)]⟩ fun e53 => .ite
  (false == ((c 3).I == 0)) lFe (.ite (false == ((c 4).I == 0 && (c 5).I == 0)) lFe lFe))))) (.ite ((c 6).I == 0 && (c 7).I == 0) (.must (rbE s0 n0)
  (.defE ⟨[stL c 13, zL], [.lst n0 (rnE s0)]⟩ fun e54 => .ite (false == ((c 3).I == 0)) lFe (.ite (false == ((c 4).I == 0 && (c 5).I == 0)) lFe (.ite (false == !(c 8).B) lFe (.ite (false == ((c 9).I == 0 && ((c 10).I == 0 && (c 11).I == 0))) lFe (.ite (false == ((c 12).I == 0)) lFe (.ite (false == smE e54) lFe lFe))))))) (.must (rbE s0 n0) (.defE ⟨[stL c 13, zL], [.lst n0 (rnE s0)]⟩ fun e55 => .ite (false == ((c 3).I == 0)) lFe (.ite (false == ((c 4).I == 0 && (c 5).I
  == 0)) lFe lFe))))) (.ite ((c 6).I == 0 && (c 7).I == 0) (.must (rbE s0 n0) (.defE ⟨[stL c 13, zL], [.lst n0 (rnE s0)]⟩ fun e56 => .ite (false == ((c 3).I == 0)) lFe (.ite (false == ((c 4).I == 0 && (c 5).I == 0)) lFe (.ite (false == !(c 8).B) lFe (.ite (false == ((c 9).I == 0 && ((c 10).I == 0 && (c 11).I == 0))) lFe (.ite (false == ((c 12).I == 0)) lFe (.ite (false == smE e56) lFe lFe))))))) (.must (rbE s0 n0) (.defE ⟨[stL c 13, zL], [.lst n0
  (rnE s0)]⟩ fun e57 => .ite (false == ((c 3).I == 0)) lFe (.ite (false == ((c 4).I == 0 && (c 5).I == 0)) lFe lFe))))) (.ite ((c 6).I == 0 && (c 7).I ==
  0) (.must (rbE s0 n0) (.defE ⟨[stL c 13, zL], [.lst n0 (rnE s0)]⟩ fun e58 => .ite (false == ((c 3).I == 0)) lFe (.ite (false == ((c 4).I == 0 && (c 5).I == 0)) lFe (.ite
  (false == !(c 8).B) lFe (.ite (false == ((c 9).I == 0 && ((c 10).I == 0 && (c 11).I == 0))) lFe (.ite (false == ((c 12).I == 0)) lFe (.ite (false ==
  smE e58) lFe lFe))))))) (.must (rbE s0 n0) (.defE ⟨[stL c 13, zL], [.lst n0 (rnE s0)]⟩ fun e59 => .ite (false == ((c 3).I == 0)) lFe (.ite (false ==
  ((c 4).I == 0 && (c 5).I == 0)) lFe lFe))))))) lFe) lFe) lFe)) (.ite (decide ((c 1).I ≥ 21)) (.ite
  (decide ((c 1).I < 24)) (.ite (decide ((c 2).I ≥ 10)) (.ite (!decide ((c 2).I < 15)) lFe (.ite ((c 1).I == (c 2).I) lFe (.ite ((n1 : Int) == 0) (.ite ((c 62).I == 0) (.ite
  ((c 63).I == 0) (.must (rbE s2 n2) (.defE ⟨[stL c 65, zL], [.lst n2 (rnE s2)]⟩ fun e60 => .ite ((c 6).I == 0 && (c 7).I == 0) (.must (rbE s0 n0) (.defE ⟨[stL c 13, zL], [.lst n0 (rnE s0)]⟩ fun e61 => .ite (false == ((c
  3).I == 0)) lFe (.ite (false == ((c 4).I == 0 && (c 5).I == 0)) lFe (.ite (false == !(c 8).B) lFe (.ite (false == ((c 9).I == 0 && ((c 10).I == 0 && (c
  11).I == 0))) lFe (.ite (false == ((c 12).I == 0)) lFe (.ite (false == smE e61) lFe (.ite (false == smE e60) lFe (.ite (false ==
  ((c 114).I == 0 && ((c 115).I == 0 && ((c 116).I == 0 && ((c 117).I == 0 && ((c 118).I == 0 && ((c 119).I == 0 && ((c 120).I == 0 && (c 121).S == (ByteArray.mk #[]))))))))) lFe (.ite (false == ((c
  122).I == 0)) lFe (.ite (false == ((c 129).I == 0 && (c 130).S == (ByteArray.mk #[]))) lFe (.ite (decide ((c 12).I < 4)) (.ite (isOpB (opE ⟨[[.i (c 123).I, .i (c 124).I, .i
  (c 125).I, .i (c 126).I, .i (c 127).I, .s (c 128).S]], []⟩ 0 0)) (.defI (IntKind.u8.wrap (20 + (c 123).I)) fun z62 => .ite ((c 1).I == z62) (.ite (decide ((c 129).I ≤ 3)) (.leaf ⟨[[.b (decide (((c 130).S.size : Int) ≤
  80))]], []⟩) lFe) lFe) lFe) lFe)))))))))))) (.must (rbE s0 n0) (.defE ⟨[stL c 13, zL], [.lst n0 (rnE s0)]⟩ fun e63 => .ite
  (false == ((c 3).I == 0)) lFe (.ite (false == ((c 4).I == 0 && (c 5).I == 0)) lFe lFe))))) (.ite ((c 6).I == 0 && (c 7).I == 0) (.must (rbE s0 n0)
  (.defE ⟨[stL c 13, zL], [.lst n0 (rnE s0)]⟩ fun e64 => .ite (false == ((c 3).I == 0)) lFe (.ite (false == ((c 4).I == 0 && (c 5).I == 0)) lFe (.ite (false == !(c 8).B) lFe (.ite (false == ((c 9).I == 0 && ((c 10).I == 0 && (c 11).I == 0))) lFe (.ite (false == ((c 12).I == 0)) lFe (.ite (false == smE e64) lFe lFe))))))) (.must (rbE s0 n0) (.defE ⟨[stL c 13, zL], [.lst n0 (rnE s0)]⟩ fun e65 => .ite (false == ((c 3).I == 0)) lFe (.ite (false == ((c 4).I == 0 && (c 5).I
  == 0)) lFe lFe))))) (.ite ((c 6).I == 0 && (c 7).I == 0) (.must (rbE s0 n0) (.defE ⟨[stL c 13, zL], [.lst n0 (rnE s0)]⟩ fun e66 => .ite (false == ((c 3).I == 0)) lFe (.ite (false == ((c 4).I == 0 && (c 5).I == 0)) lFe (.ite (false == !(c 8).B) lFe (.ite (false == ((c 9).I == 0 && ((c 10).I == 0 && (c 11).I == 0))) lFe (.ite (false == ((c 12).I == 0)) lFe (.ite (false == smE e66) lFe lFe))))))) (.must (rbE s0 n0) (.defE ⟨[stL c 13, zL], [.lst n0
  (rnE s0)]⟩ fun e67 => .ite (false == ((c 3).I == 0)) lFe (.ite (false == ((c 4).I == 0 && (c 5).I == 0)) lFe lFe))))) (.ite ((c 6).I == 0 && (c 7).I ==
  0) (.must (rbE s0 n0) (.defE ⟨[stL c 13, zL], [.lst n0 (rnE s0)]⟩ fun e68 => .ite (false == ((c 3).I == 0)) lFe (.ite (false == ((c 4).I == 0 && (c 5).I == 0)) lFe (.ite
  (false == !(c 8).B) lFe (.ite (false == ((c 9).I == 0 && ((c 10).I == 0 && (c 11).I == 0))) lFe (.ite (false == ((c 12).I == 0)) lFe (.ite (false ==
  smE e68) lFe lFe))))))) (.must (rbE s0 n0) (.defE ⟨[stL c 13, zL], [.lst n0 (rnE s0)]⟩ fun e69 => .ite (false == ((c 3).I == 0)) lFe (.ite (false ==
  ((c 4).I == 0 && (c 5).I == 0)) lFe lFe))))))) lFe) lFe) lFe)) (.ite (decide ((c 1).I ≥ 21)) (.ite
  (decide ((c 1).I < 24)) (.ite (decide ((c 2).I ≥ 10)) (.ite (!decide ((c 2).I < 15)) lFe (.ite ((c 1).I == (c 2).I) lFe (.ite ((n1 : Int) == 0) (.ite ((c 62).I == 0) (.ite
  ((c 63).I == 0) (.must (rbE s2 n2) (.defE ⟨[stL c 65, zL], [.lst n2 (rnE s2)]⟩ fun e70 => .ite ((c 6).I == 0 && (c 7).I == 0) (.must (rbE s0 n0) (.defE ⟨[stL c 13, zL], [.lst n0 (rnE s0)]⟩ fun e71 => .ite (false == ((c
  3).I == 0)) lFe (.ite (false == ((c 4).I == 0 && (c 5).I == 0)) lFe (.ite (false == !(c 8).B) lFe (.ite (false == ((c 9).I == 0 && ((c 10).I == 0 && (c
  11).I == 0))) lFe (.ite (false == ((c 12).I == 0)) lFe (.ite (false == smE e71) lFe (.ite (false == smE e70) lFe (.ite (false ==
  ((c 114).I == 0 && ((c 115).I == 0 && ((c 116).I == 0 && ((c 117).I == 0 && ((c 118).I == 0 && ((c 119).I == 0 && ((c 120).I == 0 && (c 121).S == (ByteArray.mk #[]))))))))) lFe (.ite (false == ((c
  122).I == 0)) lFe (.ite (false == ((c 129).I == 0 && (c 130).S == (ByteArray.mk #[]))) lFe (.ite (decide ((c 12).I < 4)) (.ite (isOpB (opE ⟨[[.i (c 123).I, .i (c 124).I, .i
  (c 125).I, .i (c 126).I, .i (c 127).I, .s (c 128).S]], []⟩ 0 0)) (.defI (IntKind.u8.wrap (20 + (c 123).I)) fun z72 => .ite ((c 1).I == z72) (.ite (decide ((c 129).I ≤ 3)) (.leaf ⟨[[.b (decide (((c 130).S.size : Int) ≤
  80))]], []⟩) lFe) lFe) lFe) lFe)))))))))))) (.must (rbE s0 n0) (.defE ⟨[stL c 13, zL], [.lst n0 (rnE s0)]⟩ fun e73 => .ite
  (false == ((c 3).I == 0)) lFe (.ite (false == ((c 4).I == 0 && (c 5).I == 0)) lFe lFe))))) (.ite ((c 6).I == 0 && (c 7).I == 0) (.must (rbE s0 n0)
  (.defE ⟨[stL c 13, zL], [.lst n0 (rnE s0)]⟩ fun e74 => .ite (false == ((c 3).I == 0)) lFe (.ite (false == ((c 4).I == 0 && (c 5).I == 0)) lFe (.ite (false == !(c 8).B) lFe (.ite (false == ((c 9).I == 0 && ((c 10).I == 0 && (c 11).I == 0))) lFe (.ite (false == ((c 12).I == 0)) lFe (.ite (false == smE e74) lFe lFe))))))) (.must (rbE s0 n0) (.defE ⟨[stL c 13, zL], [.lst n0 (rnE s0)]⟩ fun e75 => .ite (false == ((c 3).I == 0)) lFe (.ite (false == ((c 4).I == 0 && (c 5).I
  == 0)) lFe lFe))))) (.ite ((c 6).I == 0 && (c 7).I == 0) (.must (rbE s0 n0) (.defE ⟨[stL c 13, zL], [.lst n0 (rnE s0)]⟩ fun e76 => .ite (false == ((c 3).I == 0)) lFe (.ite (false == ((c 4).I == 0 && (c 5).I == 0)) lFe (.ite (false == !(c 8).B) lFe (.ite (false == ((c 9).I == 0 && ((c 10).I == 0 && (c 11).I == 0))) lFe (.ite (false == ((c 12).I == 0)) lFe (.ite (false == smE e76) lFe lFe))))))) (.must (rbE s0 n0) (.defE ⟨[stL c 13, zL], [.lst n0
  (rnE s0)]⟩ fun e77 => .ite (false == ((c 3).I == 0)) lFe (.ite (false == ((c 4).I == 0 && (c 5).I == 0)) lFe lFe))))) (.ite ((c 6).I == 0 && (c 7).I ==
  0) (.must (rbE s0 n0) (.defE ⟨[stL c 13, zL], [.lst n0 (rnE s0)]⟩ fun e78 => .ite (false == ((c 3).I == 0)) lFe (.ite (false == ((c 4).I == 0 && (c 5).I == 0)) lFe (.ite
  (false == !(c 8).B) lFe (.ite (false == ((c 9).I == 0 && ((c 10).I == 0 && (c 11).I == 0))) lFe (.ite (false == ((c 12).I == 0)) lFe (.ite (false ==
  smE e78) lFe lFe))))))) (.must (rbE s0 n0) (.defE ⟨[stL c 13, zL], [.lst n0 (rnE s0)]⟩ fun e79 => .ite (false == ((c 3).I == 0)) lFe (.ite (false ==
  ((c 4).I == 0 && (c 5).I == 0)) lFe lFe))))))) lFe) lFe) lFe)) := by kernel_rfl
theorem k24_15 (c : Nat → Num) (n0 : Nat) (s0 : Nat → List Num) (n1 : Nat) (s1 : Nat → List Num) (n2 : Nat) (s2 : Nat → List Num) : ∃ b, noQ (mE c n0 s0 n1 s1 n2 s2) b ∧ StdX Try.prog 24 (mT (.il .u8 15)) (mE c n0 s0 n1 s1 n2 s2) (tYN 3) ⟨[[.b b]], []⟩ := by
  refine anyS ecTab (n := 400) rfl (TS.eqv_refl _ _) (holds_of_eq (m24_15 c n0 s0 n1 s1 n2 s2) ?_)
  (repeat' with_reducible (first | refine holds_inE ?_ | refine holds_inI ?_ | refine holds_inB ?_ | refine holds_must (rbE_ok _ _) ?_ | refine holds_ite (fun _ => ?_) (fun _ => ?_)))
  all_goals exact holds_leaf trivial
end Go.Proofs.Ytnfmdpelafaoaaa
