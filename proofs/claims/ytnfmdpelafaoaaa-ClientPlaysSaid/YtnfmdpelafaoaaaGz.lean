/- Texts merged: a claim has at most 60 files.
   Conditions: none. -/
import Derived.Test.YtnfmdpelafaoaaaEc
set_option linter.unusedSimpArgs false
set_option linter.unusedVariables false
namespace Go.Proofs.Ytnfmdpelafaoaaa
open Go.Eng Go.RowKit Go.ChangeShapes Go.WideShapes
set_option maxRecDepth 100000
theorem m28_1 (c : Nat → Num) (n0 : Nat) (s0 : Nat → List Num) (n1 : Nat) (s1 : Nat → List Num) (n2 : Nat) (s2 : Nat → List Num) : callW Try.prog (codeT Try.prog ecT 400) 28 ((mT (.il .u8 1)).vals (mE c n0 s0 n1 s1 n2 s2)) ((mT (.il .u8 1)).heap (mE c n0 s0 n1 s1 n2 s2)) 3 (outV 3 (tYN 3)) =
  .ite (decide ((c 1).I < 3)) (.ite (!decide ((c 2).I < 3)) (.leaf ⟨[[.b false]], []⟩) (.ite ((c 1).I == (c 2).I) (.leaf ⟨[[.b false]], []⟩) (.ite ((c 6).I == 0 && (c 7).I == 0) (.ite (!(c 8).B) (.ite ((c 9).I == 0 && ((c
  10).I == 0 && (c 11).I == 0)) (.ite ((c 12).I == 0) (.must (rbE s0 n0) (.defE ⟨[stL c 13, zL], [.lst n0 (rnE s0)]⟩ fun e0 => .ite (smE e0) (.ite ((c 62).I == 0) (.ite ((c 63).I == 0) (.ite ((n1 : Int) == 0) (.must (rbE
  s2 n2) (.defE ⟨[stL c 65, zL], [.lst n2 (rnE s2)]⟩ fun e1 => .ite (smE e1) (.ite ((c 114).I == 0 && ((c 115).I == 0 && ((c 116).I == 0 && ((c 117).I == 0 && ((c 118).I == 0 && ((c 119).I == 0 && ((c 120).I == 0 && (c
  121).S == (ByteArray.mk #[])))))))) (.ite ((c 122).I == 0) (.ite ((c 123).I == 0 && ((c 124).I == 0 && ((c 125).I == 0 && ((c 126).I == 0 && ((c 127).I == 0 && (c 128).S == (ByteArray.mk #[])))))) (.ite (!((c 129).I == 0
  && (c 130).S == (ByteArray.mk #[]))) (.leaf ⟨[[.b false]], []⟩) (.ite (decide ((c 3).I ≥ 2)) (.ite (decide ((c 3).I ≥ 1)) (.ite (decide ((c 3).I ≤ 60)) (.ite (decide ((c 3).I ≤ 60)) (.ite (decide ((c 4).I > 0)) (.ite
  (decide ((c 5).I < 3)) (.leaf ⟨[[.b ((c 5).I == (c 1).I)]], []⟩) (.leaf ⟨[[.b false]], []⟩)) (.leaf ⟨[[.b false]], []⟩)) (.leaf ⟨[[.b false]], []⟩)) (.ite (decide ((c 3).I ≤ 60)) (.ite (decide ((c 4).I > 0)) (.ite
  (decide ((c 5).I < 3)) (.leaf ⟨[[.b ((c 5).I == (c 1).I)]], []⟩) (.leaf ⟨[[.b false]], []⟩)) (.leaf ⟨[[.b false]], []⟩)) (.leaf ⟨[[.b false]], []⟩))) (.ite (decide ((c 3).I ≤ 60)) (.ite (decide ((c 4).I > 0)) (.ite
  (decide ((c 5).I < 3)) (.leaf ⟨[[.b ((c 5).I == (c 1).I)]], []⟩) (.leaf ⟨[[.b false]], []⟩)) (.leaf ⟨[[.b false]], []⟩)) (.leaf ⟨[[.b false]], []⟩))) (.ite (decide ((c 3).I ≥ 1)) (.ite (decide ((c 3).I ≤ 60)) (.leaf
  ⟨[[.b false]], []⟩) (.leaf ⟨[[.b false]], []⟩)) (.leaf ⟨[[.b false]], []⟩)))) (.leaf ⟨[[.b false]], []⟩)) (.leaf ⟨[[.b false]], []⟩)) (.leaf ⟨[[.b false]], []⟩)) (.leaf ⟨[[.b false]], []⟩))) (.leaf ⟨[[.b false]], []⟩))
  (.leaf ⟨[[.b false]], []⟩)) (.leaf ⟨[[.b false]], []⟩)) (.leaf ⟨[[.b false]], []⟩))) (.leaf ⟨[[.b false]], []⟩)) (.leaf ⟨[[.b false]], []⟩)) (.leaf ⟨[[.b false]], []⟩)) (.leaf ⟨[[.b false]], []⟩)))) (.leaf ⟨[[.b false]],
  []⟩) := by kernel_rfl
theorem k28_1 (c : Nat → Num) (n0 : Nat) (s0 : Nat → List Num) (n1 : Nat) (s1 : Nat → List Num) (n2 : Nat) (s2 : Nat → List Num) : ∃ b, noQ (mE c n0 s0 n1 s1 n2 s2) b ∧ StdX Try.prog 28 (mT (.il .u8 1)) (mE c n0 s0 n1 s1 n2 s2) (tYN 3) ⟨[[.b b]], []⟩ := by
  refine anyS ecTab (n := 400) rfl (TS.eqv_refl _ _) (holds_of_eq (m28_1 c n0 s0 n1 s1 n2 s2) ?_)
  (repeat' with_reducible (first | refine holds_inE ?_ | refine holds_inI ?_ | refine holds_inB ?_ | refine holds_must (rbE_ok _ _) ?_ | refine holds_ite (fun _ => ?_) (fun _ => ?_)))
  all_goals exact holds_leaf trivial
theorem m28_2 (c : Nat → Num) (n0 : Nat) (s0 : Nat → List Num) (n1 : Nat) (s1 : Nat → List Num) (n2 : Nat) (s2 : Nat → List Num) : callW Try.prog (codeT Try.prog ecT 400) 28 ((mT (.il .u8 2)).vals (mE c n0 s0 n1 s1 n2 s2)) ((mT (.il .u8 2)).heap (mE c n0 s0 n1 s1 n2 s2)) 3 (outV 3 (tYN 3)) =
  .ite (decide ((c 1).I < 3)) (.ite (!decide ((c 2).I < 3)) (.leaf ⟨[[.b false]], []⟩) (.ite ((c 1).I == (c 2).I) (.leaf ⟨[[.b false]], []⟩) (.ite ((c 12).I == 0) (.must (rbE s0 n0) (.defE ⟨[stL c 13, zL], [.lst n0 (rnE
  s0)]⟩ fun e0 => .ite (smE e0) (.ite ((c 62).I == 0) (.ite ((c 63).I == 0) (.ite ((n1 : Int) == 0) (.must (rbE s2 n2) (.defE ⟨[stL c 65, zL], [.lst n2 (rnE s2)]⟩ fun e1 => .ite (smE e1) (.ite ((c 114).I == 0 && ((c 115).I
  == 0 && ((c 116).I == 0 && ((c 117).I == 0 && ((c 118).I == 0 && ((c 119).I == 0 && ((c 120).I == 0 && (c 121).S == (ByteArray.mk #[])))))))) (.ite ((c 122).I == 0) (.ite ((c 123).I == 0 && ((c 124).I == 0 && ((c 125).I
  == 0 && ((c 126).I == 0 && ((c 127).I == 0 && (c 128).S == (ByteArray.mk #[])))))) (.ite (!((c 129).I == 0 && (c 130).S == (ByteArray.mk #[]))) (.leaf ⟨[[.b false]], []⟩) (.ite (decide ((c 3).I ≥ 2)) (.ite (decide ((c
  3).I ≥ 1)) (.ite (decide ((c 3).I ≤ 60)) (.ite (!(c 8).B) (.ite ((c 6).I == 0 && (c 7).I == 0) (.ite (decide ((c 3).I ≤ 60)) (.ite (decide ((c 4).I > 0)) (.ite (decide ((c 5).I < 3)) (.ite ((c 5).I == (c 2).I) (.ite ((c
  9).I == 0 && ((c 10).I == 0 && (c 11).I == 0)) (.leaf ⟨[[.b true]], []⟩) (.ite (c 8).B (.ite (decide ((c 6).I > 0)) (.ite (decide ((c 7).I < 3)) (.defE ⟨[[.i (c 9).I, .i (c 10).I, .i (c 11).I]], []⟩ fun e2 => .leaf ⟨[[.b
  (q45 e2)]], []⟩) (.leaf ⟨[[.b false]], []⟩)) (.leaf ⟨[[.b false]], []⟩)) (.leaf ⟨[[.b false]], []⟩))) (.leaf ⟨[[.b false]], []⟩)) (.leaf ⟨[[.b false]], []⟩)) (.leaf ⟨[[.b false]], []⟩)) (.leaf ⟨[[.b false]], []⟩)) (.ite
  (decide ((c 3).I ≤ 60)) (.ite (decide ((c 4).I > 0)) (.ite (decide ((c 5).I < 3)) (.ite ((c 5).I == (c 2).I) (.ite (c 8).B (.ite (decide ((c 6).I > 0)) (.ite (decide ((c 7).I < 3)) (.defE ⟨[[.i (c 9).I, .i (c 10).I, .i
  (c 11).I]], []⟩ fun e3 => .leaf ⟨[[.b (q45 e3)]], []⟩) (.leaf ⟨[[.b false]], []⟩)) (.leaf ⟨[[.b false]], []⟩)) (.leaf ⟨[[.b false]], []⟩)) (.leaf ⟨[[.b false]], []⟩)) (.leaf ⟨[[.b false]], []⟩)) (.leaf ⟨[[.b false]],
  []⟩)) (.leaf ⟨[[.b false]], []⟩))) (.ite (decide ((c 3).I ≤ 60)) (.ite (decide ((c 4).I > 0)) (.ite (decide ((c 5).I < 3)) (.ite ((c 5).I == (c 2).I) (.ite (c 8).B (.ite (decide ((c 6).I > 0)) (.ite (decide ((c 7).I <
  3)) (.defE ⟨[[.i (c 9).I, .i (c 10).I, .i (c 11).I]], []⟩ fun e4 => .leaf ⟨[[.b (q45 e4)]], []⟩) (.leaf ⟨[[.b false]], []⟩)) (.leaf ⟨[[.b false]], []⟩)) (.leaf ⟨[[.b false]], []⟩)) (.leaf ⟨[[.b false]], []⟩)) (.leaf
  ⟨[[.b false]], []⟩)) (.leaf ⟨[[.b false]], []⟩)) (.leaf ⟨[[.b false]], []⟩))) (.ite (!(c 8).B) (.ite ((c 6).I == 0 && (c 7).I == 0) (.ite (decide ((c 3).I ≤ 60)) (.ite (decide ((c 4).I > 0)) (.ite (decide ((c 5).I < 3))
  (.ite ((c 5).I == (c 2).I) (.ite ((c 9).I == 0 && ((c 10).I == 0 && (c 11).I == 0)) (.leaf ⟨[[.b true]], []⟩) (.ite (c 8).B (.ite (decide ((c 6).I > 0)) (.ite (decide ((c 7).I < 3)) (.defE ⟨[[.i (c 9).I, .i (c 10).I, .i
  (c 11).I]], []⟩ fun e5 => .leaf ⟨[[.b (q45 e5)]], []⟩) (.leaf ⟨[[.b false]], []⟩)) (.leaf ⟨[[.b false]], []⟩)) (.leaf ⟨[[.b false]], []⟩))) (.leaf ⟨[[.b false]], []⟩)) (.leaf ⟨[[.b false]], []⟩)) (.leaf ⟨[[.b false]],
  []⟩)) (.leaf ⟨[[.b false]], []⟩)) (.ite (decide ((c 3).I ≤ 60)) (.ite (decide ((c 4).I > 0)) (.ite (decide ((c 5).I < 3)) (.ite ((c 5).I == (c 2).I) (.ite (c 8).B (.ite (decide ((c 6).I > 0)) (.ite (decide ((c 7).I < 3))
  (.defE ⟨[[.i (c 9).I, .i (c 10).I, .i (c 11).I]], []⟩ fun e6 => .leaf ⟨[[.b (q45 e6)]], []⟩) (.leaf ⟨[[.b false]], []⟩)) (.leaf ⟨[[.b false]], []⟩)) (.leaf ⟨[[.b false]], []⟩)) (.leaf ⟨[[.b false]], []⟩)) (.leaf ⟨[[.b
  false]], []⟩)) (.leaf ⟨[[.b false]], []⟩)) (.leaf ⟨[[.b false]], []⟩))) (.ite (decide ((c 3).I ≤ 60)) (.ite (decide ((c 4).I > 0)) (.ite (decide ((c 5).I < 3)) (.ite ((c 5).I == (c 2).I) (.ite (c 8).B (.ite (decide ((c
  6).I > 0)) (.ite (decide ((c 7).I < 3)) (.defE ⟨[[.i (c 9).I, .i (c 10).I, .i (c 11).I]], []⟩ fun e7 => .leaf ⟨[[.b (q45 e7)]], []⟩) (.leaf ⟨[[.b false]], []⟩)) (.leaf ⟨[[.b false]], []⟩)) (.leaf ⟨[[.b false]], []⟩))
  (.leaf ⟨[[.b false]], []⟩)) (.leaf ⟨[[.b false]], []⟩)) (.leaf ⟨[[.b false]], []⟩)) (.leaf ⟨[[.b false]], []⟩)))) (.ite (!(c 8).B) (.ite ((c 6).I == 0 && (c 7).I == 0) (.ite (decide ((c 3).I ≤ 60)) (.ite (decide ((c 4).I
  > 0)) (.ite (decide ((c 5).I < 3)) (.ite ((c 5).I == (c 2).I) (.ite ((c 9).I == 0 && ((c 10).I == 0 && (c 11).I == 0)) (.leaf ⟨[[.b true]], []⟩) (.ite (c 8).B (.ite (decide ((c 6).I > 0)) (.ite (decide ((c 7).I < 3))
  (.defE ⟨[[.i (c 9).I, .i (c 10).I, .i (c 11).I]], []⟩ fun e8 => .leaf ⟨[[.b (q45 e8)]], []⟩) (.leaf ⟨[[.b false]], []⟩)) (.leaf ⟨[[.b false]], []⟩)) (.leaf ⟨[[.b false]], []⟩))) (.leaf ⟨[[.b false]], []⟩)) (.leaf ⟨[[.b
  false]], []⟩)) (.leaf ⟨[[.b false]], []⟩)) (.leaf ⟨[[.b false]], []⟩)) (.ite (decide ((c 3).I ≤ 60)) (.ite (decide ((c 4).I > 0)) (.ite (decide ((c 5).I < 3)) (.ite ((c 5).I == (c 2).I) (.ite (c 8).B (.ite (decide ((c
  6).I > 0)) (.ite (decide ((c 7).I < 3)) (.defE ⟨[[.i (c 9).I, .i (c 10).I, .i (c 11).I]], []⟩ fun e9 => .leaf ⟨[[.b (q45 e9)]], []⟩) (.leaf ⟨[[.b false]], []⟩)) (.leaf ⟨[[.b false]], []⟩)) (.leaf ⟨[[.b false]], []⟩))
  (.leaf ⟨[[.b false]], []⟩)) (.leaf ⟨[[.b false]], []⟩)) (.leaf ⟨[[.b false]], []⟩)) (.leaf ⟨[[.b false]], []⟩))) (.ite (decide ((c 3).I ≤ 60)) (.ite (decide ((c 4).I > 0)) (.ite (decide ((c 5).I < 3)) (.ite ((c 5).I ==
  (c 2).I) (.ite (c 8).B (.ite (decide ((c 6).I > 0)) (.ite (decide ((c 7).I < 3)) (.defE ⟨[[.i (c 9).I, .i (c 10).I, .i (c 11).I]], []⟩ fun e10 => .leaf ⟨[[.b (q45 e10)]], []⟩) (.leaf ⟨[[.b false]], []⟩)) (.leaf ⟨[[.b
  false]], []⟩)) (.leaf ⟨[[.b false]], []⟩)) (.leaf ⟨[[.b false]], []⟩)) (.leaf ⟨[[.b false]], []⟩)) (.leaf ⟨[[.b false]], []⟩)) (.leaf ⟨[[.b false]], []⟩)))) (.ite (decide ((c 3).I ≥ 1)) (.ite (decide ((c 3).I ≤ 60))
  (.ite (!(c 8).B) (.ite ((c 6).I == 0 && (c 7).I == 0) (.leaf ⟨[[.b false]], []⟩) (.leaf ⟨[[.b false]], []⟩)) (.leaf ⟨[[.b false]], []⟩)) (.ite (!(c 8).B) (.ite ((c 6).I == 0 && (c 7).I == 0) (.leaf ⟨[[.b false]], []⟩)
  (.leaf ⟨[[.b false]], []⟩)) (.leaf ⟨[[.b false]], []⟩))) (.ite (!(c 8).B) (.ite ((c 6).I == 0 && (c 7).I == 0) (.leaf ⟨[[.b false]], []⟩) (.leaf ⟨[[.b false]], []⟩)) (.leaf ⟨[[.b false]], []⟩))))) (.leaf ⟨[[.b false]],
  []⟩)) (.leaf ⟨[[.b false]], []⟩)) (.leaf ⟨[[.b false]], []⟩)) (.leaf ⟨[[.b false]], []⟩))) (.leaf ⟨[[.b false]], []⟩)) (.leaf ⟨[[.b false]], []⟩)) (.leaf ⟨[[.b false]], []⟩)) (.leaf ⟨[[.b false]], []⟩))) (.leaf ⟨[[.b
  false]], []⟩)))) (.leaf ⟨[[.b false]], []⟩) := by kernel_rfl
theorem k28_2 (c : Nat → Num) (n0 : Nat) (s0 : Nat → List Num) (n1 : Nat) (s1 : Nat → List Num) (n2 : Nat) (s2 : Nat → List Num) : ∃ b, noQ (mE c n0 s0 n1 s1 n2 s2) b ∧ StdX Try.prog 28 (mT (.il .u8 2)) (mE c n0 s0 n1 s1 n2 s2) (tYN 3) ⟨[[.b b]], []⟩ := by
  refine anyS ecTab (n := 400) rfl (TS.eqv_refl _ _) (holds_of_eq (m28_2 c n0 s0 n1 s1 n2 s2) ?_)
  (repeat' with_reducible (first | refine holds_inE ?_ | refine holds_inI ?_ | refine holds_inB ?_ | refine holds_must (rbE_ok _ _) ?_ | refine holds_ite (fun _ => ?_) (fun _ => ?_)))
  all_goals exact holds_leaf trivial
theorem m28_3 (c : Nat → Num) (n0 : Nat) (s0 : Nat → List Num) (n1 : Nat) (s1 : Nat → List Num) (n2 : Nat) (s2 : Nat → List Num) : callW Try.prog (codeT Try.prog ecT 400) 28 ((mT (.il .u8 3)).vals (mE c n0 s0 n1 s1 n2 s2)) ((mT (.il .u8 3)).heap (mE c n0 s0 n1 s1 n2 s2)) 3 (outV 3 (tYN 3)) =
  .ite (decide ((c 1).I < 3)) (.ite (!decide ((c 2).I < 3)) (.leaf ⟨[[.b false]], []⟩) (.ite ((c 1).I == (c 2).I) (.leaf ⟨[[.b false]], []⟩) (.ite ((c 6).I == 0 && (c 7).I == 0) (.ite (!(c 8).B) (.ite ((c 12).I == 0)
  (.must (rbE s0 n0) (.defE ⟨[stL c 13, zL], [.lst n0 (rnE s0)]⟩ fun e0 => .ite (smE e0) (.ite ((c 62).I == 0) (.ite ((c 63).I == 0) (.ite ((n1 : Int) == 0) (.must (rbE s2 n2) (.defE ⟨[stL c 65, zL], [.lst n2 (rnE s2)]⟩
  fun e1 => .ite (smE e1) (.ite ((c 114).I == 0 && ((c 115).I == 0 && ((c 116).I == 0 && ((c 117).I == 0 && ((c 118).I == 0 && ((c 119).I == 0 && ((c 120).I == 0 && (c 121).S == (ByteArray.mk #[])))))))) (.ite ((c 122).I
  == 0) (.ite ((c 123).I == 0 && ((c 124).I == 0 && ((c 125).I == 0 && ((c 126).I == 0 && ((c 127).I == 0 && (c 128).S == (ByteArray.mk #[])))))) (.ite (!((c 129).I == 0 && (c 130).S == (ByteArray.mk #[]))) (.leaf ⟨[[.b
  false]], []⟩) (.ite (decide ((c 3).I ≥ 2)) (.ite (decide ((c 3).I ≥ 1)) (.ite (decide ((c 3).I ≤ 60)) (.ite (decide ((c 3).I ≤ 60)) (.ite (decide ((c 4).I > 0)) (.ite (decide ((c 5).I < 3)) (.ite ((c 5).I == (c 1).I)
  (.defE ⟨[[.i (c 9).I, .i (c 10).I, .i (c 11).I]], []⟩ fun e2 => .leaf ⟨[[.b (q45 e2)]], []⟩) (.leaf ⟨[[.b false]], []⟩)) (.leaf ⟨[[.b false]], []⟩)) (.leaf ⟨[[.b false]], []⟩)) (.leaf ⟨[[.b false]], []⟩)) (.ite (decide
  ((c 3).I ≤ 60)) (.ite (decide ((c 4).I > 0)) (.ite (decide ((c 5).I < 3)) (.ite ((c 5).I == (c 1).I) (.defE ⟨[[.i (c 9).I, .i (c 10).I, .i (c 11).I]], []⟩ fun e3 => .leaf ⟨[[.b (q45 e3)]], []⟩) (.leaf ⟨[[.b false]],
  []⟩)) (.leaf ⟨[[.b false]], []⟩)) (.leaf ⟨[[.b false]], []⟩)) (.leaf ⟨[[.b false]], []⟩))) (.ite (decide ((c 3).I ≤ 60)) (.ite (decide ((c 4).I > 0)) (.ite (decide ((c 5).I < 3)) (.ite ((c 5).I == (c 1).I) (.defE ⟨[[.i
  (c 9).I, .i (c 10).I, .i (c 11).I]], []⟩ fun e4 => .leaf ⟨[[.b (q45 e4)]], []⟩) (.leaf ⟨[[.b false]], []⟩)) (.leaf ⟨[[.b false]], []⟩)) (.leaf ⟨[[.b false]], []⟩)) (.leaf ⟨[[.b false]], []⟩))) (.ite (decide ((c 3).I ≥
  1)) (.ite (decide ((c 3).I ≤ 60)) (.leaf ⟨[[.b false]], []⟩) (.leaf ⟨[[.b false]], []⟩)) (.leaf ⟨[[.b false]], []⟩)))) (.leaf ⟨[[.b false]], []⟩)) (.leaf ⟨[[.b false]], []⟩)) (.leaf ⟨[[.b false]], []⟩)) (.leaf ⟨[[.b
  false]], []⟩))) (.leaf ⟨[[.b false]], []⟩)) (.leaf ⟨[[.b false]], []⟩)) (.leaf ⟨[[.b false]], []⟩)) (.leaf ⟨[[.b false]], []⟩))) (.leaf ⟨[[.b false]], []⟩)) (.leaf ⟨[[.b false]], []⟩)) (.leaf ⟨[[.b false]], []⟩))))
  (.leaf ⟨[[.b false]], []⟩) := by kernel_rfl
theorem k28_3 (c : Nat → Num) (n0 : Nat) (s0 : Nat → List Num) (n1 : Nat) (s1 : Nat → List Num) (n2 : Nat) (s2 : Nat → List Num) : ∃ b, noQ (mE c n0 s0 n1 s1 n2 s2) b ∧ StdX Try.prog 28 (mT (.il .u8 3)) (mE c n0 s0 n1 s1 n2 s2) (tYN 3) ⟨[[.b b]], []⟩ := by
  refine anyS ecTab (n := 400) rfl (TS.eqv_refl _ _) (holds_of_eq (m28_3 c n0 s0 n1 s1 n2 s2) ?_)
  (repeat' with_reducible (first | refine holds_inE ?_ | refine holds_inI ?_ | refine holds_inB ?_ | refine holds_must (rbE_ok _ _) ?_ | refine holds_ite (fun _ => ?_) (fun _ => ?_)))
  all_goals exact holds_leaf trivial
theorem m28_4 (c : Nat → Num) (n0 : Nat) (s0 : Nat → List Num) (n1 : Nat) (s1 : Nat → List Num) (n2 : Nat) (s2 : Nat → List Num) : callW Try.prog (codeT Try.prog ecT 400) 28 ((mT (.il .u8 4)).vals (mE c n0 s0 n1 s1 n2 s2)) ((mT (.il .u8 4)).heap (mE c n0 s0 n1 s1 n2 s2)) 3 (outV 3 (tYN 3)) =
  .ite (decide ((c 1).I < 3)) (.ite (!decide ((c 2).I < 3)) (.leaf ⟨[[.b false]], []⟩) (.ite ((c 1).I == (c 2).I) (.leaf ⟨[[.b false]], []⟩) (.ite ((c 6).I == 0 && (c 7).I == 0) (.ite (!(c 8).B) (.ite ((c 9).I == 0 && ((c
  10).I == 0 && (c 11).I == 0)) (.ite ((c 12).I == 0) (.must (rbE s0 n0) (.defE ⟨[stL c 13, zL], [.lst n0 (rnE s0)]⟩ fun e0 => .ite (smE e0) (.ite ((c 62).I == 0) (.ite ((c 63).I == 0) (.ite ((n1 : Int) == 0) (.must (rbE
  s2 n2) (.defE ⟨[stL c 65, zL], [.lst n2 (rnE s2)]⟩ fun e1 => .ite (smE e1) (.ite ((c 114).I == 0 && ((c 115).I == 0 && ((c 116).I == 0 && ((c 117).I == 0 && ((c 118).I == 0 && ((c 119).I == 0 && ((c 120).I == 0 && (c
  121).S == (ByteArray.mk #[])))))))) (.ite ((c 122).I == 0) (.ite ((c 123).I == 0 && ((c 124).I == 0 && ((c 125).I == 0 && ((c 126).I == 0 && ((c 127).I == 0 && (c 128).S == (ByteArray.mk #[])))))) (.ite (!((c 129).I == 0
  && (c 130).S == (ByteArray.mk #[]))) (.leaf ⟨[[.b false]], []⟩) (.ite (decide ((c 3).I ≥ 2)) (.ite (decide ((c 3).I ≥ 1)) (.ite (decide ((c 3).I ≤ 60)) (.ite (decide ((c 3).I ≤ 60)) (.ite (decide ((c 4).I > 0)) (.ite
  (decide ((c 5).I < 3)) (.leaf ⟨[[.b ((c 5).I == (c 2).I)]], []⟩) (.leaf ⟨[[.b false]], []⟩)) (.leaf ⟨[[.b false]], []⟩)) (.leaf ⟨[[.b false]], []⟩)) (.ite (decide ((c 3).I ≤ 60)) (.ite (decide ((c 4).I > 0)) (.ite
  (decide ((c 5).I < 3)) (.leaf ⟨[[.b ((c 5).I == (c 2).I)]], []⟩) (.leaf ⟨[[.b false]], []⟩)) (.leaf ⟨[[.b false]], []⟩)) (.leaf ⟨[[.b false]], []⟩))) (.ite (decide ((c 3).I ≤ 60)) (.ite (decide ((c 4).I > 0)) (.ite
  (decide ((c 5).I < 3)) (.leaf ⟨[[.b ((c 5).I == (c 2).I)]], []⟩) (.leaf ⟨[[.b false]], []⟩)) (.leaf ⟨[[.b false]], []⟩)) (.leaf ⟨[[.b false]], []⟩))) (.ite (decide ((c 3).I ≥ 1)) (.ite (decide ((c 3).I ≤ 60)) (.leaf
  ⟨[[.b false]], []⟩) (.leaf ⟨[[.b false]], []⟩)) (.leaf ⟨[[.b false]], []⟩)))) (.leaf ⟨[[.b false]], []⟩)) (.leaf ⟨[[.b false]], []⟩)) (.leaf ⟨[[.b false]], []⟩)) (.leaf ⟨[[.b false]], []⟩))) (.leaf ⟨[[.b false]], []⟩))
  (.leaf ⟨[[.b false]], []⟩)) (.leaf ⟨[[.b false]], []⟩)) (.leaf ⟨[[.b false]], []⟩))) (.leaf ⟨[[.b false]], []⟩)) (.leaf ⟨[[.b false]], []⟩)) (.leaf ⟨[[.b false]], []⟩)) (.leaf ⟨[[.b false]], []⟩)))) (.leaf ⟨[[.b false]],
  []⟩) := by kernel_rfl
theorem k28_4 (c : Nat → Num) (n0 : Nat) (s0 : Nat → List Num) (n1 : Nat) (s1 : Nat → List Num) (n2 : Nat) (s2 : Nat → List Num) : ∃ b, noQ (mE c n0 s0 n1 s1 n2 s2) b ∧ StdX Try.prog 28 (mT (.il .u8 4)) (mE c n0 s0 n1 s1 n2 s2) (tYN 3) ⟨[[.b b]], []⟩ := by
  refine anyS ecTab (n := 400) rfl (TS.eqv_refl _ _) (holds_of_eq (m28_4 c n0 s0 n1 s1 n2 s2) ?_)
  (repeat' with_reducible (first | refine holds_inE ?_ | refine holds_inI ?_ | refine holds_inB ?_ | refine holds_must (rbE_ok _ _) ?_ | refine holds_ite (fun _ => ?_) (fun _ => ?_)))
  all_goals exact holds_leaf trivial
theorem m28_5 (c : Nat → Num) (n0 : Nat) (s0 : Nat → List Num) (n1 : Nat) (s1 : Nat → List Num) (n2 : Nat) (s2 : Nat → List Num) : callW Try.prog (codeT Try.prog ecT 400) 28 ((mT (.il .u8 5)).vals (mE c n0 s0 n1 s1 n2 s2)) ((mT (.il .u8 5)).heap (mE c n0 s0 n1 s1 n2 s2)) 3 (outV 3 (tYN 3)) =
  .ite (decide ((c 1).I < 3)) (.ite (decide ((c 2).I < 3)) (.ite ((c 1).I == (c 2).I) (.leaf ⟨[[.b false]], []⟩) (.ite ((c 4).I == 0 && (c 5).I == 0) (.ite ((c 6).I == 0 && (c 7).I == 0) (.ite (!(c 8).B) (.ite ((c 12).I ==
  0) (.must (rbE s0 n0) (.defE ⟨[stL c 13, zL], [.lst n0 (rnE s0)]⟩ fun e0 => .ite (smE e0) (.ite ((c 62).I == 0) (.ite ((c 63).I == 0) (.ite ((n1 : Int) == 0) (.must (rbE s2 n2) (.defE ⟨[stL c 65, zL], [.lst n2 (rnE s2)]⟩
  fun e1 => .ite (smE e1) (.ite ((c 114).I == 0 && ((c 115).I == 0 && ((c 116).I == 0 && ((c 117).I == 0 && ((c 118).I == 0 && ((c 119).I == 0 && ((c 120).I == 0 && (c 121).S == (ByteArray.mk #[])))))))) (.ite ((c 122).I
  == 0) (.ite ((c 123).I == 0 && ((c 124).I == 0 && ((c 125).I == 0 && ((c 126).I == 0 && ((c 127).I == 0 && (c 128).S == (ByteArray.mk #[])))))) (.ite (!((c 129).I == 0 && (c 130).S == (ByteArray.mk #[]))) (.leaf ⟨[[.b
  false]], []⟩) (.ite (decide ((c 3).I ≥ 2)) (.ite (decide ((c 3).I ≥ 1)) (.ite (decide ((c 3).I ≤ 60)) (.ite (decide ((c 3).I ≤ 60)) (.defE ⟨[[.i (c 9).I, .i (c 10).I, .i (c 11).I]], []⟩ fun e2 => .leaf ⟨[[.b (q45 e2)]],
  []⟩) (.leaf ⟨[[.b false]], []⟩)) (.ite (decide ((c 3).I ≤ 60)) (.defE ⟨[[.i (c 9).I, .i (c 10).I, .i (c 11).I]], []⟩ fun e3 => .leaf ⟨[[.b (q45 e3)]], []⟩) (.leaf ⟨[[.b false]], []⟩))) (.ite (decide ((c 3).I ≤ 60))
  (.defE ⟨[[.i (c 9).I, .i (c 10).I, .i (c 11).I]], []⟩ fun e4 => .leaf ⟨[[.b (q45 e4)]], []⟩) (.leaf ⟨[[.b false]], []⟩))) (.ite (decide ((c 3).I ≥ 1)) (.ite (decide ((c 3).I ≤ 60)) (.leaf ⟨[[.b false]], []⟩) (.leaf ⟨[[.b
  false]], []⟩)) (.leaf ⟨[[.b false]], []⟩)))) (.leaf ⟨[[.b false]], []⟩)) (.leaf ⟨[[.b false]], []⟩)) (.leaf ⟨[[.b false]], []⟩)) (.leaf ⟨[[.b false]], []⟩))) (.leaf ⟨[[.b false]], []⟩)) (.leaf ⟨[[.b false]], []⟩)) (.leaf
  ⟨[[.b false]], []⟩)) (.leaf ⟨[[.b false]], []⟩))) (.leaf ⟨[[.b false]], []⟩)) (.leaf ⟨[[.b false]], []⟩)) (.leaf ⟨[[.b false]], []⟩)) (.leaf ⟨[[.b false]], []⟩))) (.ite (decide ((c 2).I ≥ 10)) (.ite (!decide ((c 2).I <
  15)) (.leaf ⟨[[.b false]], []⟩) (.ite ((c 1).I == (c 2).I) (.leaf ⟨[[.b false]], []⟩) (.ite ((c 4).I == 0 && (c 5).I == 0) (.ite ((c 6).I == 0 && (c 7).I == 0) (.ite (!(c 8).B) (.ite ((c 12).I == 0) (.must (rbE s0 n0)
  (.defE ⟨[stL c 13, zL], [.lst n0 (rnE s0)]⟩ fun e5 => .ite (smE e5) (.ite ((c 62).I == 0) (.ite ((c 63).I == 0) (.ite ((n1 : Int) == 0) (.must (rbE s2 n2) (.defE ⟨[stL c 65, zL], [.lst n2 (rnE s2)]⟩ fun e6 => .ite (smE
  e6) (.ite ((c 114).I == 0 && ((c 115).I == 0 && ((c 116).I == 0 && ((c 117).I == 0 && ((c 118).I == 0 && ((c 119).I == 0 && ((c 120).I == 0 && (c 121).S == (ByteArray.mk #[])))))))) (.ite ((c 122).I == 0) (.ite ((c
  123).I == 0 && ((c 124).I == 0 && ((c 125).I == 0 && ((c 126).I == 0 && ((c 127).I == 0 && (c 128).S == (ByteArray.mk #[])))))) (.ite (!((c 129).I == 0 && (c 130).S == (ByteArray.mk #[]))) (.leaf ⟨[[.b false]], []⟩)
  (.ite (decide ((c 3).I ≥ 2)) (.ite (decide ((c 3).I ≥ 1)) (.ite (decide ((c 3).I ≤ 60)) (.ite (decide ((c 3).I ≤ 60)) (.defE ⟨[[.i (c 9).I, .i (c 10).I, .i (c 11).I]], []⟩ fun e7 => .leaf ⟨[[.b (q45 e7)]], []⟩) (.leaf
  ⟨[[.b false]], []⟩)) (.ite (decide ((c 3).I ≤ 60)) (.defE ⟨[[.i (c 9).I, .i (c 10).I, .i (c 11).I]], []⟩ fun e8 => .leaf ⟨[[.b (q45 e8)]], []⟩) (.leaf ⟨[[.b false]], []⟩))) (.ite (decide ((c 3).I ≤ 60)) (.defE ⟨[[.i (c
  9).I, .i (c 10).I, .i (c 11).I]], []⟩ fun e9 => .leaf ⟨[[.b (q45 e9)]], []⟩) (.leaf ⟨[[.b false]], []⟩))) (.ite (decide ((c 3).I ≥ 1)) (.ite (decide ((c 3).I ≤ 60)) (.leaf ⟨[[.b false]], []⟩) (.leaf ⟨[[.b false]], []⟩))
  (.leaf ⟨[[.b false]], []⟩)))) (.leaf ⟨[[.b false]], []⟩)) (.leaf ⟨[[.b false]], []⟩)) (.leaf ⟨[[.b false]], []⟩)) (.leaf ⟨[[.b false]], []⟩))) (.leaf ⟨[[.b false]], []⟩)) (.leaf ⟨[[.b false]], []⟩)) (.leaf ⟨[[.b false]],
  []⟩)) (.leaf ⟨[[.b false]], []⟩))) (.leaf ⟨[[.b false]], []⟩)) (.leaf ⟨[[.b false]], []⟩)) (.leaf ⟨[[.b false]], []⟩)) (.leaf ⟨[[.b false]], []⟩)))) (.leaf ⟨[[.b false]], []⟩))) (.leaf ⟨[[.b false]], []⟩) := by kernel_rfl
theorem k28_5 (c : Nat → Num) (n0 : Nat) (s0 : Nat → List Num) (n1 : Nat) (s1 : Nat → List Num) (n2 : Nat) (s2 : Nat → List Num) : ∃ b, noQ (mE c n0 s0 n1 s1 n2 s2) b ∧ StdX Try.prog 28 (mT (.il .u8 5)) (mE c n0 s0 n1 s1 n2 s2) (tYN 3) ⟨[[.b b]], []⟩ := by
  refine anyS ecTab (n := 400) rfl (TS.eqv_refl _ _) (holds_of_eq (m28_5 c n0 s0 n1 s1 n2 s2) ?_)
  (repeat' with_reducible (first | refine holds_inE ?_ | refine holds_inI ?_ | refine holds_inB ?_ | refine holds_must (rbE_ok _ _) ?_ | refine holds_ite (fun _ => ?_) (fun _ => ?_)))
  all_goals exact holds_leaf trivial
theorem m28_6 (c : Nat → Num) (n0 : Nat) (s0 : Nat → List Num) (n1 : Nat) (s1 : Nat → List Num) (n2 : Nat) (s2 : Nat → List Num) : callW Try.prog (codeT Try.prog ecT 400) 28 ((mT (.il .u8 6)).vals (mE c n0 s0 n1 s1 n2 s2)) ((mT (.il .u8 6)).heap (mE c n0 s0 n1 s1 n2 s2)) 3 (outV 3 (tYN 3)) =
  .ite (decide ((c 1).I < 3)) (.ite (!decide ((c 2).I < 3)) (.leaf ⟨[[.b false]], []⟩) (.ite ((c 1).I == (c 2).I) (.leaf ⟨[[.b false]], []⟩) (.ite ((c 4).I == 0 && (c 5).I == 0) (.ite ((c 6).I == 0 && (c 7).I == 0) (.ite
  (!(c 8).B) (.ite ((c 9).I == 0 && ((c 10).I == 0 && (c 11).I == 0)) (.ite ((c 12).I == 0) (.must (rbE s0 n0) (.defE ⟨[stL c 13, zL], [.lst n0 (rnE s0)]⟩ fun e0 => .ite (smE e0) (.ite ((c 62).I == 0) (.ite ((c 63).I == 0)
  (.ite ((n1 : Int) == 0) (.must (rbE s2 n2) (.defE ⟨[stL c 65, zL], [.lst n2 (rnE s2)]⟩ fun e1 => .ite (smE e1) (.ite ((c 114).I == 0 && ((c 115).I == 0 && ((c 116).I == 0 && ((c 117).I == 0 && ((c 118).I == 0 && ((c
  119).I == 0 && ((c 120).I == 0 && (c 121).S == (ByteArray.mk #[])))))))) (.ite ((c 122).I == 0) (.ite ((c 123).I == 0 && ((c 124).I == 0 && ((c 125).I == 0 && ((c 126).I == 0 && ((c 127).I == 0 && (c 128).S ==
  (ByteArray.mk #[])))))) (.ite (!((c 129).I == 0 && (c 130).S == (ByteArray.mk #[]))) (.leaf ⟨[[.b false]], []⟩) (.ite (decide ((c 3).I ≥ 2)) (.ite (decide ((c 3).I ≥ 1)) (.ite (decide ((c 3).I ≤ 60)) (.leaf ⟨[[.b (decide
  ((c 3).I ≤ 60))]], []⟩) (.leaf ⟨[[.b (decide ((c 3).I ≤ 60))]], []⟩)) (.leaf ⟨[[.b false]], []⟩)) (.ite (decide ((c 3).I ≥ 1)) (.ite (decide ((c 3).I ≤ 60)) (.leaf ⟨[[.b (decide ((c 3).I ≤ 60))]], []⟩) (.leaf ⟨[[.b
  (decide ((c 3).I ≤ 60))]], []⟩)) (.leaf ⟨[[.b false]], []⟩)))) (.leaf ⟨[[.b false]], []⟩)) (.leaf ⟨[[.b false]], []⟩)) (.leaf ⟨[[.b false]], []⟩)) (.leaf ⟨[[.b false]], []⟩))) (.leaf ⟨[[.b false]], []⟩)) (.leaf ⟨[[.b
  false]], []⟩)) (.leaf ⟨[[.b false]], []⟩)) (.leaf ⟨[[.b false]], []⟩))) (.leaf ⟨[[.b false]], []⟩)) (.leaf ⟨[[.b false]], []⟩)) (.leaf ⟨[[.b false]], []⟩)) (.leaf ⟨[[.b false]], []⟩)) (.leaf ⟨[[.b false]], []⟩)))) (.ite
  (decide ((c 1).I ≥ 10)) (.ite (decide ((c 1).I < 15)) (.ite (!decide ((c 2).I < 3)) (.leaf ⟨[[.b false]], []⟩) (.ite ((c 1).I == (c 2).I) (.leaf ⟨[[.b false]], []⟩) (.ite ((c 4).I == 0 && (c 5).I == 0) (.ite ((c 6).I ==
  0 && (c 7).I == 0) (.ite (!(c 8).B) (.ite ((c 9).I == 0 && ((c 10).I == 0 && (c 11).I == 0)) (.ite ((c 12).I == 0) (.must (rbE s0 n0) (.defE ⟨[stL c 13, zL], [.lst n0 (rnE s0)]⟩ fun e2 => .ite (smE e2) (.ite ((c 62).I ==
  0) (.ite ((c 63).I == 0) (.ite ((n1 : Int) == 0) (.must (rbE s2 n2) (.defE ⟨[stL c 65, zL], [.lst n2 (rnE s2)]⟩ fun e3 => .ite (smE e3) (.ite ((c 114).I == 0 && ((c 115).I == 0 && ((c 116).I == 0 && ((c 117).I == 0 &&
  ((c 118).I == 0 && ((c 119).I == 0 && ((c 120).I == 0 && (c 121).S == (ByteArray.mk #[])))))))) (.ite ((c 122).I == 0) (.ite ((c 123).I == 0 && ((c 124).I == 0 && ((c 125).I == 0 && ((c 126).I == 0 && ((c 127).I == 0 &&
  (c 128).S == (ByteArray.mk #[])))))) (.ite (!((c 129).I == 0 && (c 130).S == (ByteArray.mk #[]))) (.leaf ⟨[[.b false]], []⟩) (.ite (decide ((c 3).I ≥ 2)) (.ite (decide ((c 3).I ≥ 1)) (.ite (decide ((c 3).I ≤ 60)) (.leaf
  ⟨[[.b (decide ((c 3).I ≤ 60))]], []⟩) (.leaf ⟨[[.b (decide ((c 3).I ≤ 60))]], []⟩)) (.leaf ⟨[[.b false]], []⟩)) (.ite (decide ((c 3).I ≥ 1)) (.ite (decide ((c 3).I ≤ 60)) (.leaf ⟨[[.b (decide ((c 3).I ≤ 60))]], []⟩)
  (.leaf ⟨[[.b (decide ((c 3).I ≤ 60))]], []⟩)) (.leaf ⟨[[.b false]], []⟩)))) (.leaf ⟨[[.b false]], []⟩)) (.leaf ⟨[[.b false]], []⟩)) (.leaf ⟨[[.b false]], []⟩)) (.leaf ⟨[[.b false]], []⟩))) (.leaf ⟨[[.b false]], []⟩))
  (.leaf ⟨[[.b false]], []⟩)) (.leaf ⟨[[.b false]], []⟩)) (.leaf ⟨[[.b false]], []⟩))) (.leaf ⟨[[.b false]], []⟩)) (.leaf ⟨[[.b false]], []⟩)) (.leaf ⟨[[.b false]], []⟩)) (.leaf ⟨[[.b false]], []⟩)) (.leaf ⟨[[.b false]],
  []⟩)))) (.leaf ⟨[[.b false]], []⟩)) (.leaf ⟨[[.b false]], []⟩)) := by kernel_rfl
theorem k28_6 (c : Nat → Num) (n0 : Nat) (s0 : Nat → List Num) (n1 : Nat) (s1 : Nat → List Num) (n2 : Nat) (s2 : Nat → List Num) : ∃ b, noQ (mE c n0 s0 n1 s1 n2 s2) b ∧ StdX Try.prog 28 (mT (.il .u8 6)) (mE c n0 s0 n1 s1 n2 s2) (tYN 3) ⟨[[.b b]], []⟩ := by
  refine anyS ecTab (n := 400) rfl (TS.eqv_refl _ _) (holds_of_eq (m28_6 c n0 s0 n1 s1 n2 s2) ?_)
  (repeat' with_reducible (first | refine holds_inE ?_ | refine holds_inI ?_ | refine holds_inB ?_ | refine holds_must (rbE_ok _ _) ?_ | refine holds_ite (fun _ => ?_) (fun _ => ?_)))
  all_goals exact holds_leaf trivial
theorem posAFh {n : Nat} (h : decide ((n : Int) > 0) = true) : decide ((0 : Int) ≤ 0 ∧ 0 < (n : Int)) = true := decide_eq_true ⟨Int.le_refl _, of_decide_eq_true h⟩
theorem posBFh {n : Nat} (h : ((n : Int) == 0) = false) : decide ((0 : Int) ≤ 0 ∧ 0 < (n : Int)) = true := decide_eq_true ⟨Int.le_refl _, by have := beq_eq_false_iff_ne.1 h; omega⟩
theorem m28_7 (c : Nat → Num) (n0 : Nat) (s0 : Nat → List Num) (n1 : Nat) (s1 : Nat → List Num) (n2 : Nat) (s2 : Nat → List Num) : callW Try.prog (codeT Try.prog ecT 400) 28 ((mT (.il .u8 7)).vals (mE c n0 s0 n1 s1 n2 s2)) ((mT (.il .u8 7)).heap (mE c n0 s0 n1 s1 n2 s2)) 3 (outV 3 (tYN 3)) =
  .ite (decide ((c 1).I ≥ 10)) (.ite (decide ((c 1).I < 15)) (.ite (decide ((c 2).I ≥ 10)) (.ite (!decide ((c 2).I < 15)) (.leaf ⟨[[.b false]], []⟩) (.ite ((c 1).I == (c 2).I) (.leaf ⟨[[.b false]], []⟩) (.ite ((c 4).I == 0
  && (c 5).I == 0) (.ite ((c 6).I == 0 && (c 7).I == 0) (.ite (!(c 8).B) (.ite ((c 9).I == 0 && ((c 10).I == 0 && (c 11).I == 0)) (.must (rbE s0 n0) (.defE ⟨[stL c 13, zL], [.lst n0 (rnE s0)]⟩ fun e0 => .ite (smE e0) (.ite
  ((c 62).I == 0) (.ite ((c 63).I == 0) (.ite ((n1 : Int) == 0) (.must (rbE s2 n2) (.defE ⟨[stL c 65, zL], [.lst n2 (rnE s2)]⟩ fun e1 => .ite (smE e1) (.ite ((c 114).I == 0 && ((c 115).I == 0 && ((c 116).I == 0 && ((c
  117).I == 0 && ((c 118).I == 0 && ((c 119).I == 0 && ((c 120).I == 0 && (c 121).S == (ByteArray.mk #[])))))))) (.ite ((c 122).I == 0) (.ite ((c 123).I == 0 && ((c 124).I == 0 && ((c 125).I == 0 && ((c 126).I == 0 && ((c
  127).I == 0 && (c 128).S == (ByteArray.mk #[])))))) (.ite (!((c 129).I == 0 && (c 130).S == (ByteArray.mk #[]))) (.leaf ⟨[[.b false]], []⟩) (.ite (decide ((c 3).I ≥ 2)) (.ite (decide ((c 3).I ≥ 1)) (.ite (decide ((c 3).I
  ≤ 60)) (.leaf ⟨[[.b (decide ((c 12).I < 4))]], []⟩) (.leaf ⟨[[.b false]], []⟩)) (.leaf ⟨[[.b false]], []⟩)) (.ite (decide ((c 3).I ≥ 1)) (.ite (decide ((c 3).I ≤ 60)) (.leaf ⟨[[.b (decide ((c 12).I < 4))]], []⟩) (.leaf
  ⟨[[.b false]], []⟩)) (.leaf ⟨[[.b false]], []⟩)))) (.leaf ⟨[[.b false]], []⟩)) (.leaf ⟨[[.b false]], []⟩)) (.leaf ⟨[[.b false]], []⟩)) (.leaf ⟨[[.b false]], []⟩))) (.leaf ⟨[[.b false]], []⟩)) (.leaf ⟨[[.b false]], []⟩))
  (.leaf ⟨[[.b false]], []⟩)) (.leaf ⟨[[.b false]], []⟩))) (.leaf ⟨[[.b false]], []⟩)) (.leaf ⟨[[.b false]], []⟩)) (.leaf ⟨[[.b false]], []⟩)) (.leaf ⟨[[.b false]], []⟩)))) (.leaf ⟨[[.b false]], []⟩)) (.leaf ⟨[[.b false]],
  []⟩)) (.leaf ⟨[[.b false]], []⟩) := by kernel_rfl
theorem k28_7 (c : Nat → Num) (n0 : Nat) (s0 : Nat → List Num) (n1 : Nat) (s1 : Nat → List Num) (n2 : Nat) (s2 : Nat → List Num) : ∃ b, noQ (mE c n0 s0 n1 s1 n2 s2) b ∧ StdX Try.prog 28 (mT (.il .u8 7)) (mE c n0 s0 n1 s1 n2 s2) (tYN 3) ⟨[[.b b]], []⟩ := by
  refine anyS ecTab (n := 400) rfl (TS.eqv_refl _ _) (holds_of_eq (m28_7 c n0 s0 n1 s1 n2 s2) ?_)
  (repeat' with_reducible (first | refine holds_inE ?_ | refine holds_inI ?_ | refine holds_inB ?_ | refine holds_must (rbE_ok _ _) ?_ | refine holds_must (posAFh (by assumption)) ?_ | refine holds_must (posBFh (by assumption)) ?_ | refine holds_ite (fun _ => ?_) (fun _ => ?_)))
  all_goals exact holds_leaf trivial
theorem m28_8 (c : Nat → Num) (n0 : Nat) (s0 : Nat → List Num) (n1 : Nat) (s1 : Nat → List Num) (n2 : Nat) (s2 : Nat → List Num) : callW Try.prog (codeT Try.prog ecT 400) 28 ((mT (.il .u8 8)).vals (mE c n0 s0 n1 s1 n2 s2)) ((mT (.il .u8 8)).heap (mE c n0 s0 n1 s1 n2 s2)) 3 (outV 3 (tYN 3)) =
  .ite (decide ((c 1).I ≥ 10)) (.ite (decide ((c 1).I < 15)) (.ite (decide ((c 2).I ≥ 10)) (.ite (!decide ((c 2).I < 15)) (.leaf ⟨[[.b false]], []⟩) (.ite ((c 1).I == (c 2).I) (.leaf ⟨[[.b false]], []⟩) (.ite ((c 4).I == 0
  && (c 5).I == 0) (.ite ((c 6).I == 0 && (c 7).I == 0) (.ite (!(c 8).B) (.ite ((c 9).I == 0 && ((c 10).I == 0 && (c 11).I == 0)) (.defE ⟨[zL, zL], [.lst 0 fun (x : Nat) => []]⟩ fun e0 => .ite (smE e0) (.ite ((c 62).I ==
  0) (.ite ((c 63).I == 0) (.ite ((n1 : Int) == 0) (.must (rbE s2 n2) (.defE ⟨[stL c 65, zL], [.lst n2 (rnE s2)]⟩ fun e1 => .ite (smE e1) (.ite ((c 114).I == 0 && ((c 115).I == 0 && ((c 116).I == 0 && ((c 117).I == 0 &&
  ((c 118).I == 0 && ((c 119).I == 0 && ((c 120).I == 0 && (c 121).S == (ByteArray.mk #[])))))))) (.ite ((c 122).I == 0) (.ite ((c 123).I == 0 && ((c 124).I == 0 && ((c 125).I == 0 && ((c 126).I == 0 && ((c 127).I == 0 &&
  (c 128).S == (ByteArray.mk #[])))))) (.ite (!((c 129).I == 0 && (c 130).S == (ByteArray.mk #[]))) (.leaf ⟨[[.b false]], []⟩) (.ite (decide ((c 3).I ≥ 2)) (.ite (decide ((c 3).I ≥ 1)) (.ite (decide ((c 3).I ≤ 60)) (.ite
  (decide ((c 12).I < 4)) (.must (rbE s0 n0) (.defE ⟨[stL c 13], [.lst n0 (rnE s0)]⟩ fun e2 => .leaf ⟨[[.b (rfE e2)]], []⟩)) (.leaf ⟨[[.b false]], []⟩)) (.leaf ⟨[[.b false]], []⟩)) (.leaf ⟨[[.b false]], []⟩)) (.ite (decide
  ((c 3).I ≥ 1)) (.ite (decide ((c 3).I ≤ 60)) (.ite (decide ((c 12).I < 4)) (.must (rbE s0 n0) (.defE ⟨[stL c 13], [.lst n0 (rnE s0)]⟩ fun e3 => .leaf ⟨[[.b (rfE e3)]], []⟩)) (.leaf ⟨[[.b false]], []⟩)) (.leaf ⟨[[.b
  false]], []⟩)) (.leaf ⟨[[.b false]], []⟩)))) (.leaf ⟨[[.b false]], []⟩)) (.leaf ⟨[[.b false]], []⟩)) (.leaf ⟨[[.b false]], []⟩)) (.leaf ⟨[[.b false]], []⟩))) (.leaf ⟨[[.b false]], []⟩)) (.leaf ⟨[[.b false]], []⟩)) (.leaf
  ⟨[[.b false]], []⟩)) (.leaf ⟨[[.b false]], []⟩)) (.leaf ⟨[[.b false]], []⟩)) (.leaf ⟨[[.b false]], []⟩)) (.leaf ⟨[[.b false]], []⟩)) (.leaf ⟨[[.b false]], []⟩)))) (.leaf ⟨[[.b false]], []⟩)) (.leaf ⟨[[.b false]], []⟩))
  (.leaf ⟨[[.b false]], []⟩) := by kernel_rfl
theorem k28_8 (c : Nat → Num) (n0 : Nat) (s0 : Nat → List Num) (n1 : Nat) (s1 : Nat → List Num) (n2 : Nat) (s2 : Nat → List Num) : ∃ b, noQ (mE c n0 s0 n1 s1 n2 s2) b ∧ StdX Try.prog 28 (mT (.il .u8 8)) (mE c n0 s0 n1 s1 n2 s2) (tYN 3) ⟨[[.b b]], []⟩ := by
  refine anyS ecTab (n := 400) rfl (TS.eqv_refl _ _) (holds_of_eq (m28_8 c n0 s0 n1 s1 n2 s2) ?_)
  (repeat' with_reducible (first | refine holds_inE ?_ | refine holds_inI ?_ | refine holds_inB ?_ | refine holds_must (rbE_ok _ _) ?_ | refine holds_must (posAFh (by assumption)) ?_ | refine holds_must (posBFh (by assumption)) ?_ | refine holds_ite (fun _ => ?_) (fun _ => ?_)))
  all_goals exact holds_leaf trivial
theorem m28_9 (c : Nat → Num) (n0 : Nat) (s0 : Nat → List Num) (n1 : Nat) (s1 : Nat → List Num) (n2 : Nat) (s2 : Nat → List Num) : callW Try.prog (codeT Try.prog ecT 400) 28 ((mT (.il .u8 9)).vals (mE c n0 s0 n1 s1 n2 s2)) ((mT (.il .u8 9)).heap (mE c n0 s0 n1 s1 n2 s2)) 3 (outV 3 (tYN 3)) =
  .ite (decide ((c 1).I ≥ 10)) (.ite (decide ((c 1).I < 15)) (.ite (decide ((c 2).I ≥ 10)) (.ite (!decide ((c 2).I < 15)) (.leaf ⟨[[.b false]], []⟩) (.ite ((c 1).I == (c 2).I) (.leaf ⟨[[.b false]], []⟩) (.ite ((c 4).I == 0
  && (c 5).I == 0) (.ite ((c 6).I == 0 && (c 7).I == 0) (.ite (!(c 8).B) (.ite ((c 9).I == 0 && ((c 10).I == 0 && (c 11).I == 0)) (.must (rbE s0 n0) (.defE ⟨[stL c 13, zL], [.lst n0 (rnE s0)]⟩ fun e0 => .ite (smE e0)
  (.defE ⟨[zL, zL], [.lst 0 fun (x : Nat) => []]⟩ fun e1 => .ite (smE e1) (.ite ((c 114).I == 0 && ((c 115).I == 0 && ((c 116).I == 0 && ((c 117).I == 0 && ((c 118).I == 0 && ((c 119).I == 0 && ((c 120).I == 0 && (c 121).S
  == (ByteArray.mk #[])))))))) (.ite ((c 122).I == 0) (.ite ((c 123).I == 0 && ((c 124).I == 0 && ((c 125).I == 0 && ((c 126).I == 0 && ((c 127).I == 0 && (c 128).S == (ByteArray.mk #[])))))) (.ite (!((c 129).I == 0 && (c
  130).S == (ByteArray.mk #[]))) (.leaf ⟨[[.b false]], []⟩) (.ite (decide ((c 3).I ≥ 2)) (.ite (decide ((c 3).I ≥ 1)) (.ite (decide ((c 3).I ≤ 60)) (.ite (decide ((c 12).I < 4)) (.ite ((c 62).I == 2) (.ite ((c 63).I == 0)
  (.ite ((n1 : Int) == 0) (.must (rbE s2 n2) (.defE ⟨[stL c 65], [.lst n2 (rnE s2)]⟩ fun e2 => .leaf ⟨[[.b (rfE e2)]], []⟩)) (.leaf ⟨[[.b false]], []⟩)) (.leaf ⟨[[.b false]], []⟩)) (.ite (decide ((c 62).I < 0)) (.leaf
  ⟨[[.b false]], []⟩) (.ite (decide ((c 62).I > 2)) (.leaf ⟨[[.b false]], []⟩) (.must (rbE s2 n2) (.defE ⟨[[.i (c 65).I, .b false, .s (ByteArray.mk #[]), .s (ByteArray.mk #[]), .s (ByteArray.mk #[]), .s (ByteArray.mk #[]),
  .b false, .s (ByteArray.mk #[]), .s (ByteArray.mk #[]), .s (ByteArray.mk #[]), .s (ByteArray.mk #[]), .b false, .s (ByteArray.mk #[]), .s (ByteArray.mk #[]), .s (ByteArray.mk #[]), .s (ByteArray.mk #[]), .b false, .s
  (ByteArray.mk #[]), .s (ByteArray.mk #[]), .s (ByteArray.mk #[]), .s (ByteArray.mk #[]), .b false, .s (ByteArray.mk #[]), .s (ByteArray.mk #[]), .s (ByteArray.mk #[]), .s (ByteArray.mk #[]), .b false, .s (ByteArray.mk
  #[]), .s (ByteArray.mk #[]), .s (ByteArray.mk #[]), .s (ByteArray.mk #[]), .i 0, .i 0, .s (ByteArray.mk #[]), .i 0, .i 0, .s (ByteArray.mk #[]), .i 0, .i 0, .s (ByteArray.mk #[]), .i (c 105).I, .i (c 106).I, .i (c
  107).I, .i (c 108).I, .i (c 109).I, .i (c 110).I, .i (c 111).I, .s (c 112).S, .u], stL c 65], [.lst n2 (rnE s2)]⟩ fun e3 => .ite (!smE e3) (.leaf ⟨[[.b false]], []⟩) (.defE ⟨[[.i (c 65).I, .b false, .s (ByteArray.mk
  #[]), .s (ByteArray.mk #[]), .s (ByteArray.mk #[]), .s (ByteArray.mk #[]), .b false, .s (ByteArray.mk #[]), .s (ByteArray.mk #[]), .s (ByteArray.mk #[]), .s (ByteArray.mk #[]), .b false, .s (ByteArray.mk #[]), .s
  (ByteArray.mk #[]), .s (ByteArray.mk #[]), .s (ByteArray.mk #[]), .b false, .s (ByteArray.mk #[]), .s (ByteArray.mk #[]), .s (ByteArray.mk #[]), .s (ByteArray.mk #[]), .b false, .s (ByteArray.mk #[]), .s (ByteArray.mk
  #[]), .s (ByteArray.mk #[]), .s (ByteArray.mk #[]), .b false, .s (ByteArray.mk #[]), .s (ByteArray.mk #[]), .s (ByteArray.mk #[]), .s (ByteArray.mk #[]), .i 0, .i 0, .s (ByteArray.mk #[]), .i 0, .i 0, .s (ByteArray.mk
  #[]), .i 0, .i 0, .s (ByteArray.mk #[]), .i (c 105).I, .i (c 106).I, .i (c 107).I, .i (c 108).I, .i (c 109).I, .i (c 110).I, .i (c 111).I, .s (c 112).S, .u]], [.lst 0 fun (x : Nat) => []]⟩ fun e4 => .ite (!rfE e4) (.leaf
  ⟨[[.b false]], []⟩) (.ite (decide ((n1 : Int) > 6)) (.leaf ⟨[[.b false]], []⟩) (.ite ((c 62).I == 0) (.ite ((c 63).I == 0) (.leaf ⟨[[.b ((n1 : Int) == 0)]], []⟩) (.leaf ⟨[[.b false]], []⟩)) (.ite ((n1 : Int) == 0) (.leaf
  ⟨[[.b true]], []⟩) (.must (decide ((0 : Int) ≤ 0 ∧ 0 < (n1 : Int))) (.must (decide ((0 : Int) ≤ 0 ∧ 0 < (n1 : Int))) (.defI (hdN (s1 0)).I fun z5 => .defI (hdN (tlN (s1 0))).I fun z6 => .defI (hdN (tlN (tlN (s1 0)))).I
  fun z7 => .defI (hdN (tlN (tlN (tlN (s1 0))))).I fun z8 => .defI (hdN (tlN (tlN (tlN (tlN (s1 0)))))).I fun z9 => .defI (hdN (tlN (tlN (tlN (tlN (tlN (s1 0))))))).I fun z10 => .defI (hdN (tlN (tlN (tlN (tlN (tlN (tlN (s1
  0)))))))).I fun z11 => .ite (decide (z6 > 0)) (.defI (IntKind.u32.wrap (z6 - 1)) fun z12 => .must (rbE s1 n1) (.defE ⟨[[.i 0, .b false, .s (ByteArray.mk #[]), .s (ByteArray.mk #[]), .s (ByteArray.mk #[]), .s
  (ByteArray.mk #[]), .b false, .s (ByteArray.mk #[]), .s (ByteArray.mk #[]), .s (ByteArray.mk #[]), .s (ByteArray.mk #[]), .b false, .s (ByteArray.mk #[]), .s (ByteArray.mk #[]), .s (ByteArray.mk #[]), .s (ByteArray.mk
  #[]), .b false, .s (ByteArray.mk #[]), .s (ByteArray.mk #[]), .s (ByteArray.mk #[]), .s (ByteArray.mk #[]), .b false, .s (ByteArray.mk #[]), .s (ByteArray.mk #[]), .s (ByteArray.mk #[]), .s (ByteArray.mk #[]), .b false,
  .s (ByteArray.mk #[]), .s (ByteArray.mk #[]), .s (ByteArray.mk #[]), .s (ByteArray.mk #[]), .i 0, .i 0, .s (ByteArray.mk #[]), .i 0, .i 0, .s (ByteArray.mk #[]), .i 0, .i 0, .s (ByteArray.mk #[]), .i 0, .i z12, .i 0, .i
  0, .i 0, .i 0, .i 0, .s (ByteArray.mk #[]), .u]], [.lst n1 (rnE s1)]⟩ fun e13 => .leaf ⟨[[.b (rfE e13)]], []⟩)) (.leaf ⟨[[.b false]], []⟩))))))))))))) (.leaf ⟨[[.b false]], []⟩)) (.leaf ⟨[[.b false]], []⟩)) (.leaf ⟨[[.b
  false]], []⟩)) (.ite (decide ((c 3).I ≥ 1)) (.ite (decide ((c 3).I ≤ 60)) (.ite (decide ((c 12).I < 4)) (.ite ((c 62).I == 2) (.ite ((c 63).I == 0) (.ite ((n1 : Int) == 0) (.must (rbE s2 n2) (.defE ⟨[stL c 65], [.lst n2
  (rnE s2)]⟩ fun e14 => .leaf ⟨[[.b (rfE e14)]], []⟩)) (.leaf ⟨[[.b false]], []⟩)) (.leaf ⟨[[.b false]], []⟩)) (.ite (decide ((c 62).I < 0)) (.leaf ⟨[[.b false]], []⟩) (.ite (decide ((c 62).I > 2)) (.leaf ⟨[[.b false]],
  []⟩) (.must (rbE s2 n2) (.defE ⟨[[.i (c 65).I, .b false, .s (ByteArray.mk #[]), .s (ByteArray.mk #[]), .s (ByteArray.mk #[]), .s (ByteArray.mk #[]), .b false, .s (ByteArray.mk #[]), .s (ByteArray.mk #[]), .s
  (ByteArray.mk #[]), .s (ByteArray.mk #[]), .b false, .s (ByteArray.mk #[]), .s (ByteArray.mk #[]), .s (ByteArray.mk #[]), .s (ByteArray.mk #[]), .b false, .s (ByteArray.mk #[]), .s (ByteArray.mk #[]), .s (ByteArray.mk
  #[]), .s (ByteArray.mk #[]), .b false, .s (ByteArray.mk #[]), .s (ByteArray.mk #[]), .s (ByteArray.mk #[]), .s (ByteArray.mk #[]), .b false, .s (ByteArray.mk #[]), .s (ByteArray.mk #[]), .s (ByteArray.mk #[]), .s
  (ByteArray.mk #[]), .i 0, .i 0, .s (ByteArray.mk #[]), .i 0, .i 0, .s (ByteArray.mk #[]), .i 0, .i 0, .s (ByteArray.mk #[]), .i (c 105).I, .i (c 106).I, .i (c 107).I, .i (c 108).I, .i (c 109).I, .i (c 110).I, .i (c
  111).I, .s (c 112).S, .u], stL c 65], [.lst n2 (rnE s2)]⟩ fun e15 => .ite (!smE e15) (.leaf ⟨[[.b false]], []⟩) (.defE ⟨[[.i (c 65).I, .b false, .s (ByteArray.mk #[]), .s (ByteArray.mk #[]), .s (ByteArray.mk #[]), .s
  (ByteArray.mk #[]), .b false, .s (ByteArray.mk #[]), .s (ByteArray.mk #[]), .s (ByteArray.mk #[]), .s (ByteArray.mk #[]), .b false, .s (ByteArray.mk #[]), .s (ByteArray.mk #[]), .s (ByteArray.mk #[]), .s (ByteArray.mk
  #[]), .b false, .s (ByteArray.mk #[]), .s (ByteArray.mk #[]), .s (ByteArray.mk #[]), .s (ByteArray.mk #[]), .b false, .s (ByteArray.mk #[]), .s (ByteArray.mk #[]), .s (ByteArray.mk #[]), .s (ByteArray.mk #[]), .b false,
  .s (ByteArray.mk #[]), .s (ByteArray.mk #[]), .s (ByteArray.mk #[]), .s (ByteArray.mk #[]), .i 0, .i 0, .s (ByteArray.mk #[]), .i 0, .i 0, .s (ByteArray.mk #[]), .i 0, .i 0, .s (ByteArray.mk #[]), .i (c 105).I, .i (c
  106).I, .i (c 107).I, .i (c 108).I, .i (c 109).I, .i (c 110).I, .i (c 111).I, .s (c 112).S, .u]], [.lst 0 fun (x : Nat) => []]⟩ fun e16 => .ite (!rfE e16) (.leaf ⟨[[.b false]], []⟩) (.ite (decide ((n1 : Int) > 6)) (.leaf
  ⟨[[.b false]], []⟩) (.ite ((c 62).I == 0) (.ite ((c 63).I == 0) (.leaf ⟨[[.b ((n1 : Int) == 0)]], []⟩) (.leaf ⟨[[.b false]], []⟩)) (.ite ((n1 : Int) == 0) (.leaf ⟨[[.b true]], []⟩) (.must (decide ((0 : Int) ≤ 0 ∧ 0 < (n1
  : Int))) (.must (decide ((0 : Int) ≤ 0 ∧ 0 < (n1 : Int))) (.defI (hdN (s1 0)).I fun z17 => .defI (hdN (tlN (s1 0))).I fun z18 => .defI (hdN (tlN (tlN (s1 0)))).I fun z19 => .defI (hdN (tlN (tlN (tlN (s1 0))))).I fun z20
  => .defI (hdN (tlN (tlN (tlN (tlN (s1 0)))))).I fun z21 => .defI (hdN (tlN (tlN (tlN (tlN (tlN (s1 0))))))).I fun z22 => .defI (hdN (tlN (tlN (tlN (tlN (tlN (tlN (s1 0)))))))).I fun z23 => .ite (decide (z18 > 0)) (.defI
  (IntKind.u32.wrap (z18 - 1)) fun z24 => .must (rbE s1 n1) (.defE ⟨[[.i 0, .b false, .s (ByteArray.mk #[]), .s (ByteArray.mk #[]), .s (ByteArray.mk #[]), .s (ByteArray.mk #[]), .b false, .s (ByteArray.mk #[]), .s
  (ByteArray.mk #[]), .s (ByteArray.mk #[]), .s (ByteArray.mk #[]), .b false, .s (ByteArray.mk #[]), .s (ByteArray.mk #[]), .s (ByteArray.mk #[]), .s (ByteArray.mk #[]), .b false, .s (ByteArray.mk #[]), .s (ByteArray.mk
  #[]), .s (ByteArray.mk #[]), .s (ByteArray.mk #[]), .b false, .s (ByteArray.mk #[]), .s (ByteArray.mk #[]), .s (ByteArray.mk #[]), .s (ByteArray.mk #[]), .b false, .s (ByteArray.mk #[]), .s (ByteArray.mk #[]), .s
  (ByteArray.mk #[]), .s (ByteArray.mk #[]), .i 0, .i 0, .s (ByteArray.mk #[]), .i 0, .i 0, .s (ByteArray.mk #[]), .i 0, .i 0, .s (ByteArray.mk #[]), .i 0, .i z24, .i 0, .i 0, .i 0, .i 0, .i 0, .s (ByteArray.mk #[]), .u]],
  [.lst n1 (rnE s1)]⟩ fun e25 => .leaf ⟨[[.b (rfE e25)]], []⟩)) (.leaf ⟨[[.b false]], []⟩))))))))))))) (.leaf ⟨[[.b false]], []⟩)) (.leaf ⟨[[.b false]], []⟩)) (.leaf ⟨[[.b false]], []⟩)))) (.leaf ⟨[[.b false]], []⟩))
  (.leaf ⟨[[.b false]], []⟩)) (.leaf ⟨[[.b false]], []⟩)) (.leaf ⟨[[.b false]], []⟩)) (.leaf ⟨[[.b false]], []⟩))) (.leaf ⟨[[.b false]], []⟩)) (.leaf ⟨[[.b false]], []⟩)) (.leaf ⟨[[.b false]], []⟩)) (.leaf ⟨[[.b false]],
  []⟩)))) (.leaf ⟨[[.b false]], []⟩)) (.leaf ⟨[[.b false]], []⟩)) (.leaf ⟨[[.b false]], []⟩) := by kernel_rfl
theorem k28_9 (c : Nat → Num) (n0 : Nat) (s0 : Nat → List Num) (n1 : Nat) (s1 : Nat → List Num) (n2 : Nat) (s2 : Nat → List Num) : ∃ b, noQ (mE c n0 s0 n1 s1 n2 s2) b ∧ StdX Try.prog 28 (mT (.il .u8 9)) (mE c n0 s0 n1 s1 n2 s2) (tYN 3) ⟨[[.b b]], []⟩ := by
  refine anyS ecTab (n := 400) rfl (TS.eqv_refl _ _) (holds_of_eq (m28_9 c n0 s0 n1 s1 n2 s2) ?_)
  (repeat' with_reducible (first | refine holds_inE ?_ | refine holds_inI ?_ | refine holds_inB ?_ | refine holds_must (rbE_ok _ _) ?_ | refine holds_must (posAFh (by assumption)) ?_ | refine holds_must (posBFh (by assumption)) ?_ | refine holds_ite (fun _ => ?_) (fun _ => ?_)))
  all_goals exact holds_leaf trivial
theorem m28_10 (c : Nat → Num) (n0 : Nat) (s0 : Nat → List Num) (n1 : Nat) (s1 : Nat → List Num) (n2 : Nat) (s2 : Nat → List Num) : callW Try.prog (codeT Try.prog ecT 400) 28 ((mT (.il .u8 10)).vals (mE c n0 s0 n1 s1 n2 s2)) ((mT (.il .u8 10)).heap (mE c n0 s0 n1 s1 n2 s2)) 3 (outV 3 (tYN 3)) =
  .ite (decide ((c 1).I ≥ 10)) (.ite (decide ((c 1).I < 15)) (.ite (decide ((c 2).I ≥ 10)) (.ite (!decide ((c 2).I < 15)) (.leaf ⟨[[.b false]], []⟩) (.ite ((c 1).I == (c 2).I) (.leaf ⟨[[.b false]], []⟩) (.ite ((c 4).I == 0
  && (c 5).I == 0) (.ite ((c 6).I == 0 && (c 7).I == 0) (.ite (!(c 8).B) (.ite ((c 9).I == 0 && ((c 10).I == 0 && (c 11).I == 0)) (.must (rbE s0 n0) (.defE ⟨[stL c 13, zL], [.lst n0 (rnE s0)]⟩ fun e0 => .ite (smE e0) (.ite
  ((c 62).I == 0) (.ite ((c 63).I == 0) (.ite ((n1 : Int) == 0) (.must (rbE s2 n2) (.defE ⟨[stL c 65, zL], [.lst n2 (rnE s2)]⟩ fun e1 => .ite (smE e1) (.ite ((c 114).I == 0 && ((c 115).I == 0 && ((c 116).I == 0 && ((c
  117).I == 0 && ((c 118).I == 0 && ((c 119).I == 0 && ((c 120).I == 0 && (c 121).S == (ByteArray.mk #[])))))))) (.ite ((c 123).I == 0 && ((c 124).I == 0 && ((c 125).I == 0 && ((c 126).I == 0 && ((c 127).I == 0 && (c
  128).S == (ByteArray.mk #[])))))) (.ite (!((c 129).I == 0 && (c 130).S == (ByteArray.mk #[]))) (.leaf ⟨[[.b false]], []⟩) (.ite (decide ((c 3).I ≥ 2)) (.ite (decide ((c 3).I ≥ 1)) (.ite (decide ((c 3).I ≤ 60)) (.leaf
  ⟨[[.b (decide ((c 12).I < 4))]], []⟩) (.leaf ⟨[[.b false]], []⟩)) (.leaf ⟨[[.b false]], []⟩)) (.ite (decide ((c 3).I ≥ 1)) (.ite (decide ((c 3).I ≤ 60)) (.leaf ⟨[[.b (decide ((c 12).I < 4))]], []⟩) (.leaf ⟨[[.b false]],
  []⟩)) (.leaf ⟨[[.b false]], []⟩)))) (.leaf ⟨[[.b false]], []⟩)) (.leaf ⟨[[.b false]], []⟩)) (.leaf ⟨[[.b false]], []⟩))) (.leaf ⟨[[.b false]], []⟩)) (.leaf ⟨[[.b false]], []⟩)) (.leaf ⟨[[.b false]], []⟩)) (.leaf ⟨[[.b
  false]], []⟩))) (.leaf ⟨[[.b false]], []⟩)) (.leaf ⟨[[.b false]], []⟩)) (.leaf ⟨[[.b false]], []⟩)) (.leaf ⟨[[.b false]], []⟩)))) (.leaf ⟨[[.b false]], []⟩)) (.leaf ⟨[[.b false]], []⟩)) (.leaf ⟨[[.b false]], []⟩) := by kernel_rfl
theorem k28_10 (c : Nat → Num) (n0 : Nat) (s0 : Nat → List Num) (n1 : Nat) (s1 : Nat → List Num) (n2 : Nat) (s2 : Nat → List Num) : ∃ b, noQ (mE c n0 s0 n1 s1 n2 s2) b ∧ StdX Try.prog 28 (mT (.il .u8 10)) (mE c n0 s0 n1 s1 n2 s2) (tYN 3) ⟨[[.b b]], []⟩ := by
  refine anyS ecTab (n := 400) rfl (TS.eqv_refl _ _) (holds_of_eq (m28_10 c n0 s0 n1 s1 n2 s2) ?_)
  (repeat' with_reducible (first | refine holds_inE ?_ | refine holds_inI ?_ | refine holds_inB ?_ | refine holds_must (rbE_ok _ _) ?_ | refine holds_must (posAFh (by assumption)) ?_ | refine holds_must (posBFh (by assumption)) ?_ | refine holds_ite (fun _ => ?_) (fun _ => ?_)))
  all_goals exact holds_leaf trivial
theorem m28_11 (c : Nat → Num) (n0 : Nat) (s0 : Nat → List Num) (n1 : Nat) (s1 : Nat → List Num) (n2 : Nat) (s2 : Nat → List Num) : callW Try.prog (codeT Try.prog ecT 400) 28 ((mT (.il .u8 11)).vals (mE c n0 s0 n1 s1 n2 s2)) ((mT (.il .u8 11)).heap (mE c n0 s0 n1 s1 n2 s2)) 3 (outV 3 (tYN 3)) =
  .ite (decide ((c 1).I ≥ 10)) (.ite (decide ((c 1).I < 15)) (.ite (decide ((c 2).I ≥ 10)) (.ite (!decide ((c 2).I < 15)) (.leaf ⟨[[.b false]], []⟩) (.ite ((c 1).I == (c 2).I) (.leaf ⟨[[.b false]], []⟩) (.ite ((c 4).I == 0
  && (c 5).I == 0) (.ite ((c 6).I == 0 && (c 7).I == 0) (.ite (!(c 8).B) (.ite ((c 9).I == 0 && ((c 10).I == 0 && (c 11).I == 0)) (.must (rbE s0 n0) (.defE ⟨[stL c 13, zL], [.lst n0 (rnE s0)]⟩ fun e0 => .ite (smE e0) (.ite
  ((c 62).I == 0) (.ite ((c 63).I == 0) (.ite ((n1 : Int) == 0) (.must (rbE s2 n2) (.defE ⟨[stL c 65, zL], [.lst n2 (rnE s2)]⟩ fun e1 => .ite (smE e1) (.ite ((c 122).I == 0) (.ite ((c 123).I == 0 && ((c 124).I == 0 && ((c
  125).I == 0 && ((c 126).I == 0 && ((c 127).I == 0 && (c 128).S == (ByteArray.mk #[])))))) (.ite (!((c 129).I == 0 && (c 130).S == (ByteArray.mk #[]))) (.leaf ⟨[[.b false]], []⟩) (.ite (decide ((c 3).I ≥ 2)) (.ite (decide
  ((c 3).I ≥ 1)) (.ite (decide ((c 3).I ≤ 60)) (.ite (decide ((c 12).I < 4)) (.defE ⟨[[.i (c 116).I, .i (c 117).I, .i (c 118).I, .i (c 119).I, .i (c 120).I, .s (c 121).S]], []⟩ fun e2 => .ite (q48 e2) (.ite (decide ((c
  115).I > 0)) (.ite (decide ((c 114).I ≥ 1)) (.leaf ⟨[[.b (decide ((c 114).I ≤ 60))]], []⟩) (.leaf ⟨[[.b false]], []⟩)) (.leaf ⟨[[.b false]], []⟩)) (.leaf ⟨[[.b false]], []⟩)) (.leaf ⟨[[.b false]], []⟩)) (.leaf ⟨[[.b
  false]], []⟩)) (.leaf ⟨[[.b false]], []⟩)) (.ite (decide ((c 3).I ≥ 1)) (.ite (decide ((c 3).I ≤ 60)) (.ite (decide ((c 12).I < 4)) (.defE ⟨[[.i (c 116).I, .i (c 117).I, .i (c 118).I, .i (c 119).I, .i (c 120).I, .s (c
  121).S]], []⟩ fun e3 => .ite (q48 e3) (.ite (decide ((c 115).I > 0)) (.ite (decide ((c 114).I ≥ 1)) (.leaf ⟨[[.b (decide ((c 114).I ≤ 60))]], []⟩) (.leaf ⟨[[.b false]], []⟩)) (.leaf ⟨[[.b false]], []⟩)) (.leaf ⟨[[.b
  false]], []⟩)) (.leaf ⟨[[.b false]], []⟩)) (.leaf ⟨[[.b false]], []⟩)) (.leaf ⟨[[.b false]], []⟩)))) (.leaf ⟨[[.b false]], []⟩)) (.leaf ⟨[[.b false]], []⟩)) (.leaf ⟨[[.b false]], []⟩))) (.leaf ⟨[[.b false]], []⟩)) (.leaf
  ⟨[[.b false]], []⟩)) (.leaf ⟨[[.b false]], []⟩)) (.leaf ⟨[[.b false]], []⟩))) (.leaf ⟨[[.b false]], []⟩)) (.leaf ⟨[[.b false]], []⟩)) (.leaf ⟨[[.b false]], []⟩)) (.leaf ⟨[[.b false]], []⟩)))) (.leaf ⟨[[.b false]], []⟩))
  (.leaf ⟨[[.b false]], []⟩)) (.leaf ⟨[[.b false]], []⟩) := by kernel_rfl
theorem k28_11 (c : Nat → Num) (n0 : Nat) (s0 : Nat → List Num) (n1 : Nat) (s1 : Nat → List Num) (n2 : Nat) (s2 : Nat → List Num) : ∃ b, noQ (mE c n0 s0 n1 s1 n2 s2) b ∧ StdX Try.prog 28 (mT (.il .u8 11)) (mE c n0 s0 n1 s1 n2 s2) (tYN 3) ⟨[[.b b]], []⟩ := by
  refine anyS ecTab (n := 400) rfl (TS.eqv_refl _ _) (holds_of_eq (m28_11 c n0 s0 n1 s1 n2 s2) ?_)
  (repeat' with_reducible (first | refine holds_inE ?_ | refine holds_inI ?_ | refine holds_inB ?_ | refine holds_must (rbE_ok _ _) ?_ | refine holds_must (posAFh (by assumption)) ?_ | refine holds_must (posBFh (by assumption)) ?_ | refine holds_ite (fun _ => ?_) (fun _ => ?_)))
  all_goals exact holds_leaf trivial
theorem m28_12 (c : Nat → Num) (n0 : Nat) (s0 : Nat → List Num) (n1 : Nat) (s1 : Nat → List Num) (n2 : Nat) (s2 : Nat → List Num) : callW Try.prog (codeT Try.prog ecT 400) 28 ((mT (.il .u8 12)).vals (mE c n0 s0 n1 s1 n2 s2)) ((mT (.il .u8 12)).heap (mE c n0 s0 n1 s1 n2 s2)) 3 (outV 3 (tYN 3)) =
  .ite (decide ((c 1).I ≥ 10)) (.ite (decide ((c 1).I < 15)) (.ite (decide ((c 2).I ≥ 10)) (.ite (!decide ((c 2).I < 15)) (.leaf ⟨[[.b false]], []⟩) (.ite ((c 1).I == (c 2).I) (.leaf ⟨[[.b false]], []⟩) (.ite ((c 4).I == 0
  && (c 5).I == 0) (.ite ((c 6).I == 0 && (c 7).I == 0) (.ite (!(c 8).B) (.ite ((c 9).I == 0 && ((c 10).I == 0 && (c 11).I == 0)) (.must (rbE s0 n0) (.defE ⟨[stL c 13, zL], [.lst n0 (rnE s0)]⟩ fun e0 => .ite (smE e0) (.ite
  ((c 62).I == 0) (.ite ((c 63).I == 0) (.ite ((n1 : Int) == 0) (.must (rbE s2 n2) (.defE ⟨[stL c 65, zL], [.lst n2 (rnE s2)]⟩ fun e1 => .ite (smE e1) (.ite ((c 114).I == 0 && ((c 115).I == 0 && ((c 116).I == 0 && ((c
  117).I == 0 && ((c 118).I == 0 && ((c 119).I == 0 && ((c 120).I == 0 && (c 121).S == (ByteArray.mk #[])))))))) (.ite ((c 123).I == 0 && ((c 124).I == 0 && ((c 125).I == 0 && ((c 126).I == 0 && ((c 127).I == 0 && (c
  128).S == (ByteArray.mk #[])))))) (.ite (!((c 129).I == 0 && (c 130).S == (ByteArray.mk #[]))) (.leaf ⟨[[.b false]], []⟩) (.ite (decide ((c 3).I ≥ 2)) (.ite (decide ((c 3).I ≥ 1)) (.ite (decide ((c 3).I ≤ 60)) (.leaf
  ⟨[[.b (decide ((c 12).I < 4))]], []⟩) (.leaf ⟨[[.b false]], []⟩)) (.leaf ⟨[[.b false]], []⟩)) (.ite (decide ((c 3).I ≥ 1)) (.ite (decide ((c 3).I ≤ 60)) (.leaf ⟨[[.b (decide ((c 12).I < 4))]], []⟩) (.leaf ⟨[[.b false]],
  []⟩)) (.leaf ⟨[[.b false]], []⟩)))) (.leaf ⟨[[.b false]], []⟩)) (.leaf ⟨[[.b false]], []⟩)) (.leaf ⟨[[.b false]], []⟩))) (.leaf ⟨[[.b false]], []⟩)) (.leaf ⟨[[.b false]], []⟩)) (.leaf ⟨[[.b false]], []⟩)) (.leaf ⟨[[.b
  false]], []⟩))) (.leaf ⟨[[.b false]], []⟩)) (.leaf ⟨[[.b false]], []⟩)) (.leaf ⟨[[.b false]], []⟩)) (.leaf ⟨[[.b false]], []⟩)))) (.leaf ⟨[[.b false]], []⟩)) (.leaf ⟨[[.b false]], []⟩)) (.leaf ⟨[[.b false]], []⟩) := by kernel_rfl
theorem k28_12 (c : Nat → Num) (n0 : Nat) (s0 : Nat → List Num) (n1 : Nat) (s1 : Nat → List Num) (n2 : Nat) (s2 : Nat → List Num) : ∃ b, noQ (mE c n0 s0 n1 s1 n2 s2) b ∧ StdX Try.prog 28 (mT (.il .u8 12)) (mE c n0 s0 n1 s1 n2 s2) (tYN 3) ⟨[[.b b]], []⟩ := by
  refine anyS ecTab (n := 400) rfl (TS.eqv_refl _ _) (holds_of_eq (m28_12 c n0 s0 n1 s1 n2 s2) ?_)
  (repeat' with_reducible (first | refine holds_inE ?_ | refine holds_inI ?_ | refine holds_inB ?_ | refine holds_must (rbE_ok _ _) ?_ | refine holds_must (posAFh (by assumption)) ?_ | refine holds_must (posBFh (by assumption)) ?_ | refine holds_ite (fun _ => ?_) (fun _ => ?_)))
  all_goals exact holds_leaf trivial
theorem m28_13 (c : Nat → Num) (n0 : Nat) (s0 : Nat → List Num) (n1 : Nat) (s1 : Nat → List Num) (n2 : Nat) (s2 : Nat → List Num) : callW Try.prog (codeT Try.prog ecT 400) 28 ((mT (.il .u8 13)).vals (mE c n0 s0 n1 s1 n2 s2)) ((mT (.il .u8 13)).heap (mE c n0 s0 n1 s1 n2 s2)) 3 (outV 3 (tYN 3)) =
  .ite (decide ((c 1).I ≥ 10)) (.ite (decide ((c 1).I < 15)) (.ite (decide ((c 2).I ≥ 10)) (.ite (!decide ((c 2).I < 15)) (.leaf ⟨[[.b false]], []⟩) (.ite ((c 1).I == (c 2).I) (.leaf ⟨[[.b false]], []⟩) (.ite ((c 4).I == 0
  && (c 5).I == 0) (.ite ((c 6).I == 0 && (c 7).I == 0) (.ite (!(c 8).B) (.ite ((c 9).I == 0 && ((c 10).I == 0 && (c 11).I == 0)) (.must (rbE s0 n0) (.defE ⟨[stL c 13, zL], [.lst n0 (rnE s0)]⟩ fun e0 => .ite (smE e0) (.ite
  ((c 62).I == 0) (.ite ((c 63).I == 0) (.ite ((n1 : Int) == 0) (.must (rbE s2 n2) (.defE ⟨[stL c 65, zL], [.lst n2 (rnE s2)]⟩ fun e1 => .ite (smE e1) (.ite ((c 114).I == 0 && ((c 115).I == 0 && ((c 116).I == 0 && ((c
  117).I == 0 && ((c 118).I == 0 && ((c 119).I == 0 && ((c 120).I == 0 && (c 121).S == (ByteArray.mk #[])))))))) (.ite ((c 122).I == 0) (.ite (!((c 129).I == 0 && (c 130).S == (ByteArray.mk #[]))) (.leaf ⟨[[.b false]],
  []⟩) (.ite (decide ((c 3).I ≥ 2)) (.ite (decide ((c 3).I ≥ 1)) (.ite (decide ((c 3).I ≤ 60)) (.ite (decide ((c 12).I < 4)) (.ite (isOpR (opE ⟨[[.i (c 123).I, .i (c 124).I, .i (c 125).I, .i (c 126).I, .i (c 127).I, .s (c
  128).S]], []⟩ 0 0)) (.leaf ⟨[[.b ((c 125).I == 5)]], []⟩) (.leaf ⟨[[.b false]], []⟩)) (.leaf ⟨[[.b false]], []⟩)) (.leaf ⟨[[.b false]], []⟩)) (.leaf ⟨[[.b false]], []⟩)) (.ite (decide ((c 3).I ≥ 1)) (.ite (decide ((c
  3).I ≤ 60)) (.ite (decide ((c 12).I < 4)) (.ite (isOpR (opE ⟨[[.i (c 123).I, .i (c 124).I, .i (c 125).I, .i (c 126).I, .i (c 127).I, .s (c 128).S]], []⟩ 0 0)) (.leaf ⟨[[.b ((c 125).I == 5)]], []⟩) (.leaf ⟨[[.b false]],
  []⟩)) (.leaf ⟨[[.b false]], []⟩)) (.leaf ⟨[[.b false]], []⟩)) (.leaf ⟨[[.b false]], []⟩)))) (.leaf ⟨[[.b false]], []⟩)) (.leaf ⟨[[.b false]], []⟩)) (.leaf ⟨[[.b false]], []⟩))) (.leaf ⟨[[.b false]], []⟩)) (.leaf ⟨[[.b
  false]], []⟩)) (.leaf ⟨[[.b false]], []⟩)) (.leaf ⟨[[.b false]], []⟩))) (.leaf ⟨[[.b false]], []⟩)) (.leaf ⟨[[.b false]], []⟩)) (.leaf ⟨[[.b false]], []⟩)) (.leaf ⟨[[.b false]], []⟩)))) (.leaf ⟨[[.b false]], []⟩)) (.leaf
  ⟨[[.b false]], []⟩)) (.leaf ⟨[[.b false]], []⟩) := by kernel_rfl
theorem k28_13 (c : Nat → Num) (n0 : Nat) (s0 : Nat → List Num) (n1 : Nat) (s1 : Nat → List Num) (n2 : Nat) (s2 : Nat → List Num) : ∃ b, noQ (mE c n0 s0 n1 s1 n2 s2) b ∧ StdX Try.prog 28 (mT (.il .u8 13)) (mE c n0 s0 n1 s1 n2 s2) (tYN 3) ⟨[[.b b]], []⟩ := by
  refine anyS ecTab (n := 400) rfl (TS.eqv_refl _ _) (holds_of_eq (m28_13 c n0 s0 n1 s1 n2 s2) ?_)
  (repeat' with_reducible (first | refine holds_inE ?_ | refine holds_inI ?_ | refine holds_inB ?_ | refine holds_must (rbE_ok _ _) ?_ | refine holds_ite (fun _ => ?_) (fun _ => ?_)))
  all_goals exact holds_leaf trivial
theorem m28_14 (c : Nat → Num) (n0 : Nat) (s0 : Nat → List Num) (n1 : Nat) (s1 : Nat → List Num) (n2 : Nat) (s2 : Nat → List Num) : callW Try.prog (codeT Try.prog ecT 400) 28 ((mT (.il .u8 14)).vals (mE c n0 s0 n1 s1 n2 s2)) ((mT (.il .u8 14)).heap (mE c n0 s0 n1 s1 n2 s2)) 3 (outV 3 (tYN 3)) =
  .ite (decide ((c 1).I ≥ 10)) (.ite (decide ((c 1).I < 15)) (.ite (decide ((c 2).I ≥ 10)) (.ite (!decide ((c 2).I < 15)) (.leaf ⟨[[.b false]], []⟩) (.ite ((c 1).I == (c 2).I) (.leaf ⟨[[.b false]], []⟩) (.ite ((c 4).I == 0
  && (c 5).I == 0) (.ite ((c 6).I == 0 && (c 7).I == 0) (.ite (!(c 8).B) (.ite ((c 9).I == 0 && ((c 10).I == 0 && (c 11).I == 0)) (.must (rbE s0 n0) (.defE ⟨[stL c 13, zL], [.lst n0 (rnE s0)]⟩ fun e0 => .ite (smE e0) (.ite
  ((c 62).I == 0) (.ite ((c 63).I == 0) (.ite ((n1 : Int) == 0) (.must (rbE s2 n2) (.defE ⟨[stL c 65, zL], [.lst n2 (rnE s2)]⟩ fun e1 => .ite (smE e1) (.ite ((c 114).I == 0 && ((c 115).I == 0 && ((c 116).I == 0 && ((c
  117).I == 0 && ((c 118).I == 0 && ((c 119).I == 0 && ((c 120).I == 0 && (c 121).S == (ByteArray.mk #[])))))))) (.ite ((c 122).I == 0) (.ite (!((c 129).I == 0 && (c 130).S == (ByteArray.mk #[]))) (.leaf ⟨[[.b false]],
  []⟩) (.ite (decide ((c 3).I ≥ 2)) (.ite (decide ((c 3).I ≥ 1)) (.ite (decide ((c 3).I ≤ 60)) (.ite (decide ((c 12).I < 4)) (.ite (isOpR (opE ⟨[[.i (c 123).I, .i (c 124).I, .i (c 125).I, .i (c 126).I, .i (c 127).I, .s (c
  128).S]], []⟩ 0 0)) (.leaf ⟨[[.b ((c 125).I == 5)]], []⟩) (.leaf ⟨[[.b false]], []⟩)) (.leaf ⟨[[.b false]], []⟩)) (.leaf ⟨[[.b false]], []⟩)) (.leaf ⟨[[.b false]], []⟩)) (.ite (decide ((c 3).I ≥ 1)) (.ite (decide ((c
  3).I ≤ 60)) (.ite (decide ((c 12).I < 4)) (.ite (isOpR (opE ⟨[[.i (c 123).I, .i (c 124).I, .i (c 125).I, .i (c 126).I, .i (c 127).I, .s (c 128).S]], []⟩ 0 0)) (.leaf ⟨[[.b ((c 125).I == 5)]], []⟩) (.leaf ⟨[[.b false]],
  []⟩)) (.leaf ⟨[[.b false]], []⟩)) (.leaf ⟨[[.b false]], []⟩)) (.leaf ⟨[[.b false]], []⟩)))) (.leaf ⟨[[.b false]], []⟩)) (.leaf ⟨[[.b false]], []⟩)) (.leaf ⟨[[.b false]], []⟩))) (.leaf ⟨[[.b false]], []⟩)) (.leaf ⟨[[.b
  false]], []⟩)) (.leaf ⟨[[.b false]], []⟩)) (.leaf ⟨[[.b false]], []⟩))) (.leaf ⟨[[.b false]], []⟩)) (.leaf ⟨[[.b false]], []⟩)) (.leaf ⟨[[.b false]], []⟩)) (.leaf ⟨[[.b false]], []⟩)))) (.leaf ⟨[[.b false]], []⟩)) (.leaf
  ⟨[[.b false]], []⟩)) (.leaf ⟨[[.b false]], []⟩) := by kernel_rfl
theorem k28_14 (c : Nat → Num) (n0 : Nat) (s0 : Nat → List Num) (n1 : Nat) (s1 : Nat → List Num) (n2 : Nat) (s2 : Nat → List Num) : ∃ b, noQ (mE c n0 s0 n1 s1 n2 s2) b ∧ StdX Try.prog 28 (mT (.il .u8 14)) (mE c n0 s0 n1 s1 n2 s2) (tYN 3) ⟨[[.b b]], []⟩ := by
  refine anyS ecTab (n := 400) rfl (TS.eqv_refl _ _) (holds_of_eq (m28_14 c n0 s0 n1 s1 n2 s2) ?_)
  (repeat' with_reducible (first | refine holds_inE ?_ | refine holds_inI ?_ | refine holds_inB ?_ | refine holds_must (rbE_ok _ _) ?_ | refine holds_ite (fun _ => ?_) (fun _ => ?_)))
  all_goals exact holds_leaf trivial
theorem m28_15 (c : Nat → Num) (n0 : Nat) (s0 : Nat → List Num) (n1 : Nat) (s1 : Nat → List Num) (n2 : Nat) (s2 : Nat → List Num) : callW Try.prog (codeT Try.prog ecT 400) 28 ((mT (.il .u8 15)).vals (mE c n0 s0 n1 s1 n2 s2)) ((mT (.il .u8 15)).heap (mE c n0 s0 n1 s1 n2 s2)) 3 (outV 3 (tYN 3)) =
  .ite (decide ((c 1).I ≥ 21)) (.ite (decide ((c 1).I < 24)) (.ite (decide ((c 2).I ≥ 10)) (.ite (!decide ((c 2).I < 15)) (.leaf ⟨[[.b false]], []⟩) (.ite ((c 1).I == (c 2).I) (.leaf ⟨[[.b false]], []⟩) (.ite ((c 3).I ==
  0) (.ite ((c 4).I == 0 && (c 5).I == 0) (.ite ((c 6).I == 0 && (c 7).I == 0) (.ite (!(c 8).B) (.ite ((c 9).I == 0 && ((c 10).I == 0 && (c 11).I == 0)) (.ite ((c 12).I == 0) (.must (rbE s0 n0) (.defE ⟨[stL c 13, zL],
  [.lst n0 (rnE s0)]⟩ fun e0 => .ite (smE e0) (.ite ((c 62).I == 0) (.ite ((c 63).I == 0) (.ite ((n1 : Int) == 0) (.must (rbE s2 n2) (.defE ⟨[stL c 65, zL], [.lst n2 (rnE s2)]⟩ fun e1 => .ite (smE e1) (.ite ((c 114).I == 0
  && ((c 115).I == 0 && ((c 116).I == 0 && ((c 117).I == 0 && ((c 118).I == 0 && ((c 119).I == 0 && ((c 120).I == 0 && (c 121).S == (ByteArray.mk #[])))))))) (.ite ((c 122).I == 0) (.ite (!((c 129).I == 0 && (c 130).S ==
  (ByteArray.mk #[]))) (.leaf ⟨[[.b false]], []⟩) (.ite (decide ((c 3).I ≥ 2)) (.ite (decide ((c 3).I ≥ 1)) (.ite (decide ((c 3).I ≤ 60)) (.ite (isOpR (opE ⟨[[.i (c 123).I, .i (c 124).I, .i (c 125).I, .i (c 126).I, .i (c
  127).I, .s (c 128).S]], []⟩ 0 0)) (.defI (IntKind.u8.wrap ((c 1).I - 20)) fun z2 => .leaf ⟨[[.b ((c 123).I == z2)]], []⟩) (.leaf ⟨[[.b false]], []⟩)) (.ite (isOpR (opE ⟨[[.i (c 123).I, .i (c 124).I, .i (c 125).I, .i (c
  126).I, .i (c 127).I, .s (c 128).S]], []⟩ 0 0)) (.defI (IntKind.u8.wrap ((c 1).I - 20)) fun z3 => .leaf ⟨[[.b ((c 123).I == z3)]], []⟩) (.leaf ⟨[[.b false]], []⟩))) (.ite (isOpR (opE ⟨[[.i (c 123).I, .i (c 124).I, .i (c
  125).I, .i (c 126).I, .i (c 127).I, .s (c 128).S]], []⟩ 0 0)) (.defI (IntKind.u8.wrap ((c 1).I - 20)) fun z4 => .leaf ⟨[[.b ((c 123).I == z4)]], []⟩) (.leaf ⟨[[.b false]], []⟩))) (.ite (decide ((c 3).I ≥ 1)) (.ite
  (decide ((c 3).I ≤ 60)) (.ite (isOpR (opE ⟨[[.i (c 123).I, .i (c 124).I, .i (c 125).I, .i (c 126).I, .i (c 127).I, .s (c 128).S]], []⟩ 0 0)) (.defI (IntKind.u8.wrap ((c 1).I - 20)) fun z5 => .leaf ⟨[[.b ((c 123).I ==
  z5)]], []⟩) (.leaf ⟨[[.b false]], []⟩)) (.ite (isOpR (opE ⟨[[.i (c 123).I, .i (c 124).I, .i (c 125).I, .i (c 126).I, .i (c 127).I, .s (c 128).S]], []⟩ 0 0)) (.defI (IntKind.u8.wrap ((c 1).I - 20)) fun z6 => .leaf ⟨[[.b
  ((c 123).I == z6)]], []⟩) (.leaf ⟨[[.b false]], []⟩))) (.ite (isOpR (opE ⟨[[.i (c 123).I, .i (c 124).I, .i (c 125).I, .i (c 126).I, .i (c 127).I, .s (c 128).S]], []⟩ 0 0)) (.defI (IntKind.u8.wrap ((c 1).I - 20)) fun z7
  => .leaf ⟨[[.b ((c 123).I == z7)]], []⟩) (.leaf ⟨[[.b false]], []⟩))))) (.leaf ⟨[[.b false]], []⟩)) (.leaf ⟨[[.b false]], []⟩)) (.leaf ⟨[[.b false]], []⟩))) (.leaf ⟨[[.b false]], []⟩)) (.leaf ⟨[[.b false]], []⟩)) (.leaf
  ⟨[[.b false]], []⟩)) (.leaf ⟨[[.b false]], []⟩))) (.leaf ⟨[[.b false]], []⟩)) (.leaf ⟨[[.b false]], []⟩)) (.leaf ⟨[[.b false]], []⟩)) (.leaf ⟨[[.b false]], []⟩)) (.leaf ⟨[[.b false]], []⟩)) (.leaf ⟨[[.b false]], []⟩))))
  (.leaf ⟨[[.b false]], []⟩)) (.leaf ⟨[[.b false]], []⟩)) (.leaf ⟨[[.b false]], []⟩) := by kernel_rfl
theorem k28_15 (c : Nat → Num) (n0 : Nat) (s0 : Nat → List Num) (n1 : Nat) (s1 : Nat → List Num) (n2 : Nat) (s2 : Nat → List Num) : ∃ b, noQ (mE c n0 s0 n1 s1 n2 s2) b ∧ StdX Try.prog 28 (mT (.il .u8 15)) (mE c n0 s0 n1 s1 n2 s2) (tYN 3) ⟨[[.b b]], []⟩ := by
  refine anyS ecTab (n := 400) rfl (TS.eqv_refl _ _) (holds_of_eq (m28_15 c n0 s0 n1 s1 n2 s2) ?_)
  (repeat' with_reducible (first | refine holds_inE ?_ | refine holds_inI ?_ | refine holds_inB ?_ | refine holds_must (rbE_ok _ _) ?_ | refine holds_ite (fun _ => ?_) (fun _ => ?_)))
  all_goals exact holds_leaf trivial
theorem m28_17 (c : Nat → Num) (n0 : Nat) (s0 : Nat → List Num) (n1 : Nat) (s1 : Nat → List Num) (n2 : Nat) (s2 : Nat → List Num) : callW Try.prog (codeT Try.prog ecT 400) 28 ((mT (.il .u8 17)).vals (mE c n0 s0 n1 s1 n2 s2)) ((mT (.il .u8 17)).heap (mE c n0 s0 n1 s1 n2 s2)) 3 (outV 3 (tYN 3)) =
  .ite (decide ((c 1).I ≥ 10)) (.ite (decide ((c 1).I < 15)) (.ite (!decide ((c 2).I < 3)) (.leaf ⟨[[.b false]], []⟩) (.ite ((c 1).I == (c 2).I) (.leaf ⟨[[.b false]], []⟩) (.ite ((c 3).I == 0) (.ite ((c 4).I == 0 && (c
  5).I == 0) (.ite ((c 6).I == 0 && (c 7).I == 0) (.ite (!(c 8).B) (.ite ((c 9).I == 0 && ((c 10).I == 0 && (c 11).I == 0)) (.ite ((c 12).I == 0) (.must (rbE s0 n0) (.defE ⟨[stL c 13, zL], [.lst n0 (rnE s0)]⟩ fun e0 =>
  .ite (smE e0) (.ite ((c 62).I == 0) (.ite ((c 63).I == 0) (.ite ((n1 : Int) == 0) (.must (rbE s2 n2) (.defE ⟨[stL c 65, zL], [.lst n2 (rnE s2)]⟩ fun e1 => .ite (smE e1) (.ite ((c 114).I == 0 && ((c 115).I == 0 && ((c
  116).I == 0 && ((c 117).I == 0 && ((c 118).I == 0 && ((c 119).I == 0 && ((c 120).I == 0 && (c 121).S == (ByteArray.mk #[])))))))) (.ite ((c 123).I == 0 && ((c 124).I == 0 && ((c 125).I == 0 && ((c 126).I == 0 && ((c
  127).I == 0 && (c 128).S == (ByteArray.mk #[])))))) (.ite (!((c 129).I == 0 && (c 130).S == (ByteArray.mk #[]))) (.leaf ⟨[[.b false]], []⟩) (.ite (decide ((c 3).I ≥ 2)) (.ite (decide ((c 3).I ≥ 1)) (.ite (decide ((c 3).I
  ≤ 60)) (.leaf ⟨[[.b (decide ((c 122).I < 5))]], []⟩) (.leaf ⟨[[.b (decide ((c 122).I < 5))]], []⟩)) (.leaf ⟨[[.b (decide ((c 122).I < 5))]], []⟩)) (.ite (decide ((c 3).I ≥ 1)) (.ite (decide ((c 3).I ≤ 60)) (.leaf ⟨[[.b
  (decide ((c 122).I < 5))]], []⟩) (.leaf ⟨[[.b (decide ((c 122).I < 5))]], []⟩)) (.leaf ⟨[[.b (decide ((c 122).I < 5))]], []⟩)))) (.leaf ⟨[[.b false]], []⟩)) (.leaf ⟨[[.b false]], []⟩)) (.leaf ⟨[[.b false]], []⟩))) (.leaf
  ⟨[[.b false]], []⟩)) (.leaf ⟨[[.b false]], []⟩)) (.leaf ⟨[[.b false]], []⟩)) (.leaf ⟨[[.b false]], []⟩))) (.leaf ⟨[[.b false]], []⟩)) (.leaf ⟨[[.b false]], []⟩)) (.leaf ⟨[[.b false]], []⟩)) (.leaf ⟨[[.b false]], []⟩))
  (.leaf ⟨[[.b false]], []⟩)) (.leaf ⟨[[.b false]], []⟩)))) (.leaf ⟨[[.b false]], []⟩)) (.leaf ⟨[[.b false]], []⟩) := by kernel_rfl
theorem k28_17 (c : Nat → Num) (n0 : Nat) (s0 : Nat → List Num) (n1 : Nat) (s1 : Nat → List Num) (n2 : Nat) (s2 : Nat → List Num) : ∃ b, noQ (mE c n0 s0 n1 s1 n2 s2) b ∧ StdX Try.prog 28 (mT (.il .u8 17)) (mE c n0 s0 n1 s1 n2 s2) (tYN 3) ⟨[[.b b]], []⟩ := by
  refine anyS ecTab (n := 400) rfl (TS.eqv_refl _ _) (holds_of_eq (m28_17 c n0 s0 n1 s1 n2 s2) ?_)
  (repeat' with_reducible (first | refine holds_inE ?_ | refine holds_inI ?_ | refine holds_inB ?_ | refine holds_must (rbE_ok _ _) ?_ | refine holds_ite (fun _ => ?_) (fun _ => ?_)))
  all_goals exact holds_leaf trivial
theorem m28_18 (c : Nat → Num) (n0 : Nat) (s0 : Nat → List Num) (n1 : Nat) (s1 : Nat → List Num) (n2 : Nat) (s2 : Nat → List Num) : callW Try.prog (codeT Try.prog ecT 400) 28 ((mT (.il .u8 18)).vals (mE c n0 s0 n1 s1 n2 s2)) ((mT (.il .u8 18)).heap (mE c n0 s0 n1 s1 n2 s2)) 3 (outV 3 (tYN 3)) =
  .ite (decide ((c 1).I < 3)) (.ite (!decide ((c 2).I < 3)) (.leaf ⟨[[.b false]], []⟩) (.ite ((c 1).I == (c 2).I) (.leaf ⟨[[.b false]], []⟩) (.ite ((c 6).I == 0 && (c 7).I == 0) (.ite (!(c 8).B) (.ite ((c 9).I == 0 && ((c
  10).I == 0 && (c 11).I == 0)) (.ite ((c 12).I == 0) (.must (rbE s0 n0) (.defE ⟨[stL c 13, zL], [.lst n0 (rnE s0)]⟩ fun e0 => .ite (smE e0) (.ite ((c 62).I == 0) (.ite ((c 63).I == 0) (.ite ((n1 : Int) == 0) (.must (rbE
  s2 n2) (.defE ⟨[stL c 65, zL], [.lst n2 (rnE s2)]⟩ fun e1 => .ite (smE e1) (.ite ((c 114).I == 0 && ((c 115).I == 0 && ((c 116).I == 0 && ((c 117).I == 0 && ((c 118).I == 0 && ((c 119).I == 0 && ((c 120).I == 0 && (c
  121).S == (ByteArray.mk #[])))))))) (.ite ((c 122).I == 0) (.ite ((c 123).I == 0 && ((c 124).I == 0 && ((c 125).I == 0 && ((c 126).I == 0 && ((c 127).I == 0 && (c 128).S == (ByteArray.mk #[])))))) (.ite (!((c 129).I == 0
  && (c 130).S == (ByteArray.mk #[]))) (.leaf ⟨[[.b false]], []⟩) (.ite (decide ((c 3).I ≥ 2)) (.ite (decide ((c 3).I ≥ 1)) (.ite (decide ((c 3).I ≤ 60)) (.ite (decide ((c 3).I ≤ 60)) (.ite (decide ((c 4).I > 0)) (.leaf
  ⟨[[.b (decide ((c 5).I < 3))]], []⟩) (.leaf ⟨[[.b false]], []⟩)) (.leaf ⟨[[.b false]], []⟩)) (.ite (decide ((c 3).I ≤ 60)) (.ite (decide ((c 4).I > 0)) (.leaf ⟨[[.b (decide ((c 5).I < 3))]], []⟩) (.leaf ⟨[[.b false]],
  []⟩)) (.leaf ⟨[[.b false]], []⟩))) (.ite (decide ((c 3).I ≤ 60)) (.ite (decide ((c 4).I > 0)) (.leaf ⟨[[.b (decide ((c 5).I < 3))]], []⟩) (.leaf ⟨[[.b false]], []⟩)) (.leaf ⟨[[.b false]], []⟩))) (.ite (decide ((c 3).I ≥
  1)) (.ite (decide ((c 3).I ≤ 60)) (.leaf ⟨[[.b false]], []⟩) (.leaf ⟨[[.b false]], []⟩)) (.leaf ⟨[[.b false]], []⟩)))) (.leaf ⟨[[.b false]], []⟩)) (.leaf ⟨[[.b false]], []⟩)) (.leaf ⟨[[.b false]], []⟩)) (.leaf ⟨[[.b
  false]], []⟩))) (.leaf ⟨[[.b false]], []⟩)) (.leaf ⟨[[.b false]], []⟩)) (.leaf ⟨[[.b false]], []⟩)) (.leaf ⟨[[.b false]], []⟩))) (.leaf ⟨[[.b false]], []⟩)) (.leaf ⟨[[.b false]], []⟩)) (.leaf ⟨[[.b false]], []⟩)) (.leaf
  ⟨[[.b false]], []⟩)))) (.leaf ⟨[[.b false]], []⟩) := by kernel_rfl
theorem k28_18 (c : Nat → Num) (n0 : Nat) (s0 : Nat → List Num) (n1 : Nat) (s1 : Nat → List Num) (n2 : Nat) (s2 : Nat → List Num) : ∃ b, noQ (mE c n0 s0 n1 s1 n2 s2) b ∧ StdX Try.prog 28 (mT (.il .u8 18)) (mE c n0 s0 n1 s1 n2 s2) (tYN 3) ⟨[[.b b]], []⟩ := by
  refine anyS ecTab (n := 400) rfl (TS.eqv_refl _ _) (holds_of_eq (m28_18 c n0 s0 n1 s1 n2 s2) ?_)
  (repeat' with_reducible (first | refine holds_inE ?_ | refine holds_inI ?_ | refine holds_inB ?_ | refine holds_must (rbE_ok _ _) ?_ | refine holds_ite (fun _ => ?_) (fun _ => ?_)))
  all_goals exact holds_leaf trivial
end Go.Proofs.Ytnfmdpelafaoaaa
