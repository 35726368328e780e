/- States: are they ones; are they the same as a bare one.
   Conditions: none. -/
import Derived.Test.YtnfmdpelafaoaaaEa
set_option linter.unusedSimpArgs false
set_option linter.unusedVariables false
namespace Go.Proofs.Ytnfmdpelafaoaaa
open Go.Eng Go.RowKit Go.ChangeShapes Go.WideShapes
set_option maxRecDepth 100000
noncomputable def body35 : Code := Try.f35.body.getD .skip
noncomputable def x35 : Code := lp ((flat body35).getD 5 .skip)
noncomputable def body46 : Code := Try.f46.body.getD .skip
noncomputable def x46 : Code := lp ((flat body46).getD 5 .skip)
def rSt : List TV := [.i .u32, .b, .s, .s, .s, .s, .b, .s, .s, .s, .s, .b, .s, .s, .s, .s, .b, .s, .s, .s, .s, .b, .s, .s, .s, .s, .b, .s, .s, .s, .s, .i .u32, .i .u8, .s, .i .u32, .i .u8, .s, .i .u32, .i .u8, .s, .i .u32, .i .u32, .i .u8, .i .u32, .i .u8, .i .u8, .i .u8, .s, .sl 0]
def rSt0 : List TV := [.i .u32, .b, .s, .s, .s, .s, .b, .s, .s, .s, .s, .b, .s, .s, .s, .s, .b, .s, .s, .s, .s, .b, .s, .s, .s, .s, .b, .s, .s, .s, .s, .i .u32, .i .u8, .s, .i .u32, .i .u8, .s, .i .u32, .i .u8, .s, .i .u32, .i .u32, .i .u8, .i .u32, .i .u8, .i .u8, .i .u8, .s, .nils]
def isT : TS := ⟨[0], [.agg rSt], [(0, .lst none rEnt none)], 1⟩
def isL : TS := ⟨[3, 37, 38, 39], [.one (.ptr 1 0), .one (.sl 0), .one (.i .i64), .one (.i .i64)], [(0, .lst none rEnt none), (1, .box rEnt)], 2⟩
def isM : TS := ⟨[1, 3, 4, 5], [.one (.ptr 1 0), .one (.i .u32), .one (.i .u32), .one (.i .i64)], [(0, .lst none rEnt none), (1, .box rSt)], 2⟩
def isR : TS := ⟨[2], [.one .b], [], 1⟩
def isE : TS := ⟨[], [], [], 1⟩
def smT : TS := ⟨[0, 1], [.agg rSt, .agg rSt0], [(0, .lst none rEnt none)], 1⟩
def stN (c : Nat → Num) (n : Nat) (s : Nat → List Num) : EN := ⟨[[c 0, c 1, c 2, c 3, c 4, c 5, c 6, c 7, c 8, c 9, c 10, c 11, c 12, c 13, c 14, c 15, c 16, c 17, c 18, c 19, c 20, c 21, c 22, c 23, c 24, c 25, c 26, c 27, c 28, c 29, c 30, c 31, c 32, c 33, c 34, c 35, c 36, c 37, c 38, c 39, c 40, c 41, c 42, c 43, c 44, c 45, c 46, c 47, c 48]], [.lst n s]⟩
def isN (c : Nat → Num) (n : Nat) (s : Nat → List Num) (i : Int) : EN := ⟨[[], [], [.i n], [.i i]], [.lst n s, .box [c 0, c 1, c 2, c 3, c 4, c 5, c 6, c 7]]⟩
def isN2 (c : Nat → Num) (a b : Int) (n : Nat) (s : Nat → List Num) (i : Int) : EN := ⟨[[], [.i a], [.i b], [.i i]], [.lst n s, .box [c 0, c 1, c 2, c 3, c 4, c 5, c 6, c 7, c 8, c 9, c 10, c 11, c 12, c 13, c 14, c 15, c 16, c 17, c 18, c 19, c 20, c 21, c 22, c 23, c 24, c 25, c 26, c 27, c 28, c 29, c 30, c 31, c 32, c 33, c 34, c 35, c 36, c 37, c 38, c 39, c 40, c 41, c 42, c 43, c 44, c 45, c 46, c 47, c 48]]⟩
def smN (c d : Nat → Num) (n : Nat) (s : Nat → List Num) : EN := ⟨[[c 0, c 1, c 2, c 3, c 4, c 5, c 6, c 7, c 8, c 9, c 10, c 11, c 12, c 13, c 14, c 15, c 16, c 17, c 18, c 19, c 20, c 21, c 22, c 23, c 24, c 25, c 26, c 27, c 28, c 29, c 30, c 31, c 32, c 33, c 34, c 35, c 36, c 37, c 38, c 39, c 40, c 41, c 42, c 43, c 44, c 45, c 46, c 47, c 48], [d 0, d 1, d 2, d 3, d 4, d 5, d 6, d 7, d 8, d 9, d 10, d 11, d 12, d 13, d 14, d 15, d 16, d 17, d 18, d 19, d 20, d 21, d 22, d 23, d 24, d 25, d 26, d 27, d 28, d 29, d 30, d 31, d 32, d 33, d 34, d 35, d 36, d 37, d 38, d 39, d 40, d 41, d 42, d 43, d 44, d 45, d 46, d 47, d 48]], [.lst n s]⟩
def bE (c d : Nat → Num) : Bool := (c 1).B == (d 1).B && ((c 2).S == (d 2).S && ((c 3).S == (d 3).S && ((c 4).S == (d 4).S && (c 5).S == (d 5).S))) && ((c 6).B == (d 6).B && ((c 7).S == (d 7).S && ((c 8).S == (d 8).S && ((c 9).S == (d 9).S && (c 10).S == (d 10).S))) && ((c 11).B == (d 11).B && ((c 12).S == (d 12).S && ((c 13).S == (d 13).S && ((c 14).S == (d 14).S && (c 15).S == (d 15).S))) && ((c 16).B == (d 16).B && ((c 17).S == (d 17).S && ((c 18).S == (d 18).S && ((c 19).S == (d 19).S && (c 20).S == (d 20).S))) && ((c 21).B == (d 21).B && ((c 22).S == (d 22).S && ((c 23).S == (d 23).S && ((c 24).S == (d 24).S && (c 25).S == (d 25).S))) && ((c 26).B == (d 26).B && ((c 27).S == (d 27).S && ((c 28).S == (d 28).S && ((c 29).S == (d 29).S && (c 30).S == (d 30).S)))))))) && ((c 31).I == (d 31).I && ((c 32).I == (d 32).I && (c 33).S == (d 33).S) && ((c 34).I == (d 34).I && ((c 35).I == (d 35).I && (c 36).S == (d 36).S) && ((c 37).I == (d 37).I && ((c 38).I == (d 38).I && (c 39).S == (d 39).S))))
def tE (c d : Nat → Num) : Bool := (c 40).I == (d 40).I && ((c 41).I == (d 41).I && ((c 42).I == (d 42).I && ((c 43).I == (d 43).I && ((c 44).I == (d 44).I && ((c 45).I == (d 45).I && ((c 46).I == (d 46).I && (c 47).S == (d 47).S))))))
def tZ (c : Nat → Num) : Bool := (c 42).I == 0 && ((c 43).I == 0 && ((c 44).I == 0 && ((c 45).I == 0 && ((c 46).I == 0 && (c 47).S == (ByteArray.mk #[])))))
theorem is35_pre (c : Nat → Num) (n : Nat) (s : Nat → List Num) (τ0 : Tm) : codeT Try.prog ebT 300 35 Try.f35.ntmps (Eng.ofL ((flat body35).take 5)) (argTm 0 (isT.vals (stN c n s)) ++ τ0) (isT.heap (stN c n s)) 1 (outX 1 ⟨some isL, [], some isR⟩) =
  .ite (decide ((c 0).I > 60)) (.leaf (.ret, ⟨[[.b false]], []⟩)) (.ite (decide ((c 40).I > 60)) (.leaf (.ret, ⟨[[.b false]], []⟩)) (.ite (!(tZ c)) (.leaf (.ret, ⟨[[.b false]], []⟩)) (.ite (decide ((n : Int) > 6)) (.leaf
  (.ret, ⟨[[.b false]], []⟩)) (.defE ⟨[[.b (c 1).B, .s (c 2).S, .s (c 3).S, .s (c 4).S, .s (c 5).S, .b (c 6).B, .s (c 7).S, .s (c 8).S, .s (c 9).S, .s (c 10).S, .b (c 11).B, .s (c 12).S, .s (c 13).S, .s (c 14).S, .s (c
  15).S, .b (c 16).B, .s (c 17).S, .s (c 18).S, .s (c 19).S, .s (c 20).S, .b (c 21).B, .s (c 22).S, .s (c 23).S, .s (c 24).S, .s (c 25).S, .b (c 26).B, .s (c 27).S, .s (c 28).S, .s (c 29).S, .s (c 30).S, .i (c 31).I, .i (c
  32).I, .s (c 33).S, .i (c 34).I, .i (c 35).I, .s (c 36).S, .i (c 37).I, .i (c 38).I, .s (c 39).S]], []⟩ fun e0 => .ite (!q57 e0) (.leaf (.ret, ⟨[[.b false]], []⟩)) (.must (rowsB [.i .u32, .i .u32, .i .u8, .i .u32, .i
  .u8, .i .u8, .i .u8, .s] (instR [.i .u32, .i .u32, .i .u8, .i .u32, .i .u8, .i .u8, .i .u8, .s] s) n) (.leaf (.normal, ⟨[[.u], [.u], [.i (n : Int)], [.i 0]], [.lst n (rowNums [.i .u32, .i .u32, .i .u8, .i .u32, .i .u8,
  .i .u8, .i .u8, .s] (instR [.i .u32, .i .u32, .i .u8, .i .u32, .i .u8, .i .u8, .i .u8, .s] s)), .box [.i (c 40).I, .i (c 41).I, .i (c 42).I, .i (c 43).I, .i (c 44).I, .i (c 45).I, .i (c 46).I, .s (c 47).S]]⟩))))))) := by kernel_rfl
theorem is35_x (c : Nat → Num) (n : Nat) (s : Nat → List Num) (i : Int) (τ0 : Tm) : codeT Try.prog ebT 300 35 Try.f35.ntmps x35 (isL.tm (isN c n s i) ++ τ0) (isL.heap (isN c n s i)) 2 (outX 1 ⟨some isL, [(0, isE)], some isR⟩) =
  .ite (decide (i < (n : Int))) (.must (decide (0 ≤ i ∧ i < (n : Int))) (.must (decide (0 ≤ i ∧ i < (n : Int))) (.defI (hdN (s i.toNat)).I fun z0 => .defI (hdN (tlN (s i.toNat))).I fun z1 => .defI (hdN (tlN (tlN (s
  i.toNat)))).I fun z2 => .defI (hdN (tlN (tlN (tlN (s i.toNat))))).I fun z3 => .defI (hdN (tlN (tlN (tlN (tlN (s i.toNat)))))).I fun z4 => .defI (hdN (tlN (tlN (tlN (tlN (tlN (s i.toNat))))))).I fun z5 => .defI (hdN (tlN
  (tlN (tlN (tlN (tlN (tlN (s i.toNat)))))))).I fun z6 => .defE ⟨[[.i (c 0).I, .i (c 1).I, .i (c 2).I, .i (c 3).I, .i (c 4).I, .i (c 5).I, .i (c 6).I, .s (c 7).S], [.i z0, .i z1, .i z2, .i z3, .i z4, .i z5, .i z6, .s (hdN
  (tlN (tlN (tlN (tlN (tlN (tlN (tlN (s i.toNat))))))))).S]], []⟩ fun e7 => .ite (!q58 e7) (.leaf (.ret, ⟨[[.b false]], []⟩)) (.defI (IntKind.i64.wrap (i + 1)) fun z8 => .must (rowsB [.i .u32, .i .u32, .i .u8, .i .u32, .i
  .u8, .i .u8, .i .u8, .s] (instR [.i .u32, .i .u32, .i .u8, .i .u32, .i .u8, .i .u8, .i .u8, .s] s) n) (.leaf (.normal, ⟨[[.u], [.u], [.i (n : Int)], [.i z8]], [.lst n (rowNums [.i .u32, .i .u32, .i .u8, .i .u32, .i .u8,
  .i .u8, .i .u8, .s] (instR [.i .u32, .i .u32, .i .u8, .i .u32, .i .u8, .i .u8, .i .u8, .s] s)), .box [.i z0, .i z1, .i z2, .i z3, .i z4, .i z5, .i z6, .s (hdN (tlN (tlN (tlN (tlN (tlN (tlN (tlN (s
  i.toNat))))))))).S]]⟩)))))) (.leaf (.exit 0, ⟨[], []⟩)) := by kernel_rfl
theorem is35_tail (τ0 : Tm) : codeT Try.prog ebT 300 35 Try.f35.ntmps (Eng.ofL ((flat body35).drop 6)) (isE.tm ⟨[], []⟩ ++ τ0) (isE.heap ⟨[], []⟩) 1 (outX 1 ⟨none, [], some isR⟩) =
  .leaf (.ret, ⟨[[.b true]], []⟩) := by kernel_rfl
theorem is46_pre (c : Nat → Num) (n : Nat) (s : Nat → List Num) (τ0 : Tm) : codeT Try.prog ebT 300 46 Try.f46.ntmps (Eng.ofL ((flat body46).take 5)) (argTm 0 (isT.vals (stN c n s)) ++ τ0) (isT.heap (stN c n s)) 1 (outX 1 ⟨some isM, [], some isR⟩) =
  .ite (decide ((c 0).I > 60)) (.leaf (.ret, ⟨[[.b false]], []⟩)) (.ite (decide ((c 40).I > 60)) (.leaf (.ret, ⟨[[.b false]], []⟩)) (.ite (!(tZ c)) (.leaf (.ret, ⟨[[.b false]], []⟩)) (.ite (decide ((n : Int) > 6)) (.leaf
  (.ret, ⟨[[.b false]], []⟩)) (.defE ⟨[[.b (c 1).B, .s (c 2).S, .s (c 3).S, .s (c 4).S, .s (c 5).S, .b (c 6).B, .s (c 7).S, .s (c 8).S, .s (c 9).S, .s (c 10).S, .b (c 11).B, .s (c 12).S, .s (c 13).S, .s (c 14).S, .s (c
  15).S, .b (c 16).B, .s (c 17).S, .s (c 18).S, .s (c 19).S, .s (c 20).S, .b (c 21).B, .s (c 22).S, .s (c 23).S, .s (c 24).S, .s (c 25).S, .b (c 26).B, .s (c 27).S, .s (c 28).S, .s (c 29).S, .s (c 30).S, .i (c 31).I, .i (c
  32).I, .s (c 33).S, .i (c 34).I, .i (c 35).I, .s (c 36).S, .i (c 37).I, .i (c 38).I, .s (c 39).S]], []⟩ fun e0 => .ite (!q65 e0) (.leaf (.ret, ⟨[[.b false]], []⟩)) (.must (rowsB [.i .u32, .i .u32, .i .u8, .i .u32, .i
  .u8, .i .u8, .i .u8, .s] (instR [.i .u32, .i .u32, .i .u8, .i .u32, .i .u8, .i .u8, .i .u8, .s] s) n) (.leaf (.normal, ⟨[[.u], [.i (c 40).I], [.i (c 41).I], [.i 0]], [.lst n (rowNums [.i .u32, .i .u32, .i .u8, .i .u32,
  .i .u8, .i .u8, .i .u8, .s] (instR [.i .u32, .i .u32, .i .u8, .i .u32, .i .u8, .i .u8, .i .u8, .s] s)), .box [.i (c 0).I, .b (c 1).B, .s (c 2).S, .s (c 3).S, .s (c 4).S, .s (c 5).S, .b (c 6).B, .s (c 7).S, .s (c 8).S, .s
  (c 9).S, .s (c 10).S, .b (c 11).B, .s (c 12).S, .s (c 13).S, .s (c 14).S, .s (c 15).S, .b (c 16).B, .s (c 17).S, .s (c 18).S, .s (c 19).S, .s (c 20).S, .b (c 21).B, .s (c 22).S, .s (c 23).S, .s (c 24).S, .s (c 25).S, .b
  (c 26).B, .s (c 27).S, .s (c 28).S, .s (c 29).S, .s (c 30).S, .i (c 31).I, .i (c 32).I, .s (c 33).S, .i (c 34).I, .i (c 35).I, .s (c 36).S, .i (c 37).I, .i (c 38).I, .s (c 39).S, .i (c 40).I, .i (c 41).I, .i (c 42).I, .i
  (c 43).I, .i (c 44).I, .i (c 45).I, .i (c 46).I, .s (c 47).S, .u]]⟩))))))) := by kernel_rfl
theorem is46_x (c : Nat → Num) (n : Nat) (s : Nat → List Num) (a b i : Int) (τ0 : Tm) : codeT Try.prog ebT 300 46 Try.f46.ntmps x46 (isM.tm (isN2 c a b n s i) ++ τ0) (isM.heap (isN2 c a b n s i)) 2 (outX 1 ⟨some isM, [(0, isE)], some isR⟩) =
  .ite (decide (i < (n : Int))) (.must (decide (0 ≤ i ∧ i < (n : Int))) (.must (decide (0 ≤ i ∧ i < (n : Int))) (.defI (hdN (s i.toNat)).I fun z0 => .defI (hdN (tlN (s i.toNat))).I fun z1 => .defI (hdN (tlN (tlN (s
  i.toNat)))).I fun z2 => .defI (hdN (tlN (tlN (tlN (s i.toNat))))).I fun z3 => .defI (hdN (tlN (tlN (tlN (tlN (s i.toNat)))))).I fun z4 => .defI (hdN (tlN (tlN (tlN (tlN (tlN (s i.toNat))))))).I fun z5 => .defI (hdN (tlN
  (tlN (tlN (tlN (tlN (tlN (s i.toNat)))))))).I fun z6 => .defE ⟨[[.i z2, .i z3, .i z4, .i z5, .i z6, .s (hdN (tlN (tlN (tlN (tlN (tlN (tlN (tlN (s i.toNat))))))))).S]], []⟩ fun e7 => .ite (!q48 e7) (.leaf (.ret, ⟨[[.b
  false]], []⟩)) (.ite (z1 == 0) (.leaf (.ret, ⟨[[.b false]], []⟩)) (.defI (IntKind.u32.wrap (z1 - 1)) fun z8 => .ite (z8 != b) (.leaf (.ret, ⟨[[.b false]], []⟩)) (.ite (decide (z0 < a)) (.leaf (.ret, ⟨[[.b false]], []⟩))
  (.ite (decide (z0 > 60)) (.leaf (.ret, ⟨[[.b false]], []⟩)) (.defI (IntKind.i64.wrap (i + 1)) fun z9 => .must (rowsB [.i .u32, .i .u32, .i .u8, .i .u32, .i .u8, .i .u8, .i .u8, .s] (instR [.i .u32, .i .u32, .i .u8, .i
  .u32, .i .u8, .i .u8, .i .u8, .s] s) n) (.leaf (.normal, ⟨[[.u], [.i z0], [.i z1], [.i z9]], [.lst n (rowNums [.i .u32, .i .u32, .i .u8, .i .u32, .i .u8, .i .u8, .i .u8, .s] (instR [.i .u32, .i .u32, .i .u8, .i .u32, .i
  .u8, .i .u8, .i .u8, .s] s)), .box [.i (c 0).I, .b (c 1).B, .s (c 2).S, .s (c 3).S, .s (c 4).S, .s (c 5).S, .b (c 6).B, .s (c 7).S, .s (c 8).S, .s (c 9).S, .s (c 10).S, .b (c 11).B, .s (c 12).S, .s (c 13).S, .s (c 14).S,
  .s (c 15).S, .b (c 16).B, .s (c 17).S, .s (c 18).S, .s (c 19).S, .s (c 20).S, .b (c 21).B, .s (c 22).S, .s (c 23).S, .s (c 24).S, .s (c 25).S, .b (c 26).B, .s (c 27).S, .s (c 28).S, .s (c 29).S, .s (c 30).S, .i (c 31).I,
  .i (c 32).I, .s (c 33).S, .i (c 34).I, .i (c 35).I, .s (c 36).S, .i (c 37).I, .i (c 38).I, .s (c 39).S, .i (c 40).I, .i (c 41).I, .i (c 42).I, .i (c 43).I, .i (c 44).I, .i (c 45).I, .i (c 46).I, .s (c 47).S,
  .u]]⟩)))))))))) (.leaf (.exit 0, ⟨[], []⟩)) := by kernel_rfl
theorem is46_tail (τ0 : Tm) : codeT Try.prog ebT 300 46 Try.f46.ntmps (Eng.ofL ((flat body46).drop 6)) (isE.tm ⟨[], []⟩ ++ τ0) (isE.heap ⟨[], []⟩) 1 (outX 1 ⟨none, [], some isR⟩) =
  .leaf (.ret, ⟨[[.b true]], []⟩) := by kernel_rfl
theorem t53 (c d : Nat → Num) (n : Nat) (s : Nat → List Num) : callW Try.prog (codeT Try.prog ebT 300) 53 (smT.vals (smN c d n s)) (smT.heap (smN c d n s)) 1 (outV 1 isR) =
  .ite ((c 0).I == (d 0).I) (.ite (bE c d) (.ite (tE c d) (.ite ((n : Int) != 0) (.leaf ⟨[[.b false]], []⟩) (.ite (decide (0 < (n : Int))) (.must (decide ((0 : Int) ≤ 0 ∧ 0 < (n : Int))) (.must (decide ((0 : Int) ≤ 0 ∧ 0 <
  (n : Int))) (.defI (hdN (s 0)).I fun z0 => .defI (hdN (tlN (s 0))).I fun z1 => .defI (hdN (tlN (tlN (s 0)))).I fun z2 => .defI (hdN (tlN (tlN (tlN (s 0))))).I fun z3 => .defI (hdN (tlN (tlN (tlN (tlN (s 0)))))).I fun z4
  => .defI (hdN (tlN (tlN (tlN (tlN (tlN (s 0))))))).I fun z5 => .defI (hdN (tlN (tlN (tlN (tlN (tlN (tlN (s 0)))))))).I fun z6 => .fail "indexAddr: slice"))) (.leaf ⟨[[.b true]], []⟩))) (.leaf ⟨[[.b false]], []⟩)) (.leaf
  ⟨[[.b false]], []⟩)) (.leaf ⟨[[.b false]], []⟩) := by kernel_rfl
theorem t40 (c d : Nat → Num) (n : Nat) (s : Nat → List Num) : callW Try.prog (codeT Try.prog ebT 300) 40 (smT.vals (smN c d n s)) (smT.heap (smN c d n s)) 1 (outV 1 isR) =
  .ite ((c 0).I != (d 0).I) (.leaf ⟨[[.b false]], []⟩) (.ite (!(bE c d)) (.leaf ⟨[[.b false]], []⟩) (.ite (!(tE c d)) (.leaf ⟨[[.b false]], []⟩) (.ite ((n : Int) != 0) (.leaf ⟨[[.b false]], []⟩) (.ite (decide (0 < (n :
  Int))) (.must (decide ((0 : Int) ≤ 0 ∧ 0 < (n : Int))) (.must (decide ((0 : Int) ≤ 0 ∧ 0 < (n : Int))) (.defI (hdN (s 0)).I fun z0 => .defI (hdN (tlN (s 0))).I fun z1 => .defI (hdN (tlN (tlN (s 0)))).I fun z2 => .defI
  (hdN (tlN (tlN (tlN (s 0))))).I fun z3 => .defI (hdN (tlN (tlN (tlN (tlN (s 0)))))).I fun z4 => .defI (hdN (tlN (tlN (tlN (tlN (tlN (s 0))))))).I fun z5 => .defI (hdN (tlN (tlN (tlN (tlN (tlN (tlN (s 0)))))))).I fun z6
  => .fail "indexAddr: slice"))) (.leaf ⟨[[.b true]], []⟩))))) := by kernel_rfl
def bsE (c : Nat → Num) : EN := ⟨[[.b (c 1).B, .s (c 2).S, .s (c 3).S, .s (c 4).S, .s (c 5).S, .b (c 6).B, .s (c 7).S, .s (c 8).S, .s (c 9).S, .s (c 10).S, .b (c 11).B, .s (c 12).S, .s (c 13).S, .s (c 14).S, .s (c 15).S, .b (c 16).B, .s (c 17).S, .s (c 18).S, .s (c 19).S, .s (c 20).S, .b (c 21).B, .s (c 22).S, .s (c 23).S, .s (c 24).S, .s (c 25).S, .b (c 26).B, .s (c 27).S, .s (c 28).S, .s (c 29).S, .s (c 30).S, .i (c 31).I, .i (c 32).I, .s (c 33).S, .i (c 34).I, .i (c 35).I, .s (c 36).S, .i (c 37).I, .i (c 38).I, .s (c 39).S]], []⟩
def nxE (c : Nat → Num) (r : List Num) : EN := ⟨[[.i (c 0).I, .i (c 1).I, .i (c 2).I, .i (c 3).I, .i (c 4).I, .i (c 5).I, .i (c 6).I, .s (c 7).S], [.i (hdN r).I, .i (hdN (tlN r)).I, .i (hdN (tlN (tlN r))).I, .i (hdN (tlN (tlN (tlN r)))).I, .i (hdN (tlN (tlN (tlN (tlN r))))).I, .i (hdN (tlN (tlN (tlN (tlN (tlN r)))))).I, .i (hdN (tlN (tlN (tlN (tlN (tlN (tlN r))))))).I, .s (hdN (tlN (tlN (tlN (tlN (tlN (tlN (tlN r)))))))).S]], []⟩
def wrE (r : List Num) : EN := ⟨[[.i (hdN (tlN (tlN r))).I, .i (hdN (tlN (tlN (tlN r)))).I, .i (hdN (tlN (tlN (tlN (tlN r))))).I, .i (hdN (tlN (tlN (tlN (tlN (tlN r)))))).I, .i (hdN (tlN (tlN (tlN (tlN (tlN (tlN r))))))).I, .s (hdN (tlN (tlN (tlN (tlN (tlN (tlN (tlN r)))))))).S]], []⟩
noncomputable def isGo (s : Nat → List Num) : Nat → Nat → (Nat → Num) → Bool
  | 0, _, _ => true
  | k + 1, i, c => bif !q58 (nxE c (s i)) then false else isGo s k (i + 1) (fun j => nthN j (s i))
noncomputable def rfGo (s : Nat → List Num) : Nat → Nat → Int → Int → Bool
  | 0, _, _, _ => true
  | k + 1, i, a, b => bif !q48 (wrE (s i)) then false else bif (hdN (tlN (s i))).I == 0 then false else bif IntKind.u32.wrap ((hdN (tlN (s i))).I - 1) != b then false else bif decide ((hdN (s i)).I < a) then false else bif decide ((hdN (s i)).I > 60) then false else rfGo s k (i + 1) (hdN (s i)).I (hdN (tlN (s i))).I
noncomputable def pgB (c : Nat → Num) (n : Nat) (s : Nat → List Num) : Bool := bif decide ((c 0).I > 60) then false else bif decide ((c 40).I > 60) then false else bif !tZ c then false else bif decide ((n : Int) > 6) then false else bif !q57 (bsE c) then false else isGo s n 0 (fun j => c (40 + j))
noncomputable def rfB (c : Nat → Num) (n : Nat) (s : Nat → List Num) : Bool := bif decide ((c 0).I > 60) then false else bif decide ((c 40).I > 60) then false else bif !tZ c then false else bif decide ((n : Int) > 6) then false else bif !q65 (bsE c) then false else rfGo s n 0 (c 40).I (c 41).I
def smB (c d : Nat → Num) (n : Nat) : Bool := bif (c 0).I == (d 0).I then bif bE c d then bif tE c d then (n : Int) == 0 else false else false else false
theorem rowsB_en (r : Nat → List Num) (n : Nat) : rowsB [.i .u32, .i .u32, .i .u8, .i .u32, .i .u8, .i .u8, .i .u8, .s] (instR [.i .u32, .i .u32, .i .u8, .i .u32, .i .u8, .i .u8, .i .u8, .s] r) n = true := rowsB_instR rfl r n
theorem sm53_std (c d : Nat → Num) (n : Nat) (s : Nat → List Num) : StdX Try.prog 53 smT (smN c d n s) isR ⟨[[.b (smB c d n)]], []⟩ := by
  refine stdX_tree ebTab mixed rfl (holds_of_eq (t53 c d n s) ?_)
  (repeat' with_reducible (first | refine holds_ite (fun _ => ?_) (fun _ => ?_)))
  all_goals try simp only [bne, Bool.not_eq_true', Bool.not_eq_false'] at *
  all_goals first
    | (refine holds_leaf ?_; simp only [smB, *, cond_true, cond_false, Bool.true_and, Bool.and_true, Bool.false_and, Bool.and_false, Bool.true_or, Bool.or_true, Bool.false_or, Bool.or_false]; (repeat' (first | exact trivial | exact rfl | exact TS.eqv_refl _ _ | exact len_app _ _ | exact rows_appI | exact fun _ _ => eqvL_refl _ _ | exact fun i _ => eqvL_rowNums rfl _ i | apply And.intro)); done)
    | (exfalso; simp only [beq_iff_eq, decide_eq_true_eq] at *; omega)
theorem sm40_std (c d : Nat → Num) (n : Nat) (s : Nat → List Num) : StdX Try.prog 40 smT (smN c d n s) isR ⟨[[.b (smB c d n)]], []⟩ := by
  refine stdX_tree ebTab mixed rfl (holds_of_eq (t40 c d n s) ?_)
  (repeat' with_reducible (first | refine holds_ite (fun _ => ?_) (fun _ => ?_)))
  all_goals try simp only [bne, Bool.not_eq_true', Bool.not_eq_false'] at *
  all_goals first
    | (refine holds_leaf ?_; simp only [smB, *, cond_true, cond_false, Bool.true_and, Bool.and_true, Bool.false_and, Bool.and_false, Bool.true_or, Bool.or_true, Bool.false_or, Bool.or_false]; (repeat' (first | exact trivial | exact rfl | exact TS.eqv_refl _ _ | exact len_app _ _ | exact rows_appI | exact fun _ _ => eqvL_refl _ _ | exact fun i _ => eqvL_rowNums rfl _ i | apply And.intro)); done)
    | (exfalso; simp only [beq_iff_eq, decide_eq_true_eq] at *; omega)
theorem body35_eq : Try.f35.body = some body35 := by kernel_rfl
theorem in35 : Within Try.prog 35 Try.f35.ntmps body35 := within_body Try.func35 body35_eq
theorem lp35 : (flat body35).drop 5 = [.block 0 (.loop x35)] ++ (flat body35).drop 6 := by kernel_rfl
theorem in35x : Within Try.prog 35 Try.f35.ntmps x35 := by
  have h : (flat body35)[5]? = some (.block 0 (.loop x35)) := by kernel_rfl
  exact within_loop (within_block (within_at in35 5 h))
def is35Q (b : Bool) : Ex → EN → Prop
  | .ret, e => b = e.ab 0 0
  | .exit _, _ => b = true
  | .normal, _ => True
theorem is35_loop (c : Nat → Num) (n : Nat) (s : Nat → List Num) (hn : (n : Int) ≤ 6) (d : (Nat → Num)) : HT Try.prog Try.f35.ntmps 1 (.loop x35) 2 (isL.tm (isN d n s ((0 : Nat) : Int))) (isL.heap (isN d n s ((0 : Nat) : Int))) (QX ⟨none, [(0, isE)], some isR⟩ (is35Q (isGo s n 0 d))) := by
  refine HT.loopX ebTab mixed (n := 300) in35x isL _ _ (fun q : Nat × (Nat → Num) => isN q.2 n s ((q.1 : Nat) : Int)) (fun q => q.1 ≤ n) (fun q => n - q.1) (fun q => is35Q (isGo s (n - q.1) q.1 q.2)) (by decide) ?_ (0, d) (Nat.zero_le _)
  rintro ⟨i, d⟩ hi τ0
  have hi : i ≤ n := hi
  show (codeT Try.prog ebT 300 35 Try.f35.ntmps x35 (isL.tm (isN d n s ((i : Nat) : Int)) ++ τ0) (isL.heap (isN d n s ((i : Nat) : Int))) 2 _).Holds _
  refine holds_of_eq (is35_x d n s (i : Int) τ0) ?_
  have ht : ((i : Nat) : Int).toNat = i := Int.toNat_natCast i
  have hw : IntKind.i64.wrap ((i : Int) + 1) = ((i + 1 : Nat) : Int) := IntWalk.i64_in _ (by omega)
  rw [ht]
  by_cases hin : i < n
  · obtain ⟨k, hk⟩ : ∃ k, n - i = k + 1 := ⟨n - i - 1, by omega⟩
    have hk2 : n - (i + 1) = k := by omega
    refine holds_ite (fun _ => ?_) (fun h => absurd (by omega) (of_decide_eq_false h))
    (repeat' with_reducible (first | refine holds_inE ?_ | refine holds_inI ?_ | refine holds_must (rowsB_en _ _) ?_ | refine holds_must (decide_eq_true (by omega)) ?_ | refine holds_ite (fun _ => ?_) (fun _ => ?_)))
    all_goals refine holds_leaf ?_
    all_goals first
      | (show _ = false; simp only [hk, isGo, nxE, wrE, *, cond_true, cond_false, Bool.true_and, Bool.and_true, Bool.false_and, Bool.and_false, Bool.true_or, Bool.or_true, Bool.false_or, Bool.or_false]; done)
      | (refine ⟨(i + 1, (fun j => nthN j (s i))), hin, by show n - (i + 1) < n - i; omega, ?_, ?_⟩
         · rw [hw]; all_goals (repeat' (first | exact trivial | exact rfl | exact TS.eqv_refl _ _ | exact len_app _ _ | exact rows_appI | exact fun _ _ => eqvL_refl _ _ | exact fun i _ => eqvL_rowNums rfl _ i | apply And.intro))
         · intro ex e h
           simp only [hk2] at h
           simp only [hk, isGo, nxE, wrE, *, cond_true, cond_false, Bool.true_and, Bool.and_true, Bool.false_and, Bool.and_false, Bool.true_or, Bool.or_true, Bool.false_or, Bool.or_false] at *
           try exact h)
  · have e : n - i = 0 := by omega
    refine holds_ite (fun h => absurd (of_decide_eq_true h) (by omega)) (fun _ => holds_leaf ?_)
    show isGo s (n - i) i d = true
    rw [e]; rfl
theorem is35_std (c : Nat → Num) (n : Nat) (s : Nat → List Num) : StdX Try.prog 35 isT (stN c n s) isR ⟨[[.b (pgB c n s)]], []⟩ := by
  refine stdX_htX Try.func35 body35_eq (by kernel_rfl) rfl (by kernel_rfl) rfl rfl ?_
  refine HT.cutX 5 (t1 := isL) (R1 := fun ex e => match ex with
    | .normal => (n : Int) ≤ 6 ∧ pgB c n s = isGo s n 0 (fun j => c (40 + j)) ∧ isL.eqv e (isN (fun j => c (40 + j)) n s ((0 : Nat) : Int))
    | _ => pgB c n s = e.ab 0 0) (HTL.runX ebTab mixed (n := 300) (by decide) (within_take in35 5) (Nat.le_refl _) fun τ0 => holds_of_eq (is35_pre c n s τ0) ?_) ?_ ?_
  · (repeat' with_reducible (first | refine holds_inE ?_ | refine holds_must (rowsB_en _ _) ?_ | refine holds_ite (fun _ => ?_) (fun _ => ?_)))
    all_goals refine holds_leaf ?_
    all_goals first
      | (show pgB c n s = false; simp only [pgB, bsE, *, cond_true, cond_false, Bool.true_and, Bool.and_true, Bool.false_and, Bool.and_false, Bool.true_or, Bool.or_true, Bool.false_or, Bool.or_false]; done)
      | (refine ⟨by simp only [decide_eq_false_iff_not] at *; omega, by simp only [pgB, bsE, *, cond_true, cond_false, Bool.true_and, Bool.and_true, Bool.false_and, Bool.and_false, Bool.true_or, Bool.or_true, Bool.false_or, Bool.or_false], ?_⟩; (repeat' (first | exact trivial | exact rfl | exact TS.eqv_refl _ _ | exact len_app _ _ | exact rows_appI | exact fun _ _ => eqvL_refl _ _ | exact fun i _ => eqvL_rowNums rfl _ i | apply And.intro)))
  · rintro en ⟨hn, hb, he⟩
    refine HTg.pre (WP := wpL Try.prog _) (fun h hq => wpL_mono h hq) he (HTL.loopThen lp35 (is35_loop c n s hn (fun j => c (40 + j))) ?_ ?_)
    · intro en he
      have he : isGo s n 0 (fun j => c (40 + j)) = true := he
      refine HTL.runX ebTab mixed (n := 300) (by decide) (within_drop in35 6) (by decide) fun τ0 => holds_of_eq (is35_tail τ0) (holds_leaf fun _ => ?_)
      rw [hb, he]
      all_goals (repeat' (first | exact trivial | exact rfl | exact TS.eqv_refl _ _ | exact len_app _ _ | exact rows_appI | exact fun _ _ => eqvL_refl _ _ | exact fun i _ => eqvL_rowNums rfl _ i | apply And.intro))
    · intro en he _
      have he : isGo s n 0 (fun j => c (40 + j)) = en.ab 0 0 := he
      rw [hb, he]
      all_goals (repeat' (first | exact trivial | exact rfl | exact TS.eqv_refl _ _ | exact len_app _ _ | exact rows_appI | exact fun _ _ => eqvL_refl _ _ | exact fun i _ => eqvL_rowNums rfl _ i | apply And.intro))
  · intro en he _
    have he : pgB c n s = en.ab 0 0 := he
    rw [he]
    all_goals (repeat' (first | exact trivial | exact rfl | exact TS.eqv_refl _ _ | exact len_app _ _ | exact rows_appI | exact fun _ _ => eqvL_refl _ _ | exact fun i _ => eqvL_rowNums rfl _ i | apply And.intro))
theorem body46_eq : Try.f46.body = some body46 := by kernel_rfl
theorem in46 : Within Try.prog 46 Try.f46.ntmps body46 := within_body Try.func46 body46_eq
theorem lp46 : (flat body46).drop 5 = [.block 0 (.loop x46)] ++ (flat body46).drop 6 := by kernel_rfl
theorem in46x : Within Try.prog 46 Try.f46.ntmps x46 := by
  have h : (flat body46)[5]? = some (.block 0 (.loop x46)) := by kernel_rfl
  exact within_loop (within_block (within_at in46 5 h))
def is46Q (b : Bool) : Ex → EN → Prop
  | .ret, e => b = e.ab 0 0
  | .exit _, _ => b = true
  | .normal, _ => True
theorem is46_loop (c : Nat → Num) (n : Nat) (s : Nat → List Num) (hn : (n : Int) ≤ 6) (d : (Int × Int)) : HT Try.prog Try.f46.ntmps 1 (.loop x46) 2 (isM.tm (isN2 c d.1 d.2 n s ((0 : Nat) : Int))) (isM.heap (isN2 c d.1 d.2 n s ((0 : Nat) : Int))) (QX ⟨none, [(0, isE)], some isR⟩ (is46Q (rfGo s n 0 d.1 d.2))) := by
  refine HT.loopX ebTab mixed (n := 300) in46x isM _ _ (fun q : Nat × (Int × Int) => isN2 c q.2.1 q.2.2 n s ((q.1 : Nat) : Int)) (fun q => q.1 ≤ n) (fun q => n - q.1) (fun q => is46Q (rfGo s (n - q.1) q.1 q.2.1 q.2.2)) (by decide) ?_ (0, d) (Nat.zero_le _)
  rintro ⟨i, d⟩ hi τ0
  have hi : i ≤ n := hi
  show (codeT Try.prog ebT 300 46 Try.f46.ntmps x46 (isM.tm (isN2 c d.1 d.2 n s ((i : Nat) : Int)) ++ τ0) (isM.heap (isN2 c d.1 d.2 n s ((i : Nat) : Int))) 2 _).Holds _
  refine holds_of_eq (is46_x c n s d.1 d.2 (i : Int) τ0) ?_
  have ht : ((i : Nat) : Int).toNat = i := Int.toNat_natCast i
  have hw : IntKind.i64.wrap ((i : Int) + 1) = ((i + 1 : Nat) : Int) := IntWalk.i64_in _ (by omega)
  rw [ht]
  by_cases hin : i < n
  · obtain ⟨k, hk⟩ : ∃ k, n - i = k + 1 := ⟨n - i - 1, by omega⟩
    have hk2 : n - (i + 1) = k := by omega
    refine holds_ite (fun _ => ?_) (fun h => absurd (by omega) (of_decide_eq_false h))
    (repeat' with_reducible (first | refine holds_inE ?_ | refine holds_inI ?_ | refine holds_must (rowsB_en _ _) ?_ | refine holds_must (decide_eq_true (by omega)) ?_ | refine holds_ite (fun _ => ?_) (fun _ => ?_)))
    all_goals refine holds_leaf ?_
    all_goals first
      | (show _ = false; simp only [hk, rfGo, nxE, wrE, *, cond_true, cond_false, Bool.true_and, Bool.and_true, Bool.false_and, Bool.and_false, Bool.true_or, Bool.or_true, Bool.false_or, Bool.or_false]; done)
      | (refine ⟨(i + 1, ((hdN (s i)).I, (hdN (tlN (s i))).I)), hin, by show n - (i + 1) < n - i; omega, ?_, ?_⟩
         · rw [hw]; all_goals (repeat' (first | exact trivial | exact rfl | exact TS.eqv_refl _ _ | exact len_app _ _ | exact rows_appI | exact fun _ _ => eqvL_refl _ _ | exact fun i _ => eqvL_rowNums rfl _ i | apply And.intro))
         · intro ex e h
           simp only [hk2] at h
           simp only [hk, rfGo, nxE, wrE, *, cond_true, cond_false, Bool.true_and, Bool.and_true, Bool.false_and, Bool.and_false, Bool.true_or, Bool.or_true, Bool.false_or, Bool.or_false] at *
           try exact h)
  · have e : n - i = 0 := by omega
    refine holds_ite (fun h => absurd (of_decide_eq_true h) (by omega)) (fun _ => holds_leaf ?_)
    show rfGo s (n - i) i d.1 d.2 = true
    rw [e]; rfl
theorem is46_std (c : Nat → Num) (n : Nat) (s : Nat → List Num) : StdX Try.prog 46 isT (stN c n s) isR ⟨[[.b (rfB c n s)]], []⟩ := by
  refine stdX_htX Try.func46 body46_eq (by kernel_rfl) rfl (by kernel_rfl) rfl rfl ?_
  refine HT.cutX 5 (t1 := isM) (R1 := fun ex e => match ex with
    | .normal => (n : Int) ≤ 6 ∧ rfB c n s = rfGo s n 0 ((c 40).I, (c 41).I).1 ((c 40).I, (c 41).I).2 ∧ isM.eqv e (isN2 c ((c 40).I, (c 41).I).1 ((c 40).I, (c 41).I).2 n s ((0 : Nat) : Int))
    | _ => rfB c n s = e.ab 0 0) (HTL.runX ebTab mixed (n := 300) (by decide) (within_take in46 5) (Nat.le_refl _) fun τ0 => holds_of_eq (is46_pre c n s τ0) ?_) ?_ ?_
  · (repeat' with_reducible (first | refine holds_inE ?_ | refine holds_must (rowsB_en _ _) ?_ | refine holds_ite (fun _ => ?_) (fun _ => ?_)))
    all_goals refine holds_leaf ?_
    all_goals first
      | (show rfB c n s = false; simp only [rfB, bsE, *, cond_true, cond_false, Bool.true_and, Bool.and_true, Bool.false_and, Bool.and_false, Bool.true_or, Bool.or_true, Bool.false_or, Bool.or_false]; done)
      | (refine ⟨by simp only [decide_eq_false_iff_not] at *; omega, by simp only [rfB, bsE, *, cond_true, cond_false, Bool.true_and, Bool.and_true, Bool.false_and, Bool.and_false, Bool.true_or, Bool.or_true, Bool.false_or, Bool.or_false], ?_⟩; (repeat' (first | exact trivial | exact rfl | exact TS.eqv_refl _ _ | exact len_app _ _ | exact rows_appI | exact fun _ _ => eqvL_refl _ _ | exact fun i _ => eqvL_rowNums rfl _ i | apply And.intro)))
  · rintro en ⟨hn, hb, he⟩
    refine HTg.pre (WP := wpL Try.prog _) (fun h hq => wpL_mono h hq) he (HTL.loopThen lp46 (is46_loop c n s hn ((c 40).I, (c 41).I)) ?_ ?_)
    · intro en he
      have he : rfGo s n 0 ((c 40).I, (c 41).I).1 ((c 40).I, (c 41).I).2 = true := he
      refine HTL.runX ebTab mixed (n := 300) (by decide) (within_drop in46 6) (by decide) fun τ0 => holds_of_eq (is46_tail τ0) (holds_leaf fun _ => ?_)
      rw [hb, he]
      all_goals (repeat' (first | exact trivial | exact rfl | exact TS.eqv_refl _ _ | exact len_app _ _ | exact rows_appI | exact fun _ _ => eqvL_refl _ _ | exact fun i _ => eqvL_rowNums rfl _ i | apply And.intro))
    · intro en he _
      have he : rfGo s n 0 ((c 40).I, (c 41).I).1 ((c 40).I, (c 41).I).2 = en.ab 0 0 := he
      rw [hb, he]
      all_goals (repeat' (first | exact trivial | exact rfl | exact TS.eqv_refl _ _ | exact len_app _ _ | exact rows_appI | exact fun _ _ => eqvL_refl _ _ | exact fun i _ => eqvL_rowNums rfl _ i | apply And.intro))
  · intro en he _
    have he : rfB c n s = en.ab 0 0 := he
    rw [he]
    all_goals (repeat' (first | exact trivial | exact rfl | exact TS.eqv_refl _ _ | exact len_app _ _ | exact rows_appI | exact fun _ _ => eqvL_refl _ _ | exact fun i _ => eqvL_rowNums rfl _ i | apply And.intro))
end Go.Proofs.Ytnfmdpelafaoaaa
