/- MapsFold: of every row of increments: the map that they make of the first one, or that one of them isn't right.
   Conditions: none. -/
import Derived.Test.YtobknnmalnfknaaMf
set_option linter.unusedSimpArgs false
set_option linter.unusedVariables false
namespace Go.Proofs.Ytobknnmalnfknaa
open Go.Eng Go.RowKit Go.Joins Go.ChangeShapes Go.WideShapes
set_option maxRecDepth 100000
noncomputable def body12 : Code := Try.f12.body.getD .skip
noncomputable def x12 : Code := lp ((flat body12).getD 8 .skip)
theorem in12 : Within Try.prog 12 Try.f12.ntmps body12 := ⟨Try.f12, body12, Try.func12, by kernel_rfl, rfl, fun _ h => h⟩
theorem in12x : Within Try.prog 12 Try.f12.ntmps x12 := by
  have h : (flat body12)[8]? = some (.block 0 (.loop x12)) := by kernel_rfl
  exact within_loop (within_block (within_at in12 8 h))
theorem g_pre (len : Int) (x : Nat → I3) (τ0 : Tm) : codeT Try.prog mfT 300 12 Try.f12.ntmps (ofL ((flat body12).take 8)) ([(0, .sl 0)] ++ τ0) (mkHeap [(0, .lst (.sym len) 3 (xRows x) none)]) 1 (outF [2] [0, 2, 3, 4, 5, 6, 7] [23, 29] [0] 1) =
  .ite (decide (len > 70)) (.leaf ⟨.ret, [(2, .bool (.lit true))], [], 0⟩) (.must (decide ((0 + len) * 16 ≤ 1099511627776 ∧ 0 + len ≤ 1099511627776)) (.must (decide (0 + len < 1000000 ∧ ∀ (i : Nat), i < (0 + len).toNat →
  incRowB (catRows (SI.lit 0) (fun (x : Nat) => []) (xRows x) i) = true)) (.defI ((foldM (fun (i : Nat) ↦ incOf (catRows (SI.lit 0) (fun (x : Nat) => []) (xRows x) i)) (0 + len).toNat).getD mp0).e fun z0 => .defI (((foldM
  (fun (i : Nat) ↦ incOf (catRows (SI.lit 0) (fun (x : Nat) => []) (xRows x) i)) (0 + len).toNat).getD mp0).w 0) fun z1 => .defI (((foldM (fun (i : Nat) ↦ incOf (catRows (SI.lit 0) (fun (x : Nat) => []) (xRows x) i)) (0 +
  len).toNat).getD mp0).h 0) fun z2 => .defI (((foldM (fun (i : Nat) ↦ incOf (catRows (SI.lit 0) (fun (x : Nat) => []) (xRows x) i)) (0 + len).toNat).getD mp0).w 1) fun z3 => .defI (((foldM (fun (i : Nat) ↦ incOf (catRows
  (SI.lit 0) (fun (x : Nat) => []) (xRows x) i)) (0 + len).toNat).getD mp0).h 1) fun z4 => .defI (((foldM (fun (i : Nat) ↦ incOf (catRows (SI.lit 0) (fun (x : Nat) => []) (xRows x) i)) (0 + len).toNat).getD mp0).w 2) fun
  z5 => .defI (((foldM (fun (i : Nat) ↦ incOf (catRows (SI.lit 0) (fun (x : Nat) => []) (xRows x) i)) (0 + len).toNat).getD mp0).h 2) fun z6 => .defI (((foldM (fun (i : Nat) ↦ incOf (catRows (SI.lit 0) (fun (x : Nat) =>
  []) (xRows x) i)) (0 + len).toNat).getD mp0).w 3) fun z7 => .defI (((foldM (fun (i : Nat) ↦ incOf (catRows (SI.lit 0) (fun (x : Nat) => []) (xRows x) i)) (0 + len).toNat).getD mp0).h 3) fun z8 => .defI (((foldM (fun (i :
  Nat) ↦ incOf (catRows (SI.lit 0) (fun (x : Nat) => []) (xRows x) i)) (0 + len).toNat).getD mp0).w 4) fun z9 => .defI (((foldM (fun (i : Nat) ↦ incOf (catRows (SI.lit 0) (fun (x : Nat) => []) (xRows x) i)) (0 +
  len).toNat).getD mp0).h 4) fun z10 => .defI (codeF (foldM (fun (i : Nat) ↦ incOf (catRows (SI.lit 0) (fun (x : Nat) => []) (xRows x) i)) (0 + len).toNat)) fun z11 => .leaf ⟨.normal, [(0, .sl 0), (2, .bool (.lit false)),
  (3, .ptr 23 0), (4, .int .i64 (.sym z11)), (5, .ptr 29 0), (6, .bool (.lit true)), (7, .int .i64 (.lit 0))], [(23, some (.box [.int .u32 (.sym z0), .bool (.sym (((foldM (fun (i : Nat) ↦ incOf (catRows (SI.lit 0) (fun (x
  : Nat) => []) (xRows x) i)) (0 + len).toNat).getD mp0).u 0)), .int .i64 (.sym z1), .int .u8 (.sym z2), .bool (.sym (((foldM (fun (i : Nat) ↦ incOf (catRows (SI.lit 0) (fun (x : Nat) => []) (xRows x) i)) (0 +
  len).toNat).getD mp0).u 1)), .int .i64 (.sym z3), .int .u8 (.sym z4), .bool (.sym (((foldM (fun (i : Nat) ↦ incOf (catRows (SI.lit 0) (fun (x : Nat) => []) (xRows x) i)) (0 + len).toNat).getD mp0).u 2)), .int .i64 (.sym
  z5), .int .u8 (.sym z6), .bool (.sym (((foldM (fun (i : Nat) ↦ incOf (catRows (SI.lit 0) (fun (x : Nat) => []) (xRows x) i)) (0 + len).toNat).getD mp0).u 3)), .int .i64 (.sym z7), .int .u8 (.sym z8), .bool (.sym (((foldM
  (fun (i : Nat) ↦ incOf (catRows (SI.lit 0) (fun (x : Nat) => []) (xRows x) i)) (0 + len).toNat).getD mp0).u 4)), .int .i64 (.sym z9), .int .u8 (.sym z10)])), (29, some (.box [.int .u32 (.lit 1), .bool (.lit true), .int
  .i64 (.lit 8), .int .u8 (.lit 0), .bool (.lit true), .int .i64 (.lit 8), .int .u8 (.lit 1), .bool (.lit true), .int .i64 (.lit 8), .int .u8 (.lit 2), .bool (.lit true), .int .i64 (.lit 8), .int .u8 (.lit 3), .bool (.lit
  true), .int .i64 (.lit 8), .int .u8 (.lit 0)]))], 0⟩))) := by kernel_rfl

theorem g_x (len i c : Int) (ok : Bool) (x : Nat → I3) (d q0 r0 q1 r1 q2 r2 q3 r3 q4 r4 : Int) (p0 p1 p2 p3 p4 : Bool) (e w0 h0 w1 h1 w2 h2 w3 h3 w4 h4 : Int) (u0 u1 u2 u3 u4 : Bool) (τ0 : Tm) : codeT Try.prog mfT 300 12 Try.f12.ntmps x12 ([(0, .sl 0), (2, .bool (.lit false)), (3, .ptr 1 0), (4, .int .i64 (.sym c)), (5, .ptr 2 0), (6, .bool (.sym ok)), (7, .int .i64 (.sym i))] ++ τ0) (mkHeap [(0, .lst (.sym len) 3 (xRows x) none), (1, .box [.int .u32 (.sym d), .bool (.sym p0), .int .i64 (.sym q0), .int .u8 (.sym r0), .bool (.sym p1), .int .i64 (.sym q1), .int .u8 (.sym r1), .bool (.sym p2), .int .i64 (.sym q2), .int .u8 (.sym r2), .bool (.sym p3), .int .i64 (.sym q3), .int .u8 (.sym r3), .bool (.sym p4), .int .i64 (.sym q4), .int .u8 (.sym r4)]), (2, .box [.int .u32 (.sym e), .bool (.sym u0), .int .i64 (.sym w0), .int .u8 (.sym h0), .bool (.sym u1), .int .i64 (.sym w1), .int .u8 (.sym h1), .bool (.sym u2), .int .i64 (.sym w2), .int .u8 (.sym h2), .bool (.sym u3), .int .i64 (.sym w3), .int .u8 (.sym h3), .bool (.sym u4), .int .i64 (.sym w4), .int .u8 (.sym h4)])]) 3 (outF [2] [0, 2, 3, 4, 5, 6, 7] [2] [0, 1] 3) =
  .ite (decide (i < len)) (.ite ok (.must (decide (0 ≤ i ∧ i < len)) (.must (decide (0 ≤ i ∧ i < len)) (.defI (x i.toNat).fst fun z0 => .defI (x i.toNat).snd.fst fun z1 => .defI (x i.toNat).snd.snd fun z2 => .must (decide
  (z1 ≥ 0)) (.defB (apOk e w0 h0 w1 h1 w2 h2 w3 h3 w4 h4 z0 z1 z2) fun z3 => .defI (bif z3 then e + 1 else 0) fun z4 => .defI (bif z3 then bif z1 == 0 && z0 == 3 then z2 else w0 else 0) fun z5 => .defI (bif z3 then h0 else
  0) fun z6 => .defI (bif z3 then bif z1 == 1 && z0 == 3 then z2 else w1 else 0) fun z7 => .defI (bif z3 then h1 else 0) fun z8 => .defI (bif z3 then bif z1 == 2 && z0 == 3 then z2 else w2 else 0) fun z9 => .defI (bif z3
  then h2 else 0) fun z10 => .defI (bif z3 then bif z1 == 3 && z0 == 3 then z2 else w3 else 0) fun z11 => .defI (bif z3 then h3 else 0) fun z12 => .defI (bif z3 then bif z1 == 4 && z0 == 3 then z2 else w4 else 0) fun z13
  => .defI (bif z3 then h4 else 0) fun z14 => .defI (IntKind.i64.wrap (i + 1)) fun z15 => .leaf ⟨.normal, [(0, .sl 0), (2, .bool (.lit false)), (3, .ptr 1 0), (4, .int .i64 (.sym c)), (5, .ptr 2 0), (6, .bool (.sym z3)),
  (7, .int .i64 (.sym z15))], [(2, some (.box [.int .u32 (.sym z4), .bool (.sym (bif z3 then bif z1 == 0 && z0 == 1 then true else bif z1 == 0 && z0 == 2 then false else u0 else false)), .int .i64 (.sym z5), .int .u8 (.sym
  z6), .bool (.sym (bif z3 then bif z1 == 1 && z0 == 1 then true else bif z1 == 1 && z0 == 2 then false else u1 else false)), .int .i64 (.sym z7), .int .u8 (.sym z8), .bool (.sym (bif z3 then bif z1 == 2 && z0 == 1 then
  true else bif z1 == 2 && z0 == 2 then false else u2 else false)), .int .i64 (.sym z9), .int .u8 (.sym z10), .bool (.sym (bif z3 then bif z1 == 3 && z0 == 1 then true else bif z1 == 3 && z0 == 2 then false else u3 else
  false)), .int .i64 (.sym z11), .int .u8 (.sym z12), .bool (.sym (bif z3 then bif z1 == 4 && z0 == 1 then true else bif z1 == 4 && z0 == 2 then false else u4 else false)), .int .i64 (.sym z13), .int .u8 (.sym z14)]))],
  0⟩)))) (.leaf ⟨.exit 0, [(0, .sl 0), (2, .bool (.lit false)), (3, .ptr 1 0), (4, .int .i64 (.sym c)), (5, .ptr 2 0), (6, .bool (.sym ok)), (7, .int .i64 (.sym i))], [(2, some (.box [.int .u32 (.sym e), .bool (.sym u0),
  .int .i64 (.sym w0), .int .u8 (.sym h0), .bool (.sym u1), .int .i64 (.sym w1), .int .u8 (.sym h1), .bool (.sym u2), .int .i64 (.sym w2), .int .u8 (.sym h2), .bool (.sym u3), .int .i64 (.sym w3), .int .u8 (.sym h3), .bool
  (.sym u4), .int .i64 (.sym w4), .int .u8 (.sym h4)]))], 0⟩)) (.leaf ⟨.exit 0, [(0, .sl 0), (2, .bool (.lit false)), (3, .ptr 1 0), (4, .int .i64 (.sym c)), (5, .ptr 2 0), (6, .bool (.sym ok)), (7, .int .i64 (.sym i))],
  [(2, some (.box [.int .u32 (.sym e), .bool (.sym u0), .int .i64 (.sym w0), .int .u8 (.sym h0), .bool (.sym u1), .int .i64 (.sym w1), .int .u8 (.sym h1), .bool (.sym u2), .int .i64 (.sym w2), .int .u8 (.sym h2), .bool
  (.sym u3), .int .i64 (.sym w3), .int .u8 (.sym h3), .bool (.sym u4), .int .i64 (.sym w4), .int .u8 (.sym h4)]))], 0⟩) := by kernel_rfl

theorem g_tail (len i c : Int) (ok : Bool) (x : Nat → I3) (d q0 r0 q1 r1 q2 r2 q3 r3 q4 r4 : Int) (p0 p1 p2 p3 p4 : Bool) (e w0 h0 w1 h1 w2 h2 w3 h3 w4 h4 : Int) (u0 u1 u2 u3 u4 : Bool) (τ0 : Tm) : codeT Try.prog mfT 300 12 Try.f12.ntmps (ofL ((flat body12).drop 9)) ([(0, .sl 0), (2, .bool (.lit false)), (3, .ptr 1 0), (4, .int .i64 (.sym c)), (5, .ptr 2 0), (6, .bool (.sym ok)), (7, .int .i64 (.sym i))] ++ τ0) (mkHeap [(0, .lst (.sym len) 3 (xRows x) none), (1, .box [.int .u32 (.sym d), .bool (.sym p0), .int .i64 (.sym q0), .int .u8 (.sym r0), .bool (.sym p1), .int .i64 (.sym q1), .int .u8 (.sym r1), .bool (.sym p2), .int .i64 (.sym q2), .int .u8 (.sym r2), .bool (.sym p3), .int .i64 (.sym q3), .int .u8 (.sym r3), .bool (.sym p4), .int .i64 (.sym q4), .int .u8 (.sym r4)]), (2, .box [.int .u32 (.sym e), .bool (.sym u0), .int .i64 (.sym w0), .int .u8 (.sym h0), .bool (.sym u1), .int .i64 (.sym w1), .int .u8 (.sym h1), .bool (.sym u2), .int .i64 (.sym w2), .int .u8 (.sym h2), .bool (.sym u3), .int .i64 (.sym w3), .int .u8 (.sym h3), .bool (.sym u4), .int .i64 (.sym w4), .int .u8 (.sym h4)])]) 3 (outF [2] [] [] [] 3) =
  .ite (!ok) (.leaf ⟨.ret, [(2, .bool (.sym (c == 40)))], [], 0⟩) (.ite (c == 0) (.ite (d == e && (p0 == u0 && (q0 == w0 && r0 == h0) && (p1 == u1 && (q1 == w1 && r1 == h1) && (p2 == u2 && (q2 == w2 && r2 == h2) && (p3 ==
  u3 && (q3 == w3 && r3 == h3) && (p4 == u4 && (q4 == w4 && r4 == h4))))))) (.defI (IntKind.u32.wrap len) fun z0 => .defI (IntKind.u32.wrap (z0 + 1)) fun z1 => .leaf ⟨.ret, [(2, .bool (.sym (d == z1)))], [], 0⟩) (.leaf
  ⟨.ret, [(2, .bool (.lit false))], [], 0⟩)) (.leaf ⟨.ret, [(2, .bool (.lit false))], [], 0⟩)) := by kernel_rfl

theorem at_cat (x : Nat → I3) : (fun (i : Nat) => incOf (catRows (SI.lit 0) (fun (x : Nat) => []) (xRows x) i)) = x := by
  funext i
  have : Nat.blt i (SI.lit 0).v.toNat = false := rfl
  simp only [catRows, this]
  rfl
theorem row_cat (x : Nat → I3) (i : Nat) : incRowB (catRows (SI.lit 0) (fun (x : Nat) => []) (xRows x) i) = decide (0 ≤ (x i).2.1) := by
  have : Nat.blt i (SI.lit 0).v.toNat = false := rfl
  simp only [catRows, this]
  rfl
def K12 (c : Int) (ok : Bool) (i : Int) : Tm := [(0, .sl 0), (2, .bool (.lit false)), (3, .ptr 1 0), (4, .int .i64 (.sym c)), (5, .ptr 2 0), (6, .bool (.sym ok)), (7, .int .i64 (.sym i))]
def L12 (len : Int) (x : Nat → I3) (a b : Mp) : List (Nat × AObj) := [(0, .lst (.sym len) 3 (xRows x) none), (1, .box a.cells), (2, .box b.cells)]
theorem foldM_e {x : Nat → I3} : ∀ {n : Nat} {m : Mp}, foldM x n = some m → m.e = n + 1
  | 0, m, h => by cases h; rfl
  | n + 1, m, h => by
    simp only [foldM] at h
    split at h
    · rename_i m' hm'
      cases hok : m'.ok (x n) with
      | true =>
        rw [hok] at h
        cases h
        show m'.e + 1 = _
        rw [foldM_e hm']
        simp
      | false => rw [hok] at h; cases h
    · cases h
abbrev End12 (len : Int) (x : Nat → I3) (c : Int) (a : Mp) (ex : Ex) (m' : Nat) (κ : Tm) (h : Heap) : Prop := ex = .exit 0 ∧ ∃ i, m' = 3 ∧ κ = K12 c (foldM x len.toNat).isSome i ∧ h = mkHeap (L12 len x a ((foldM x len.toNat).getD mp0))
section
variable (len : Int) (x : Nat → I3)
theorem tm12 {c : Int} {ok : Bool} {i : Int} {τ : Tm} (h : τ = K12 c ok i) : TmsOk 3 id τ (K12 c ok i) := by
  subst h
  exact ⟨⟨⟨_, rfl, fun _ _ => rfl⟩, rfl⟩, ⟨⟨_, rfl, fun _ _ => rfl⟩, rfl⟩, ⟨⟨_, rfl, fun _ _ => rfl⟩, rfl⟩, ⟨⟨_, rfl, fun _ _ => rfl⟩, rfl⟩, ⟨⟨_, rfl, fun _ _ => rfl⟩, rfl⟩, ⟨⟨_, rfl, fun _ _ => rfl⟩, rfl⟩, ⟨⟨_, rfl, fun _ _ => rfl⟩, rfl⟩, trivial⟩
theorem loop12 (hl : len ≤ 70) (hx : ∀ i : Nat, i < len.toNat → 0 ≤ (x i).2.1) (c : Int) (a : Mp) (i : Int) (hi : 0 ≤ i) (hle : i ≤ len ∨ i = 0) : HT Try.prog Try.f12.ntmps 0 (.loop x12) 3 (K12 c (foldM x i.toNat).isSome i) (mkHeap (L12 len x a ((foldM x i.toNat).getD mp0))) (End12 len x c a) := by
  refine HT.loop (D := Int) (fun i => (len - i).toNat) (fun _ => 3) (fun i => K12 c (foldM x i.toNat).isSome i) (fun i => mkHeap (L12 len x a ((foldM x i.toNat).getD mp0))) (fun i => 0 ≤ i ∧ (i ≤ len ∨ i = 0)) (fun _ => End12 len x c a) ?_ i ⟨hi, hle⟩
  rintro i ⟨hi, hle⟩
  generalize hm : (foldM x i.toNat).getD mp0 = m
  generalize hok : (foldM x i.toNat).isSome = ok
  refine HT.runF mfTab mixed (n := 300) in12x [2] [0, 2, 3, 4, 5, 6, 7] [2] [0, 1] (len := 3) (by decide) rfl fun τ0 => holds_of_eq (g_x len i c ok x a.e (a.w 0) (a.h 0) (a.w 1) (a.h 1) (a.w 2) (a.h 2) (a.w 3) (a.h 3) (a.w 4) (a.h 4) (a.u 0) (a.u 1) (a.u 2) (a.u 3) (a.u 4) m.e (m.w 0) (m.h 0) (m.w 1) (m.h 1) (m.w 2) (m.h 2) (m.w 3) (m.h 3) (m.w 4) (m.h 4) (m.u 0) (m.u 1) (m.u 2) (m.u 3) (m.u 4) τ0) ?_
  refine holds_ite (fun hlt => holds_ite (fun ho => ?_) fun ho => ?_) fun hge => ?_
  · have hlt : i < len := of_decide_eq_true hlt
    have hmu : decide (0 ≤ i ∧ i < len) = true := decide_eq_true ⟨hi, hlt⟩
    refine holds_must hmu (holds_must hmu (holds_inI (holds_inI (holds_inI (holds_must (decide_eq_true (hx i.toNat (by omega))) (holds_inB ?_))))))
    repeat refine holds_inI ?_
    have hw : IntKind.i64.wrap (i + 1) = i + 1 := IntWalk.i64_in _ (by omega)
    rw [hw]
    have e1 : (i + 1).toNat = i.toNat + 1 := by omega
    have hs : foldM x i.toNat = some m := by
      cases hf : foldM x i.toNat with
      | none => rw [hf, ho] at hok; cases hok
      | some m' => rw [hf] at hm; exact congrArg some hm
    have hn : foldM x (i + 1).toNat = bif m.ok (x i.toNat) then some (m.next (x i.toNat)) else none := by
      rw [e1]; simp only [foldM, hs]
    cases hok2 : apOk m.e (m.w 0) (m.h 0) (m.w 1) (m.h 1) (m.w 2) (m.h 2) (m.w 3) (m.h 3) (m.w 4) (m.h 4) (x i.toNat).1 (x i.toNat).2.1 (x i.toNat).2.2 with
    | true =>
      have hok' : m.ok (x i.toNat) = true := hok2
      rw [hok', cond_true] at hn
      refine holds_leaf ⟨3, id, _, _, fun _ _ => rfl, Reset.of (l := L12 len x a (m.next (x i.toNat))) (κ' := K12 c true (i + 1)) (tm12 rfl)
        ⟨⟨rfl, .inl ⟨_, rfl, sameLst rfl (xRows_plain x)⟩⟩, ⟨rfl, .inl ⟨_, rfl, Eng.sameBox rfl (fun _ _ => rfl) rfl⟩⟩, ⟨rfl, .inl ⟨_, rfl, Eng.sameBox rfl (fun _ _ => rfl) rfl⟩⟩, trivial⟩ rfl, ?_⟩
      exact ⟨i + 1, ⟨by omega, .inl (by omega)⟩, by omega, rfl, by rw [hn]; rfl, by rw [hn]; rfl, fun _ _ _ _ h => h⟩
    | false =>
      have hok' : m.ok (x i.toNat) = false := hok2
      rw [hok', cond_false] at hn
      refine holds_leaf ⟨3, id, _, _, fun _ _ => rfl, Reset.of (l := L12 len x a mp0) (κ' := K12 c false (i + 1)) (tm12 rfl)
        ⟨⟨rfl, .inl ⟨_, rfl, sameLst rfl (xRows_plain x)⟩⟩, ⟨rfl, .inl ⟨_, rfl, Eng.sameBox rfl (fun _ _ => rfl) rfl⟩⟩, ⟨rfl, .inl ⟨_, rfl, Eng.sameBox rfl (fun _ _ => rfl) rfl⟩⟩, trivial⟩ rfl, ?_⟩
      exact ⟨i + 1, ⟨by omega, .inl (by omega)⟩, by omega, rfl, by rw [hn]; rfl, by rw [hn]; rfl, fun _ _ _ _ h => h⟩
  · have hlt : i < len := of_decide_eq_true hlt
    have hnone : foldM x i.toNat = none := by
      cases hf : foldM x i.toNat with
      | none => rfl
      | some m' => rw [hf, ho] at hok; cases hok
    have hN := foldM_none hnone len.toNat (by omega)
    refine holds_leaf ⟨3, id, _, _, fun _ _ => rfl, Reset.of (l := L12 len x a m) (κ' := K12 c ok i) (tm12 rfl)
        ⟨⟨rfl, .inl ⟨_, rfl, sameLst rfl (xRows_plain x)⟩⟩, ⟨rfl, .inl ⟨_, rfl, Eng.sameBox rfl (fun _ _ => rfl) rfl⟩⟩, ⟨rfl, .inl ⟨_, rfl, Eng.sameBox rfl (fun _ _ => rfl) rfl⟩⟩, trivial⟩ rfl, rfl, i, rfl, ?_, ?_⟩
    · rw [hN, ho]; rfl
    · rw [hN, ← hm, hnone]
  · have hge : ¬ i < len := of_decide_eq_false hge
    have e : len.toNat = i.toNat := by omega
    refine holds_leaf ⟨3, id, _, _, fun _ _ => rfl, Reset.of (l := L12 len x a m) (κ' := K12 c ok i) (tm12 rfl)
        ⟨⟨rfl, .inl ⟨_, rfl, sameLst rfl (xRows_plain x)⟩⟩, ⟨rfl, .inl ⟨_, rfl, Eng.sameBox rfl (fun _ _ => rfl) rfl⟩⟩, ⟨rfl, .inl ⟨_, rfl, Eng.sameBox rfl (fun _ _ => rfl) rfl⟩⟩, trivial⟩ rfl, rfl, i, rfl, ?_, ?_⟩
    · rw [e, hok]
    · rw [e, hm]
theorem g_rest (c : Int) (i : Int) (hl : 0 ≤ len ∧ len ≤ 70) : HTL Try.prog Try.f12.ntmps 0 ((flat body12).drop 9) 3 (K12 (codeF (foldM x len.toNat)) (foldM x len.toNat).isSome i) (mkHeap (L12 len x ((foldM x len.toNat).getD mp0) ((foldM x len.toNat).getD mp0))) fun ex m' κ' h' => ex = .ret ∧ tfind 2 κ' = some (.bool (.lit true)) := by
  generalize hf : foldM x len.toNat = o
  have hm : ∀ m, o = some m → m.e = len + 1 := fun m e => by
    rw [foldM_e (hf.trans e)]
    omega
  generalize hg : o.getD mp0 = m
  refine HTL.runF mfTab mixed (n := 300) (by decide) (within_drop in12 9) [2] [] [] [] (len := 3) (by decide) rfl fun τ0 => holds_of_eq (g_tail len i (codeF o) o.isSome x m.e (m.w 0) (m.h 0) (m.w 1) (m.h 1) (m.w 2) (m.h 2) (m.w 3) (m.h 3) (m.w 4) (m.h 4) (m.u 0) (m.u 1) (m.u 2) (m.u 3) (m.u 4) m.e (m.w 0) (m.h 0) (m.w 1) (m.h 1) (m.w 2) (m.h 2) (m.w 3) (m.h 3) (m.w 4) (m.h 4) (m.u 0) (m.u 1) (m.u 2) (m.u 3) (m.u 4) τ0) ?_
  cases o with
  | none => exact holds_ite (fun _ => holds_leaf (ret_true rfl)) fun h => by cases h
  | some m' =>
    have hm' : m' = m := hg
    subst hm'
    have he := hm m' rfl
    refine holds_ite (fun h => by cases h) fun _ => holds_ite (fun _ => holds_ite (fun _ => holds_inI (holds_inI (holds_leaf (ret_true ?_)))) fun h => by simp at h) fun h => by cases h
    rw [IntWalk.u32_in len (by omega), IntWalk.u32_in (len + 1) (by omega), he]
    simp
theorem mfold_ht (h0 : 0 ≤ len) (hx : ∀ i : Nat, i < len.toNat → 0 ≤ (x i).2.1) : HT Try.prog Try.f12.ntmps 0 body12 1 (argTm 0 [.sl 0]) (mkHeap [(0, .lst (.sym len) 3 (xRows x) none)]) fun ex m' κ' h' => ex = .ret ∧ tfind 2 κ' = some (.bool (.lit true)) := by
  refine HT.cut 8 (R := fun ex m κ h => (ex = .normal ∧ len ≤ 70 ∧ m = 3 ∧ κ = K12 (codeF (foldM x len.toNat)) true 0 ∧ h = mkHeap (L12 len x ((foldM x len.toNat).getD mp0) mp1)) ∨ (ex = .ret ∧ tfind 2 κ = some (.bool (.lit true)))) ?_ ?_ ?_
  · refine HTL.runF mfTab mixed (n := 300) (by decide) (within_take in12 8) [2] [0, 2, 3, 4, 5, 6, 7] [23, 29] [0] (len := 1) (by decide) rfl fun τ0 => holds_of_eq (g_pre len x τ0) (holds_ite (fun h => holds_leaf ?_) fun h => ?_)
    · obtain ⟨m', φ, κ', h', q1, q2, q3⟩ := ret_true (t := 2) (b := .lit true) (fz := [0]) (h0 := mkHeap [(0, .lst (.sym len) 3 (xRows x) none)]) rfl
      exact ⟨m', φ, κ', h', q1, q2, .inr q3⟩
    · have hl : len ≤ 70 := by simpa using h
      simp only [at_cat, Int.zero_add]
      refine holds_must (decide_eq_true (by omega)) (holds_must (decide_eq_true ⟨by omega, fun i hi => ?_⟩) ?_)
      · rw [row_cat]
        exact decide_eq_true (hx i hi)
      · repeat refine holds_inI ?_
        exact holds_leaf ⟨3, lkN [0, 23, 29], _, _, fun _ h => absurd h (Nat.not_lt_zero _), Reset.of (l := L12 len x ((foldM x len.toNat).getD mp0) mp1) (κ' := K12 (codeF (foldM x len.toNat)) true 0) ⟨⟨⟨_, rfl, fun _ _ => rfl⟩, rfl⟩, ⟨⟨_, rfl, fun _ _ => rfl⟩, rfl⟩, ⟨⟨_, rfl, fun _ _ => rfl⟩, rfl⟩, ⟨⟨_, rfl, fun _ _ => rfl⟩, rfl⟩, ⟨⟨_, rfl, fun _ _ => rfl⟩, rfl⟩, ⟨⟨_, rfl, fun _ _ => rfl⟩, rfl⟩, ⟨⟨_, rfl, fun _ _ => rfl⟩, rfl⟩, trivial⟩
          ⟨⟨rfl, .inl ⟨_, rfl, sameLst rfl (xRows_plain x)⟩⟩, ⟨rfl, .inl ⟨_, rfl, Eng.sameBox rfl (fun _ _ => rfl) rfl⟩⟩, ⟨rfl, .inl ⟨_, rfl, Eng.sameBox rfl (fun _ _ => rfl) rfl⟩⟩, trivial⟩ rfl, .inl ⟨rfl, hl, rfl, rfl, rfl⟩⟩
  · rintro m κ h (⟨_, hl, rfl, rfl, rfl⟩ | ⟨h, _⟩)
    · have e : (flat body12).drop 8 = [.block 0 (.loop x12)] ++ (flat body12).drop 9 := by kernel_rfl
      rw [e]
      refine HTL.append (R := fun ex m' κ h => ex = .normal ∧ ∃ i, m' = 3 ∧ κ = K12 (codeF (foldM x len.toNat)) (foldM x len.toNat).isSome i ∧ h = mkHeap (L12 len x ((foldM x len.toNat).getD mp0) ((foldM x len.toNat).getD mp0))) (HTL.one (HT.block ((loop12 len x hl hx (codeF (foldM x len.toNat)) ((foldM x len.toNat).getD mp0) 0 (Int.le_refl 0) (.inr rfl)).mono ?_))) ?_ fun ex m κ h q hn => normal_no q.1 hn
      · rintro ex m κ h ⟨rfl, q⟩
        exact ⟨rfl, q⟩
      · rintro m' κ h ⟨_, i, rfl, rfl, rfl⟩
        exact g_rest len x 0 i ⟨h0, hl⟩
    · cases h
  · rintro ex m κ h (⟨rfl, _⟩ | q) hn
    · exact absurd trivial hn
    · exact q
end
theorem res12 : Try.f12.results.toList = [.tmp 2] := by kernel_rfl
theorem le12 : Nat.ble 1 Try.f12.ntmps = true := by kernel_rfl
theorem body12_eq : Try.f12.body = some body12 := by kernel_rfl
theorem cells31 : [PK.int .u8, PK.int .u8, PK.int .i64].length = Try.prog.cellsOf 31 := by kernel_rfl
theorem mfold_c {W : World} {hd : Option Addr × Nat × Nat} {n : Nat → Nat → Int} {b : Nat → Nat → Bool} (h : sliceOf W hd hd.2.1 3 (fun i => skel (n i) (b i) [.int .u8, .int .u8, .int .i64] 0)) (hx : ∀ i, i < hd.2.1 → 0 ≤ n i 1) :
    Calls Try.prog 12 #[.slice hd.1 hd.2.1 hd.2.2] W fun e W' => e = .returned (.bool true) ∧ Below W.heap.size W W' := by
  refine law_ht (args := [.sl 0]) (l := [(0, .lst (.sym hd.2.1) 3 (xRows fun i => (n i 0, n i 1, n i 2)) none)]) (m := 1) (hdr := fun _ => hd) Try.func12 body12_eq le12 res12 (fun p hp => ?_) (mfold_ht hd.2.1 (fun i => (n i 0, n i 1, n i 2)) (by omega) fun i hi => hx i (by omega)) (fun E' hE => ?_)
  · rw [List.mem_singleton.1 hp]
    exact ⟨Nat.zero_lt_one, _, _, _, rfl, h⟩
  · have e := (hE 0 Nat.zero_lt_one).2.1
    simp only [denL, den, e]
set_option maxRecDepth 100000 in
theorem mfold_lifted (os : Os) (started : os.Started) (H : Type) (enc : TypeId × Value → H) :
    ReturnsInHanded {} Try.checked os 12 .any (Rows.mapsFoldSpec.pre6 enc Try.prog Try.f12 Rows.mapsFoldRow.domain false) (Rows.mapsFoldSpec.post enc Try.prog Try.f12 false true false false) := by
  refine law_lifted (C := Try.checked) Try.own started (by kernel_rfl) Try.func12
    (ChangeSpec.witness6 (enc := enc) (C := Try.checked) false ⟨#[], #[.slice none 0 0], []⟩ 8 (by kernel_rfl) (by kernel_rfl) (by kernel_rfl) (by kernel_rfl))
    Try.laidOut ?_ (B := 4) (by kernel_rfl) (by kernel_rfl) rfl ?_ ?_
  · intro t ht
    rw [Try.params12] at ht
    have : t = 72 := by
      simp at ht
      first | exact ht | omega
    rcases this with rfl <;> exact ⟨by kernel_rfl, of_decide_eq_true (by kernel_rfl)⟩
  · intro ds h
    rw [Try.params12] at h
    match ds, h with
    | [d1], _ => rfl
  · intro W base args ds p hval hA hlt
    rw [Try.params12] at hA hval
    obtain ⟨v0, d0, rfl, rfl, h0⟩ := trodAll_one hA
    obtain ⟨hd, n, b, rfl, _, hs, hw⟩ := open_rows Try.underlying72 pk31 cells31 (by decide) (hval 0 72 v0 rfl rfl) h0
    exact mfold_c hs fun i hi => (wf_u8 (hw i hi).2.1).1

theorem mapsFold_holds : Rows.MapsFoldSaid :=
  OpenClaim.holds_of_wide 12 Try.f12 rfl rfl rfl rfl rfl rfl rfl ⟨rfl, rfl, rfl, rfl, rfl⟩ rfl rfl rfl rfl rfl (by kernel_rfl) Try.func12 (by kernel_rfl)
    (of_decide_eq_true (by kernel_rfl)) (by unfold Func.isWrapper; rw [if_neg (by decide +kernel)]; exact ⟨rfl, rfl⟩)
    (fun os started H enc _ => mfold_lifted os started H enc)

end Go.Proofs.Ytobknnmalnfknaa
