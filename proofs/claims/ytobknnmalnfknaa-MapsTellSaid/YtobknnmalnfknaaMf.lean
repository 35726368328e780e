/- Maps: what Fold makes.
   Conditions: none. -/
import Derived.Test.YtobknnmalnfknaaMe
set_option linter.unusedSimpArgs false
set_option linter.unusedVariables false
namespace Go.Proofs.Ytobknnmalnfknaa
open Go.Eng Go.RowKit Go.Joins Go.ChangeShapes Go.WideShapes
set_option maxRecDepth 100000
structure Mp where
  e : Int
  u : Nat → Bool
  w : Nat → Int
  h : Nat → Int
abbrev I3 := Int × Int × Int
def Mp.cells (m : Mp) : List AV := [.int .u32 (.sym m.e), .bool (.sym (m.u 0)), .int .i64 (.sym (m.w 0)), .int .u8 (.sym (m.h 0)), .bool (.sym (m.u 1)), .int .i64 (.sym (m.w 1)), .int .u8 (.sym (m.h 1)), .bool (.sym (m.u 2)), .int .i64 (.sym (m.w 2)), .int .u8 (.sym (m.h 2)), .bool (.sym (m.u 3)), .int .i64 (.sym (m.w 3)), .int .u8 (.sym (m.h 3)), .bool (.sym (m.u 4)), .int .i64 (.sym (m.w 4)), .int .u8 (.sym (m.h 4))]
def Mp.ok (m : Mp) (x : I3) : Bool := apOk m.e (m.w 0) (m.h 0) (m.w 1) (m.h 1) (m.w 2) (m.h 2) (m.w 3) (m.h 3) (m.w 4) (m.h 4) x.1 x.2.1 x.2.2
def Mp.next (m : Mp) (x : I3) : Mp := ⟨m.e + 1, fun i => bif x.2.1 == (i : Int) && x.1 == 1 then true else bif x.2.1 == (i : Int) && x.1 == 2 then false else m.u i, fun i => bif x.2.1 == (i : Int) && x.1 == 3 then x.2.2 else m.w i, m.h⟩
def mp1 : Mp := ⟨1, fun _ => true, fun _ => 8, fun i => match i with | 0 => 0 | 1 => 1 | 2 => 2 | 3 => 3 | _ => 0⟩
def mp0 : Mp := ⟨0, fun _ => false, fun _ => 0, fun _ => 0⟩
def foldM (x : Nat → I3) : Nat → Option Mp
  | 0 => some mp1
  | n + 1 => match foldM x n with
    | some m => bif m.ok (x n) then some (m.next (x n)) else none
    | none => none
def xRows (x : Nat → I3) : Nat → List AV := fun i => [.int .u8 (.sym (x i).1), .int .u8 (.sym (x i).2.1), .int .i64 (.sym (x i).2.2)]
theorem xRows_plain (x : Nat → I3) : PlainRows (xRows x) := fun _ => ⟨rfl, rfl⟩
noncomputable def body37 : Code := Try.f37.body.getD .skip
def lp : Code → Code
  | .block _ (.loop x) => x
  | c => c
noncomputable def x37 : Code := lp ((flat body37).getD 3 .skip)
theorem in37 : Within Try.prog 37 Try.f37.ntmps body37 := ⟨Try.f37, body37, Try.func37, by kernel_rfl, rfl, fun _ h => h⟩
theorem in37x : Within Try.prog 37 Try.f37.ntmps x37 := by
  have h : (flat body37)[3]? = some (.block 0 (.loop x37)) := by kernel_rfl
  exact within_loop (within_block (within_at in37 3 h))
theorem f_pre (len : Int) (x : Nat → I3) (τ0 : Tm) : codeT Try.prog mcT 300 37 Try.f37.ntmps (ofL ((flat body37).take 3)) ([(0, .sl 0)] ++ τ0) (mkHeap [(0, .lst (.sym len) 3 (xRows x) none)]) 1 (outR [2, 3] [] [2, 3, 4, 10, 11, 12] [1, 5] [0] 1) =
  .leaf ⟨.normal, [(2, .ptr 1 0), (3, .int .i64 (.lit 0)), (4, .ptr 5 0), (10, .sl 0), (11, .int .i64 (.sym len)), (12, .int .i64 (.lit 0))], [(1, some (.box [.int .u32 (.lit 0), .bool (.lit false), .int .i64 (.lit 0),
  .int .u8 (.lit 0), .bool (.lit false), .int .i64 (.lit 0), .int .u8 (.lit 0), .bool (.lit false), .int .i64 (.lit 0), .int .u8 (.lit 0), .bool (.lit false), .int .i64 (.lit 0), .int .u8 (.lit 0), .bool (.lit false), .int
  .i64 (.lit 0), .int .u8 (.lit 0)])), (5, some (.box [.int .u32 (.lit 1), .bool (.lit true), .int .i64 (.lit 8), .int .u8 (.lit 0), .bool (.lit true), .int .i64 (.lit 8), .int .u8 (.lit 1), .bool (.lit true), .int .i64
  (.lit 8), .int .u8 (.lit 2), .bool (.lit true), .int .i64 (.lit 8), .int .u8 (.lit 3), .bool (.lit true), .int .i64 (.lit 8), .int .u8 (.lit 0)]))], 0⟩ := by kernel_rfl

theorem f_x (len i : Int) (x : Nat → I3) (e w0 h0 w1 h1 w2 h2 w3 h3 w4 h4 : Int) (u0 u1 u2 u3 u4 : Bool) (τ0 : Tm) : codeT Try.prog mcT 300 37 Try.f37.ntmps x37 ([(2, .ptr 2 0), (3, .int .i64 (.lit 0)), (4, .ptr 1 0), (10, .sl 0), (11, .int .i64 (.sym len)), (12, .int .i64 (.sym i))] ++ τ0) (mkHeap [(0, .lst (.sym len) 3 (xRows x) none), (1, .box [.int .u32 (.sym e), .bool (.sym u0), .int .i64 (.sym w0), .int .u8 (.sym h0), .bool (.sym u1), .int .i64 (.sym w1), .int .u8 (.sym h1), .bool (.sym u2), .int .i64 (.sym w2), .int .u8 (.sym h2), .bool (.sym u3), .int .i64 (.sym w3), .int .u8 (.sym h3), .bool (.sym u4), .int .i64 (.sym w4), .int .u8 (.sym h4)]), (2, .box [.int .u32 (.lit 0), .bool (.lit false), .int .i64 (.lit 0), .int .u8 (.lit 0), .bool (.lit false), .int .i64 (.lit 0), .int .u8 (.lit 0), .bool (.lit false), .int .i64 (.lit 0), .int .u8 (.lit 0), .bool (.lit false), .int .i64 (.lit 0), .int .u8 (.lit 0), .bool (.lit false), .int .i64 (.lit 0), .int .u8 (.lit 0)])]) 3 (outR [2, 3] [2] [2, 3, 4, 10, 11, 12] [1, 2] [0] 3) =
  .ite (decide (i < len)) (.must (decide (0 ≤ i ∧ i < len)) (.must (decide (0 ≤ i ∧ i < len)) (.defI (x i.toNat).fst fun z0 => .defI (x i.toNat).snd.fst fun z1 => .defI (x i.toNat).snd.snd fun z2 => .must (decide (z1 ≥ 0))
  (.defB (apOk e w0 h0 w1 h1 w2 h2 w3 h3 w4 h4 z0 z1 z2) fun z3 => .defI (bif z3 then e + 1 else 0) fun z4 => .defI (bif z3 then bif z1 == 0 && z0 == 3 then z2 else w0 else 0) fun z5 => .defI (bif z3 then h0 else 0) fun z6
  => .defI (bif z3 then bif z1 == 1 && z0 == 3 then z2 else w1 else 0) fun z7 => .defI (bif z3 then h1 else 0) fun z8 => .defI (bif z3 then bif z1 == 2 && z0 == 3 then z2 else w2 else 0) fun z9 => .defI (bif z3 then h2
  else 0) fun z10 => .defI (bif z3 then bif z1 == 3 && z0 == 3 then z2 else w3 else 0) fun z11 => .defI (bif z3 then h3 else 0) fun z12 => .defI (bif z3 then bif z1 == 4 && z0 == 3 then z2 else w4 else 0) fun z13 => .defI
  (bif z3 then h4 else 0) fun z14 => .defI (bif z3 then 0 else 40) fun z15 => .ite (z15 != 0) (.leaf ⟨.ret, [(2, .ptr 2 0), (3, .int .i64 (.sym z15))], [(2, some (.box [.int .u32 (.lit 0), .bool (.lit false), .int .i64
  (.lit 0), .int .u8 (.lit 0), .bool (.lit false), .int .i64 (.lit 0), .int .u8 (.lit 0), .bool (.lit false), .int .i64 (.lit 0), .int .u8 (.lit 0), .bool (.lit false), .int .i64 (.lit 0), .int .u8 (.lit 0), .bool (.lit
  false), .int .i64 (.lit 0), .int .u8 (.lit 0)]))], 0⟩) (.defI (IntKind.i64.wrap (i + 1)) fun z16 => .leaf ⟨.normal, [(2, .ptr 2 0), (3, .int .i64 (.lit 0)), (4, .ptr 1 0), (10, .sl 0), (11, .int .i64 (.sym len)), (12,
  .int .i64 (.sym z16))], [(1, some (.box [.int .u32 (.sym z4), .bool (.sym (bif z3 then bif z1 == 0 && z0 == 1 then true else bif z1 == 0 && z0 == 2 then false else u0 else false)), .int .i64 (.sym z5), .int .u8 (.sym
  z6), .bool (.sym (bif z3 then bif z1 == 1 && z0 == 1 then true else bif z1 == 1 && z0 == 2 then false else u1 else false)), .int .i64 (.sym z7), .int .u8 (.sym z8), .bool (.sym (bif z3 then bif z1 == 2 && z0 == 1 then
  true else bif z1 == 2 && z0 == 2 then false else u2 else false)), .int .i64 (.sym z9), .int .u8 (.sym z10), .bool (.sym (bif z3 then bif z1 == 3 && z0 == 1 then true else bif z1 == 3 && z0 == 2 then false else u3 else
  false)), .int .i64 (.sym z11), .int .u8 (.sym z12), .bool (.sym (bif z3 then bif z1 == 4 && z0 == 1 then true else bif z1 == 4 && z0 == 2 then false else u4 else false)), .int .i64 (.sym z13), .int .u8 (.sym z14)])), (2,
  some (.box [.int .u32 (.lit 0), .bool (.lit false), .int .i64 (.lit 0), .int .u8 (.lit 0), .bool (.lit false), .int .i64 (.lit 0), .int .u8 (.lit 0), .bool (.lit false), .int .i64 (.lit 0), .int .u8 (.lit 0), .bool (.lit
  false), .int .i64 (.lit 0), .int .u8 (.lit 0), .bool (.lit false), .int .i64 (.lit 0), .int .u8 (.lit 0)]))], 0⟩))))) (.leaf ⟨.exit 0, [(2, .ptr 2 0), (3, .int .i64 (.lit 0)), (4, .ptr 1 0), (10, .sl 0), (11, .int .i64
  (.sym len)), (12, .int .i64 (.sym i))], [(1, some (.box [.int .u32 (.sym e), .bool (.sym u0), .int .i64 (.sym w0), .int .u8 (.sym h0), .bool (.sym u1), .int .i64 (.sym w1), .int .u8 (.sym h1), .bool (.sym u2), .int .i64
  (.sym w2), .int .u8 (.sym h2), .bool (.sym u3), .int .i64 (.sym w3), .int .u8 (.sym h3), .bool (.sym u4), .int .i64 (.sym w4), .int .u8 (.sym h4)])), (2, some (.box [.int .u32 (.lit 0), .bool (.lit false), .int .i64
  (.lit 0), .int .u8 (.lit 0), .bool (.lit false), .int .i64 (.lit 0), .int .u8 (.lit 0), .bool (.lit false), .int .i64 (.lit 0), .int .u8 (.lit 0), .bool (.lit false), .int .i64 (.lit 0), .int .u8 (.lit 0), .bool (.lit
  false), .int .i64 (.lit 0), .int .u8 (.lit 0)]))], 0⟩) := by kernel_rfl

theorem f_tail (len i : Int) (x : Nat → I3) (e w0 h0 w1 h1 w2 h2 w3 h3 w4 h4 : Int) (u0 u1 u2 u3 u4 : Bool) (τ0 : Tm) : codeT Try.prog mcT 300 37 Try.f37.ntmps (ofL ((flat body37).drop 4)) ([(2, .ptr 2 0), (3, .int .i64 (.lit 0)), (4, .ptr 1 0), (10, .sl 0), (11, .int .i64 (.sym len)), (12, .int .i64 (.sym i))] ++ τ0) (mkHeap [(0, .lst (.sym len) 3 (xRows x) none), (1, .box [.int .u32 (.sym e), .bool (.sym u0), .int .i64 (.sym w0), .int .u8 (.sym h0), .bool (.sym u1), .int .i64 (.sym w1), .int .u8 (.sym h1), .bool (.sym u2), .int .i64 (.sym w2), .int .u8 (.sym h2), .bool (.sym u3), .int .i64 (.sym w3), .int .u8 (.sym h3), .bool (.sym u4), .int .i64 (.sym w4), .int .u8 (.sym h4)]), (2, .box [.int .u32 (.lit 0), .bool (.lit false), .int .i64 (.lit 0), .int .u8 (.lit 0), .bool (.lit false), .int .i64 (.lit 0), .int .u8 (.lit 0), .bool (.lit false), .int .i64 (.lit 0), .int .u8 (.lit 0), .bool (.lit false), .int .i64 (.lit 0), .int .u8 (.lit 0), .bool (.lit false), .int .i64 (.lit 0), .int .u8 (.lit 0)])]) 3 (outR [2, 3] [2] [] [] [] 3) =
  .leaf ⟨.ret, [(2, .ptr 2 0), (3, .int .i64 (.lit 0))], [(2, some (.box [.int .u32 (.sym e), .bool (.sym u0), .int .i64 (.sym w0), .int .u8 (.sym h0), .bool (.sym u1), .int .i64 (.sym w1), .int .u8 (.sym h1), .bool (.sym
  u2), .int .i64 (.sym w2), .int .u8 (.sym h2), .bool (.sym u3), .int .i64 (.sym w3), .int .u8 (.sym h3), .bool (.sym u4), .int .i64 (.sym w4), .int .u8 (.sym h4)]))], 0⟩ := by kernel_rfl

def K37 (len i : Int) : Tm := [(2, .ptr 2 0), (3, .int .i64 (.lit 0)), (4, .ptr 1 0), (10, .sl 0), (11, .int .i64 (.sym len)), (12, .int .i64 (.sym i))]
def zBox : List AV := [.int .u32 (.lit 0), .bool (.lit false), .int .i64 (.lit 0), .int .u8 (.lit 0), .bool (.lit false), .int .i64 (.lit 0), .int .u8 (.lit 0), .bool (.lit false), .int .i64 (.lit 0), .int .u8 (.lit 0), .bool (.lit false), .int .i64 (.lit 0), .int .u8 (.lit 0), .bool (.lit false), .int .i64 (.lit 0), .int .u8 (.lit 0)]
def L37 (len : Int) (x : Nat → I3) (m : Mp) : List (Nat × AObj) := [(0, .lst (.sym len) 3 (xRows x) none), (1, .box m.cells), (2, .box zBox)]
def codeF (o : Option Mp) : Int := cond o.isSome 0 40
abbrev Ret37 (x : Nat → I3) (n : Nat) (ex : Ex) (m' : Nat) (κ : Tm) (h : Heap) : Prop := ex = .ret ∧ m' = 3 ∧ κ = [(2, .ptr 2 0), (3, .int .i64 (.sym (codeF (foldM x n))))] ∧ h = mkHeap [(2, .box ((foldM x n).getD mp0).cells)]
abbrev End37 (len : Int) (x : Nat → I3) (ex : Ex) (m' : Nat) (κ : Tm) (h : Heap) : Prop := (ex = .exit 0 ∧ ∃ m i, foldM x len.toNat = some m ∧ m' = 3 ∧ κ = K37 len i ∧ h = mkHeap (L37 len x m)) ∨ Ret37 x len.toNat ex m' κ h
theorem foldM_none {x : Nat → I3} {i : Nat} (h : foldM x i = none) : ∀ n, i ≤ n → foldM x n = none
  | 0, hn => by have : i = 0 := by omega
                subst this; exact h
  | n + 1, hn => by
    by_cases e : i = n + 1
    · subst e; exact h
    · simp only [foldM]
      rw [foldM_none h n (by omega)]
section
variable (len : Int) (x : Nat → I3)
set_option maxHeartbeats 4000000 in
theorem loop37 (hl : len < 1000000) (hx : ∀ i : Nat, i < len.toNat → 0 ≤ (x i).2.1) (i : Int) (m : Mp) (hi : 0 ≤ i) (hm : foldM x i.toNat = some m) : (i ≤ len ∨ i = 0) → HT Try.prog Try.f37.ntmps 1 (.loop x37) 3 (K37 len i) (mkHeap (L37 len x m)) (End37 len x) := by
  intro hle
  refine HT.loop (D := Int × Mp) (fun q => (len - q.1).toNat) (fun _ => 3) (fun q => K37 len q.1) (fun q => mkHeap (L37 len x q.2)) (fun q => 0 ≤ q.1 ∧ (q.1 ≤ len ∨ q.1 = 0) ∧ foldM x q.1.toNat = some q.2) (fun _ => End37 len x) ?_ (i, m) ⟨hi, hle, hm⟩
  rintro ⟨i, m⟩ ⟨hi, hle, hm⟩
  dsimp only at hi hm hle ⊢
  refine HT.runR mcTab mixed (n := 300) in37x [2, 3] [2] [2, 3, 4, 10, 11, 12] [1, 2] [0] (len := 3) (by decide) rfl fun τ0 => holds_of_eq (f_x len i x m.e (m.w 0) (m.h 0) (m.w 1) (m.h 1) (m.w 2) (m.h 2) (m.w 3) (m.h 3) (m.w 4) (m.h 4) (m.u 0) (m.u 1) (m.u 2) (m.u 3) (m.u 4) τ0) ?_
  refine holds_ite (fun hlt => ?_) fun hge => holds_leaf ?_
  · have hlt : i < len := of_decide_eq_true hlt
    have hmu : decide (0 ≤ i ∧ i < len) = true := decide_eq_true ⟨hi, hlt⟩
    refine holds_must hmu (holds_must hmu (holds_inI (holds_inI (holds_inI (holds_must (decide_eq_true (hx i.toNat (by omega))) (holds_inB ?_))))))
    have e1 : (i + 1).toNat = i.toNat + 1 := by omega
    cases hok : apOk m.e (m.w 0) (m.h 0) (m.w 1) (m.h 1) (m.w 2) (m.h 2) (m.w 3) (m.h 3) (m.w 4) (m.h 4) (x i.toNat).1 (x i.toNat).2.1 (x i.toNat).2.2 with
    | true =>
      have hok' : m.ok (x i.toNat) = true := hok
      repeat refine holds_inI ?_
      refine holds_ite (fun h => by simp at h) fun _ => ?_
      refine holds_inI (holds_leaf ?_)
      have hw : IntKind.i64.wrap (i + 1) = i + 1 := IntWalk.i64_in _ (by omega)
      rw [hw]
      refine ⟨3, id, _, _, fun _ _ => rfl, Reset.of (l := L37 len x (m.next (x i.toNat))) (κ' := K37 len (i + 1)) ⟨⟨⟨_, rfl, fun _ _ => rfl⟩, rfl⟩, ⟨⟨_, rfl, fun _ _ => rfl⟩, rfl⟩, ⟨⟨_, rfl, fun _ _ => rfl⟩, rfl⟩, ⟨⟨_, rfl, fun _ _ => rfl⟩, rfl⟩, ⟨⟨_, rfl, fun _ _ => rfl⟩, rfl⟩, ⟨⟨_, rfl, fun _ _ => rfl⟩, rfl⟩, trivial⟩
        ⟨⟨rfl, .inl ⟨_, rfl, sameLst rfl (xRows_plain x)⟩⟩, ⟨rfl, .inl ⟨_, rfl, Eng.sameBox rfl (fun _ _ => rfl) rfl⟩⟩, ⟨rfl, .inl ⟨_, rfl, Eng.sameBox rfl (fun _ _ => rfl) rfl⟩⟩, trivial⟩ rfl, ?_⟩
      refine ⟨(i + 1, m.next (x i.toNat)), ⟨by show 0 ≤ i + 1; omega, .inl (by show i + 1 ≤ len; omega), ?_⟩, by show (len - (i + 1)).toNat < (len - i).toNat; omega, rfl, rfl, rfl, fun _ _ _ _ h => h⟩
      show foldM x (i + 1).toNat = _
      rw [e1]
      simp only [foldM, hm, hok', cond_true]
    | false =>
      have hok' : m.ok (x i.toNat) = false := hok
      have hn : foldM x len.toNat = none := foldM_none (i := i.toNat + 1) (by simp only [foldM, hm, hok', cond_false]) _ (by omega)
      repeat refine holds_inI ?_
      refine holds_ite (fun _ => holds_leaf ?_) fun h => by simp at h
      refine ⟨3, id, _, _, fun _ _ => rfl, Reset.of (l := [(2, .box ((foldM x len.toNat).getD mp0).cells)]) (κ' := [(2, .ptr 2 0), (3, .int .i64 (.sym (codeF (foldM x len.toNat))))]) ⟨⟨⟨_, rfl, fun _ _ => rfl⟩, rfl⟩, ⟨⟨_, rfl, fun _ _ => by rw [hn]; rfl⟩, rfl⟩, trivial⟩
        ⟨⟨rfl, .inl ⟨_, rfl, Eng.sameBox rfl (fun _ _ => by rw [hn]; rfl) rfl⟩⟩, trivial⟩ rfl, .inr ⟨rfl, rfl, rfl, rfl⟩⟩
  · have hge : ¬ i < len := of_decide_eq_false hge
    have e : i.toNat = len.toNat := by omega
    refine ⟨3, id, _, _, fun _ _ => rfl, Reset.of (l := L37 len x m) (κ' := K37 len i) ⟨⟨⟨_, rfl, fun _ _ => rfl⟩, rfl⟩, ⟨⟨_, rfl, fun _ _ => rfl⟩, rfl⟩, ⟨⟨_, rfl, fun _ _ => rfl⟩, rfl⟩, ⟨⟨_, rfl, fun _ _ => rfl⟩, rfl⟩, ⟨⟨_, rfl, fun _ _ => rfl⟩, rfl⟩, ⟨⟨_, rfl, fun _ _ => rfl⟩, rfl⟩, trivial⟩
        ⟨⟨rfl, .inl ⟨_, rfl, sameLst rfl (xRows_plain x)⟩⟩, ⟨rfl, .inl ⟨_, rfl, Eng.sameBox rfl (fun _ _ => rfl) rfl⟩⟩, ⟨rfl, .inl ⟨_, rfl, Eng.sameBox rfl (fun _ _ => rfl) rfl⟩⟩, trivial⟩ rfl, .inl ⟨rfl, m, i, by rw [← e]; exact hm, rfl, rfl, rfl⟩⟩
theorem fold_ht (hl : len < 1000000) (hx : ∀ i : Nat, i < len.toNat → 0 ≤ (x i).2.1) : HT Try.prog Try.f37.ntmps 1 body37 1 (argTm 0 [.sl 0]) (mkHeap [(0, .lst (.sym len) 3 (xRows x) none)]) (Ret37 x len.toNat) := by
  refine HT.cut 3 (R := fun ex m κ h => ex = .normal ∧ m = 3 ∧ κ = K37 len 0 ∧ h = mkHeap (L37 len x mp1)) ?_ ?_ fun ex m κ h q hn => normal_no q.1 hn
  · refine HTL.runR mcTab mixed (n := 300) (by decide) (within_take in37 3) [2, 3] [] [2, 3, 4, 10, 11, 12] [1, 5] [0] (len := 1) (by decide) rfl fun τ0 => holds_of_eq (f_pre len x τ0) (holds_leaf ?_)
    exact ⟨3, lkN [0, 5, 1], _, _, (fun k hk => match k, hk with
      | 0, _ => rfl), Reset.of (l := L37 len x mp1) (κ' := K37 len 0) ⟨⟨⟨_, rfl, fun _ _ => rfl⟩, rfl⟩, ⟨⟨_, rfl, fun _ _ => rfl⟩, rfl⟩, ⟨⟨_, rfl, fun _ _ => rfl⟩, rfl⟩, ⟨⟨_, rfl, fun _ _ => rfl⟩, rfl⟩, ⟨⟨_, rfl, fun _ _ => rfl⟩, rfl⟩, ⟨⟨_, rfl, fun _ _ => rfl⟩, rfl⟩, trivial⟩
        ⟨⟨rfl, .inl ⟨_, rfl, sameLst rfl (xRows_plain x)⟩⟩, ⟨rfl, .inl ⟨_, rfl, Eng.sameBox rfl (fun _ _ => rfl) rfl⟩⟩, ⟨rfl, .inl ⟨_, rfl, Eng.sameBox rfl (fun _ _ => rfl) rfl⟩⟩, trivial⟩ rfl, rfl, rfl, rfl, rfl⟩
  · rintro m κ h ⟨_, rfl, rfl, rfl⟩
    have e : (flat body37).drop 3 = [.block 0 (.loop x37)] ++ (flat body37).drop 4 := by kernel_rfl
    rw [e]
    refine HTL.append (R := fun ex m' κ h => (ex = .normal ∧ ∃ m i, foldM x len.toNat = some m ∧ m' = 3 ∧ κ = K37 len i ∧ h = mkHeap (L37 len x m)) ∨ Ret37 x len.toNat ex m' κ h) (HTL.one (HT.block ((loop37 len x hl hx 0 mp1 (Int.le_refl 0) rfl (.inr rfl)).mono ?_))) ?_ ?_
    · rintro ex m κ h (⟨rfl, q⟩ | ⟨rfl, q⟩)
      · exact .inl ⟨rfl, q⟩
      · exact .inr ⟨rfl, q⟩
    · rintro m' κ h (⟨_, m, i, hm, rfl, rfl, rfl⟩ | ⟨q, _⟩)
      · refine HTL.runR mcTab mixed (n := 300) (by decide) (within_drop in37 4) [2, 3] [2] [] [] [] (len := 3) (by decide) rfl fun τ0 => holds_of_eq (f_tail len i x m.e (m.w 0) (m.h 0) (m.w 1) (m.h 1) (m.w 2) (m.h 2) (m.w 3) (m.h 3) (m.w 4) (m.h 4) (m.u 0) (m.u 1) (m.u 2) (m.u 3) (m.u 4) τ0) (holds_leaf ?_)
        refine ⟨3, id, _, _, fun _ _ => rfl, Reset.of (l := [(2, .box ((foldM x len.toNat).getD mp0).cells)]) (κ' := [(2, .ptr 2 0), (3, .int .i64 (.sym (codeF (foldM x len.toNat))))]) ⟨⟨⟨_, rfl, fun _ _ => rfl⟩, rfl⟩, ⟨⟨_, rfl, fun _ _ => by rw [hm]; rfl⟩, rfl⟩, trivial⟩
          ⟨⟨rfl, .inl ⟨_, rfl, Eng.sameBox rfl (fun _ _ => by rw [hm]; rfl) rfl⟩⟩, trivial⟩ rfl, rfl, rfl, rfl, rfl⟩
      · cases q
    · rintro ex m κ h (⟨rfl, _⟩ | q) hn
      · exact absurd trivial hn
      · exact q
end
theorem res37 : Try.f37.results.toList = [.cell 2 59, .tmp 3] := by kernel_rfl
theorem le37 : Nat.ble 1 Try.f37.ntmps = true := by kernel_rfl
theorem body37_eq : Try.f37.body = some body37 := by kernel_rfl
def foldV (x : Nat → I3) (n : Nat) : AV := .tup [.agg ((foldM x n).getD mp0).cells, .int .i64 (.sym (codeF (foldM x n)))]
theorem part59 (m : Mp) : partA Try.prog 59 m.cells 0 = some (.agg m.cells) := by kernel_rfl
theorem fold_std (len : Int) (x : Nat → I3) (hl : len < 1000000) (hx : ∀ i : Nat, i < len.toNat → 0 ≤ (x i).2.1) : StdN Try.prog 37 1 [(0, .lst (.sym len) 3 (xRows x) none)] [.sl 0] 3 [] (foldV x len.toNat) := by
  refine stdN_of_ht (args := [.sl 0]) Try.func37 body37_eq le37 rfl ((fold_ht len x hl hx).mono ?_)
  rintro ex m κ h ⟨rfl, rfl, rfl, rfl⟩
  refine ⟨fun i => by simp, rfl, (fun k o h => by cases h), [.agg ((foldM x len.toNat).getD mp0).cells, .int .i64 (.sym (codeF (foldM x len.toNat)))], fun τ0 => ?_, fun E => rfl⟩
  rw [res37]
  show (match hget 2 (mkHeap [(2, .box ((foldM x len.toNat).getD mp0).cells)]) with
    | some (.box cs) => match partA Try.prog 59 cs 0, some [AV.int .i64 (.sym (codeF (foldM x len.toNat)))] with
      | some v, some l => some (v :: l)
      | _, _ => none
    | _ => none) = _
  show (match partA Try.prog 59 ((foldM x len.toNat).getD mp0).cells 0, some [AV.int .i64 (.sym (codeF (foldM x len.toNat)))] with
      | some v, some l => some (v :: l)
      | _, _ => none) = _
  rw [part59]
def incOf : List AV → I3
  | [.int .u8 k, .int .u8 o, .int .i64 n] => (k.v, o.v, n.v)
  | _ => (0, 0, 0)
def incRowB : List AV → Bool
  | [.int .u8 _, .int .u8 o, .int .i64 _] => decide (0 ≤ o.v)
  | _ => false
def tokOf (h : Heap) : Option Nat → Option (List Nat)
  | none => some []
  | some g => match hget g h with
    | some .tok => some [g]
    | _ => none
def foldE : List AV → Heap → Option (Bool × FitN)
  | [.sl k], h => match hget k h with
    | some (.lst len 3 rows g) => match tokOf h g with
      | some toks => some (decide (len.v < 1000000 ∧ ∀ i : Nat, i < len.v.toNat → incRowB (rows i) = true),
          ⟨[k], toks, [.sl 0], [(0, .lst (.sym len.v) 3 (xRows fun i => incOf (rows i)) none)], 2, [], foldV (fun i => incOf (rows i)) len.v.toNat⟩)
      | none => none
    | _ => none
  | _, _ => none
theorem incRow_ok {r : List AV} (h : incRowB r = true) : 0 ≤ (incOf r).2.1 ∧ r.length = 3 ∧ ∀ E, denL E r = denL E [.int .u8 (.sym (incOf r).1), .int .u8 (.sym (incOf r).2.1), .int .i64 (.sym (incOf r).2.2)] := by
  unfold incRowB at h
  split at h
  · exact ⟨of_decide_eq_true h, rfl, fun E => rfl⟩
  · cases h
theorem tokOf_ok {h : Heap} {g : Option Nat} {toks : List Nat} (e : tokOf h g = some toks) : ∀ x, g = some x → hget x h = some .tok ∧ x ∈ toks := by
  rintro x rfl
  simp only [tokOf] at e
  split at e
  · cases e; exact ⟨by assumption, by simp⟩
  · cases e
theorem foldE_ok : SummAll Try.prog 37 (stdSummM foldE) := stdSummM_ok fun args h c q e hc => by
  unfold foldE at e
  split at e
  · split at e
    · split at e
      · rename_i k _ len rows g hk _ toks ht
        cases e
        obtain ⟨hl, hr⟩ := of_decide_eq_true hc
        exact {
          dist := rfl
          args := fun E => rfl
          obj := fun p hp => by
            rw [List.mem_singleton.1 hp]
            refine ⟨Nat.zero_lt_one, xRows_plain _, len, rows, g, hk, tokOf_ok ht, rfl, fun i hi => ?_⟩
            obtain ⟨_, a2, a3⟩ := incRow_ok (hr i (by have : (i : Int) < len.v := hi; omega))
            exact ⟨a2.symm, a3⟩
          distH := rfl
          cov := rfl
          obj' := fun p hp => by cases hp
          cov' := fun j hj => by cases hj
          dist' := rfl
          vk := rfl
          std := fold_std _ _ hl fun i hi => (incRow_ok (hr i hi)).1 }
      · cases e
    · cases e
  · cases e
def mfSm : List (FuncId × Summ) := (37, stdSummM foldE) :: mcSm
theorem mfSm_ok : AllOk Try.prog mfSm := ⟨foldE_ok, mcSm_ok⟩
def mfT : Tab := smTab (tabOf mfSm)
theorem mfTab : TabAll Try.prog mfT := tab_ok mfSm_ok
end Go.Proofs.Ytobknnmalnfknaa
