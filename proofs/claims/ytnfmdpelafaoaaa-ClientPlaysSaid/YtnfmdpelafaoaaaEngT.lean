/- The engine, part T: small laws of numbers; what a law's tree owes; opened arguments.
   Conditions: none. -/
import Derived.Test.YtnfmdpelafaoaaaEngU
import Derived.IntWalk
set_option linter.unusedSimpArgs false
set_option linter.unusedVariables false
namespace Go.Eng
open Go.RowKit Go.ChangeShapes Go.WideShapes Go.Deep
def GoodV (v : AV) : Prop := ∃ b : SB, v = .bool b ∧ b.v = true
theorem GoodV.den {v : AV} (h : GoodV v) (E : Env) : Eng.den E v = .bool true := by
  obtain ⟨b, rfl, hb⟩ := h
  simp [Eng.den, hb]
theorem good_leaf {b : SB} (h : b.v = true) : (Tree.leaf (AV.bool b)).Holds GoodV := holds_leaf ⟨b, rfl, h⟩
theorem good_sym {b : Bool} (h : b = true) : (Tree.leaf (AV.bool (.sym b))).Holds GoodV := holds_leaf ⟨_, rfl, h⟩
theorem good_lit : (Tree.leaf (AV.bool (.lit true))).Holds GoodV := holds_leaf ⟨_, rfl, rfl⟩
theorem tmod_in {n : Int} (m : Int) (h : 0 ≤ n) (hm : 0 < m) : 0 ≤ n.tmod m ∧ n.tmod m < m := by
  rw [Int.tmod_eq_emod_of_nonneg h]
  exact ⟨Int.emod_nonneg _ (by omega), Int.emod_lt_of_pos _ hm⟩
theorem wf_in {k : IntKind} {n : Int} (h : (Lit.int k n).wf = true) : k.min ≤ n ∧ n ≤ k.max := by
  simp [Lit.wf] at h
  omega
theorem wf_u8 {n : Int} (h : (Lit.int .u8 n).wf = true) : 0 ≤ n ∧ n < 256 := by
  have := wf_in h
  have e1 : IntKind.u8.min = 0 := rfl
  have e2 : IntKind.u8.max = 255 := rfl
  omega
theorem wf_u32 {n : Int} (h : (Lit.int .u32 n).wf = true) : 0 ≤ n ∧ n < 4294967296 := by
  have := wf_in h
  have e1 : IntKind.u32.min = 0 := rfl
  have e2 : IntKind.u32.max = 4294967295 := rfl
  omega
theorem wf_i64 {n : Int} (h : (Lit.int .i64 n).wf = true) : -9223372036854775808 ≤ n ∧ n < 9223372036854775808 := by
  have := wf_in h
  have e1 : IntKind.i64.min = -9223372036854775808 := rfl
  have e2 : IntKind.i64.max = 9223372036854775807 := rfl
  omega
section
variable {P : Program} {T : Tab}
/-- A method of one box. -/
theorem box1_fit {f : FuncId} {k : Nat} {args : List AV} {h : Heap} {cs' cs cs2 : List AV} {argsS : List AV} {v : AV} (hk : hget k h = some (.box cs')) (h1 : allScalar cs = true) (h2 : ∀ E, denL E cs' = denL E cs) (h3 : keysL cs = []) (h4 : keysL cs2 = [])
    (ha : ∀ E, denL E args = denL E (renL (lkN [k]) argsS)) (hv : (keysOf v).all (Nat.blt · 1) = true) (hs : StdN P f 1 [(0, .box cs)] argsS 1 [(0, .box cs2)] v) :
    FitNOk P f args h ⟨[k], [], argsS, [(0, .box cs)], 0, [(0, .box cs2)], v⟩ where
  dist := rfl
  args := ha
  obj := fun p hp => by
    rw [List.mem_singleton.1 hp]
    exact ⟨Nat.zero_lt_one, by show (keysL cs).all _ = true; rw [h3]; rfl, .box cs', hk, h1, fun E _ => by rw [ren_nokeys h3]; exact h2 E, by rw [h3]; simp⟩
  distH := rfl
  cov := rfl
  obj' := fun p hp => by
    rw [List.mem_singleton.1 hp]
    exact ⟨Nat.zero_lt_one, fun _ => List.mem_singleton.2 rfl, by show (keysL cs2).all _ = true; rw [h4]; rfl⟩
  cov' := fun j hj => hj
  dist' := rfl
  vk := hv
  std := hs
/-- What a tree owes for it. -/
def Box1 (v : AV) (cs2 : List AV) (o : AV × Heap) : Prop := SameV noNil o.1 v ∧ ∃ cs, hget 0 o.2 = some (.box cs) ∧ ∀ E, denL E cs = denL E cs2
theorem box1_std (hT : TabAll P T) (hm : P.follows .mixedOrders = true) {n : Nat} {f : FuncId} {cs cs2 : List AV} {args : List AV} {v : AV} (hargs : (keysL args).all (Nat.blt · 1) = true) (hv : (keysOf v).all (Nat.blt · 1) = true) (h1 : allScalar cs2 = true) (h4 : keysL cs2 = [])
    (H : (callW P (codeT P T n) f args (mkHeap [(0, .box cs)]) 1 (outC [0])).Holds (Box1 v cs2)) : StdN P f 1 [(0, .box cs)] args 1 [(0, .box cs2)] v := by
  refine stdN_tree hT hm (n := n) (ks := [0]) hargs hv ?_
  obtain ⟨o, h2, h3, c, h5, h6⟩ := H
  refine ⟨o, h2, id, fun _ _ => rfl, fun E _ => ?_, ⟨⟨rfl, .inl ⟨_, h5, h1, fun E _ => by rw [ren_nokeys h4]; exact h6 E, by rw [h4]; simp⟩⟩, trivial⟩, rfl⟩
  rw [h3 E (noNil_ok E), den_ren]
  exact (den_cl (M := (· < 1)) (fun k _ => ⟨rfl, rfl, rfl⟩) v (lt_of_all hv))
/-- A law without loops of its own, on plain values. -/
theorem law_c (hT : TabAll P T) (hm : P.follows .mixedOrders = true) {n : Nat} {g : FuncId} {args : List AV} (h : (runV P T n g args).Holds GoodV) (w : World) {vals : Array Value} (hv : ∀ E, vals = (denL E args).toArray) :
    Calls P g vals w fun e w' => e = .returned (.bool true) ∧ Below w.heap.size w w' := by
  obtain ⟨v, h1, h2⟩ := h
  refine (pure_calls hT hm h1 w _ hv).mono ?_
  rintro e w' ⟨⟨E, rfl⟩, hb⟩
  exact ⟨by rw [h2.den], hb⟩
variable {H : Type} {enc : TypeId × Value → H} {w : World} {base : Nat} {spare : Nat → Bool} {held : Bool}
/-- An argument of plain cells: an array by value. -/
theorem open_plainA {t : TypeId} {m e : Nat} {f : Nat} {l : List PK} {r : Reach} {b0 : Nat} {v : Value} {d : DataW H} {p : List MemPlace} (hs : P.underlying t = some (.array m e)) (hl : pkT P f t = some l)
    (hv : Value.okWide P w r b0 t v) (h : DataW.Trod enc P w base spare held t v d p) : ∃ n b, wfs n l 0 ∧ ∀ E, v = den E (.agg (skel n b l 0)) := by
  simp only [Value.okWide, hs] at hv
  obtain ⟨cs, rfl, _⟩ := hv
  obtain ⟨fuel, hf⟩ := h
  obtain ⟨n, b, h1, h2⟩ := oks_skel l _ 0 (pkT_ok f t l hl fuel _ _ hf)
  refine ⟨n, b, h1, fun E => ?_⟩
  have := h2 E
  simp only [Value.cells] at this
  simp [den, ← this]
end
end Go.Eng
