/- The engine, part T: small laws of numbers; what a law's tree owes; opened arguments.
   Conditions: none. -/
import Derived.Test.YtobknnmalnfknaaEngS
import Derived.IntWalk
set_option linter.unusedSimpArgs false
set_option linter.unusedVariables false
namespace Go.Eng
open Go.RowKit Go.ChangeShapes Go.WideShapes Go.Deep
def GoodV (v : AV) : Prop := ∃ b : SB, v = .bool b ∧ b.v = true
theorem GoodV.den {v : AV} (h : GoodV v) (E : Env) : Eng.den E v = .bool true := by
  obtain ⟨b, rfl, hb⟩ := h
  simp [Eng.den, hb]
theorem good_leaf {b : SB} (h : b.v = true) : (Tree.leaf (AV.bool b)).Holds GoodV := holds_leaf ⟨b, rfl, h⟩
theorem good_sym {b : Bool} (h : b = true) : (Tree.leaf (AV.bool (.sym b))).Holds GoodV := holds_leaf ⟨_, rfl, h⟩
theorem good_lit : (Tree.leaf (AV.bool (.lit true))).Holds GoodV := holds_leaf ⟨_, rfl, rfl⟩
theorem tmod_in {n : Int} (m : Int) (h : 0 ≤ n) (hm : 0 < m) : 0 ≤ n.tmod m ∧ n.tmod m < m := by
  rw [Int.tmod_eq_emod_of_nonneg h]
  exact ⟨Int.emod_nonneg _ (by omega), Int.emod_lt_of_pos _ hm⟩
theorem wf_in {k : IntKind} {n : Int} (h : (Lit.int k n).wf = true) : k.min ≤ n ∧ n ≤ k.max := by
  simp [Lit.wf] at h
  omega
theorem wf_u8 {n : Int} (h : (Lit.int .u8 n).wf = true) : 0 ≤ n ∧ n < 256 := by
  have := wf_in h
  have e1 : IntKind.u8.min = 0 := rfl
  have e2 : IntKind.u8.max = 255 := rfl
  omega
theorem wf_u32 {n : Int} (h : (Lit.int .u32 n).wf = true) : 0 ≤ n ∧ n < 4294967296 := by
  have := wf_in h
  have e1 : IntKind.u32.min = 0 := rfl
  have e2 : IntKind.u32.max = 4294967295 := rfl
  omega
theorem wf_i64 {n : Int} (h : (Lit.int .i64 n).wf = true) : -9223372036854775808 ≤ n ∧ n < 9223372036854775808 := by
  have := wf_in h
  have e1 : IntKind.i64.min = -9223372036854775808 := rfl
  have e2 : IntKind.i64.max = 9223372036854775807 := rfl
  omega
section
variable {P : Program} {T : Tab}
/-- A law without loops of its own, on plain values. -/
theorem law_c (hT : TabAll P T) (hm : P.follows .mixedOrders = true) {n : Nat} {g : FuncId} {args : List AV} (h : (runV P T n g args).Holds GoodV) (w : World) {vals : Array Value} (hv : ∀ E, vals = (denL E args).toArray) :
    Calls P g vals w fun e w' => e = .returned (.bool true) ∧ Below w.heap.size w w' := by
  obtain ⟨v, h1, h2⟩ := h
  refine (pure_calls hT hm h1 w _ hv).mono ?_
  rintro e w' ⟨⟨E, rfl⟩, hb⟩
  exact ⟨by rw [h2.den], hb⟩
variable {H : Type} {enc : TypeId × Value → H} {w : World} {base : Nat} {spare : Nat → Bool} {held : Bool}
/-- An argument of plain cells: an array by value. -/
theorem open_plainA {t : TypeId} {m e : Nat} {f : Nat} {l : List PK} {r : Reach} {b0 : Nat} {v : Value} {d : DataW H} {p : List MemPlace} (hs : P.underlying t = some (.array m e)) (hl : pkT P f t = some l)
    (hv : Value.okWide P w r b0 t v) (h : DataW.Trod enc P w base spare held t v d p) : ∃ n b, wfs n l 0 ∧ ∀ E, v = den E (.agg (skel n b l 0)) := by
  simp only [Value.okWide, hs] at hv
  obtain ⟨cs, rfl, _⟩ := hv
  obtain ⟨fuel, hf⟩ := h
  obtain ⟨n, b, h1, h2⟩ := oks_skel l _ 0 (pkT_ok f t l hl fuel _ _ hf)
  refine ⟨n, b, h1, fun E => ?_⟩
  have := h2 E
  simp only [Value.cells] at this
  simp [den, ← this]
end
end Go.Eng
