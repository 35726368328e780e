/- The engine, part W: summaries told as trees; numbers chosen by a condition.
   Conditions: none. -/
import Derived.Test.YtnfmdpelafaoaaaEngV
set_option linter.unusedSimpArgs false
set_option linter.unusedVariables false
namespace Go.Eng
open Go.RowKit
section
variable {P : Program} {T : Tab}
def SB.condI (c : SB) (a b : SI) : SI := match c with
  | .lit true => a
  | .lit false => b
  | .sym c => match a, b with
    | .lit x, .lit y => .sym (cond c x y)
    | .sym x, .lit y => .sym (cond c x y)
    | .lit x, .sym y => .sym (cond c x y)
    | .sym x, .sym y => .sym (cond c x y)
def SB.condB (c : SB) (a b : SB) : SB := match c with
  | .lit true => a
  | .lit false => b
  | .sym c => match a, b with
    | .lit x, .lit y => .sym (cond c x y)
    | .sym x, .lit y => .sym (cond c x y)
    | .lit x, .sym y => .sym (cond c x y)
    | .sym x, .sym y => .sym (cond c x y)
def SB.or (a b : SB) : SB := match a, b with
  | .lit false, b => b
  | .lit true, _ => .lit true
  | .sym a, .lit false => .sym a
  | .sym _, .lit true => .lit true
  | .sym a, .sym b => .sym (a || b)
def SI.eqL (a : SI) (n : Int) : SB := SI.cmp (fun x y => x == y) a (.lit n)
@[simp] theorem SI.lit_v (n : Int) : (SI.lit n).v = n := rfl
@[simp] theorem SI.sym_v (n : Int) : (SI.sym n).v = n := rfl
@[simp] theorem SB.lit_v (n : Bool) : (SB.lit n).v = n := rfl
@[simp] theorem SB.sym_v (n : Bool) : (SB.sym n).v = n := rfl
@[simp] theorem SB.condI_v (c : SB) (a b : SI) : (c.condI a b).v = cond c.v a.v b.v := by
  rcases c with (_ | _) | c <;> rcases a with a | a <;> rcases b with b | b <;> rfl
@[simp] theorem SB.condB_v (c : SB) (a b : SB) : (c.condB a b).v = cond c.v a.v b.v := by
  rcases c with (_ | _) | c <;> rcases a with a | a <;> rcases b with b | b <;> rfl
@[simp] theorem SB.or_v (a b : SB) : (a.or b).v = (a.v || b.v) := by
  rcases a with (_ | _) | a <;> rcases b with (_ | _) | b <;> simp [SB.or, SB.v]
attribute [simp] SB.and_v
attribute [simp] SB.not_v
attribute [simp] SI.cmp_v
attribute [simp] SI.bin_v
@[simp] theorem SI.eqL_v (a : SI) (n : Int) : (a.eqL n).v = (a.v == n) := by
  rcases a with a | a <;> rfl
def geB (x y : Int) : Bool := decide (x ≥ y)
def leB (x y : Int) : Bool := decide (x ≤ y)
def ltB (x y : Int) : Bool := decide (x < y)
/-- Known where all that it is made of is known. -/
def mkSB (l : List SI) (b : Bool) : SB := match allLit l with
  | true => .lit b
  | false => .sym b
@[simp] theorem mkSB_v (l : List SI) (b : Bool) : (mkSB l b).v = b := by unfold mkSB; split <;> rfl
/-- A truth value by name. -/
def nameB {R : Type} (b : SB) (K : SB → Tree R) : Tree R := match b with
  | .lit b => K (.lit b)
  | .sym b => .defB b fun z => K (.sym z)
def nameI {R : Type} (n : SI) (K : SI → Tree R) : Tree R := match n with
  | .lit n => K (.lit n)
  | .sym n => .defI n fun z => K (.sym z)
theorem nameB_sel {R : Type} (b : SB) (K : SB → Tree R) : (nameB b K).sel = (K b).sel := by cases b <;> rfl
theorem nameI_sel {R : Type} (b : SI) (K : SI → Tree R) : (nameI b K).sel = (K b).sel := by cases b <;> rfl

/-- A summary on values, told as a tree. -/
def pureSummT (f : List AV → Option (Tree AV)) : Summ := ⟨fun args _ key => match f args with
  | some t => t.bind fun v => .leaf (v, [], [], key)
  | none => .fail "summary"⟩
theorem pureSummT_ok {f : FuncId} {s : List AV → Option (Tree AV)} (h : ∀ args t v, s args = some t → t.sel = some v → (∀ (E : Env) (w : World), Calls P f (denL E args).toArray w fun e w' => e = .returned (den E v) ∧ Below w.heap.size w w') ∧ ∀ E E', denL E args = denL E' args → den E v = den E' v) :
    SummAll P f (pureSummT s) := by
  refine ⟨fun args hp key v R W key' e => ?_, fun args hp key r e => ?_⟩
  · simp only [pureSummT] at e
    split at e
    · rename_i t ht
      rw [bind_sel] at e
      obtain ⟨v', hv, e⟩ := obind_some e
      cases e
      obtain ⟨h1, h2⟩ := h args t _ ht hv
      exact spec_of_pure h1 h2 _
    · cases e
  · simp only [pureSummT] at e
    split at e
    · rw [bind_sel] at e
      obtain ⟨v', hv, e⟩ := obind_some e
      cases e; exact ⟨Nat.le_refl _, WOK.nil _ _ _⟩
    · cases e
theorem pureSummT_tree (hT : TabAll P T) (hm : P.follows .mixedOrders = true) {n : Nat} {f : FuncId} {s : List AV → Option (Tree AV)}
    (h : ∀ args t, s args = some t → ∃ args', (∀ E E', denL E args = denL E' args') ∧ ∀ v, t.sel = some v → (runV P T n f args').Holds (fun r => ∀ E, den E r = den E v) ∧ ∀ E E', den E v = den E' v) : SummAll P f (pureSummT s) := by
  refine pureSummT_ok fun args t v e hv => ?_
  obtain ⟨args', h1, h2⟩ := h args t e
  obtain ⟨⟨r, h3, h4⟩, h5⟩ := h2 v hv
  refine ⟨fun E w => ?_, fun E E' _ => h5 E E'⟩
  refine (pure_calls hT hm h3 w _ fun E' => ?_).mono ?_
  · rw [h1 E E']
  · rintro e w' ⟨⟨E', rfl⟩, hb⟩
    exact ⟨by rw [h4 E', h5 E' E], hb⟩
/-- A law's last leaf. -/
theorem ret_true {t : Nat} {b : SB} {fz : List Nat} {h0 : Heap} (hb : b.v = true) : ∃ m' φ κ' h', (∀ k, k < 0 → φ k = k) ∧ Reset isNil (· < m') φ [(t, .bool b)] (fzH .ret fz h0 []) κ' h' ∧ (Ex.ret = .ret ∧ tfind t κ' = some (.bool (.lit true))) := by
  have e : tfind t [(t, AV.bool (.lit true))] = some (.bool (.lit true)) := by
    simp only [tfind, show Nat.beq t t = true from by simp]
  refine ⟨0, id, [(t, .bool (.lit true))], mkHeap [], fun _ h => absurd h (Nat.not_lt_zero _), Reset.of (l := []) ⟨⟨⟨.bool b, ?_, fun E _ => ?_⟩, rfl⟩, trivial⟩ trivial rfl, rfl, e⟩
  · simp only [tfind, show Nat.beq t t = true from by simp]
  · simp [den, ren, hb]
end
end Go.Eng
