/- The engine, part R: summaries by their trees; tables of them.
   Conditions: none. -/
import Derived.Test.YtnfmdpelafaoaaaEngQ
set_option linter.unusedSimpArgs false
set_option linter.unusedVariables false
namespace Go.Eng
section
variable {P : Program} {T : Tab}

def allLit : List SI → Bool
  | [] => true
  | .lit _ :: l => allLit l
  | .sym _ :: _ => false
/-- A truth value, known where all that it is made of is known. -/
def mkB (l : List SI) (b : Bool) : AV := match allLit l with
  | true => .bool (.lit b)
  | false => .bool (.sym b)
def mkI (k : IntKind) (l : List SI) (n : Int) : AV := match allLit l with
  | true => .int k (.lit n)
  | false => .int k (.sym n)
theorem den_mkB (E : Env) (l : List SI) (b : Bool) : den E (mkB l b) = .bool b := by
  unfold mkB; split <;> rfl
theorem den_mkI (E : Env) (k : IntKind) (l : List SI) (n : Int) : den E (mkI k l n) = .int k n := by
  unfold mkI; split <;> rfl

def SummAll (P : Program) (f : FuncId) (S : Summ) : Prop := SummOK P f S ∧ ∀ args h key r, (S.run args h key).sel = some r → key ≤ r.2.2.2 ∧ WOK (lookOf h) key r.2.2.2 r.2.2.1

theorem pureSumm_tree (hT : TabAll P T) (hm : P.follows .mixedOrders = true) {n : Nat} {f : FuncId} {s : List AV → Option AV}
    (h : ∀ args v, s args = some v → ∃ args', (∀ E E', denL E args = denL E' args') ∧ (runV P T n f args').Holds (fun r => ∀ E, den E r = den E v) ∧ ∀ E E', den E v = den E' v) : SummAll P f (pureSumm s) := by
  refine pureSumm_ok fun args v e => ?_
  obtain ⟨args', h1, ⟨r, h2, h3⟩, h4⟩ := h args v e
  refine ⟨fun E w => ?_, fun E E' _ => h4 E E'⟩
  refine (pure_calls hT hm h2 w _ fun E' => ?_).mono ?_
  · rw [h1 E E']
  · rintro e w' ⟨⟨E', rfl⟩, hb⟩
    exact ⟨by rw [h3 E', h4 E' E], hb⟩

/-- A table, by its list. -/
def tabOf : List (FuncId × Summ) → FuncId → Option Summ
  | [], _ => none
  | p :: l, f => match Nat.beq f p.1 with
    | true => some p.2
    | false => tabOf l f
theorem tabOf_ok {l : List (FuncId × Summ)} (h : ∀ p ∈ l, SummAll P p.1 p.2) : ∀ f S, tabOf l f = some S → SummAll P f S := by
  induction l with
  | nil => intro f S e; cases e
  | cons p l ih =>
    intro f S e
    simp only [tabOf] at e
    split at e
    · rename_i hb
      cases e
      have := Nat.eq_of_beq_eq_true hb
      subst this
      exact h p (by simp)
    · exact ih (fun q hq => h q (by simp [hq])) f S e
def AllOk (P : Program) : List (FuncId × Summ) → Prop
  | [] => True
  | p :: l => SummAll P p.1 p.2 ∧ AllOk P l
theorem AllOk.mem : ∀ {l : List (FuncId × Summ)}, AllOk P l → ∀ p ∈ l, SummAll P p.1 p.2
  | [], _, _, h => by cases h
  | q :: l, ⟨h1, h2⟩, p, h => by
    rcases List.mem_cons.1 h with e | h
    · rw [e]; exact h1
    · exact h2.mem p h
theorem tab_ok {l : List (FuncId × Summ)} (h : AllOk P l) : TabAll P (smTab (tabOf l)) := smTab_all (tabOf_ok h.mem)
end
end Go.Eng
