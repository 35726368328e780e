/- The engine, part Ah: boxes told as literals.
   Conditions: none. -/
import Derived.Test.YtnfmdpelafaoaaaEngAg
set_option linter.unusedSimpArgs false
set_option linter.unusedVariables false
namespace Go.Eng
open Go.RowKit
section
variable {P : Program} {T : Tab}
/-- Objects that are alike; boxes of the same values. -/
def eqD : AObj → AObj → Prop
  | .box a, .box b => (∀ E, denL E a = denL E b) ∧ allScalar b = true
  | .lst l s r g, .lst l' s' r' g' => eqO (.lst l s r g) (.lst l' s' r' g')
  | .tok, .tok => True
  | _, _ => False
theorem eqD_owns {E : Env} {k b : Nat} {o o' : AObj} (h : eqD o' o) : owns E k o b ↔ owns E k o' b := by
  cases o <;> cases o' <;> simp only [eqD] at h
  · exact Iff.rfl
  · exact Iff.rfl
  · exact eqO_owns h
theorem eqD_rel {E : Env} {lk lk' : Look} {w : World} {k : Nat} {o o' : AObj} (h : eqD o' o) (hl : ∀ k, lk k = some .tok → lk' k = some .tok) (ho : objRel E lk' w k o') : objRel E lk w k o := by
  cases o <;> cases o' <;> simp only [eqD] at h
  · obtain ⟨h1, h2⟩ := h
    obtain ⟨b1, _, b3⟩ := ho
    exact ⟨b1, h2, by rw [← h1 E]; exact b3⟩
  · exact ho
  · exact eqO_rel h hl ho
theorem eqD_lst {len : SI} {sz : Nat} {rows : Nat → List AV} {g : Option Nat} {o' : AObj} (h : eqD o' (.lst len sz rows g)) : ∃ len' rows', o' = .lst len' sz rows' g := by
  cases o' <;> simp only [eqD] at h
  obtain ⟨_, rfl, rfl, _⟩ := h
  exact ⟨_, _, rfl⟩
theorem eqD_tok {o' : AObj} (h : eqD o' .tok) : o' = .tok := by
  cases o' <;> simp only [eqD] at h
  rfl
theorem relU_alikeD {A : Nat → Prop} {E : Env} {w : World} {h h' : Heap} (gt : ∀ k o, lookOf h' k = some o → ∃ o', lookOf h k = some o' ∧ eqD o' o) (hU : RelU A E (lookOf h) w) :
    RelU A E (lookOf h') w ∧ WExt E (lookOf h) w E (lookOf h') w := by
  have tk : ∀ k, lookOf h' k = some .tok → lookOf h k = some .tok := fun k hk => by
    obtain ⟨o', h1, h2⟩ := gt k _ hk
    cases eqD_tok h2
    exact h1
  refine ⟨⟨fun k o ho => ?_, fun k len sz rows g ho => ?_, fun E' hE => ⟨fun k o ho => ?_, fun k o k' o' b ho ho' hne h1 h2 => ?_, fun k len sz rows a k' o' ho hc ha ho' h2 => ?_⟩⟩, ⟨rfl, rfl, rfl, Nat.le_refl _, fun _ _ _ => rfl, fun k o b ho hb => ?_, fun k len sz rows a ho hc ha => ?_⟩⟩
  · obtain ⟨o', h1, _⟩ := gt k o ho
    exact hU.dom k o' h1
  · obtain ⟨o', h1, h2⟩ := gt k _ ho
    obtain ⟨_, _, rfl⟩ := eqD_lst h2
    exact hU.grp k _ _ _ _ h1
  · obtain ⟨o', h1, h2⟩ := gt k o ho
    exact eqD_rel h2 tk ((hU.rel E' hE).obj k o' h1)
  · obtain ⟨o1, g1, g2⟩ := gt k o ho
    obtain ⟨o2, g3, g4⟩ := gt k' o' ho'
    exact (hU.rel E' hE).apart k o1 k' o2 b g1 g3 hne ((eqD_owns g2).1 h1) ((eqD_owns g4).1 h2)
  · obtain ⟨o1, g1, g2⟩ := gt k _ ho
    obtain ⟨o2, g3, g4⟩ := gt k' o' ho'
    obtain ⟨_, _, rfl⟩ := eqD_lst g2
    exact (hU.rel E' hE).ro k _ _ _ a k' o2 g1 hc ha g3 ((eqD_owns g4).1 h2)
  · obtain ⟨o', h1, h2⟩ := gt k o ho
    exact .inl ⟨k, o', h1, (eqD_owns h2).1 hb⟩
  · obtain ⟨o', h1, h2⟩ := gt k _ ho
    obtain ⟨_, _, rfl⟩ := eqD_lst h2
    exact .inl ⟨k, _, _, _, a, h1, hc, ha, rfl⟩
/-- A state whose boxes are told otherwise. -/
theorem HTg.heapD {nt b : Nat} {WP : (Exit → Act → World → Prop) → Act → World → Prop} (hWP : ∀ {Q Q' : Exit → Act → World → Prop} {a : Act} {w : World}, WP Q a w → (∀ e a w, Q e a w → Q' e a w) → WP Q' a w)
    {m : Nat} {κ : Tm} {h h' : Heap} {Q : Ex → Nat → Tm → Heap → Prop} (gt : ∀ k o, lookOf h' k = some o → ∃ o', lookOf h k = some o' ∧ eqD o' o)
    (hc : HTg nt b WP m κ h' Q) : HTg nt b WP m κ h Q := by
  intro E a w hS
  obtain ⟨h1, h2⟩ := relU_alikeD gt hS.rel
  refine hWP (hc E a w ⟨h1, hS.size, hS.defers, hS.tm⟩) ?_
  rintro e a' w' ⟨ex, m', κ', h', E', rfl, q, s, g, ga⟩
  exact ⟨ex, m', κ', h', E', rfl, q, s, h2.trans g, ga⟩
def litsH : List (Nat × TO) → List (Nat × TO) → List ON → Prop
  | [], [], _ => True
  | p :: l, p' :: l', xs => p.1 = p'.1 ∧ (p'.2 = p.2 ∨ ∃ cs cs', p.2 = .box cs ∧ p'.2 = .box cs' ∧ litsL cs cs' (hdO xs).xs) ∧ litsH l l' (tlO xs)
  | _, _, _ => False
theorem eqD_refl : ∀ (t : TO) (x : ON), eqD (t.inst x) (t.inst x)
  | .box cs, x => ⟨fun _ => rfl, instL_scalar _ _⟩
  | .lst ln row own, x => ⟨rfl, rfl, rfl, fun _ _ => rfl⟩
  | .tok, _ => trivial
theorem litsH_gt : ∀ {l l' : List (Nat × TO)} {xs : List ON}, litsH l l' xs → ∀ k o, lookOf (mkHeap (instH l' xs)) k = some o → ∃ o', lookOf (mkHeap (instH l xs)) k = some o' ∧ eqD o' o
  | [], [], _, _, k, o, h => by simp [instH, mkHeap, lookOf, hget] at h
  | [], _ :: _, _, h, _, _, _ => h.elim
  | _ :: _, [], _, h, _, _, _ => h.elim
  | p :: l, p' :: l', xs, h, k, o, ho => by
    obtain ⟨h1, h2, h3⟩ := h
    have e : ∀ (q : Nat × TO) (r : List (Nat × TO)), lookOf (mkHeap (instH (q :: r) xs)) k = if q.1 = k then some (q.2.inst (hdO xs)) else lookOf (mkHeap (instH r (tlO xs))) k := fun q r => look_cons q.1 k (some (q.2.inst (hdO xs))) (mkHeap (instH r (tlO xs)))
    rw [e] at ho
    rw [e, h1]
    by_cases hk : p'.1 = k
    · rw [if_pos hk] at ho ⊢
      cases ho
      refine ⟨_, rfl, ?_⟩
      rcases h2 with e2 | ⟨cs, cs', e2, e3, e4⟩
      · rw [e2]; exact eqD_refl _ _
      · rw [e2, e3]
        exact ⟨litsL_den e4, instL_scalar _ _⟩
    · rw [if_neg hk] at ho ⊢
      exact litsH_gt h3 k o ho
end
end Go.Eng
