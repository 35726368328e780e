/- The engine, part Ac: loops whose rounds are cut; temporaries told anew.
   Conditions: none. -/
import Derived.Test.YtnfmdpelafaoaaaEngAb
set_option linter.unusedSimpArgs false
set_option linter.unusedVariables false
namespace Go.Eng
open Go.RowKit
section
variable {P : Program} {T : Tab}
/-- A loop whose round is a triple. -/
theorem HT.loopH {nt b : Nat} {x : Code} {D : Type} (t : TS) (xs : List (Nat × TS)) (rt : Option TS) (en : D → EN) (I : D → Prop) (μ : D → Nat) (R : D → Ex → EN → Prop)
    (round : ∀ d, I d → HT P nt b x t.m (t.tm (en d)) (t.heap (en d)) (QX ⟨some t, xs, rt⟩ fun ex e => match ex with
      | .normal => ∃ d', I d' ∧ μ d' < μ d ∧ t.eqv e (en d') ∧ ∀ ex e, R d' ex e → R d ex e
      | ex => R d ex e))
    (d : D) (hd : I d) : HT P nt b (.loop x) t.m (t.tm (en d)) (t.heap (en d)) (QX ⟨none, xs, rt⟩ (R d)) := by
  refine HT.loop (D := EN × D) (fun q => μ q.2) (fun _ => t.m) (fun q => t.tm q.1) (fun q => t.heap q.1) (fun q => I q.2 ∧ t.eqv q.1 (en q.2)) (fun q => QX ⟨none, xs, rt⟩ (R q.2)) ?_ (en d, d) ⟨hd, t.eqv_refl _⟩
  rintro ⟨e, d⟩ ⟨hI, he⟩
  refine HTg.pre (WP := fun Q a w => x.wp P Q a w) (fun h hq => wp_mono h hq) he (HT.mono (round d hI) ?_)
  rintro ex m' κ' h' ⟨t', e', h1, h2, rfl, rfl, rfl⟩
  cases ex with
  | normal =>
    cases h1
    obtain ⟨d', i1, i2, i3, i4⟩ := h2
    exact ⟨(e', d'), ⟨i1, i3⟩, i2, rfl, rfl, rfl, fun ex m2 κ2 h2 ⟨t2, e2, j1, j2, j3⟩ => ⟨t2, e2, j1, i4 _ _ j2, j3⟩⟩
  | exit i => exact ⟨t', e', h1, h2, rfl, rfl, rfl⟩
  | ret => exact ⟨t', e', h1, h2, rfl, rfl, rfl⟩
/-- Two rows of code: what leaves the first leaves both. -/
theorem HTL.appG {nt b : Nat} {l1 l2 : List Code} {m : Nat} {κ : Tm} {h : Heap} {t1 : TS} {p1 p : Pk} {R1 R : Ex → EN → Prop} (hn : p1.n = some t1) (hx : HTL P nt b l1 m κ h (QX p1 R1))
    (hy : ∀ en, R1 .normal en → HTL P nt b l2 t1.m (t1.tm en) (t1.heap en) (QX p R)) (ho : ∀ ex t en, ¬ ExNormal ex → p1.at ex = some t → R1 ex en → p.at ex = some t ∧ R ex en) : HTL P nt b (l1 ++ l2) m κ h (QX p R) := by
  refine HTL.append hx ?_ ?_
  · rintro m' κ' h' ⟨t, en, h1, h2, rfl, rfl, rfl⟩
    have h1 : p1.n = some t := h1
    rw [hn] at h1
    cases h1
    exact hy en h2
  · rintro ex m' κ' h' ⟨t, en, h1, h2, rfl, rfl, rfl⟩ hnn
    obtain ⟨g1, g2⟩ := ho ex t en hnn h1 h2
    exact ⟨t, en, g1, g2, rfl, rfl, rfl⟩
theorem HT.cutG {nt b : Nat} {c : Code} {m : Nat} {κ : Tm} {h : Heap} {t1 : TS} {p1 p : Pk} {R1 R : Ex → EN → Prop} (k : Nat) (hn : p1.n = some t1) (hx : HTL P nt b ((Eng.flat c).take k) m κ h (QX p1 R1))
    (hy : ∀ en, R1 .normal en → HTL P nt b ((Eng.flat c).drop k) t1.m (t1.tm en) (t1.heap en) (QX p R)) (ho : ∀ ex t en, ¬ ExNormal ex → p1.at ex = some t → R1 ex en → p.at ex = some t ∧ R ex en) : HT P nt b c m κ h (QX p R) := by
  refine HT.flat ?_
  rw [← List.take_append_drop k (Eng.flat c)]
  exact HTL.appG hn hx hy ho
/-- A block that is not left by its own number. -/
theorem HT.blockX {nt b id : Nat} {x : Code} {m : Nat} {κ : Tm} {h : Heap} {p rt : Option TS} {R : Ex → EN → Prop} (hx : HT P nt b x m κ h (QX ⟨p, [], rt⟩ R)) : HT P nt b (.block id x) m κ h (QX ⟨p, [], rt⟩ R) := by
  refine HT.block (hx.mono ?_)
  rintro ex m' κ' h' ⟨t, en, h1, h2, h3⟩
  cases ex with
  | normal => exact ⟨t, en, h1, h2, h3⟩
  | exit i => cases h1
  | ret => exact ⟨t, en, h1, h2, h3⟩
/-- Temporaries told anew: of the same values. -/
theorem HTg.tmPre {nt b : Nat} {WP : (Exit → Act → World → Prop) → Act → World → Prop} {m : Nat} {κ κ' : Tm} {h : Heap} {Q : Ex → Nat → Tm → Heap → Prop} (hk : ∀ t v', tfind t κ' = some v' → ∃ v, tfind t κ = some v ∧ ∀ E, den E v = den E v')
    (hc : HTg nt b WP m κ' h Q) : HTg nt b WP m κ h Q := by
  intro E a w hS
  refine hc E a w ⟨hS.rel, hS.size, hS.defers, fun t v' ht E' hE => ?_⟩
  obtain ⟨v, h1, h2⟩ := hk t v' ht
  rw [hS.tm t v h1 E' hE, h2 E']
/-- A number of a template's told as the literal that it is. -/
def TV.sameB : TV → TV → Num → Bool
  | .i k, .il k' n, x => decide (k = k') && decide (x.I = n)
  | .b, .bl y, x => x.B == y
  | _, _, _ => false
def TA.litB : TA → TA → List Num → Prop
  | .one t, .one t', xs => t' = t ∨ t.sameB t' (hdN xs) = true
  | t, t', _ => t' = t
def litsB : List TA → List TA → List (List Num) → Prop
  | [], [], _ => True
  | t :: ts, t' :: ts', a => t.litB t' (hdL a) ∧ litsB ts ts' (tlL a)
  | _, _, _ => False
theorem TV.same_den {t t' : TV} {x : Num} (h : t.sameB t' x = true) (E : Env) : den E (t.inst x) = den E (t'.inst x) := by
  cases t <;> cases t' <;> simp [TV.sameB] at h
  · obtain ⟨rfl, h⟩ := h
    simp [TV.inst, den, h, SI.v]
  · simp [TV.inst, den, h, SB.v]
theorem TA.lit_den {t t' : TA} {x : List Num} (h : t.litB t' x) (E : Env) : den E (t.inst x) = den E (t'.inst x) := by
  cases t with
  | one t =>
    cases t' with
    | one t' =>
      rcases h with e | h
      · cases e; rfl
      · exact TV.same_den h E
    | agg l => cases h
  | agg l => cases (show t' = _ from h); rfl
theorem lits_tm : ∀ {tmps : List Nat} {ts ts' : List TA} {a : List (List Num)}, litsB ts ts' a → ∀ t v', tfind t (zipTm tmps (instA ts' a)) = some v' → ∃ v, tfind t (zipTm tmps (instA ts a)) = some v ∧ ∀ E, den E v = den E v'
  | [], _, _, a, _, t, v', e => by simp [zipTm, tfind] at e
  | _ :: _, [], [], a, _, t, v', e => by simp [instA, zipTm, tfind] at e
  | _ :: _, [], _ :: _, a, h, t, v', e => h.elim
  | _ :: _, _ :: _, [], a, h, t, v', e => h.elim
  | j :: tmps, x :: ts, x' :: ts', a, h, t, v', e => by
    simp only [instA, zipTm, tfind] at e ⊢
    cases hb : Nat.beq j t
    · rw [hb] at e
      exact lits_tm h.2 t v' e
    · rw [hb] at e
      cases e
      exact ⟨_, rfl, fun E => TA.lit_den h.1 E⟩
/-- The state with some temporaries as literals. -/
def TS.lits (t : TS) (vs : List TA) : TS := ⟨t.tmps, vs, t.hp, t.m⟩
theorem HTg.lits {nt b : Nat} {WP : (Exit → Act → World → Prop) → Act → World → Prop} {t : TS} {vs : List TA} {en : EN} {Q : Ex → Nat → Tm → Heap → Prop} (hl : litsB t.vs vs en.a)
    (hc : HTg nt b WP t.m ((t.lits vs).tm en) (t.heap en) Q) : HTg nt b WP t.m (t.tm en) (t.heap en) Q := HTg.tmPre (fun j v' e => lits_tm hl j v' e) hc
end
end Go.Eng
