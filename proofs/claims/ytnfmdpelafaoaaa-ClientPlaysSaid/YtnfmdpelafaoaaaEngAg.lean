/- The engine, part Ag: calls that answer yes or no, whatever it is; arguments told as literals; two summaries of one function.
   Conditions: none. -/
import Derived.Test.YtnfmdpelafaoaaaEngAf
set_option linter.unusedSimpArgs false
set_option linter.unusedVariables false
namespace Go.Eng
open Go.RowKit
section
variable {P : Program} {T : Tab}
/-- A yes or no. -/
def tYN (m : Nat) : TS := ⟨[], [.one .b], [], m⟩
open Classical in
/-- What a call answers, where it answers at all. -/
noncomputable def anyQ (P : Program) (f : FuncId) (pre : TS) (Q : EN → Bool → Prop) (e : EN) : Bool :=
  if h : ∃ b, Q e b ∧ StdX P f pre e (tYN pre.m) ⟨[[.b b]], []⟩ then Classical.choose h else false
theorem anyQ_spec {f : FuncId} {pre : TS} {Q : EN → Bool → Prop} {e : EN} (h : ∃ b, Q e b ∧ StdX P f pre e (tYN pre.m) ⟨[[.b b]], []⟩) : Q e (anyQ P f pre Q e) ∧ StdX P f pre e (tYN pre.m) ⟨[[.b (anyQ P f pre Q e)]], []⟩ := by
  unfold anyQ
  rw [dif_pos h]
  exact Classical.choose_spec h
def noQ (_ : EN) (_ : Bool) : Prop := True
/-- A table's row: its answer is some one. -/
noncomputable def anyC (P : Program) (f : FuncId) (pre : TS) (Q : EN → Bool → Prop) (e : EN) : Tree (TS × EN) := .leaf (tYN pre.m, ⟨[[.b (anyQ P f pre Q e)]], []⟩)
theorem any_ok {f : FuncId} {pre : TS} {Q : EN → Bool → Prop} (h : ∀ e, ∃ b, Q e b ∧ StdX P f pre e (tYN pre.m) ⟨[[.b b]], []⟩) : SummAll P f (ctrSumm pre (anyC P f pre Q)) := ctr_ok fun e r hr => by
  cases hr
  exact (anyQ_spec (h e)).2
/-- Out of a tree: some answer. -/
theorem stdX_ex (hT : TabAll P T) (hm : P.follows .mixedOrders = true) {n : Nat} {f : FuncId} {t t' : TS} {x : EN} {Q : EN → Prop} (hargs : t.vs.all (TA.keyB t.m) = true)
    (H : (callW P (codeT P T n) f (t.vals x) (t.heap x) t.m (outV t.m t')).Holds fun e => ∃ y, t'.eqv e y ∧ Q y) : ∃ y, Q y ∧ StdX P f t x t' y := by
  obtain ⟨r, h1, y, h2, h3⟩ := H
  exact ⟨y, h3, stdX_tree hT hm hargs ⟨r, h1, h2⟩⟩
theorem stdX_exB (hT : TabAll P T) (hm : P.follows .mixedOrders = true) {n : Nat} {f : FuncId} {t : TS} {x : EN} {Q : Bool → Prop} (hargs : t.vs.all (TA.keyB t.m) = true)
    (H : (callW P (codeT P T n) f (t.vals x) (t.heap x) t.m (outV t.m (tYN t.m))).Holds fun e => Q (e.ab 0 0)) : ∃ b, Q b ∧ StdX P f t x (tYN t.m) ⟨[[.b b]], []⟩ := by
  obtain ⟨r, h1, h2⟩ := H
  exact ⟨r.ab 0 0, h2, stdX_tree hT hm hargs ⟨r, h1, ⟨⟨rfl, trivial⟩, trivial⟩⟩⟩
theorem any_pre {f : FuncId} {pre : TS} {x x' : EN} {Q : Bool → Prop} (h : pre.eqv x x') (H : ∃ b, Q b ∧ StdX P f pre x' (tYN pre.m) ⟨[[.b b]], []⟩) : ∃ b, Q b ∧ StdX P f pre x (tYN pre.m) ⟨[[.b b]], []⟩ := by
  obtain ⟨b, h1, h2⟩ := H
  exact ⟨b, h1, StdX.pre h h2⟩
/-- Arguments of the same values. -/
theorem StdN.args {f : FuncId} {m m' : Nat} {l l' : List (Nat × AObj)} {args args' : List AV} {v : AV} (h : ∀ E, denL E args = denL E args') (H : StdN P f m l args' m' l' v) : StdN P f m l args m' l' v := by
  intro E w hU
  rw [h E]
  exact H E w hU
def litsL : List TV → List TV → List Num → Prop
  | [], [], _ => True
  | t :: ts, t' :: ts', xs => (t' = t ∨ TV.sameB t t' (hdN xs) = true) ∧ litsL ts ts' (tlN xs)
  | _, _, _ => False
theorem litsL_den : ∀ {ts ts' : List TV} {xs : List Num}, litsL ts ts' xs → ∀ E, denL E (instL ts xs) = denL E (instL ts' xs)
  | [], [], _, _, _ => rfl
  | [], _ :: _, _, h, _ => h.elim
  | _ :: _, [], _, h, _ => h.elim
  | t :: ts, t' :: ts', xs, h, E => by
    simp only [instL, denL]
    rw [litsL_den h.2 E]
    congr 1
    rcases h.1 with e | e
    · rw [e]
    · exact TV.same_den e E
/-- Objects that are alike, in two tellings. -/
theorem relU_alike {A : Nat → Prop} {E : Env} {w : World} {l l' : List (Nat × AObj)} (gt : ∀ k o, lookOf (mkHeap l') k = some o → ∃ o', lookOf (mkHeap l) k = some o' ∧ eqO o' o) (hU : RelU A E (lookOf (mkHeap l)) w) :
    RelU A E (lookOf (mkHeap l')) w ∧ WExt E (lookOf (mkHeap l)) w E (lookOf (mkHeap l')) w := by
  have tk : ∀ k, lookOf (mkHeap l') k = some .tok → lookOf (mkHeap l) k = some .tok := fun k hk => by
    obtain ⟨o', h1, h2⟩ := gt k _ hk
    cases o' <;> simp only [eqO] at h2
    exact h1
  refine ⟨⟨fun k o ho => ?_, fun k len sz rows g ho => ?_, fun E' hE => ⟨fun k o ho => ?_, fun k o k' o' b ho ho' hne h1 h2 => ?_, fun k len sz rows a k' o' ho hc ha ho' h2 => ?_⟩⟩, ⟨rfl, rfl, rfl, Nat.le_refl _, fun _ _ _ => rfl, fun k o b ho hb => ?_, fun k len sz rows a ho hc ha => ?_⟩⟩
  · obtain ⟨o', h1, _⟩ := gt k o ho
    exact hU.dom k o' h1
  · obtain ⟨o', h1, h2⟩ := gt k _ ho
    cases o' <;> simp only [eqO] at h2
    obtain ⟨_, _, rfl, _⟩ := h2
    exact hU.grp k _ _ _ _ h1
  · obtain ⟨o', h1, h2⟩ := gt k o ho
    exact eqO_rel h2 tk ((hU.rel E' hE).obj k o' h1)
  · obtain ⟨o1, g1, g2⟩ := gt k o ho
    obtain ⟨o2, g3, g4⟩ := gt k' o' ho'
    exact (hU.rel E' hE).apart k o1 k' o2 b g1 g3 hne ((eqO_owns g2).1 h1) ((eqO_owns g4).1 h2)
  · obtain ⟨o1, g1, g2⟩ := gt k _ ho
    obtain ⟨o2, g3, g4⟩ := gt k' o' ho'
    cases o1 <;> simp only [eqO] at g2
    obtain ⟨_, _, rfl, _⟩ := g2
    exact (hU.rel E' hE).ro k _ _ _ a k' o2 g1 hc ha g3 ((eqO_owns g4).1 h2)
  · obtain ⟨o', h1, h2⟩ := gt k o ho
    exact .inl ⟨k, o', h1, (eqO_owns h2).1 hb⟩
  · obtain ⟨o', h1, h2⟩ := gt k _ ho
    cases o' <;> simp only [eqO] at h2
    obtain ⟨_, _, rfl, _⟩ := h2
    exact .inl ⟨k, _, _, _, a, h1, hc, ha, rfl⟩
theorem StdN.alike {f : FuncId} {m m' : Nat} {l l2 l' : List (Nat × AObj)} {args : List AV} {v : AV} (gt : ∀ k o, lookOf (mkHeap l2) k = some o → ∃ o', lookOf (mkHeap l) k = some o' ∧ eqO o' o) (H : StdN P f m l2 args m' l' v) : StdN P f m l args m' l' v := by
  intro E w hU
  obtain ⟨h1, h2⟩ := relU_alike gt hU
  refine (H E w h1).mono ?_
  rintro e w' ⟨E1, g1, g2, g3, g4⟩
  exact ⟨E1, g1, g2, g3, h2.trans g4⟩
/-- A row of numbers, cell by cell. -/
theorem eqvL_nth : ∀ (ts : List TV) (xs ys : List Num), (∀ i, i < ts.length → nthN i xs = nthN i ys) → eqvL ts xs ys
  | [], _, _, _ => trivial
  | t :: ts, xs, ys, h => ⟨by
      have h0 : hdN xs = hdN ys := h 0 (by simp)
      rw [h0]
      cases t <;> simp [TV.eqv], eqvL_nth ts _ _ fun i hi => h (i + 1) (by simpa using hi)⟩
/-- The first summary; where it has no answer, the second. -/
def orSumm (a b : Summ) : Summ := ⟨fun args h key => match a.run args h key with
  | .fail _ => b.run args h key
  | t => t⟩
theorem orSumm_ok {f : FuncId} {a b : Summ} (ha : SummAll P f a) (hb : SummAll P f b) : SummAll P f (orSumm a b) := by
  refine ⟨fun args hp key v R W key' e => ?_, fun args hp key r e => ?_⟩
  · simp only [orSumm] at e
    split at e
    · exact hb.1 args hp key v R W key' e
    · exact ha.1 args hp key v R W key' e
  · simp only [orSumm] at e
    split at e
    · exact hb.2 args hp key r e
    · exact ha.2 args hp key r e
end
end Go.Eng
