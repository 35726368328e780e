/- The engine, part N: what a user calls: contracts out of trees, summaries out of contracts.
   Conditions: none. -/
import Derived.Test.YtnfmdpelafaoaaaEngM
import Derived.Below
set_option linter.unusedSimpArgs false
set_option linter.unusedVariables false
namespace Go.Eng
open Go.RowKit
section
variable {P : Program} {T : Tab}

/-- The tree of a call on values alone: its results. -/
def runV (P : Program) (T : Tab) (n : Nat) (g : FuncId) (args : List AV) : Tree AV := callW P (codeT P T n) g args [] 0 fun v _ _ => .leaf v

theorem runV_sel {n : Nat} {g : FuncId} {args : List AV} {v : AV} (h : (runV P T n g args).sel = some v) : ∃ h' key', callWD P (codeD P T n) g args [] 0 = some (v, h', key') := by
  unfold runV at h
  rw [callW_nat (runD := codeD P T n) (fun f nt c τ h key K => codeT_sel n f nt c τ h key K)] at h
  obtain ⟨⟨v', h', key'⟩, h1, h2⟩ := obind_some h
  cases h2
  exact ⟨h', key', h1⟩

theorem relU_nil (A : Nat → Prop) (E : Env) (w : World) : RelU A E (lookOf []) w :=
  ⟨fun _ _ h => (nomatch h), fun _ _ _ _ _ h => (nomatch h), fun _ _ => ⟨fun _ _ h => (nomatch h), fun _ _ _ _ _ h => (nomatch h), fun _ _ _ _ _ _ _ h => (nomatch h)⟩⟩
instance : Inhabited Env := ⟨⟨fun _ => 0, fun _ => (none, 0, 0), fun _ => []⟩⟩

theorem below_of_ext {A : Nat → Prop} {E E' : Env} {lk' : Look} {w w' : World} (h : Ext A E (lookOf []) w E' lk' w') : Below w.heap.size w w' :=
  ⟨h.os, h.tape, h.output, h.size, fun k hk => h.frame k hk fun _ _ h => by cases h⟩

/-- A contract on values. -/
theorem pure_calls (hT : TabAll P T) (hm : P.follows .mixedOrders = true) {n : Nat} {g : FuncId} {args : List AV} {v : AV} (h : (runV P T n g args).sel = some v) (w : World) (vals : Array Value) (hv : ∀ E, vals = (denL E args).toArray) :
    Calls P g vals w fun e w' => (∃ E, e = .returned (den E v)) ∧ Below w.heap.size w w' := by
  obtain ⟨h', key', hc⟩ := runV_sel h
  have := call_sound hT hm n g args [] 0 v h' key' h' hc (by simp) (fun _ => False) default (lookOf []) w vals (relU_nil _ _ _) rfl (fun _ _ _ => id) (fun E _ => hv E)
  refine this.mono ?_
  rintro e w' ⟨val, E1, rfl, h1, _, h3⟩
  exact ⟨⟨E1, by rw [h1 E1 (Agree.refl _ _)]⟩, below_of_ext h3⟩

/-- Out of a contract on values: the call keeps what is there. -/
theorem spec_of_pure {f : FuncId} {args : List AV} {key : Nat} {v : AV} (h : ∀ (E : Env) (w : World), Calls P f (denL E args).toArray w fun e w' => e = .returned (den E v) ∧ Below w.heap.size w w')
    (hv : ∀ E E', denL E args = denL E' args → den E v = den E' v) (C : Look → Prop) : CallSpec P f args C key key v [] := by
  intro A E lk w vals hU _ _ hvals
  have h0 := hvals E (Agree.refl A E)
  subst h0
  refine (h E w).mono ?_
  rintro e w' ⟨rfl, hb⟩
  refine ⟨_, E, rfl, fun E' h' => hv E E' ?_, ?_, ?_⟩
  · have := hvals E' (h'.mono fun _ h => .inl h)
    simpa using this
  · rw [hupd_nil]
    exact (hU.world hb.size hb.block).same fun _ h => .inl h
  · rw [hupd_nil]
    exact ⟨hb.os, hb.tape, hb.output, hb.size, Agree.refl _ _, fun b hb' _ => hb.block b hb', fun k o b h1 h2 => .inl ⟨k, o, h1, h2⟩,
      fun k hA ht => ⟨ht, fun b hb' => hb.block b ((hU.here.obj k _ ht).lt (b := b) hb')⟩, fun k len sz rows a h1 h2 h3 => .inl ⟨k, len, sz, rows, a, h1, h2, h3, rfl⟩⟩

/-- A summary on values. -/
def pureSumm (f : List AV → Option AV) : Summ := ⟨fun args _ key => match f args with
  | some v => .leaf (v, [], [], key)
  | none => .fail "summary"⟩
theorem pureSumm_ok {f : FuncId} {s : List AV → Option AV} (h : ∀ args v, s args = some v → (∀ (E : Env) (w : World), Calls P f (denL E args).toArray w fun e w' => e = .returned (den E v) ∧ Below w.heap.size w w') ∧ ∀ E E', denL E args = denL E' args → den E v = den E' v) :
    SummOK P f (pureSumm s) ∧ ∀ args h key r, ((pureSumm s).run args h key).sel = some r → key ≤ r.2.2.2 ∧ WOK (lookOf h) key r.2.2.2 r.2.2.1 := by
  refine ⟨fun args hp key v R W key' e => ?_, fun args hp key r e => ?_⟩
  · simp only [pureSumm] at e
    split at e
    · rename_i v' hv
      cases e
      obtain ⟨h1, h2⟩ := h args _ hv
      exact spec_of_pure h1 h2 _
    · cases e
  · simp only [pureSumm] at e
    split at e
    · cases e; exact ⟨Nat.le_refl _, WOK.nil _ _ _⟩
    · cases e

/-- A table of summaries, no hooks. -/
def smTab (sm : FuncId → Option Summ) : Tab := ⟨sm, fun _ _ => none⟩
theorem smTab_all {sm : FuncId → Option Summ} (h : ∀ f S, sm f = some S → SummOK P f S ∧ ∀ args h key r, (S.run args h key).sel = some r → key ≤ r.2.2.2 ∧ WOK (lookOf h) key r.2.2.2 r.2.2.1) : TabAll P (smTab sm) where
  sm := fun f S hS => (h f S hS).2
  hk := fun _ _ _ h => by cases h
  smOK := fun f S hS => (h f S hS).1
  hkOK := fun _ _ _ h => by cases h

/- Trees, read. -/
structure Tree.Holds {R : Type} (t : Tree R) (Q : R → Prop) : Prop where
  out : ∃ r, t.sel = some r ∧ Q r
theorem holds_leaf {R : Type} {r : R} {Q : R → Prop} (h : Q r) : (Tree.leaf r).Holds Q := ⟨r, rfl, h⟩
theorem holds_ite {R : Type} {b : Bool} {t e : Tree R} {Q : R → Prop} (h1 : b = true → t.Holds Q) (h2 : b = false → e.Holds Q) : (Tree.ite b t e).Holds Q := by
  cases b
  · exact ⟨(h2 rfl).out⟩
  · exact ⟨(h1 rfl).out⟩
theorem holds_defI {R : Type} {x : Int} {k : Int → Tree R} {Q : R → Prop} (h : ∀ z, z = x → (k z).Holds Q) : (Tree.defI x k).Holds Q := ⟨(h x rfl).out⟩
theorem holds_defB {R : Type} {x : Bool} {k : Bool → Tree R} {Q : R → Prop} (h : ∀ z, z = x → (k z).Holds Q) : (Tree.defB x k).Holds Q := ⟨(h x rfl).out⟩
theorem holds_inI {R : Type} {x : Int} {k : Int → Tree R} {Q : R → Prop} (h : (k x).Holds Q) : (Tree.defI x k).Holds Q := ⟨h.out⟩
theorem holds_inB {R : Type} {x : Bool} {k : Bool → Tree R} {Q : R → Prop} (h : (k x).Holds Q) : (Tree.defB x k).Holds Q := ⟨h.out⟩
theorem holds_defE {R : Type} {x : EN} {k : EN → Tree R} {Q : R → Prop} (h : ∀ z, z = x → (k z).Holds Q) : (Tree.defE x k).Holds Q := ⟨(h x rfl).out⟩
theorem holds_inE {R : Type} {x : EN} {k : EN → Tree R} {Q : R → Prop} (h : (k x).Holds Q) : (Tree.defE x k).Holds Q := ⟨h.out⟩
theorem holds_of_eq {R : Type} {t t' : Tree R} {Q : R → Prop} (h : t = t') (h' : t'.Holds Q) : t.Holds Q := h ▸ h'
theorem holds_must {R : Type} {b : Bool} {t : Tree R} {Q : R → Prop} (h1 : b = true) (h2 : t.Holds Q) : (Tree.must b t).Holds Q := by
  subst h1; exact ⟨h2.out⟩
end
end Go.Eng
