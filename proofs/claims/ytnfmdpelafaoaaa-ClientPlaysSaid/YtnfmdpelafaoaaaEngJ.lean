/- The engine, part J: keys only grow; the heap only gets entries in front; what is written was found, or is new.
   Conditions: none. -/
import Derived.Test.YtnfmdpelafaoaaaEngI
set_option linter.unusedSimpArgs false
set_option linter.unusedVariables false
namespace Go.Eng

theorem WOK.nil (lk : Look) (n n' : Nat) : WOK lk n n' [] := fun _ _ h => by cases h
theorem WOK.one {lk : Look} {n n' k : Nat} {o : Option AObj} (hk : lk k ≠ none ∨ (n ≤ k ∧ k < n')) (ho : ∀ len sz rows g, o = some (.lst len sz rows (some g)) → lk g ≠ none) : WOK lk n n' [(k, o)] := fun j x h => by
  simp only [List.mem_singleton, Prod.mk.injEq] at h
  obtain ⟨rfl, rfl⟩ := h
  exact ⟨hk, fun len sz rows g e => .inr (ho len sz rows g e)⟩
theorem WOK.trans {lk : Look} {n n' n'' : Nat} {W V : Heap} (h : WOK lk n n' W) (h' : WOK (hupd lk W) n' n'' V) (h1 : n ≤ n') (h2 : n' ≤ n'') : WOK lk n n'' (V ++ W) := by
  have look : ∀ k, hupd lk W k ≠ none → k ∈ wkeys W ∨ lk k ≠ none := by
    intro k hk
    by_cases hm : k ∈ wkeys W
    · exact .inl hm
    · refine .inr ?_
      unfold hupd at hk
      rw [wget_none hm] at hk
      exact hk
  have old : ∀ k, k ∈ wkeys W → lk k ≠ none ∨ (n ≤ k ∧ k < n') := by
    intro k hk
    simp only [wkeys, List.mem_map] at hk
    obtain ⟨⟨j, o⟩, hm, rfl⟩ := hk
    exact (h j o hm).1
  intro k o hm
  rw [List.mem_append] at hm
  rcases hm with hm | hm
  · obtain ⟨a1, a2⟩ := h' k o hm
    refine ⟨?_, fun len sz rows g e => ?_⟩
    · rcases a1 with a1 | a1
      · rcases look k a1 with a1 | a1
        · rcases old k a1 with a1 | a1
          · exact .inl a1
          · exact .inr ⟨a1.1, by omega⟩
        · exact .inl a1
      · exact .inr ⟨by omega, a1.2⟩
    · simp only [wkeys, List.map_append, List.mem_append]
      rcases a2 len sz rows g e with a2 | a2
      · exact .inl (.inl a2)
      · rcases look g a2 with a2 | a2
        · exact .inl (.inr a2)
        · exact .inr a2
  · obtain ⟨a1, a2⟩ := h k o hm
    refine ⟨?_, fun len sz rows g e => ?_⟩
    · rcases a1 with a1 | a1
      · exact .inl a1
      · exact .inr ⟨a1.1, by omega⟩
    · simp only [wkeys, List.map_append, List.mem_append]
      rcases a2 len sz rows g e with a2 | a2
      · exact .inl (.inr a2)
      · exact .inr a2
theorem WOK.mono {lk : Look} {n n' n'' : Nat} {W : Heap} (h : WOK lk n n' W) (h1 : n' ≤ n'') : WOK lk n n'' W := fun k o hm =>
  ⟨(h k o hm).1.imp id fun h => ⟨h.1, by omega⟩, (h k o hm).2⟩

/- Every leaf. -/
def Tree.All {R : Type} (Q : R → Prop) : Tree R → Prop
  | .leaf r => Q r
  | .ite _ a b => a.All Q ∧ b.All Q
  | .must _ a => a.All Q
  | .defI x k => (k x).All Q
  | .defB x k => (k x).All Q
  | .defE x k => (k x).All Q
  | .fail _ => True
theorem Tree.All.sel {R : Type} {Q : R → Prop} : ∀ {t : Tree R} {r : R}, t.All Q → t.sel = some r → Q r
  | .leaf r, _, h, e => by cases e; exact h
  | .ite b x y, r, h, e => by
    cases b
    · exact Tree.All.sel h.2 e
    · exact Tree.All.sel h.1 e
  | .must b x, r, h, e => by
    cases b
    · cases e
    · exact Tree.All.sel (t := x) h e
  | .defI x k, r, h, e => Tree.All.sel (t := k x) h e
  | .defB x k, r, h, e => Tree.All.sel (t := k x) h e
  | .defE x k, r, h, e => Tree.All.sel (t := k x) h e
  | .fail _, _, _, e => by cases e
theorem all_need {R : Type} {Q : R → Prop} {b : SB} {t : Tree R} (h : t.All Q) : (Tree.need b t).All Q := by
  rcases b with (_ | _) | b
  · trivial
  · exact h
  · exact h
theorem all_ofOpt {R S : Type} {Q : S → Prop} {w : String} {x : Option R} {f : R → Tree S} (h : ∀ y, (f y).All Q) : (Tree.ofOpt w x f).All Q := by
  cases x with
  | none => trivial
  | some y => exact h y
theorem all_nway {R : Type} {Q : R → Prop} {i : Int} {f : Nat → Tree R} (h : ∀ j, (f j).All Q) : ∀ (n : Nat) (e : Tree R), e.All Q → (nway i f n e).All Q
  | 0, _, he => he
  | n + 1, _, he => all_nway h n _ ⟨h n, he⟩
theorem all_atPlace {R : Type} {Q : R → Prop} {i : SI} {n : Nat} {f : Nat → Tree R} (h : ∀ j, (f j).All Q) : (atPlace i n f).All Q := by
  cases i with
  | lit x =>
    simp only [atPlace]
    split
    · exact h _
    · trivial
  | sym x => exact all_nway h n _ trivial

def ResOK (h : Heap) (key : Nat) : Res → Prop
  | .val _ _ W => WOK (lookOf h) key (key + 2) W
section
variable {P : Program} {h : Heap} {key : Nat}
theorem ok_pure (v : AV) (R : List Nat) : (Tree.leaf (Res.val v R [])).All (ResOK h key) := WOK.nil _ _ _

theorem all_intOp (op : BinOp) (k : IntKind) (a b : SI) : (intOp op k a b).All (ResOK h key) := by
  cases op <;> first | exact ok_pure _ _ | trivial | exact all_need (ok_pure _ _)
theorem all_shiftOp (op : BinOp) (k : IntKind) (a b : SI) : (shiftOp op k a b).All (ResOK h key) := by
  cases op <;> first | trivial | exact all_need (ok_pure _ _)
theorem all_eqOp (neg : Bool) (t : TypeId) (x y : AV) : (eqOp P neg t x y).All (ResOK h key) := by
  unfold eqOp
  split
  · exact ok_pure _ _
  · trivial
theorem all_binA (op : BinOp) (t : TypeId) (x y : AV) : (binA P op t x y).All (ResOK h key) := by
  unfold binA
  split
  · split
    · exact all_shiftOp _ _ _ _
    · exact all_shiftOp _ _ _ _
    · split
      · exact all_intOp _ _ _ _
      · trivial
  · split <;> first | exact ok_pure _ _ | trivial
  · split
    · trivial
    · split
      · exact all_eqOp _ _ _ _
      · exact all_eqOp _ _ _ _
      · trivial
  · trivial
  · split
    · exact all_eqOp _ _ _ _
    · exact all_eqOp _ _ _ _
    · trivial
theorem all_unA (op : UnOp) (x : AV) : (unA op x).All (ResOK h key) := by
  unfold unA
  split <;> first | exact ok_pure _ _ | trivial
theorem all_fixS {R : Type} {Q : R → Prop} {v : AV} {K : AV → Tree R} (h : ∀ v, (K v).All Q) : (fixS v K).All Q := by
  unfold fixS
  split
  · exact h _
  · exact h _
theorem all_fixC {R : Type} {Q : R → Prop} : ∀ {l : List AV} {K : List AV → Tree R}, (∀ l, (K l).All Q) → (fixC l K).All Q
  | [], K, h => h _
  | v :: l, K, h => all_fixS fun _ => all_fixC fun _ => h _
theorem all_fixA {R : Type} {Q : R → Prop} {v : AV} {K : AV → Tree R} (h : ∀ v, (K v).All Q) : (fixA v K).All Q := by
  unfold fixA
  split
  · exact all_fixC fun _ => h _
  · exact all_fixS h
theorem all_loadA (t : TypeId) (x : AV) : (loadA P t x h).All (ResOK h key) := by
  unfold loadA
  split
  · split
    · exact all_ofOpt fun _ => ok_pure _ _
    · trivial
  · split
    · split
      · exact all_need (all_ofOpt fun _ => all_fixA fun _ => ok_pure _ _)
      · trivial
    · trivial
  · trivial
theorem all_storeA (t : TypeId) (x v : AV) : (storeA P t x v h).All (ResOK h key) := by
  unfold storeA
  split
  · split
    · rename_i k off cs n hk hn
      split
      · exact WOK.one (.inl (by rw [lookOf, hk]; simp)) (fun _ _ _ _ e => by cases e)
      · trivial
    · trivial
  · trivial
theorem all_fieldAddrA (s : TypeId) (x : AV) (f : Nat) : (fieldAddrA P s x f).All (ResOK h key) := by
  unfold fieldAddrA
  split
  · split
    · split
      · split <;> first | exact ok_pure _ _ | trivial
      · trivial
    · trivial
  · trivial
theorem all_indexAddrA (t : TypeId) (x i : AV) : (indexAddrA P t x i h).All (ResOK h key) := by
  unfold indexAddrA
  split
  · split
    · split
      · split
        · exact all_atPlace fun _ => ok_pure _ _
        · trivial
      · trivial
    · split
      · split
        · split
          · exact all_need (ok_pure _ _)
          · trivial
        · trivial
      · trivial
    · trivial
  · trivial
theorem all_indexA (t : TypeId) (x i : AV) : (indexA P t x i).All (ResOK h key) := by
  unfold indexA
  split
  · split
    · split
      · exact all_atPlace fun _ => all_ofOpt fun _ => ok_pure _ _
      · trivial
    · trivial
  · trivial
theorem all_fieldA (t : TypeId) (x : AV) (f : Nat) : (fieldA P t x f).All (ResOK h key) := by
  unfold fieldA
  split
  · split
    · exact all_ofOpt fun _ => ok_pure _ _
    · trivial
  · trivial
theorem all_lenK (k : Nat) : (lenK k h).All (ResOK h key) := by
  unfold lenK
  split
  · exact ok_pure _ _
  · trivial
theorem all_lenA (t : TypeId) (x : AV) : (lenA P t x h).All (ResOK h key) := by
  unfold lenA
  split <;> try exact ok_pure _ _
  · exact all_lenK _
  · exact all_lenK _
  · trivial
theorem all_appendA (t : TypeId) (x y : AV) : (appendA P t x y h key).All (ResOK h key) := by
  unfold appendA
  split
  · split
    · split
      · rename_i a c g h1 h2 h3 h4
        simp only [Lst.with_eq]
        refine all_need ?_
        show WOK _ _ _ _
        intro k o hm
        simp only [List.mem_cons, Prod.mk.injEq] at hm
        rcases hm with ⟨rfl, rfl⟩ | ⟨rfl, rfl⟩ | hm
        · refine ⟨.inr ⟨by omega, by omega⟩, fun len sz rows g' e => .inl ?_⟩
          cases e
          simp [wkeys]
        · exact ⟨.inr ⟨by omega, by omega⟩, fun _ _ _ _ e => by cases e⟩
        · cases g with
          | none => cases hm
          | some g =>
            simp only [killG, List.mem_singleton, Prod.mk.injEq] at hm
            obtain ⟨rfl, rfl⟩ := hm
            refine ⟨.inl ?_, fun _ _ _ _ e => by cases e⟩
            unfold grpOf at h4
            split at h4
            · cases h4
            · rename_i kk
              split at h4
              · rename_i len sz rows g' hkk
                cases h4
                unfold readL at h2
                simp only [readK, hkk] at h2
                split at h2
                · rename_i h5 h6
                  rw [lookOf, liveG_spec h6 k rfl]
                  simp
                · cases h2
              · cases h4
            · cases h4
      · trivial
    · trivial
  · trivial
theorem all_sliceA (t : TypeId) (x : AV) (lo hi : Option AV) : (sliceA P t x lo hi h key).All (ResOK h key) := by
  unfold sliceA
  split
  · split
    · split
      · rename_i k hn len sz rows g hkk
        split
        · rename_i l m h1 h2 h3
          simp only [Bool.and_eq_true] at h1
          refine all_need (all_need ?_)
          refine WOK.one (.inr ⟨Nat.le_refl _, by omega⟩) fun len' sz' rows' g' e => ?_
          injection e with e
          injection e with _ _ _ e
          rw [lookOf, liveG_spec h1.2 g' e]
          simp
        · trivial
      · trivial
    · split
      · exact ok_pure _ _
      · trivial
    · trivial
  · trivial
theorem all_sliceZA (t : TypeId) (x : AV) (lo : Option AV) (hi mx : AV) : (sliceZA P t x lo hi mx h key).All (ResOK h key) := by
  unfold sliceZA
  split
  · split
    · split
      · exact ok_pure _ _
      · split
        · show WOK _ _ _ _
          intro k o hm
          simp only [List.mem_cons, Prod.mk.injEq, List.not_mem_nil, or_false] at hm
          rcases hm with ⟨rfl, rfl⟩ | ⟨rfl, rfl⟩
          · refine ⟨.inr ⟨by omega, by omega⟩, fun len sz rows g' e => .inl ?_⟩
            cases e
            simp [wkeys]
          · exact ⟨.inr ⟨by omega, by omega⟩, fun _ _ _ _ e => by cases e⟩
        · trivial
      · trivial
    · trivial
  · trivial
theorem all_buildSliceA (t : TypeId) (len : Nat) (parts : List (Nat × AV)) : (buildSliceA P t len parts key).All (ResOK h key) := by
  unfold buildSliceA
  split
  · split
    · split
      · split
        · rw [forceC_eq]
          show WOK _ _ _ _
          intro k o hm
          simp only [List.mem_cons, Prod.mk.injEq, List.not_mem_nil, or_false] at hm
          rcases hm with ⟨rfl, rfl⟩ | ⟨rfl, rfl⟩
          · refine ⟨.inr ⟨by omega, by omega⟩, fun len sz rows g' e => .inl ?_⟩
            cases e
            simp [wkeys]
          · exact ⟨.inr ⟨by omega, by omega⟩, fun _ _ _ _ e => by cases e⟩
        · trivial
      · trivial
    · trivial
  · trivial
theorem all_callA (c : Call) (ρ : Operand → AV) : (callA P c ρ h key).All (ResOK h key) := by
  unfold callA
  split
  · trivial
  · trivial
  · split
    · exact all_lenA _ _
    · split
      · exact all_appendA _ _ _
      · trivial
    · split
      · exact all_ofOpt fun _ => ok_pure _ _
      · trivial
    · split
      · exact all_ofOpt fun _ => ok_pure _ _
      · trivial
    · trivial
theorem all_opA (op : Op) (ρ : Operand → AV) : (opA P op ρ h key).All (ResOK h key) := by
  cases op <;> simp only [opA] <;> try trivial
  case move => exact ok_pure _ _
  case assign => exact ok_pure _ _
  case pick => split <;> first | exact ok_pure _ _ | trivial | exact ⟨ok_pure _ _, ok_pure _ _⟩
  case alloc =>
    split
    · split
      · exact WOK.one (.inr ⟨Nat.le_refl _, by omega⟩) fun _ _ _ _ e => by cases e
      · trivial
    · trivial
  case box =>
    split
    · exact WOK.one (.inr ⟨Nat.le_refl _, by omega⟩) fun _ _ _ _ e => by cases e
    · trivial
  case build => exact all_ofOpt fun _ => ok_pure _ _
  case buildSlice => exact all_buildSliceA _ _ _
  case load => exact all_loadA _ _
  case store => exact all_storeA _ _ _
  case nilCheck => split <;> first | exact ok_pure _ _ | trivial
  case binOp => exact all_binA _ _ _ _
  case unOp => exact all_unA _ _
  case convert => split <;> first | exact ok_pure _ _ | trivial
  case makeFunc => exact ok_pure _ _
  case slice =>
    split
    · exact all_sliceA _ _ _ _
    · split
      · exact all_sliceZA _ _ _ _ _
      · trivial
  case fieldAddr => exact all_fieldAddrA _ _ _
  case field => exact all_fieldA _ _ _
  case indexAddr => exact all_indexAddrA _ _ _
  case index => exact all_indexA _ _ _
  case extract =>
    split
    · exact all_ofOpt fun _ => ok_pure _ _
    · trivial
  case call => exact all_callA _ _
theorem opA_wok {op : Op} {ρ : Operand → AV} {v : AV} {R : List Nat} {W : Heap} (hs : (opA P op ρ h key).sel = some (.val v R W)) : WOK (lookOf h) key (key + 2) W :=
  (all_opA (P := P) (h := h) (key := key) op ρ).sel hs
end

/- The run. -/
/-- What a table of summaries and hooks owes here. -/
structure TabW (T : Tab) : Prop where
  sm : ∀ f S, T.sm f = some S → ∀ args h key r, (S.run args h key).sel = some r → key ≤ r.2.2.2 ∧ WOK (lookOf h) key r.2.2.2 r.2.2.1
  hk : ∀ f id H, T.hk f id = some H → ∀ τ h key s, (H.run τ h key).sel = some s → key ≤ s.key ∧ ∃ W, s.heap = W ++ h ∧ WOK (lookOf h) key s.key W
def Grows (h : Heap) (key : Nat) (h' : Heap) (key' : Nat) : Prop := key ≤ key' ∧ ∃ W, h' = W ++ h ∧ WOK (lookOf h) key key' W
theorem Grows.refl (h : Heap) (key : Nat) : Grows h key h key := ⟨Nat.le_refl _, [], rfl, WOK.nil _ _ _⟩
theorem Grows.trans {h h' h'' : Heap} {k k' k'' : Nat} (a : Grows h k h' k') (b : Grows h' k' h'' k'') : Grows h k h'' k'' := by
  obtain ⟨a1, W, rfl, a2⟩ := a
  obtain ⟨b1, V, rfl, b2⟩ := b
  refine ⟨Nat.le_trans a1 b1, V ++ W, by simp, ?_⟩
  rw [lookOf_append] at b2
  exact a2.trans b2 a1 b1
theorem Grows.app {h W : Heap} {k k' : Nat} (h1 : k ≤ k') (h2 : WOK (lookOf h) k k' W) : Grows h k (W ++ h) k' := ⟨h1, W, rfl, h2⟩
def CallG (call : CallD) : Prop := ∀ f args h key v h' key', call f args h key = some (v, h', key') → Grows h key h' key'

section
variable {P : Program} {T : Tab}
theorem obind_some {α β : Type} {x : Option α} {f : α → Option β} {b : β} (h : x.bind f = some b) : ∃ a, x = some a ∧ f a = some b := by
  cases x with
  | none => cases h
  | some a => exact ⟨a, rfl, h⟩

theorem opsD_grows (hT : TabW T) {call : CallD} (hc : CallG call) (nt : Nat) (ops : Array Oper) : ∀ (l : List Oper) (τ : Tm) (h : Heap) (key : Nat) (q : Tm × Heap × Nat),
    opsD P T call nt ops l τ h key = some q → Grows h key q.2.1 q.2.2 := by
  intro l
  induction l with
  | nil => intro τ h key q e; cases e; exact Grows.refl _ _
  | cons o rest ih =>
    intro τ h key q e
    simp only [opsD] at e
    split at e
    · cases e
    · obtain ⟨g, _, e⟩ := obind_some e
      split at e
      · split at e
        · split at e
          · rename_i S hS
            obtain ⟨r, hr, e⟩ := obind_some e
            obtain ⟨a1, a2⟩ := hT.sm _ S hS _ _ _ r hr
            exact (Grows.app a1 a2).trans (ih _ _ _ _ e)
          · obtain ⟨r, hr, e⟩ := obind_some e
            exact (hc _ _ _ _ _ _ _ hr).trans (ih _ _ _ _ e)
        · obtain ⟨r, hr, e⟩ := obind_some e
          cases r with
          | val v R W => exact (Grows.app (by omega) (opA_wok hr)).trans (ih _ _ _ _ e)
      · exact ih _ _ _ _ e

theorem restrict_length : ∀ (ks : List Nat) (h : Heap), (restrict ks h).length = ks.length
  | [], _ => rfl
  | k :: ks, h => by simp [restrict, restrict_length ks h]
theorem restrict_look (h : Heap) (k : Nat) : ∀ ks : List Nat, lookOf (restrict ks h) k = if k ∈ ks then hget k h else none
  | [] => rfl
  | j :: ks => by
    have ih := restrict_look h k ks
    simp only [lookOf] at ih ⊢
    simp only [restrict, hget]
    by_cases hj : k = j
    · subst hj; simp
    · rw [beq_ne (Ne.symm hj)]
      dsimp only
      rw [ih]
      simp [hj]
theorem take_new {W r : Heap} : (W ++ r).take ((W ++ r).length - r.length) = W := by simp

theorem drawStepD_grows (hT : TabW T) {call : CallD} (hc : CallG call) {o : Oper} {τ : Tm} {h : Heap} {key : Nat} {r : AV × List Nat × Heap × Nat} (e : drawStepD P T call o τ h key = some r) :
    key ≤ r.2.2.2 ∧ WOK (lookOf h) key r.2.2.2 r.2.2.1 := by
  unfold drawStepD at e
  split at e
  · rename_i f args _
    split at e
    · rename_i S hS
      exact hT.sm _ S hS _ _ _ r e
    · split at e
      · cases e
      · obtain ⟨x, hx, rfl⟩ := Option.map_eq_some_iff.1 e
        obtain ⟨a1, W, a2, a3⟩ := hc _ _ _ _ _ _ _ hx
        refine ⟨a1, ?_⟩
        dsimp only
        rw [a2]
        rw [← restrict_length (reach 100 (keysL args) [] h) h, take_new]
        intro k o' hm
        obtain ⟨b1, b2⟩ := a3 k o' hm
        have sub : ∀ j, lookOf (restrict (reach 100 (keysL args) [] h) h) j ≠ none → lookOf h j ≠ none := by
          intro j hj
          rw [restrict_look] at hj
          split at hj
          · exact hj
          · exact absurd rfl hj
        exact ⟨b1.imp (sub k) id, fun len sz rows g e' => (b2 len sz rows g e').imp id (sub g)⟩
  · obtain ⟨x, hx, rfl⟩ := Option.map_eq_some_iff.1 e
    cases x with
    | val v R W => exact ⟨Nat.le_add_right key 2, opA_wok hx⟩

theorem drawD_grows (hT : TabW T) {call : CallD} (hc : CallG call) (nt : Nat) (ops : Array Oper) (bef : List Nat) : ∀ (l : List Oper) (i : Nat) (cs : List Cert) (τ : Tm) (h : Heap) (key : Nat) (q : Tm × Heap × Nat),
    drawD P T call nt ops bef l i cs τ h key = some q → Grows h key q.2.1 q.2.2 := by
  intro l
  induction l with
  | nil => intro i cs τ h key q e; cases e; exact Grows.refl _ _
  | cons o rest ih =>
    intro i cs τ h key q e
    simp only [drawD] at e
    split at e
    · cases e
    · obtain ⟨g, _, e⟩ := obind_some e
      split at e
      · obtain ⟨r, hr, e⟩ := obind_some e
        split at e
        · cases e
        · obtain ⟨a1, a2⟩ := drawStepD_grows hT hc hr
          exact (Grows.app a1 a2).trans (ih _ _ _ _ _ _ e)
      · split at e
        · cases e
        · exact ih _ _ _ _ _ _ e

theorem callWD_grows {run : FuncId → Nat → Code → Tm → Heap → Nat → Option St} (hr : ∀ f nt c τ h key s, run f nt c τ h key = some s → Grows h key s.heap s.key) : CallG (callWD P run) := by
  intro f args h key v h' key' e
  unfold callWD at e
  split at e
  · split at e
    · obtain ⟨s, hs, e⟩ := obind_some e
      split at e
      · cases e
      · obtain ⟨l, _, e⟩ := Option.map_eq_some_iff.1 e
        cases e
        exact hr _ _ _ _ _ _ _ hs
    · cases e
  · cases e

theorem codeD_grows (hT : TabW T) : ∀ (n : Nat) (f : FuncId) (nt : Nat) (c : Code) (τ : Tm) (h : Heap) (key : Nat) (s : St), codeD P T n f nt c τ h key = some s → Grows h key s.heap s.key := by
  intro n
  induction n with
  | zero => intro f nt c τ h key s e; cases e
  | succ n ih =>
    intro f nt c τ h key s e
    have hcall : CallG (callWD P (codeD P T n)) := callWD_grows ih
    cases c <;> simp only [codeD] at e <;> try (cases e; done)
    case skip => cases e; exact Grows.refl _ _
    case label => cases e; exact Grows.refl _ _
    case exit => cases e; exact Grows.refl _ _
    case ret => cases e; exact Grows.refl _ _
    case seq x y =>
      obtain ⟨s1, h1, e⟩ := obind_some e
      split at e
      · exact (ih _ _ _ _ _ _ _ h1).trans (ih _ _ _ _ _ _ _ e)
      · cases e; exact ih _ _ _ _ _ _ _ h1
    case cond c x y =>
      split at e
      · exact ih _ _ _ _ _ _ _ e
      · exact ih _ _ _ _ _ _ _ e
      · split at e
        · split at e
          · exact ih _ _ _ _ _ _ _ e
          · exact ih _ _ _ _ _ _ _ e
        · cases e
      · cases e
    case block id x =>
      split at e
      · rename_i H hH
        exact hT.hk _ _ H hH _ _ _ _ e
      · obtain ⟨s1, h1, e⟩ := obind_some e
        have g1 := ih _ _ _ _ _ _ _ h1
        split at e
        · split at e <;> (cases e; exact g1)
        · cases e; exact g1
    case loop x =>
      obtain ⟨s1, h1, e⟩ := obind_some e
      split at e
      · exact (ih _ _ _ _ _ _ _ h1).trans (ih _ _ _ _ _ _ _ e)
      · cases e; exact ih _ _ _ _ _ _ _ h1
    case region id ops draw =>
      cases draw <;> simp only [codeD] at e
      · obtain ⟨q, hq, rfl⟩ := Option.map_eq_some_iff.1 e
        exact opsD_grows hT hcall _ _ _ _ _ _ _ hq
      · obtain ⟨q, hq, rfl⟩ := Option.map_eq_some_iff.1 e
        exact drawD_grows hT hcall _ _ _ _ _ _ _ _ _ _ hq
end
end Go.Eng
