/- The engine, part S: summaries of calls that read and write memory, proved on keys of their own.
   Conditions: none. -/
import Derived.Test.YtnfmdpelafaoaaaEngR
set_option linter.unusedSimpArgs false
set_option linter.unusedVariables false
namespace Go.Eng
section
variable {P : Program} {T : Tab}

/-- A call, on keys of its own; what it makes has keys from m on. -/
def StdN (P : Program) (f : FuncId) (m : Nat) (h : List (Nat × AObj)) (args : List AV) (m' : Nat) (h' : List (Nat × AObj)) (v : AV) : Prop :=
  ∀ E w, RelU (· < m) E (lookOf (mkHeap h)) w → Calls P f (denL E args).toArray w fun e w' => ∃ E1, e = .returned (den E1 v) ∧ Agree (· < m) E E1 ∧ RelU (· < m') E1 (lookOf (mkHeap h')) w' ∧ WExt E (lookOf (mkHeap h)) w E1 (lookOf (mkHeap h')) w'

def outC (ks : List Nat) (v : AV) (h : Heap) (key : Nat) : Tree (AV × Heap) := match Nat.ble key nilK with
  | true => forceV v fun v => forceH h ks fun h => .leaf (v, h)
  | false => .fail "keys"
theorem lt_of_all {m : Nat} {l : List Nat} (h : l.all (Nat.blt · m) = true) : ∀ k ∈ l, k < m := fun k hk => Nat.le_of_ble_eq_true (List.all_eq_true.1 h k hk)
theorem stdN_tree (hT : TabAll P T) (hm : P.follows .mixedOrders = true) {n : Nat} {f : FuncId} {m m' : Nat} {h h' : List (Nat × AObj)} {args ks} {v : AV} (hargs : (keysL args).all (Nat.blt · m) = true) (hv : (keysOf v).all (Nat.blt · m') = true)
    (H : (callW P (codeT P T n) f args (mkHeap h) m (outC ks)).Holds fun o => ∃ φ, (∀ k, k < m → φ k = k) ∧ SameV isNil o.1 (ren φ v) ∧ ObjsOk m' φ o.2 h' ∧ distB (h'.map fun p => φ p.1) = true) : StdN P f m h args m' h' v := by
  intro E w hU
  obtain ⟨o, h1, φ, hφ, h2, h4, h5⟩ := H
  rw [callW_nat (runD := codeD P T n) (fun f nt c τ h key K => codeT_sel n f nt c τ h key K)] at h1
  obtain ⟨⟨v0, H0, key'⟩, hc, h1⟩ := obind_some h1
  dsimp only [outC] at h1
  split at h1
  · rename_i hkey
    have hkey := Nat.le_of_ble_eq_true hkey
    rw [forceV_eq, forceH_eq] at h1
    cases h1
    obtain ⟨hge, W, hW, _⟩ := call_grows hT n f args _ m v0 H0 key' hc
    have := call_sound hT hm n f args _ m v0 H0 key' W hc hW (· < m) E _ w _ hU rfl (fun k h1 _ h2 => by omega) (fun E' hE => by rw [denL_cl hE args (lt_of_all hargs)])
    refine this.mono ?_
    rintro e w' ⟨val, E1, rfl, g1, g2, g3⟩
    rw [← lookOf_append, ← hW] at g2 g3
    have hlt : ∀ k, rng (· < m) m key' k → k < nilK := fun k hk => by
      rcases hk with hk | hk <;> omega
    have hag := nilExt_agree (E := E1) hlt
    have hz := nilExt_ok E1
    have hR : ResetH isNil (· < m') φ H0 (mkHeap h') := by
      refine ⟨fun k o hk => ?_, fun k k' o o' hk hk' e => congrArg (·.1) (distB_inj h5 (k, o) (mkHeap_mem hk) (k', o') (mkHeap_mem hk') e)⟩
      obtain ⟨q0, q1⟩ := h4.of k o hk
      refine ⟨q0, q1.imp ?_ id⟩
      rintro ⟨o', q1, q2⟩
      exact ⟨o', hget_map ks q1, q2⟩
    refine ⟨(nilExt E1).via φ, ?_, fun k hk => ?_, hR.relU hz (g2.rel _ hag), (g3.wext.trans (wext_agree g2 hag)).trans (hR.wext _ hz w')⟩
    · rw [g1 _ hag, h2 _ hz, den_ren]
    · have h1 := g3.agree k hk
      have h2 := hag k (.inl hk)
      simp only [Env.via, hφ k hk]
      exact ⟨h2.1.trans h1.1, h2.2.1.trans h1.2.1, h2.2.2.trans h1.2.2⟩
  · cases h1

/- From keys of its own to keys at a call. -/
def renO (φ : Nat → Nat) : AObj → AObj
  | .box cs => .box (renL φ cs)
  | .tok => .tok
  | .lst len sz rows g => .lst len sz (fun i => renL φ (rows i)) (g.map φ)
  | .opq R => .opq R
def lkN (l : List Nat) (j : Nat) : Nat := l.getD j 0
def idxN (k : Nat) : List Nat → Nat
  | [] => 0
  | x :: l => match Nat.beq x k with
    | true => 0
    | false => idxN k l + 1
def wOf (φ : Nat → Nat) : List (Nat × AObj) → Heap
  | [] => []
  | p :: l => (φ p.1, some (renO φ p.2)) :: wOf φ l

theorem idx_lkN : ∀ {l : List Nat} {j : Nat}, distB l = true → j < l.length → idxN (lkN l j) l = j
  | [], _, _, h => absurd h (Nat.not_lt_zero _)
  | x :: l, 0, _, _ => by simp [lkN, idxN]
  | x :: l, j + 1, hd, h => by
    simp only [distB] at hd
    split at hd
    · cases hd
    · rename_i hm
      have hj : j < l.length := by simpa using h
      have e : lkN (x :: l) (j + 1) = lkN l j := rfl
      have hne : x ≠ lkN l j := fun he => by
        have : memK x l = true := memK_iff.2 (by rw [he]; simp [lkN, List.getD, List.getElem?_eq_getElem hj])
        rw [this] at hm
        cases hm
      simp only [idxN]
      rw [e, beq_ne hne]
      dsimp only
      rw [idx_lkN hd hj]
theorem lk_idxN : ∀ {l : List Nat} {k : Nat}, k ∈ l → lkN l (idxN k l) = k ∧ idxN k l < l.length
  | x :: l, k, h => by
    simp only [idxN]
    by_cases hx : x = k
    · subst hx
      rw [show Nat.beq x x = true from by simp]
      exact ⟨rfl, by simp⟩
    · rw [beq_ne hx]
      rcases List.mem_cons.1 h with h | h
      · exact absurd h.symm hx
      · obtain ⟨h1, h2⟩ := lk_idxN h
        exact ⟨h1, by simpa using h2⟩
theorem lkN_mem {l : List Nat} {j : Nat} (h : j < l.length) : lkN l j ∈ l := by simp [lkN, List.getD, List.getElem?_eq_getElem h]

mutual
theorem keysOf_ren (φ : Nat → Nat) : ∀ v : AV, keysOf (ren φ v) = (keysOf v).map φ
  | .ptr _ _ => rfl
  | .elp _ _ _ _ => rfl
  | .sl _ => rfl
  | .fn f a b => by simp [ren, keysOf, keysL_ren φ a, keysL_ren φ b]
  | .ifc t v => by simp [ren, keysOf, keysOf_ren φ v]
  | .agg l => by simp [ren, keysOf, keysL_ren φ l]
  | .tup l => by simp [ren, keysOf, keysL_ren φ l]
  | .bool _ => rfl
  | .int _ _ => rfl
  | .str _ => rfl
  | .slIf _ _ _ => rfl
  | .slN _ => rfl
  | .nilp => rfl
  | .nils => rfl
  | .nilf => rfl
  | .nili => rfl
  | .raw _ => rfl
theorem keysL_ren (φ : Nat → Nat) : ∀ l : List AV, keysL (renL φ l) = (keysL l).map φ
  | [] => rfl
  | v :: l => by simp [renL, keysL, keysOf_ren φ v, keysL_ren φ l]
end
theorem scalar_ren (φ : Nat → Nat) (v : AV) : (ren φ v).scalar = v.scalar := by cases v <;> rfl
theorem allScalar_ren (φ : Nat → Nat) : ∀ l : List AV, allScalar (renL φ l) = allScalar l
  | [] => rfl
  | v :: l => by
    simp only [renL, allScalar, scalar_ren φ v, allScalar_ren φ l]
theorem length_ren (φ : Nat → Nat) : ∀ l : List AV, (renL φ l).length = l.length
  | [] => rfl
  | v :: l => by simp [renL, length_ren φ l]

theorem wOf_mem {φ : Nat → Nat} {k : Nat} {o : Option AObj} : ∀ {l : List (Nat × AObj)}, (k, o) ∈ wOf φ l → ∃ p ∈ l, k = φ p.1 ∧ o = some (renO φ p.2)
  | [], h => by cases h
  | p :: l, h => by
    simp only [wOf] at h
    rcases List.mem_cons.1 h with h | h
    · cases h; exact ⟨p, by simp, rfl, rfl⟩
    · obtain ⟨q, h1, h2⟩ := wOf_mem h
      exact ⟨q, by simp [h1], h2⟩
theorem wget_wOf {φ : Nat → Nat} {k : Nat} {o : Option AObj} : ∀ {l : List (Nat × AObj)}, wget k (wOf φ l) = some o → (k, o) ∈ wOf φ l
  | [], h => by cases h
  | p :: l, h => by
    simp only [wOf, wget] at h ⊢
    cases hb : Nat.beq (φ p.1) k
    · rw [hb] at h; exact List.mem_cons_of_mem _ (wget_wOf h)
    · rw [hb] at h
      cases h
      rw [Nat.eq_of_beq_eq_true hb]
      exact List.mem_cons_self
theorem wget_cov {φ : Nat → Nat} {j : Nat} : ∀ {l : List (Nat × AObj)}, j ∈ l.map (·.1) → wget (φ j) (wOf φ l) ≠ none
  | [], h => by cases h
  | p :: l, h => by
    simp only [wOf, wget]
    cases hb : Nat.beq (φ p.1) (φ j)
    · dsimp only
      rcases List.mem_cons.1 h with h | h
      · rw [h] at hb
        simp at hb
      · exact wget_cov h
    · simp
theorem hget_mk_mem {k : Nat} {o : AObj} : ∀ {l : List (Nat × AObj)}, distB (l.map (·.1)) = true → (k, o) ∈ l → hget k (mkHeap l) = some o
  | [], _, h => by cases h
  | p :: l, hd, h => by
    simp only [List.map_cons, distB] at hd
    split at hd
    · cases hd
    · rename_i hm
      simp only [mkHeap, hget]
      rcases List.mem_cons.1 h with e | h
      · rw [← e]
        rw [show Nat.beq k k = true from by simp]
      · have hne : p.1 ≠ k := fun e => by
          have : memK p.1 (l.map (·.1)) = true := memK_iff.2 (by rw [e]; exact List.mem_map.2 ⟨(k, o), h, rfl⟩)
          rw [this] at hm
          cases hm
        rw [beq_ne hne]
        exact hget_mk_mem hd h

end
end Go.Eng
