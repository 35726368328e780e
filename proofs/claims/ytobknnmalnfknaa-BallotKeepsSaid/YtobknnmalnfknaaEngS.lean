/- The engine, part S: summaries of calls that read and write memory, proved on keys of their own.
   Conditions: none. -/
import Derived.Test.YtobknnmalnfknaaEngR
set_option linter.unusedSimpArgs false
set_option linter.unusedVariables false
namespace Go.Eng
section
variable {P : Program} {T : Tab}

/-- A call, on keys of its own. -/
def Std (P : Program) (f : FuncId) (m : Nat) (h : List (Nat × AObj)) (args : List AV) (h' : List (Nat × AObj)) (v : AV) : Prop :=
  ∀ E w, RelU (· < m) E (lookOf (mkHeap h)) w → Calls P f (denL E args).toArray w fun e w' => ∃ E1, e = .returned (den E1 v) ∧ Agree (· < m) E E1 ∧ RelU (· < m) E1 (lookOf (mkHeap h')) w' ∧ WExt E (lookOf (mkHeap h)) w E1 (lookOf (mkHeap h')) w'

def outC (ks : List Nat) (v : AV) (h : Heap) (_ : Nat) : Tree (AV × Heap) := .leaf (v, ks.map fun k => (k, hget k h))
theorem lt_of_all {m : Nat} {l : List Nat} (h : l.all (Nat.blt · m) = true) : ∀ k ∈ l, k < m := fun k hk => Nat.le_of_ble_eq_true (List.all_eq_true.1 h k hk)
theorem std_tree (hT : TabAll P T) (hm : P.follows .mixedOrders = true) {n : Nat} {f : FuncId} {m : Nat} {h h' : List (Nat × AObj)} {args ks} {v : AV} (hargs : (keysL args).all (Nat.blt · m) = true) (hd : distB (h'.map (·.1)) = true)
    (H : (callW P (codeT P T n) f args (mkHeap h) m (outC ks)).Holds fun o => (SameV o.1 v ∧ (keysOf v).all (Nat.blt · m) = true) ∧ ObjsOk m id o.2 h') : Std P f m h args h' v := by
  intro E w hU
  obtain ⟨o, h1, ⟨h2, h3⟩, h4⟩ := H
  rw [callW_nat (runD := codeD P T n) (fun f nt c τ h key K => codeT_sel n f nt c τ h key K)] at h1
  obtain ⟨⟨v0, H0, key'⟩, hc, h1⟩ := obind_some h1
  cases h1
  obtain ⟨_, W, hW, _⟩ := call_grows hT n f args _ m v0 H0 key' hc
  have := call_sound hT hm n f args _ m v0 H0 key' W hc hW (· < m) E _ w _ hU rfl (fun k h1 _ h2 => by omega) (fun E' hE => by rw [denL_cl hE args (lt_of_all hargs)])
  refine this.mono ?_
  rintro e w' ⟨val, E1, rfl, g1, g2, g3⟩
  rw [← lookOf_append, ← hW] at g2 g3
  have hR : ResetH (· < m) id H0 (mkHeap h') := by
    refine ⟨fun k o hk => ?_, fun k k' o o' _ _ e => e⟩
    obtain ⟨q0, o', q1, q2⟩ := h4.of k o hk
    exact ⟨q0, o', hget_map ks q1, q2⟩
  refine ⟨E1, ?_, g3.agree, hR.relU g2.here, g3.wext.trans (hR.wext E1 w')⟩
  rw [g1 E1 (Agree.refl _ _), h2 E1]

/- From keys of its own to keys at a call. -/
def renO (φ : Nat → Nat) : AObj → AObj
  | .box cs => .box (renL φ cs)
  | .tok => .tok
  | .lst len sz rows g => .lst len sz (fun i => renL φ (rows i)) (g.map φ)
  | .opq R => .opq R
/-- Boxes, and lists that are only read. -/
def plainO (m : Nat) : AObj → Prop
  | .box cs => (keysL cs).all (Nat.blt · m) = true
  | .lst _ _ rows none => PlainRows rows
  | _ => False
def lkN (l : List Nat) (j : Nat) : Nat := l.getD j 0
def idxN (k : Nat) : List Nat → Nat
  | [] => 0
  | x :: l => match Nat.beq x k with
    | true => 0
    | false => idxN k l + 1
def wOf (φ : Nat → Nat) : List (Nat × AObj) → Heap
  | [] => []
  | p :: l => (φ p.1, some (renO φ p.2)) :: wOf φ l

theorem idx_lkN : ∀ {l : List Nat} {j : Nat}, distB l = true → j < l.length → idxN (lkN l j) l = j
  | [], _, _, h => absurd h (Nat.not_lt_zero _)
  | x :: l, 0, _, _ => by simp [lkN, idxN]
  | x :: l, j + 1, hd, h => by
    simp only [distB] at hd
    split at hd
    · cases hd
    · rename_i hm
      have hj : j < l.length := by simpa using h
      have e : lkN (x :: l) (j + 1) = lkN l j := rfl
      have hne : x ≠ lkN l j := fun he => by
        have : memK x l = true := memK_iff.2 (by rw [he]; simp [lkN, List.getD, List.getElem?_eq_getElem hj])
        rw [this] at hm
        cases hm
      simp only [idxN]
      rw [e, beq_ne hne]
      dsimp only
      rw [idx_lkN hd hj]
theorem lk_idxN : ∀ {l : List Nat} {k : Nat}, k ∈ l → lkN l (idxN k l) = k ∧ idxN k l < l.length
  | x :: l, k, h => by
    simp only [idxN]
    by_cases hx : x = k
    · subst hx
      rw [show Nat.beq x x = true from by simp]
      exact ⟨rfl, by simp⟩
    · rw [beq_ne hx]
      rcases List.mem_cons.1 h with h | h
      · exact absurd h.symm hx
      · obtain ⟨h1, h2⟩ := lk_idxN h
        exact ⟨h1, by simpa using h2⟩
theorem lkN_mem {l : List Nat} {j : Nat} (h : j < l.length) : lkN l j ∈ l := by simp [lkN, List.getD, List.getElem?_eq_getElem h]

mutual
theorem keysOf_ren (φ : Nat → Nat) : ∀ v : AV, keysOf (ren φ v) = (keysOf v).map φ
  | .ptr _ _ => rfl
  | .elp _ _ _ _ => rfl
  | .sl _ => rfl
  | .fn f a b => by simp [ren, keysOf, keysL_ren φ a, keysL_ren φ b]
  | .ifc t v => by simp [ren, keysOf, keysOf_ren φ v]
  | .agg l => by simp [ren, keysOf, keysL_ren φ l]
  | .tup l => by simp [ren, keysOf, keysL_ren φ l]
  | .bool _ => rfl
  | .int _ _ => rfl
  | .str _ => rfl
  | .nilp => rfl
  | .nils => rfl
  | .nilf => rfl
  | .nili => rfl
  | .raw _ => rfl
theorem keysL_ren (φ : Nat → Nat) : ∀ l : List AV, keysL (renL φ l) = (keysL l).map φ
  | [] => rfl
  | v :: l => by simp [renL, keysL, keysOf_ren φ v, keysL_ren φ l]
end
theorem scalar_ren (φ : Nat → Nat) (v : AV) : (ren φ v).scalar = v.scalar := by cases v <;> rfl
theorem allScalar_ren (φ : Nat → Nat) : ∀ l : List AV, allScalar (renL φ l) = allScalar l
  | [] => rfl
  | v :: l => by
    simp only [renL, allScalar, scalar_ren φ v, allScalar_ren φ l]
theorem length_ren (φ : Nat → Nat) : ∀ l : List AV, (renL φ l).length = l.length
  | [] => rfl
  | v :: l => by simp [renL, length_ren φ l]

theorem same_back {φ ψ : Nat → Nat} {m : Nat} {M : Nat → Prop} {o : AObj} (hp : plainO m o) (hs : ∀ cs, o = .box cs → allScalar cs = true) (hψ : ∀ j, j < m → ψ (φ j) = j) (hM : ∀ j, j < m → M (φ j)) : SameO ψ M o (renO φ o) := by
  have back : ∀ (E : Env), Agree (· < m) ((E.via ψ).via φ) E := fun E j hj => ⟨by simp [Env.via, hψ j hj], by simp [Env.via, hψ j hj], by simp [Env.via, hψ j hj]⟩
  cases o with
  | box cs =>
    refine ⟨by rw [allScalar_ren]; exact hs cs rfl, fun E => ?_, fun k hk => ?_⟩
    · rw [denL_ren, denL_ren]
      exact denL_cl (back E) cs (lt_of_all hp)
    · rw [keysL_ren] at hk
      obtain ⟨j, h1, rfl⟩ := List.mem_map.1 hk
      exact hM j (lt_of_all hp j h1)
  | tok => exact hp.elim
  | lst len sz rows g =>
    cases g with
    | some g => exact hp.elim
    | none =>
      have hp : PlainRows rows := hp
      refine ⟨rfl, rfl, rfl, (fun x (h : none = some x) => by cases h), fun i _ => ⟨length_ren φ _, by rw [allScalar_ren]; exact (hp i).1, fun E => ?_, fun k hk => ?_⟩⟩
      · rw [denL_ren, denL_ren]
        exact denL_cl (M := fun _ => False) (fun k hk => hk.elim) _ (by rw [(hp i).2]; simp)
      · rw [keysL_ren, (hp i).2] at hk
        cases hk
  | opq R => exact hp.elim

structure Fit where
  φ : List Nat
  args : List AV
  h : List (Nat × AObj)
  h' : List (Nat × AObj)
  v : AV
def covers (m : Nat) (l : List (Nat × AObj)) : Bool := (List.range m).all fun j => memK j (l.map (·.1))
structure FitOk (P : Program) (f : FuncId) (args : List AV) (h : Heap) (q : Fit) : Prop where
  dist : distB q.φ = true
  args : ∀ E, denL E args = denL E (renL (lkN q.φ) q.args)
  keys : (keysL q.args).all (Nat.blt · q.φ.length) = true
  obj : ∀ p ∈ q.h, p.1 < q.φ.length ∧ plainO q.φ.length p.2 ∧ ∃ o', hget (lkN q.φ p.1) h = some o' ∧ SameO (lkN q.φ) (· < q.φ.length) o' p.2
  cov : covers q.φ.length q.h = true
  obj' : ∀ p ∈ q.h', p.1 < q.φ.length ∧ plainO q.φ.length p.2
  cov' : covers q.φ.length q.h' = true
  dist' : distB (q.h'.map (·.1)) = true
  distH : distB (q.h.map (·.1)) = true
  vk : (keysOf q.v).all (Nat.blt · q.φ.length) = true
  std : Std P f q.φ.length q.h q.args q.h' q.v

def stdSumm (ent : List AV → Heap → Option Fit) : Summ := ⟨fun args h key => match ent args h with
  | some q => .leaf (ren (lkN q.φ) q.v, q.φ, wOf (lkN q.φ) q.h', key)
  | none => .fail "summary"⟩

theorem wOf_mem {φ : Nat → Nat} {k : Nat} {o : Option AObj} : ∀ {l : List (Nat × AObj)}, (k, o) ∈ wOf φ l → ∃ p ∈ l, k = φ p.1 ∧ o = some (renO φ p.2)
  | [], h => by cases h
  | p :: l, h => by
    simp only [wOf] at h
    rcases List.mem_cons.1 h with h | h
    · cases h; exact ⟨p, by simp, rfl, rfl⟩
    · obtain ⟨q, h1, h2⟩ := wOf_mem h
      exact ⟨q, by simp [h1], h2⟩
theorem wget_wOf {φ : Nat → Nat} {k : Nat} {o : Option AObj} : ∀ {l : List (Nat × AObj)}, wget k (wOf φ l) = some o → (k, o) ∈ wOf φ l
  | [], h => by cases h
  | p :: l, h => by
    simp only [wOf, wget] at h ⊢
    cases hb : Nat.beq (φ p.1) k
    · rw [hb] at h; exact List.mem_cons_of_mem _ (wget_wOf h)
    · rw [hb] at h
      cases h
      rw [Nat.eq_of_beq_eq_true hb]
      exact List.mem_cons_self
theorem wget_cov {φ : Nat → Nat} {j : Nat} : ∀ {l : List (Nat × AObj)}, j ∈ l.map (·.1) → wget (φ j) (wOf φ l) ≠ none
  | [], h => by cases h
  | p :: l, h => by
    simp only [wOf, wget]
    cases hb : Nat.beq (φ p.1) (φ j)
    · dsimp only
      rcases List.mem_cons.1 h with h | h
      · rw [h] at hb
        simp at hb
      · exact wget_cov h
    · simp
theorem hget_mk_mem {k : Nat} {o : AObj} : ∀ {l : List (Nat × AObj)}, distB (l.map (·.1)) = true → (k, o) ∈ l → hget k (mkHeap l) = some o
  | [], _, h => by cases h
  | p :: l, hd, h => by
    simp only [List.map_cons, distB] at hd
    split at hd
    · cases hd
    · rename_i hm
      simp only [mkHeap, hget]
      rcases List.mem_cons.1 h with e | h
      · rw [← e]
        rw [show Nat.beq k k = true from by simp]
      · have hne : p.1 ≠ k := fun e => by
          have : memK p.1 (l.map (·.1)) = true := memK_iff.2 (by rw [e]; exact List.mem_map.2 ⟨(k, o), h, rfl⟩)
          rw [this] at hm
          cases hm
        rw [beq_ne hne]
        exact hget_mk_mem hd h

theorem stdSumm_ok {f : FuncId} {ent : List AV → Heap → Option Fit} (H : ∀ args h q, ent args h = some q → FitOk P f args h q) : SummAll P f (stdSumm ent) := by
  refine ⟨fun args h key v R W key' e => ?_, fun args h key r e => ?_⟩
  · simp only [stdSumm] at e
    split at e
    · rename_i q hq
      cases e
      have F := H args h q hq
      intro A E lk w vals hU hC hk hvals
      have hC : ∀ k ∈ q.φ, lk k = hget k h := hC
      have cov : ∀ j, j < q.φ.length → ∃ o, (j, o) ∈ q.h := fun j hj => by
        have := memK_iff.1 (List.all_eq_true.1 F.cov j (by simpa using hj))
        obtain ⟨p, h1, h2⟩ := List.mem_map.1 this
        exact ⟨p.2, by rw [← h2]; exact h1⟩
      have hAφ : ∀ j, j < q.φ.length → A (lkN q.φ j) := fun j hj => by
        obtain ⟨o, ho⟩ := cov j hj
        obtain ⟨_, _, o', h1, _⟩ := F.obj _ ho
        exact hU.dom _ o' (by rw [hC _ (lkN_mem hj)]; exact h1)
      have hlook : ∀ k, lookOf (restrict q.φ h) k = if k ∈ q.φ then hget k h else none := fun k => restrict_look h k q.φ
      have hsub : ∀ k o, lookOf (restrict q.φ h) k = some o → lk k = some o := by
        intro k o ho
        rw [hlook] at ho
        split at ho
        · rename_i hm; rw [hC k hm]; exact ho
        · cases ho
      have hR : ResetH (· < q.φ.length) (lkN q.φ) (restrict q.φ h) (mkHeap q.h) := by
        refine ⟨fun k o ho => ?_, fun k k' o o' ho ho' e => ?_⟩
        · obtain ⟨h1, _, o', h2, h3⟩ := F.obj _ (mkHeap_mem ho)
          refine ⟨h1, o', ?_, h3⟩
          have := hlook (lkN q.φ k)
          rw [if_pos (lkN_mem h1)] at this
          exact this.trans h2
        · have h1 := (F.obj _ (mkHeap_mem ho)).1
          have h2 := (F.obj _ (mkHeap_mem ho')).1
          have h1 : k < q.φ.length := h1
          have h2 : k' < q.φ.length := h2
          rw [← idx_lkN F.dist h1, ← idx_lkN F.dist h2, e]
      have hUs := hR.relU (hU.sub hsub).here
      have hv : vals = (denL (E.via (lkN q.φ)) q.args).toArray := by
        rw [hvals E (Agree.refl _ _), F.args E, denL_ren]
      rw [hv]
      refine (F.std _ w hUs).mono ?_
      rintro e w' ⟨E1, rfl, hag, hU1, hx1⟩
      have agφ : ∀ j, j < q.φ.length → E1.blk j = E.blk (lkN q.φ j) ∧ E1.hdr j = E.hdr (lkN q.φ j) ∧ E1.fp j = E.fp (lkN q.φ j) := fun j hj => hag j hj
      have agψ : Agree (· ∈ q.φ) (E1.via fun k => idxN k q.φ) E := fun k hk => by
        obtain ⟨h1, h2⟩ := lk_idxN hk
        obtain ⟨a1, a2, a3⟩ := agφ _ h2
        rw [h1] at a1 a2 a3
        exact ⟨a1.symm, a2.symm, a3.symm⟩
      -- the heap at the call
      have hget' : ∀ k o, lookOf (wOf (lkN q.φ) q.h' ++ restrict q.φ h) k = some o → k ∈ q.φ ∧ ∃ j os, k = lkN q.φ j ∧ j < q.φ.length ∧ (j, os) ∈ q.h' ∧ o = renO (lkN q.φ) os := by
        intro k o ho
        rw [lookOf_append] at ho
        unfold hupd at ho
        cases hw : wget k (wOf (lkN q.φ) q.h') with
        | some x =>
          rw [hw] at ho
          dsimp only at ho
          subst ho
          obtain ⟨p, h1, h2, h3⟩ := wOf_mem (wget_wOf hw)
          have hp := (F.obj' p h1).1
          exact ⟨by rw [h2]; exact lkN_mem hp, p.1, p.2, h2, hp, h1, by cases h3; rfl⟩
        | none =>
          rw [hw] at ho
          dsimp only at ho
          rw [hlook] at ho
          split at ho
          · rename_i hm
            obtain ⟨h1, h2⟩ := lk_idxN hm
            have := memK_iff.1 (List.all_eq_true.1 F.cov' (idxN k q.φ) (by simpa using h2))
            have := wget_cov (φ := lkN q.φ) this
            rw [h1, hw] at this
            exact absurd rfl this
          · cases ho
      have hR2 : ResetH (· ∈ q.φ) (fun k => idxN k q.φ) (mkHeap q.h') (wOf (lkN q.φ) q.h' ++ restrict q.φ h) := by
        refine ⟨fun k o ho => ?_, fun k k' o o' ho ho' e => ?_⟩
        · obtain ⟨h1, j, os, h2, h3, h4, h5⟩ := hget' k o ho
          have hj : idxN k q.φ = j := by rw [h2]; exact idx_lkN F.dist h3
          have hmem := hget_mk_mem F.dist' h4
          refine ⟨h1, os, by show hget (idxN k q.φ) (mkHeap q.h') = some os; rw [hj]; exact hmem, ?_⟩
          rw [h5]
          refine same_back (F.obj' _ h4).2 (fun cs e => ?_) (fun j hj => idx_lkN F.dist hj) (fun j hj => lkN_mem hj)
          have := hU1.here.obj j os hmem
          rw [e] at this
          exact this.2.1
        · have h1 := (hget' k o ho).1
          have h2 := (hget' k' o' ho').1
          rw [← (lk_idxN h1).1, ← (lk_idxN h2).1]
          exact congrArg (lkN q.φ) e
      have noG : ∀ k len sz rows g, lookOf (wOf (lkN q.φ) q.h' ++ restrict q.φ h) k ≠ some (.lst len sz rows (some g)) := by
        intro k len sz rows g ho
        obtain ⟨_, j, os, _, _, h4, h5⟩ := hget' k _ ho
        have := (F.obj' _ h4).2
        cases os with
        | lst l s r g' => cases g' with
          | none => cases h5
          | some g' => exact this.elim
        | box cs => cases h5
        | tok => cases h5
        | opq R => cases h5
      have hU2 : RelU A E (lookOf (wOf (lkN q.φ) q.h' ++ restrict q.φ h)) w' := by
        have h0 := hR2.relU hU1.here
        refine ⟨fun k o ho => ?_, fun k len sz rows g ho => absurd ho (noG k len sz rows g), fun E' hE => h0.rel E' fun k hk => ?_⟩
        · obtain ⟨_, j, os, h2, h3, _, _⟩ := hget' k o ho
          rw [h2]; exact hAφ j h3
        · obtain ⟨h1, h2⟩ := lk_idxN hk
          have a1 := hE k (by rw [← h1]; exact hAφ _ h2)
          have a2 := agψ k hk
          exact ⟨a1.1.trans a2.1, a1.2.1.trans a2.2.1, a1.2.2.trans a2.2.2⟩
      have hwx := ((hR.wext E w).trans hx1).trans (hR2.wext E1 w')
      have hx2 : Ext A E (lookOf (restrict q.φ h)) w E (lookOf (wOf (lkN q.φ) q.h' ++ restrict q.φ h)) w' := by
        refine ⟨hwx.os, hwx.tape, hwx.output, hwx.size, Agree.refl _ _, hwx.frame, fun k o b ho hb => ?_, fun k hA ht => ?_, fun k len sz rows a ho hc ha => ?_⟩
        · exact hwx.fresh k o b ho ((owns_agree agψ (hget' k o ho).1 o b).1 hb)
        · obtain ⟨_, j, os, _, _, h4, h5⟩ := hget' k _ ht
          have := (F.obj' _ h4).2
          cases os <;> first | exact this.elim | cases h5
        · have := (agψ k (hget' k _ ho).1).2.1
          rw [this] at hc ha
          exact hwx.rof k len sz rows a ho hc ha
      rw [lookOf_append] at hU2 hx2
      obtain ⟨g1, g2⟩ := hU.frame hsub (fun k len sz rows g hl _ => by
        rw [hlook] at hl
        split at hl
        · rename_i hm
          obtain ⟨h1, h2⟩ := lk_idxN hm
          obtain ⟨o, ho⟩ := cov _ h2
          obtain ⟨_, p1, o', q1, q2⟩ := F.obj _ ho
          have q1 : hget (lkN q.φ (idxN k q.φ)) h = some o' := q1
          rw [h1, hl] at q1
          cases q1
          cases o with
          | lst l s r g' => cases g' with
            | none =>
              have q3 : some g = Option.map (lkN q.φ) none := q2.2.2.1
              cases q3
            | some g' => exact p1.elim
          | box cs => exact q2.elim
          | tok => exact q2.elim
          | opq R => exact q2.elim
        · cases hl) hU2 hx2 (fun _ h => h) (fun k o hm => by
        obtain ⟨p, h1, h2, h3⟩ := wOf_mem hm
        have hp := (F.obj' p h1).1
        refine ⟨fun _ => ?_, fun len sz rows g ho => ?_⟩
        · rw [hlook, if_pos (by rw [h2]; exact lkN_mem hp), h2]
          obtain ⟨o, ho⟩ := cov _ hp
          obtain ⟨_, _, o', q1, _⟩ := F.obj _ ho
          have q1 : hget (lkN q.φ p.1) h = some o' := q1
          rw [q1]; simp
        · rw [h3] at ho
          have := (F.obj' p h1).2
          cases hp2 : p.2 with
          | lst l s r g' =>
            rw [hp2] at this ho
            cases g' with
            | none => cases ho
            | some g' => exact this.elim
          | box cs => rw [hp2] at ho; cases ho
          | tok => rw [hp2] at ho; cases ho
          | opq R => rw [hp2] at ho; cases ho)
      have rA : ∀ k, rng A key key k → A k := fun k hk => by
        rcases hk with hk | ⟨h1, h2⟩
        · exact hk
        · omega
      refine ⟨_, E, rfl, fun E' hE => ?_, ⟨fun k o ho => .inl (g1.dom k o ho), fun k len sz rows g ho => .inl (g1.grp k len sz rows g ho), fun E' hE => g1.rel E' (hE.mono fun _ h => .inl h)⟩, g2⟩
      rw [den_ren]
      refine (den_cl (M := (· < q.φ.length)) (fun j hj => ?_) _ (lt_of_all F.vk)).symm
      obtain ⟨a1, a2, a3⟩ := hE (lkN q.φ j) (.inl (hAφ j hj))
      obtain ⟨b1, b2, b3⟩ := agφ j hj
      exact ⟨a1.trans b1.symm, a2.trans b2.symm, a3.trans b3.symm⟩
    · cases e
  · simp only [stdSumm] at e
    split at e
    · rename_i q hq
      cases e
      have F := H args h q hq
      refine ⟨Nat.le_refl _, fun k o hm => ?_⟩
      obtain ⟨p, h1, h2, h3⟩ := wOf_mem hm
      obtain ⟨hp, hp2⟩ := F.obj' p h1
      refine ⟨.inl ?_, fun len sz rows g ho => ?_⟩
      · have := memK_iff.1 (List.all_eq_true.1 F.cov p.1 (by simpa using hp))
        obtain ⟨p', g1, g2⟩ := List.mem_map.1 this
        obtain ⟨_, _, o', q1, _⟩ := F.obj _ g1
        rw [h2, ← g2]
        show hget _ h ≠ none
        rw [q1]; simp
      · rw [h3] at ho
        cases hp3 : p.2 with
        | lst l s r g' =>
          rw [hp3] at hp2 ho
          cases g' with
          | none => cases ho
          | some g' => exact hp2.elim
        | box cs => rw [hp3] at ho; cases ho
        | tok => rw [hp3] at ho; cases ho
        | opq R => rw [hp3] at ho; cases ho
    · cases e

/-- A method of one box. -/
theorem box1_fit {f : FuncId} {k : Nat} {args : List AV} {h : Heap} {cs' cs cs2 : List AV} {argsS : List AV} {v : AV} (hk : hget k h = some (.box cs')) (h1 : allScalar cs = true) (h2 : ∀ E, denL E cs' = denL E cs) (h3 : keysL cs = []) (h4 : keysL cs2 = [])
    (ha : ∀ E, denL E args = denL E (renL (lkN [k]) argsS)) (hkeys : (keysL argsS).all (Nat.blt · 1) = true) (hv : (keysOf v).all (Nat.blt · 1) = true) (hs : Std P f 1 [(0, .box cs)] argsS [(0, .box cs2)] v) :
    FitOk P f args h ⟨[k], argsS, [(0, .box cs)], [(0, .box cs2)], v⟩ where
  dist := rfl
  args := ha
  keys := hkeys
  obj := fun p hp => by
    rw [List.mem_singleton.1 hp]
    exact ⟨Nat.zero_lt_one, by show (keysL cs).all _ = true; rw [h3]; rfl, .box cs', hk, h1, fun E => by rw [ren_nokeys h3]; exact h2 E, by rw [h3]; simp⟩
  cov := rfl
  obj' := fun p hp => by
    rw [List.mem_singleton.1 hp]
    exact ⟨Nat.zero_lt_one, by show (keysL cs2).all _ = true; rw [h4]; rfl⟩
  cov' := rfl
  dist' := rfl
  distH := rfl
  vk := hv
  std := hs
/-- What a tree owes for it. -/
def Box1 (v : AV) (cs2 : List AV) (o : AV × Heap) : Prop := SameV o.1 v ∧ ∃ cs, hget 0 o.2 = some (.box cs) ∧ ∀ E, denL E cs = denL E cs2
theorem box1_std (hT : TabAll P T) (hm : P.follows .mixedOrders = true) {n : Nat} {f : FuncId} {cs cs2 : List AV} {args : List AV} {v : AV} (hargs : (keysL args).all (Nat.blt · 1) = true) (hv : (keysOf v).all (Nat.blt · 1) = true) (h1 : allScalar cs2 = true) (h4 : keysL cs2 = [])
    (H : (callW P (codeT P T n) f args (mkHeap [(0, .box cs)]) 1 (outC [0])).Holds (Box1 v cs2)) : Std P f 1 [(0, .box cs)] args [(0, .box cs2)] v := by
  refine std_tree hT hm (n := n) (ks := [0]) hargs rfl ?_
  obtain ⟨o, h2, h3, c, h5, h6⟩ := H
  exact ⟨o, h2, ⟨h3, hv⟩, ⟨rfl, _, h5, h1, fun E => by rw [ren_nokeys h4]; exact h6 E, by rw [h4]; simp⟩, trivial⟩
end
end Go.Eng
