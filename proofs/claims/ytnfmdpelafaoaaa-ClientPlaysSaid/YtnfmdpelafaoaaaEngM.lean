/- The engine, part M: a region that draws its order, whole; the code; the calls.
   Conditions: none. -/
import Derived.Test.YtnfmdpelafaoaaaEngL
import Derived.LoopN
set_option linter.unusedSimpArgs false
set_option linter.unusedVariables false
namespace Go.Eng
section
variable {P : Program} {T : Tab}

theorem countP_lt {α : Type} {p q : α → Bool} : ∀ {l : List α}, (∀ x ∈ l, p x = true → q x = true) → (∃ x ∈ l, q x = true ∧ p x = false) → l.countP p < l.countP q
  | [], _, h => by obtain ⟨x, hx, _⟩ := h; cases hx
  | y :: l, h1, h2 => by
    have h1' : ∀ x ∈ l, p x = true → q x = true := fun x hx => h1 x (List.mem_cons_of_mem _ hx)
    have hle : l.countP p ≤ l.countP q := by
      clear h2 h1
      induction l with
      | nil => simp
      | cons z l ih =>
        have := ih fun x hx => h1' x (List.mem_cons_of_mem _ hx)
        have hz := h1' z List.mem_cons_self
        rw [List.countP_cons, List.countP_cons]
        cases hp : p z
        · simp; omega
        · simp [hz hp]; omega
    rw [List.countP_cons, List.countP_cons]
    obtain ⟨x, hx, hq, hp⟩ := h2
    rcases List.mem_cons.1 hx with rfl | hx
    · simp [hq, hp]; omega
    · have := countP_lt h1' ⟨x, hx, hq, hp⟩
      have hy := h1 y List.mem_cons_self
      cases hpy : p y
      · simp; omega
      · simp [hy hpy]; omega

theorem lkF_insert (rc : Nat → DRec) (lk : Look) {D D' : Nat → Bool} {i n : Nat} (hi : i < n) (hD : D' i = true) (hne : ∀ j, j ≠ i → D' j = D j)
    (hw : ∀ j k, i < j → D j = true → k ∈ wkeys (rc i).W → k ∈ wkeys (rc j).W → False) : lkF rc lk D' n = hupd (lkF rc lk D n) (rc i).W := by
  funext k
  by_cases hk : k ∈ wkeys (rc i).W
  · have h1 := lkF_congr rc lk D' (fun j => D' j && decide (j ≤ i)) k n (fun j _ hkj => by
      by_cases hj : j ≤ i
      · simp [hj]
      · have : D' j = false := by
          rw [hne j (by omega)]
          cases hDj : D j
          · rfl
          · exact (hw j k (by omega) hDj hk hkj).elim
        simp [this])
    rw [h1, lkF_stop rc lk (fun j => D' j && decide (j ≤ i)) (i + 1) (fun j hj => by simp; intro _; omega) n (by omega)]
    simp only [lkF, hD, Nat.le_refl, decide_true, Bool.and_self]
    exact hupd_in hk
  · rw [hupd_ne hk]
    exact lkF_congr rc lk D' D k n fun j _ hkj => hne j (fun e => hk (e ▸ hkj))
theorem tmF_insert (rc : Nat → DRec) (dst : Nat → Option Tmp) (τ : Tm) {D D' : Nat → Bool} {i n : Nat} (hi : i < n) (hD : D' i = true) (hne : ∀ j, j ≠ i → D' j = D j)
    (hw : ∀ j t, i < j → D j = true → dst i = some t → dst j = some t → False) (t : Nat) : tget t (tmF rc dst τ D' n) = tget t (tput (dst i) (rc i).v (tmF rc dst τ D n)) := by
  rw [tget_put]
  by_cases hk : dst i = some t
  · rw [if_pos hk]
    have h1 := tmF_congr rc dst τ D' (fun j => D' j && decide (j ≤ i)) t n (fun j _ hkj => by
      by_cases hj : j ≤ i
      · simp [hj]
      · have : D' j = false := by
          rw [hne j (by omega)]
          cases hDj : D j
          · rfl
          · exact (hw j t (by omega) hDj hk hkj).elim
        simp [this])
    rw [h1, tmF_stop rc dst τ (fun j => D' j && decide (j ≤ i)) (i + 1) (fun j hj => by simp; intro _; omega) n (by omega)]
    simp only [tmF, hD, Nat.le_refl, decide_true, Bool.and_self]
    rw [tget_put, if_pos hk]
  · rw [if_neg hk]
    exact tmF_congr rc dst τ D' D t n fun j _ hkj => hne j (fun e => hk (e ▸ hkj))

theorem memK_iff {g : Nat} : ∀ {ks : List Nat}, memK g ks = true ↔ g ∈ ks
  | [] => by simp [memK]
  | j :: ks => by
    simp only [memK, List.mem_cons]
    by_cases hj : j = g
    · subst hj; simp
    · rw [beq_ne hj]
      simp [memK_iff (ks := ks), Ne.symm hj]
theorem meets_false {a b : List Nat} (h : meets a b = false) {k : Nat} (ha : k ∈ a) (hb : k ∈ b) : False := by
  have := List.any_eq_false.1 h k ha
  exact this (memK_iff.2 hb)
theorem clash_false {ops : Array Oper} {bef : Nat} {o x : Oper} {R W : List Nat} {c : Cert} (h : clash ops bef o R W c = false) (hb : Nat.testBit bef c.i = false) (hx : ops[c.i]? = some x) :
    Oper.apart ops x o = true ∧ meets c.W R = false ∧ meets c.W W = false ∧ meets W c.R = false := by
  unfold clash at h
  rw [hb, hx] at h
  dsimp only at h
  split at h
  · rename_i h1 h2 h3 h4
    exact ⟨h1, h2, h3, h4⟩
  · cases h

theorem draw_sound (hT : TabOK P T) (hm : P.follows .mixedOrders = true) {call : CallD} (hc : CallOK P call) (hg : CallG call) (nt id : Nat) (ops : Array Oper) (τ : Tm) (h : Heap) (key : Nat) (q : Tm × Heap × Nat)
    (e : drawD P T call nt ops (Region.before ops).toList ops.toList 0 [] τ h key = some q) (A : Nat → Prop) (E : Env) (a0 : Act) (w0 : World) (Q : Exit → Act → World → Prop) (hS : StU A E nt τ (lookOf h) a0 w0)
    (hk : ∀ k, key ≤ k → k < q.2.2 → ¬ A k)
    (hQ : ∀ a' w' E1, StU (rng A key q.2.2) E1 nt q.1 (lookOf q.2.1) a' w' → Ext A E (lookOf h) w0 E1 (lookOf q.2.1) w' → Q .normal a' w') :
    (Code.region id ops true).wp P Q a0 w0 := by
  obtain ⟨rs, r1, r2, r3, r4, r5, r6⟩ := drawD_recs hT hc hg nt ops _ _ _ _ _ _ _ _ e
  have hn : rs.length = ops.size := by simpa using r1
  let rc : Nat → DRec := fun j => rs.getD j default
  let dst : Nat → Option Tmp := fun j => (ops[j]?).bind (·.dst)
  have hrec : ∀ j, j < ops.size → rs[j]? = some (rc j) := fun j hj => by
    simp [rc, List.getD, List.getElem?_eq_getElem (show j < rs.length by omega)]
  have ho : ∀ j (hj : j < ops.size), ops[j]? = some ops[j] := fun j hj => Array.getElem?_eq_getElem hj
  have hol : ∀ j (hj : j < ops.size), ops.toList[j]? = some ops[j] := fun j hj => by simp [hj]
  have hdst : ∀ j (hj : j < ops.size), dst j = ops[j].dst := fun j hj => by simp [dst, ho j hj]
  have ok : ∀ j (hj : j < ops.size), RecOK P nt ops j ops[j] (rc j) := fun j hj => by
    have := (r2 j _ _ (hol j hj) (hrec j hj)).1
    simpa using this
  have noclash : ∀ j (hj : j < ops.size) j', j' < j → clash ops ((Region.before ops).getD j 0) ops[j] (rc j).R (wkeys (rc j).W) ⟨j', (rc j').R, wkeys (rc j').W⟩ = false := fun j hj j' hj' => by
    have := (r2 j _ _ (hol j hj) (hrec j hj)).2.2 j' _ hj' (hrec j' (by omega))
    simp only [Nat.zero_add] at this
    have eb : (Region.before ops).toList.getD j 0 = (Region.before ops).getD j 0 := by
      simp [Array.getD_eq_getD_getElem?, List.getD]
    rwa [eb] at this
  have next : ∀ j, j + 1 < ops.size → (rc (j + 1)).τ = tput (dst j) (rc j).v (rc j).τ2 ∧ (rc (j + 1)).h = (rc j).W ++ (rc j).h ∧ (rc (j + 1)).key = (rc j).key' := fun j hj => by
    rw [hdst j (by omega)]
    exact r4 j _ _ _ (hrec j (by omega)) (hrec (j + 1) hj) (hol j (by omega))
  have zero : 0 < ops.size → (rc 0).τ = τ ∧ (rc 0).h = h ∧ (rc 0).key = key := fun hp => r3 _ (hrec 0 hp)
  have last : 0 < ops.size → q = (tput (dst (ops.size - 1)) (rc (ops.size - 1)).v (rc (ops.size - 1)).τ2, (rc (ops.size - 1)).W ++ (rc (ops.size - 1)).h, (rc (ops.size - 1)).key') := fun hp => by
    rw [hdst _ (by omega)]
    refine r5 _ _ ?_ ?_
    · rw [List.getLast?_eq_getElem?, hn]; exact hrec _ (by omega)
    · rw [List.getLast?_eq_getElem?, Array.length_toList]; exact hol _ (by omega)
  have nil : ops.size = 0 → q = (τ, h, key) := fun hz => r6 (List.eq_nil_of_length_eq_zero (by omega))
  let all : Nat → Bool := fun _ => true
  -- the text's order
  have lex : ∀ i, i < ops.size → lookOf (rc i).h = lkF rc (lookOf h) all i ∧ TmEq (tmF rc dst τ all i) (rc i).τ := by
    intro i
    induction i with
    | zero => intro hi; obtain ⟨h1, h2, _⟩ := zero hi; exact ⟨by rw [h2]; rfl, by rw [h1]; exact TmEq.refl _⟩
    | succ i ih =>
      intro hi
      obtain ⟨h1, h2⟩ := ih (by omega)
      obtain ⟨h3, h4, _⟩ := next i hi
      refine ⟨?_, ?_⟩
      · rw [h4, lookOf_append, h1]; rfl
      · rw [h3]
        intro E t
        obtain ⟨τ1, _, hτ⟩ := (ok i (by omega)).guard
        have := (h2.trans hτ) E t
        simp only [tmF, all, tget_put]
        split
        · rfl
        · exact this
  have keys : ∀ i, i < ops.size → key ≤ (rc i).key ∧ (rc i).key ≤ (rc i).key' ∧ (rc i).key' ≤ q.2.2 := by
    have lo : ∀ i, i < ops.size → key ≤ (rc i).key := by
      intro i
      induction i with
      | zero => intro hi; rw [(zero hi).2.2]; exact Nat.le_refl _
      | succ i ih =>
        intro hi
        have h1 := ih (by omega)
        have h2 := (ok i (by omega)).le
        rw [(next i hi).2.2]
        omega
    have hi' : ∀ m i, i + m + 1 = ops.size → (rc i).key' ≤ q.2.2 := by
      intro m
      induction m with
      | zero =>
        intro i hi
        have hl := last (by omega)
        have : ops.size - 1 = i := by omega
        rw [this] at hl
        rw [hl]
        exact Nat.le_refl _
      | succ m ih =>
        intro i hi
        have h1 := ih (i + 1) (by omega)
        have h2 := (ok (i + 1) (by omega)).le
        have h3 := (next i (by omega)).2.2
        omega
    exact fun i hi => ⟨lo i hi, (ok i hi).le, hi' (ops.size - i - 1) i (by omega)⟩
  have apartKeys : ∀ j i, j < i → i < ops.size → (rc j).key' ≤ (rc i).key := by
    intro j i hji hi
    induction i with
    | zero => omega
    | succ i ih =>
      by_cases hj : j = i
      · subst hj; rw [(next j hi).2.2]; exact Nat.le_refl _
      · have h1 := ih (by omega) (by omega)
        have h2 := (ok i (by omega)).le
        rw [(next i hi).2.2]
        omega
  have final : lookOf q.2.1 = lkF rc (lookOf h) all ops.size ∧ TmEq (tmF rc dst τ all ops.size) q.1 := by
    by_cases hz : ops.size = 0
    · rw [nil hz, hz]; exact ⟨rfl, TmEq.refl _⟩
    · obtain ⟨m, hmm⟩ : ∃ m, ops.size = m + 1 := ⟨ops.size - 1, by omega⟩
      have hl := last (by omega)
      have hm1 : ops.size - 1 = m := by omega
      rw [hm1] at hl
      obtain ⟨h1, h2⟩ := lex m (by omega)
      rw [hl, hmm]
      refine ⟨?_, ?_⟩
      · dsimp only; rw [lookOf_append, h1]; rfl
      · intro E t
        obtain ⟨τ1, _, hτ⟩ := (ok m (by omega)).guard
        have := (h2.trans hτ) E t
        simp only [tmF, all, tget_put]
        split
        · rfl
        · exact this
  -- two operations of which neither lies before the other
  let Dn : Array Bool → Nat → Bool := fun listed j => listed.getD j false
  let AD : (Nat → Bool) → Nat → Prop := fun D k => A k ∨ ∃ j, j < ops.size ∧ D j = true ∧ (rc j).key ≤ k ∧ k < (rc j).key'
  let Inv : Array Bool → Act → World → Prop := fun listed a w => listed.size = ops.size ∧
    (∀ j, Dn listed j = true → ∀ o, ops[j]? = some o → ∀ e ∈ o.after.toList, Region.binds .any e = true → Dn listed e.on = true) ∧
    ∃ E1, StU (AD (Dn listed)) E1 nt (tmF rc dst τ (Dn listed) ops.size) (lkF rc (lookOf h) (Dn listed) ops.size) a w ∧ Ext A E (lookOf h) w0 E1 (lkF rc (lookOf h) (Dn listed) ops.size) w
  have main : ∀ fuel listed a w, Inv listed a w → (List.range ops.size).countP (fun j => !Dn listed j) ≤ fuel → wpAny P .any ops Q fuel listed a w := by
    have done : ∀ listed a w, Inv listed a w → (∀ j, j < ops.size → Dn listed j = true) → Region.ready .any ops listed = [] ∧ Q .normal a w := by
      rintro listed a w ⟨hsz, _, E1, hst, hx⟩ hall
      refine ⟨?_, ?_⟩
      · cases hr : Region.ready .any ops listed with
        | nil => rfl
        | cons j js =>
          obtain ⟨h1, o, h2, _⟩ := mem_ready.1 (show j ∈ Region.ready .any ops listed by rw [hr]; simp)
          have hj : j < ops.size := (Array.getElem?_eq_some_iff.1 h2).1
          have := hall j hj
          simp only [Dn, Array.getD_eq_getD_getElem?, Array.getElem?_eq_getElem (show j < listed.size by omega), Option.getD_some] at this h1
          rw [this] at h1
          cases h1
      · have el : lkF rc (lookOf h) (Dn listed) ops.size = lookOf q.2.1 := by
          rw [final.1]
          funext k
          exact lkF_congr _ _ _ _ k _ fun j hj _ => by rw [hall j hj]
        have et : TmEq (tmF rc dst τ (Dn listed) ops.size) q.1 := by
          refine TmEq.trans ?_ final.2
          intro E t
          rw [tmF_congr rc dst τ (Dn listed) all t _ fun j hj _ => by rw [hall j hj]]
        rw [el] at hst hx
        refine hQ a w E1 ((hst.tmEq et).same ?_) hx
        rintro k (h1 | ⟨j, h1, _, h3, h4⟩)
        · exact .inl h1
        · have := keys j h1
          exact .inr ⟨by omega, by omega⟩
    have step : ∀ listed a w i, Inv listed a w → i ∈ Region.ready .any ops listed → ∀ K : Act → World → Prop,
        (∀ a' w', Inv (listed.setIfInBounds i true) a' w' → K a' w') → wpOp P ops Q i K a w := by
      rintro listed a w i ⟨hsz, hcl, E1, hst, hx⟩ hri K hK
      obtain ⟨hun, o, hoi, hpre⟩ := mem_ready.1 hri
      have hi : i < ops.size := (Array.getElem?_eq_some_iff.1 hoi).1
      have hoe : ops[i] = o := (Array.getElem?_eq_some_iff.1 hoi).2
      have hDi : Dn listed i = false := by
        simp only [Dn, Array.getD_eq_getD_getElem?, Array.getElem?_eq_getElem (show i < listed.size by omega), Option.getD_some] at hun ⊢
        exact hun
      have hpre' : ∀ o', ops[i]? = some o' → ∀ e ∈ o'.after.toList, Region.binds .any e = true → Dn listed e.on = true := by
        intro o' ho' e he hb
        rw [hoi] at ho'
        cases ho'
        exact hpre e (by simpa using he) hb
      have before1 : ∀ j, Nat.testBit ((Region.before ops).getD i 0) j = true → Dn listed j = true := fun j hj =>
        before_closed (D := fun j => Dn listed j = true) hcl i i j (Nat.le_refl _) hj hpre'
      have before2 : ∀ j, Dn listed j = true → Nat.testBit ((Region.before ops).getD j 0) i = false := by
        intro j hj
        cases hb : Nat.testBit ((Region.before ops).getD j 0) i with
        | false => rfl
        | true =>
          have := before_closed (D := fun j => Dn listed j = true) hcl j j i (Nat.le_refl _) hb (hcl j hj)
          rw [hDi] at this
          cases this
      -- an earlier one that has not come; a later one that has
      have early : ∀ j, j < i → Dn listed j = false → Oper.apart ops (ops.getD j default) o = true ∧ meets (wkeys (rc j).W) (rc i).R = false ∧ meets (wkeys (rc j).W) (wkeys (rc i).W) = false ∧ meets (wkeys (rc i).W) (rc j).R = false := by
        intro j hji hDj
        have hb : Nat.testBit ((Region.before ops).getD i 0) j = false := by
          cases hb : Nat.testBit ((Region.before ops).getD i 0) j with
          | false => rfl
          | true => rw [before1 j hb] at hDj; cases hDj
        have hx : ops[j]? = some (ops.getD j default) := by simp [Array.getD_eq_getD_getElem?, Array.getElem?_eq_getElem (show j < ops.size by omega)]
        have := clash_false (noclash i hi j hji) hb hx
        rw [hoe] at this
        exact this
      have later : ∀ j, i < j → Dn listed j = true → j < ops.size ∧ Oper.apart ops o (ops.getD j default) = true ∧ meets (wkeys (rc i).W) (rc j).R = false ∧ meets (wkeys (rc i).W) (wkeys (rc j).W) = false ∧ meets (wkeys (rc j).W) (rc i).R = false := by
        intro j hji hDj
        have hj : j < ops.size := by
          cases Nat.lt_or_ge j ops.size with
          | inl h => exact h
          | inr h => simp [Dn, Array.getD_eq_getD_getElem?, Array.getElem?_eq_none (show listed.size ≤ j by omega)] at hDj
        have := clash_false (noclash j hj i hji) (before2 j hDj) hoi
        have hgd : ops.getD j default = ops[j] := by simp [Array.getD_eq_getD_getElem?, Array.getElem?_eq_getElem hj]
        rw [hgd]
        exact ⟨hj, this⟩
      have hgdst : ∀ j, j < ops.size → (ops.getD j default).dst = dst j := fun j hj => by
        rw [hdst j hj]; simp [Array.getD_eq_getD_getElem?, Array.getElem?_eq_getElem hj]
      -- what it reads is what it read in the text's order
      have reads : ∀ k ∈ (rc i).R, lkF rc (lookOf h) (Dn listed) ops.size k = hget k (rc i).h := by
        intro k hkR
        have h1 := lkF_congr rc (lookOf h) (Dn listed) (fun j => decide (j < i)) k ops.size (fun j hj hkW => by
          by_cases hji : j < i
          · simp only [hji, decide_true]
            cases hDj : Dn listed j with
            | true => rfl
            | false => exact (meets_false (early j hji hDj).2.1 hkW hkR).elim
          · simp only [hji, decide_false]
            cases hDj : Dn listed j with
            | false => rfl
            | true =>
              by_cases hje : j = i
              · subst hje; rw [hDi] at hDj; cases hDj
              · exact (meets_false (later j (by omega) hDj).2.2.2.2 hkW hkR).elim)
        rw [h1, lkF_stop rc (lookOf h) (fun j => decide (j < i)) i (fun j hj => by simp; omega) ops.size (by omega)]
        have h2 := lkF_congr rc (lookOf h) (fun j => decide (j < i)) all k i (fun j hj _ => by simp [hj, all])
        rw [h2, ← (lex i hi).1]
        rfl
      have looks : ∀ t ∈ o.looksAt ops, ∀ E' : Env, den E' (tget t (tmF rc dst τ (Dn listed) ops.size)) = den E' (tget t (rc i).τ) := by
        intro t ht E'
        have h1 := tmF_congr rc dst τ (Dn listed) (fun j => decide (j < i)) t ops.size (fun j hj hdj => by
          by_cases hji : j < i
          · simp only [hji, decide_true]
            cases hDj : Dn listed j with
            | true => rfl
            | false =>
              have := (Oper.apart_spec (early j hji hDj).1).1 t (by rw [hgdst j hj]; exact hdj)
              exact absurd ht this
          · simp only [hji, decide_false]
            cases hDj : Dn listed j with
            | false => rfl
            | true =>
              by_cases hje : j = i
              · subst hje; rw [hDi] at hDj; cases hDj
              · have := (Oper.apart_spec (later j (by omega) hDj).2.1).2.2 t (by rw [hgdst j hj]; exact hdj)
                exact absurd ht this)
        rw [h1, tmF_stop rc dst τ (fun j => decide (j < i)) i (fun j hj => by simp; omega) ops.size (by omega)]
        have h2 := tmF_congr rc dst τ (fun j => decide (j < i)) all t i (fun j hj _ => by simp [hj, all])
        rw [h2]
        exact ((lex i hi).2 E' t).symm
      have oki := ok i hi
      rw [hoe] at oki
      obtain ⟨τ1, hgd, hτ⟩ := oki.guard
      have hgs := guardD_spec hgd (E := E1) (a := a) (fun t => by
        split
        · trivial
        · rename_i j wnt hgo
          intro he
          rw [hst.tm E1 (Agree.refl _ _) t]
          refine looks t ?_ E1
          unfold Oper.looksAt
          rw [hgo]
          simp [he])
      -- the new part
      have hset : ∀ j, Dn (listed.setIfInBounds i true) j = if j = i then true else Dn listed j := by
        intro j
        simp only [Dn, Array.getD_eq_getD_getElem?]
        by_cases hji : j = i
        · subst hji; simp [show j < listed.size by omega]
        · rw [Array.getElem?_setIfInBounds_ne (Ne.symm hji), if_neg hji]
      have hDi' : Dn (listed.setIfInBounds i true) i = true := by rw [hset, if_pos rfl]
      have hne' : ∀ j, j ≠ i → Dn (listed.setIfInBounds i true) j = Dn listed j := fun j hj => by rw [hset, if_neg hj]
      have elk : lkF rc (lookOf h) (Dn (listed.setIfInBounds i true)) ops.size = hupd (lkF rc (lookOf h) (Dn listed) ops.size) (rc i).W :=
        lkF_insert rc _ hi hDi' hne' fun j k hj hDj h1 h2 => meets_false (later j hj hDj).2.2.2.1 h1 h2
      have etm : ∀ t, tget t (tmF rc dst τ (Dn (listed.setIfInBounds i true)) ops.size) = tget t (tput o.dst (rc i).v (tmF rc dst τ (Dn listed) ops.size)) := by
        intro t
        have := tmF_insert rc dst τ hi hDi' hne' (fun j t hj hDj h1 h2 => by
          have hl := later j hj hDj
          have := (Oper.apart_spec hl.2.1).2.1 t (by rw [← hoe, ← hdst i hi]; exact h1)
          exact this (by rw [hgdst j hl.1]; exact h2)) t
        rw [this, hdst i hi, hoe]
      have fresh : ∀ k, (rc i).key ≤ k → k < (rc i).key' → ¬ AD (Dn listed) k := by
        rintro k h1 h2 (h3 | ⟨j, h3, h4, h5, h6⟩)
        · have := keys i hi
          exact hk k (by omega) (by omega) h3
        · by_cases hji : j = i
          · subst hji; rw [hDi] at h4; cases h4
          · rcases Nat.lt_or_ge j i with hlt | hge
            · have := apartKeys j i hlt hi; omega
            · have := apartKeys i j (by omega) h3; omega
      have inv' : ∀ a' w' E2, StU (rng (AD (Dn listed)) (rc i).key (rc i).key') E2 nt (tput o.dst (rc i).v (tmF rc dst τ (Dn listed) ops.size)) (hupd (lkF rc (lookOf h) (Dn listed) ops.size) (rc i).W) a' w' →
          Ext A E (lookOf h) w0 E2 (hupd (lkF rc (lookOf h) (Dn listed) ops.size) (rc i).W) w' → Inv (listed.setIfInBounds i true) a' w' := by
        intro a' w' E2 hst' hx'
        refine ⟨by simpa using hsz, ?_, E2, ?_, ?_⟩
        · intro j hj o' ho' e he hb
          rw [hset] at hj ⊢
          split
          · rfl
          · split at hj
            · rename_i hji; subst hji; exact hpre' o' ho' e he hb
            · exact hcl j hj o' ho' e he hb
        · rw [elk]
          have : StU (AD (Dn (listed.setIfInBounds i true))) E2 nt (tput o.dst (rc i).v (tmF rc dst τ (Dn listed) ops.size)) (hupd (lkF rc (lookOf h) (Dn listed) ops.size) (rc i).W) a' w' := by
            refine hst'.same ?_
            rintro k ((h1 | ⟨j, h1, h2, h3⟩) | h1)
            · exact .inl h1
            · refine .inr ⟨j, h1, ?_, h3⟩
              rw [hset]
              split
              · rfl
              · exact h2
            · exact .inr ⟨i, hi, hDi', h1⟩
          refine this.tmEq fun E t => ?_
          rw [etm]
        · rw [elk]; exact hx'
      unfold wpOp
      rw [hoi]
      dsimp only
      rw [hgs.1]
      have hdok := oki.dst
      cases hb : (rc i).b with
      | false =>
        simp only [Bool.false_eq_true, if_false]
        obtain ⟨s1, s2, s3⟩ := oki.skip hb
        refine hK _ w (inv' _ w E1 ?_ ?_)
        · rw [s2, hupd_nil]
          exact hst.put (Agree.refl _ _) (fun _ h => .inl h) (hst.rel.same fun _ h => .inl h) hdok (val := undef) (fun _ _ => by rw [s1]; rfl)
        · rw [s2, hupd_nil]; exact hx
      | true =>
        simp only [if_true]
        refine .inl ?_
        refine oki.step hb (AD (Dn listed)) E1 _ w a K Q hst.rel reads fresh (fun E' h' x hxo => ?_) (fun val w' E2 hv hr hx2 => ?_)
        · cases x with
          | tmp t =>
            show a.tmps.getD t undef = den E' (tget t (rc i).τ2)
            rw [hst.tm E' h' t, hτ E' t]
            refine looks t ?_ E'
            unfold Oper.looksAt
            refine List.mem_append_left _ (List.mem_filterMap.2 ⟨.tmp t, by simpa using hxo, rfl⟩)
          | const v => simp [Act.eval, aeval, den_ofV]
          | global g => rfl
          | func f => rfl
        · exact hK _ w' (inv' _ w' E2 (hst.put hx2.agree (fun _ h => .inl h) hr hdok hv) (hx.trans hx2 fun _ h => .inl h))
    intro fuel
    induction fuel with
    | zero =>
      intro listed a w hinv hcnt
      refine done listed a w hinv fun j hj => ?_
      have h0 : (List.range ops.size).countP (fun j => !Dn listed j) = 0 := by omega
      rw [List.countP_eq_zero] at h0
      have := h0 j (List.mem_range.2 hj)
      simpa using this
    | succ fuel ih =>
      intro listed a w hinv hcnt
      refine ⟨fun hr => ?_, fun i hi => ?_⟩
      · refine (done listed a w hinv fun j hj => ?_).2
        -- the least one that hasn't come would be ready
        have : ∀ n j, j ≤ n → j < ops.size → Dn listed j = true := by
          intro n
          induction n with
          | zero =>
            intro j hjn hj
            have : j = 0 := by omega
            subst this
            cases hD : Dn listed 0 with
            | true => rfl
            | false =>
              have : 0 ∈ Region.ready .any ops listed := mem_ready.2 ⟨by
                simp only [Dn, Array.getD_eq_getD_getElem?, Array.getElem?_eq_getElem (show 0 < listed.size by have := hinv.1; omega), Option.getD_some] at hD ⊢
                exact hD, _, ho 0 hj, fun e he hb => by
                have := List.all_eq_true.1 (ok 0 hj).edges e (by simpa using he)
                rw [hb] at this
                simp [Nat.blt] at this⟩
              rw [hr] at this
              cases this
          | succ n ihn =>
            intro j hjn hj
            by_cases hjn' : j ≤ n
            · exact ihn j hjn' hj
            · cases hD : Dn listed j with
              | true => rfl
              | false =>
                have : j ∈ Region.ready .any ops listed := mem_ready.2 ⟨by
                  simp only [Dn, Array.getD_eq_getD_getElem?, Array.getElem?_eq_getElem (show j < listed.size by have := hinv.1; omega), Option.getD_some] at hD ⊢
                  exact hD, _, ho j hj, fun e he hb => by
                  have := List.all_eq_true.1 (ok j hj).edges e (by simpa using he)
                  rw [hb] at this
                  have hlt : e.on + 1 ≤ j := by simpa [Nat.blt] using this
                  exact ihn e.on (by omega) (by omega)⟩
                rw [hr] at this
                cases this
        exact this j j (Nat.le_refl _) hj
      · refine step listed a w i hinv hi _ fun a' w' hinv' => ih _ a' w' hinv' ?_
        obtain ⟨hun, o, hoi, _⟩ := mem_ready.1 hi
        have hi' : i < ops.size := (Array.getElem?_eq_some_iff.1 hoi).1
        have hsz := hinv.1
        have hDi : Dn listed i = false := by
          simp only [Dn, Array.getD_eq_getD_getElem?, Array.getElem?_eq_getElem (show i < listed.size by omega), Option.getD_some] at hun ⊢
          exact hun
        have hset : ∀ j, Dn (listed.setIfInBounds i true) j = if j = i then true else Dn listed j := by
          intro j
          simp only [Dn, Array.getD_eq_getD_getElem?]
          by_cases hji : j = i
          · subst hji; simp [show j < listed.size by omega]
          · rw [Array.getElem?_setIfInBounds_ne (Ne.symm hji), if_neg hji]
        have := countP_lt (l := List.range ops.size) (p := fun j => !Dn (listed.setIfInBounds i true) j) (q := fun j => !Dn listed j) (fun x _ hx => by
          simp only [hset] at hx
          split at hx
          · simp at hx
          · exact hx) ⟨i, List.mem_range.2 hi', by simp [hDi], by simp [hset]⟩
        omega
  refine wp_region_any hm ?_
  have hw0 : RelU A E (lookOf h) { w0 with drawn := w0.drawn + 1 } := hS.rel.world (Nat.le_refl _) (fun _ _ => rfl)
  have hD0 : ∀ j, Dn (Array.replicate ops.size false) j = false := by
    intro j
    simp only [Dn, Array.getD_eq_getD_getElem?]
    cases hg : (Array.replicate ops.size false)[j]? with
    | none => rfl
    | some b =>
      rw [Array.getElem?_replicate] at hg
      split at hg
      · cases hg; rfl
      · cases hg
  have l0 : lkF rc (lookOf h) (Dn (Array.replicate ops.size false)) ops.size = lookOf h := lkF_stop rc (lookOf h) _ 0 (fun j _ => hD0 j) ops.size (Nat.zero_le _)
  have t0 : tmF rc dst τ (Dn (Array.replicate ops.size false)) ops.size = τ := tmF_stop rc dst τ _ 0 (fun j _ => hD0 j) ops.size (Nat.zero_le _)
  refine main ops.size _ a0 _ ⟨by simp, (fun j hj => by rw [hD0] at hj; cases hj), E, ?_, ?_⟩ (by
    refine Nat.le_trans (List.countP_le_length) (by simp))
  · rw [l0, t0]
    exact ⟨hw0.same fun _ h => .inl h, hS.size, hS.defers, fun E' h' t => hS.tm E' (h'.mono fun _ h => .inl h) t⟩
  · rw [l0]
    exact ⟨rfl, rfl, rfl, Nat.le_refl _, Agree.refl _ _, fun _ _ _ => rfl, fun k o b h1 h2 => .inl ⟨k, o, h1, h2⟩, fun _ _ h => ⟨h, fun _ _ => rfl⟩, fun k len sz rows a h1 h2 h3 => .inl ⟨k, len, sz, rows, a, h1, h2, h3, rfl⟩⟩

/- The code, the calls. -/
def exOf : Ex → Exit
  | .normal => .normal
  | .exit id => .exit id
  | .ret => .ret

/-- What a row of code owes. -/
def CodeSpec (P : Program) (nt : Nat) (c : Code) (τ : Tm) (h : Heap) (key : Nat) (s : St) : Prop :=
  ∀ (A : Nat → Prop) (E : Env) (a : Act) (w : World) (Q : Exit → Act → World → Prop), StU A E nt τ (lookOf h) a w → (∀ k, key ≤ k → k < s.key → ¬ A k) →
    (∀ a' w' E1, StU (rng A key s.key) E1 nt s.tm (lookOf s.heap) a' w' → Ext A E (lookOf h) w E1 (lookOf s.heap) w' → Q (exOf s.ex) a' w') → c.wp P Q a w

/-- The blocks of a row of code. -/
def blocksOf : Code → List (Nat × Code)
  | .seq a b => blocksOf a ++ blocksOf b
  | .cond _ a b => blocksOf a ++ blocksOf b
  | .block id x => (id, x) :: blocksOf x
  | .loop x => blocksOf x
  | _ => []
/-- It stands in the function's body. -/
def Within (P : Program) (f : FuncId) (nt : Nat) (c : Code) : Prop := ∃ fn c0, P.funcs[f]? = some fn ∧ fn.body = some c0 ∧ fn.ntmps = nt ∧ ∀ p ∈ blocksOf c, p ∈ blocksOf c0

/-- What a table owes, hooks and all: a hook stands for the block that it names. -/
structure TabAll (P : Program) (T : Tab) : Prop extends TabOK P T where
  hkOK : ∀ f id H, T.hk f id = some H → ∀ nt x, Within P f nt (.block id x) → ∀ τ h key s, (H.run τ h key).sel = some s → CodeSpec P nt (.block id x) τ h key s

theorem rng_trans {A : Nat → Prop} {k0 k1 k2 : Nat} (h1 : k0 ≤ k1) (h2 : k1 ≤ k2) : ∀ k, rng (rng A k0 k1) k1 k2 k → rng A k0 k2 k := by
  rintro k ((h | h) | h)
  · exact .inl h
  · exact .inr ⟨h.1, by omega⟩
  · exact .inr ⟨by omega, h.2⟩

/-- One row of code, then another one. -/
theorem CodeSpec.then {nt : Nat} {c : Code} {τ : Tm} {h : Heap} {key : Nat} {s s2 : St} (hc : CodeSpec P nt c τ h key s) (g1 : key ≤ s.key) (g2 : s.key ≤ s2.key)
    {A : Nat → Prop} {E : Env} {a : Act} {w : World} {Q : Exit → Act → World → Prop} (hS : StU A E nt τ (lookOf h) a w) (hk : ∀ k, key ≤ k → k < s2.key → ¬ A k)
    (hQ : ∀ a' w' E1, StU (rng A key s.key) E1 nt s.tm (lookOf s.heap) a' w' → (∀ k, s.key ≤ k → k < s2.key → ¬ rng A key s.key k) →
      (∀ a'' w'' E2, StU (rng (rng A key s.key) s.key s2.key) E2 nt s2.tm (lookOf s2.heap) a'' w'' → Ext (rng A key s.key) E1 (lookOf s.heap) w' E2 (lookOf s2.heap) w'' →
        StU (rng A key s2.key) E2 nt s2.tm (lookOf s2.heap) a'' w'' ∧ Ext A E (lookOf h) w E2 (lookOf s2.heap) w'') → Q (exOf s.ex) a' w') : c.wp P Q a w := by
  refine hc A E a w Q hS (fun k h1 h2 => hk k h1 (by omega)) fun a' w' E1 hS1 hx1 => hQ a' w' E1 hS1 (fun k h1 h2 => ?_) fun a'' w'' E2 hS2 hx2 => ?_
  · rintro (h3 | h3)
    · exact hk k (by omega) h2 h3
    · omega
  · exact ⟨hS2.same (rng_trans g1 g2), hx1.trans hx2 fun _ h => .inl h⟩

def resOne (tmps : Array Value) : ResultVar → Sem Value
  | .tmp t => Pure.pure (tmps.getD t undef)
  | .cell x t => do loadVar t (← asAddr (tmps.getD x undef))
theorem results_sound {τ : Tm} {h : Heap} {E : Env} {lk : Look} {w : World} {a : Act} (hr : Rel E lk w) (hl : lk = lookOf h) (ht : ∀ t, a.tmps.getD t undef = den E (tget t τ)) : ∀ (rs : List ResultVar) (l : List AV), resA P τ h rs = some l →
    (rs.mapM (resOne a.tmps)).run P w = .ok (denL E l) w
  | [], l, e => by
    simp only [resA, Option.some.injEq] at e
    subst e
    rfl
  | .tmp t :: rest, l, e => by
    simp only [resA] at e
    split at e
    · rename_i l' hl'
      cases e
      have ih := results_sound hr hl ht rest l' hl'
      rw [List.mapM_cons]
      simp only [resOne, Sem.run_bind, Sem.run_pure, Result.andThen_ok, ih, denL, ht]
    · cases e
  | .cell x t :: rest, l, e => by
    simp only [resA] at e
    split at e
    · rename_i k off hx
      split at e
      · rename_i cs hk
        split at e
        · rename_i v l' hv hl'
          cases e
          have ih := results_sound hr hl ht rest l' hl'
          obtain ⟨_, _, ty, hb⟩ := hr.obj k _ (by rw [hl]; exact hk)
          have := loadVar_sound (P := P) (E := E) (w := w) (B := E.blk k) (o := 0) hv (fun j hj => by
            rw [cell_of_row w _ _ _ ty _ hb]
            simp [denL_get])
          simp only [Nat.zero_add] at this
          rw [List.mapM_cons]
          simp only [resOne, Sem.run_bind, Sem.run_pure, ht, hx, den, asAddr, Result.andThen_ok, this, ih, denL]
        · cases e
      · cases e
    · cases e

theorem results_run {fn : Func} {τ : Tm} {h : Heap} {E : Env} {w : World} {a : Act} (hr : Rel E (lookOf h) w) (ht : ∀ t, a.tmps.getD t undef = den E (tget t τ)) {l : List AV} (hl : resA P τ h fn.results.toList = some l) :
    (results fn a.tmps).run P w = .ok (den E (resV l)) w := by
  have := results_sound (P := P) (a := a) hr rfl ht _ l hl
  have e0 : results fn a.tmps = (do
      let vs ← fn.results.mapM (resOne a.tmps)
      Pure.pure (if h : vs.size = 1 then vs[0] else .tuple vs)) := by
    unfold results
    congr 1
  rw [e0, Array.mapM_eq_mapM_toList]
  simp only [Sem.run_bind, Sem.run_map, this, Result.andThen_ok, Sem.run_pure]
  congr 1
  match l with
  | [] => rfl
  | [v] => simp [denL, resV]
  | v :: v2 :: l =>
    rw [dif_neg (by simp [denL])]
    rfl

theorem argTm_get : ∀ (l : List AV) (i t : Nat), tget t (argTm i l) = if i ≤ t then l.getD (t - i) (.raw undef) else .raw undef
  | [], i, t => by simp [argTm, tget]
  | v :: l, i, t => by
    simp only [argTm, tget]
    by_cases h : i = t
    · subst h; simp
    · rw [beq_ne h]
      dsimp only
      rw [argTm_get l (i + 1) t]
      by_cases h2 : i ≤ t
      · rw [if_pos (by omega), if_pos h2]
        have : t - i = (t - (i + 1)) + 1 := by omega
        rw [this]
        simp
      · rw [if_neg (by omega), if_neg h2]

theorem wp_of_exOf {c : Code} {Q Q' : Exit → Act → World → Prop} {a : Act} {w : World} (h : c.wp P Q a w) (hq : ∀ e a w, Q e a w → Q' e a w) : c.wp P Q' a w := wp_mono h hq

theorem callWD_sound {run : FuncId → Nat → Code → Tm → Heap → Nat → Option St} (hr : ∀ f nt c τ h key s, Within P f nt c → run f nt c τ h key = some s → CodeSpec P nt c τ h key s) : CallOK P (callWD P run) := by
  intro f args h key v h' key' W e hW A E lk w vals hU hC hk hv
  have hC : lk = lookOf h := hC
  subst hC
  unfold callWD at e
  split at e
  · rename_i fn hf
    split at e
    · rename_i c hb hle
      obtain ⟨s, hs, e⟩ := obind_some e
      have hle := Nat.le_of_ble_eq_true hle
      have hvals : vals.size = args.length := by rw [hv E (Agree.refl A E)]; simp [denL_length]
      refine calls_of_wp hf hb ?_
      refine hr f fn.ntmps c _ h key s ⟨fn, c, hf, hb, rfl, fun _ h => h⟩ hs A E _ w _ ⟨hU, by simp; omega, rfl, fun E' h' t => ?_⟩ ?_ ?_
      · show (vals ++ Array.replicate (fn.ntmps - vals.size) undef).getD t undef = _
        rw [argTm_get, if_pos (Nat.zero_le _), Nat.sub_zero, hv E' h']
        simp only [Array.getD_eq_getD_getElem?, Array.getElem?_append, List.size_toArray, denL_length]
        by_cases hlt : t < args.length
        · rw [if_pos hlt]
          simp [denL_get, List.getD, List.getElem?_eq_getElem hlt]
        · rw [if_neg hlt]
          have h1 : args.getD t (.raw undef) = .raw undef := by simp [List.getD, List.getElem?_eq_none (Nat.le_of_not_lt hlt)]
          rw [h1]
          simp only [den]
          cases hg : (Array.replicate (fn.ntmps - args.length) undef)[t - args.length]? with
          | none => rfl
          | some x =>
            rw [Array.getElem?_replicate] at hg
            split at hg
            · cases hg; rfl
            · cases hg
      · intro k h1 h2
        split at e
        · cases e
        · obtain ⟨l, _, e⟩ := Option.map_eq_some_iff.1 e
          cases e
          exact hk k h1 h2
      · intro a' w' E1 hS1 hx1
        have fin : ∀ l, resA P s.tm s.heap fn.results.toList = some l → (resV l, s.heap, s.key) = (v, h', key') →
            a'.defers = [] ∧ ∃ v', (results fn a'.tmps).run P w' = .ok v' w' ∧ ∃ val E1, Ending.returned v' = .returned val ∧ (∀ E', Agree (rng A key key') E1 E' → val = den E' v) ∧ RelU (rng A key key') E1 (hupd (lookOf h) W) w' ∧ Ext A E (lookOf h) w E1 (hupd (lookOf h) W) w' := by
          intro l hl e
          simp only [Prod.mk.injEq] at e
          obtain ⟨rfl, rfl, rfl⟩ := e
          have hrun := fun E' (h' : Agree (rng A key s.key) E1 E') => results_run (P := P) (fn := fn) (hS1.rel.rel E' h') (hS1.tm E' h') hl
          refine ⟨hS1.defers, _, hrun E1 (Agree.refl _ _), _, E1, rfl, fun E' h' => ?_, ?_, ?_⟩
          · have := (hrun E1 (Agree.refl _ _)).symm.trans (hrun E' h')
            injection this
          · rw [← lookOf_append, ← hW]; exact hS1.rel
          · rw [← lookOf_append, ← hW]; exact hx1
        cases hex : s.ex with
        | exit id => rw [hex] at e; cases e
        | normal =>
          rw [hex] at e
          obtain ⟨l, hl, e⟩ := Option.map_eq_some_iff.1 e
          exact fin l hl e
        | ret =>
          rw [hex] at e
          obtain ⟨l, hl, e⟩ := Option.map_eq_some_iff.1 e
          exact fin l hl e
    · cases e
  · cases e

theorem within_sub {f : FuncId} {nt : Nat} {c c' : Code} (h : Within P f nt c) (hs : ∀ p ∈ blocksOf c', p ∈ blocksOf c) : Within P f nt c' := by
  obtain ⟨fn, c0, h1, h2, h3, h4⟩ := h
  exact ⟨fn, c0, h1, h2, h3, fun p hp => h4 p (hs p hp)⟩

def SoundAt (P : Program) (T : Tab) (n : Nat) : Prop :=
  ∀ (f : FuncId) (nt : Nat) (c : Code) (τ : Tm) (h : Heap) (key : Nat) (s : St), Within P f nt c → codeD P T n f nt c τ h key = some s → CodeSpec P nt c τ h key s

theorem rounds_sound (hT : TabAll P T) {n : Nat} (hs : ∀ m, m ≤ n → SoundAt P T m) {f : FuncId} {nt : Nat} {x : Code} (hin : Within P f nt x) : ∀ (m : Nat), m ≤ n + 1 → ∀ (τ : Tm) (h : Heap) (key : Nat) (s : St), codeD P T m f nt (.loop x) τ h key = some s →
    ∀ (A : Nat → Prop) (E : Env) (a : Act) (w : World) (Q : Exit → Act → World → Prop), StU A E nt τ (lookOf h) a w → (∀ k, key ≤ k → k < s.key → ¬ A k) →
    (∀ a' w' E1, StU (rng A key s.key) E1 nt s.tm (lookOf s.heap) a' w' → Ext A E (lookOf h) w E1 (lookOf s.heap) w' → Q (exOf s.ex) a' w') → Code.rounds P x Q m a w := by
  intro m
  induction m with
  | zero => intro _ τ h key s e; cases e
  | succ m ih =>
    intro hm τ h key s e A E a w Q hS hk hQ
    simp only [codeD] at e
    obtain ⟨s1, h1, e⟩ := obind_some e
    rw [rounds_succ]
    have hx := hs m (by omega) f nt x τ h key s1 hin h1
    have g1 := (codeD_grows (P := P) (T := T) hT.toTabW m f nt x τ h key s1 h1).1
    cases hex : s1.ex with
    | normal =>
      rw [hex] at e
      have g2 := (codeD_grows (P := P) (T := T) hT.toTabW m f nt _ _ _ _ s e).1
      refine hx.then g1 g2 hS hk fun a' w' E1 hS1 hk1 hfin => ?_
      rw [hex]
      exact ih (by omega) _ _ _ s e _ E1 a' w' Q hS1 hk1 fun a'' w'' E2 hS2 hx2 => hQ a'' w'' E2 (hfin a'' w'' E2 hS2 hx2).1 (hfin a'' w'' E2 hS2 hx2).2
    | exit id =>
      rw [hex] at e
      cases e
      refine hx A E a w _ hS hk fun a' w' E1 hS1 hx1 => ?_
      have := hQ a' w' E1 hS1 hx1
      rw [hex] at this ⊢
      exact this
    | ret =>
      rw [hex] at e
      cases e
      refine hx A E a w _ hS hk fun a' w' E1 hS1 hx1 => ?_
      have := hQ a' w' E1 hS1 hx1
      rw [hex] at this ⊢
      exact this

theorem codeD_step (hT : TabAll P T) (hm : P.follows .mixedOrders = true) {n : Nat} (hs : ∀ m, m ≤ n → SoundAt P T m) : SoundAt P T (n + 1) := by
    intro f nt c τ h key s hin e
    have ih := hs n (Nat.le_refl n)
    have eAll := e
    have hcall : CallOK P (callWD P (codeD P T n)) := callWD_sound ih
    have hgrow : CallG (callWD P (codeD P T n)) := callWD_grows (codeD_grows hT.toTabW n)
    have grows := fun f nt c τ h key s e => (codeD_grows (P := P) (T := T) hT.toTabW n f nt c τ h key s e).1
    cases c <;> simp only [codeD] at e <;> try (cases e; done)
    case skip =>
      cases e
      intro A E a w Q hS hk hQ
      exact wp_skip (hQ a w E (hS.same fun _ h => .inl h) (Ext.refl _ _ _ _))
    case label l =>
      cases e
      intro A E a w Q hS hk hQ
      exact wp_label (hQ a w E (hS.same fun _ h => .inl h) (Ext.refl _ _ _ _))
    case exit id =>
      cases e
      intro A E a w Q hS hk hQ
      exact wp_exit (hQ a w E (hS.same fun _ h => .inl h) (Ext.refl _ _ _ _))
    case ret =>
      cases e
      intro A E a w Q hS hk hQ
      exact wp_ret (hQ a w E (hS.same fun _ h => .inl h) (Ext.refl _ _ _ _))
    case seq x y =>
      have hx := within_sub hin (c' := x) fun p hp => by simp [blocksOf, hp]
      have hy := within_sub hin (c' := y) fun p hp => by simp [blocksOf, hp]
      obtain ⟨s1, h1, e⟩ := obind_some e
      intro A E a w Q hS hk hQ
      refine wp_seq ?_
      have g1 := grows _ _ _ _ _ _ _ h1
      cases hex : s1.ex with
      | normal =>
        rw [hex] at e
        have g2 := grows _ _ _ _ _ _ _ e
        refine (ih f nt x τ h key s1 hx h1).then g1 g2 hS hk fun a' w' E1 hS1 hk1 hfin => ?_
        rw [hex]
        exact ih f nt y _ _ _ s hy e _ E1 a' w' Q hS1 hk1 fun a'' w'' E2 hS2 hx2 => hQ a'' w'' E2 (hfin a'' w'' E2 hS2 hx2).1 (hfin a'' w'' E2 hS2 hx2).2
      | exit id =>
        rw [hex] at e
        cases e
        refine ih f nt x τ h key s hx h1 A E a w _ hS hk fun a' w' E1 hS1 hx1 => ?_
        have := hQ a' w' E1 hS1 hx1
        rw [hex] at this ⊢
        exact this
      | ret =>
        rw [hex] at e
        cases e
        refine ih f nt x τ h key s hx h1 A E a w _ hS hk fun a' w' E1 hS1 hx1 => ?_
        have := hQ a' w' E1 hS1 hx1
        rw [hex] at this ⊢
        exact this
    case cond c x y =>
      have hx := within_sub hin (c' := x) fun p hp => by simp [blocksOf, hp]
      have hy := within_sub hin (c' := y) fun p hp => by simp [blocksOf, hp]
      intro A E a w Q hS hk hQ
      have hev := tmEval (hS.tm E (Agree.refl A E)) c
      split at e
      · rename_i hc
        rw [hc] at hev
        exact wp_cond_true hev (ih f nt x τ h key s hx e A E a w Q hS hk hQ)
      · rename_i hc
        rw [hc] at hev
        exact wp_cond_false hev (ih f nt y τ h key s hy e A E a w Q hS hk hQ)
      · rename_i b hc
        rw [hc] at hev
        split at e
        · rename_i t
          have hq : TmEq τ ((t, .bool (.lit b)) :: τ) := tmEq_known hc
          cases b
          · exact wp_cond_false hev (ih f nt y _ h key s hy e A E a w Q (hS.tmEq hq) hk hQ)
          · exact wp_cond_true hev (ih f nt x _ h key s hx e A E a w Q (hS.tmEq hq) hk hQ)
        · cases e
      · cases e
    case block id x =>
      have hx := within_sub hin (c' := x) fun p hp => by simp [blocksOf, hp]
      split at e
      · rename_i H hH
        exact hT.hkOK f id H hH nt x hin τ h key s e
      · obtain ⟨s1, h1, e⟩ := obind_some e
        intro A E a w Q hS hk hQ
        refine wp_block ?_
        cases hex : s1.ex with
        | normal =>
          rw [hex] at e
          cases e
          refine ih f nt x τ h key s hx h1 A E a w _ hS hk fun a' w' E1 hS1 hx1 => ?_
          have := hQ a' w' E1 hS1 hx1
          rw [hex] at this ⊢
          exact this
        | ret =>
          rw [hex] at e
          cases e
          refine ih f nt x τ h key s hx h1 A E a w _ hS hk fun a' w' E1 hS1 hx1 => ?_
          have := hQ a' w' E1 hS1 hx1
          rw [hex] at this ⊢
          exact this
        | exit i =>
          rw [hex] at e
          dsimp only at e
          split at e
          · rename_i hi
            have hi := Nat.eq_of_beq_eq_true hi
            cases e
            refine ih f nt x τ h key s1 hx h1 A E a w _ hS hk fun a' w' E1 hS1 hx1 => ?_
            rw [hex]
            simp only [exOf, Exit.inBlock, hi, if_true]
            exact hQ a' w' E1 hS1 hx1
          · rename_i hi
            cases e
            have hne : i ≠ id := fun h => by subst h; simp at hi
            refine ih f nt x τ h key s hx h1 A E a w _ hS hk fun a' w' E1 hS1 hx1 => ?_
            have := hQ a' w' E1 hS1 hx1
            rw [hex] at this ⊢
            simp only [exOf, Exit.inBlock, hne, if_false]
            exact this
    case loop x =>
      have hx := within_sub hin (c' := x) fun p hp => by simp [blocksOf, hp]
      intro A E a w Q hS hk hQ
      exact wp_loop_rounds (n + 1) (rounds_sound hT hs hx (n + 1) (Nat.le_refl _) τ h key s eAll A E a w Q hS hk hQ)
    case region id ops draw =>
      intro A E a w Q hS hk hQ
      cases draw <;> simp only [codeD] at e
      · obtain ⟨q, hq, rfl⟩ := Option.map_eq_some_iff.1 e
        exact region_sound hT.toTabOK hcall hgrow nt id ops τ h key q hq A E a w Q hS hk hQ
      · obtain ⟨q, hq, rfl⟩ := Option.map_eq_some_iff.1 e
        exact draw_sound hT.toTabOK hm hcall hgrow nt id ops τ h key q hq A E a w Q hS hk hQ

theorem codeD_sound (hT : TabAll P T) (hm : P.follows .mixedOrders = true) (n : Nat) : SoundAt P T n := by
  induction n using Nat.strongRecOn with
  | _ n ih =>
    cases n with
    | zero => intro f nt c τ h key s _ e; cases e
    | succ n => exact codeD_step hT hm fun m hm' => ih m (by omega)

/-- THE ENGINE: what the tree of a call comes to is what the call comes to. -/
theorem call_sound (hT : TabAll P T) (hm : P.follows .mixedOrders = true) (n : Nat) : CallOK P (callWD P (codeD P T n)) := callWD_sound (codeD_sound hT hm n)
theorem call_grows (hT : TabAll P T) (n : Nat) : CallG (callWD P (codeD P T n)) := callWD_grows (codeD_grows hT.toTabW n)

theorem noTab_all (P : Program) : TabAll P noTab where
  sm := fun _ _ h => by cases h
  hk := fun _ _ _ h => by cases h
  smOK := fun _ _ h => by cases h
  hkOK := fun _ _ _ h => by cases h
end
end Go.Eng
