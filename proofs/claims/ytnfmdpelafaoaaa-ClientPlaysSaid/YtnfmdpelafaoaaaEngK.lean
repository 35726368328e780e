/- The engine, part K: one operation, carried out; a row of operations in their order.
   Conditions: none. -/
import Derived.Test.YtnfmdpelafaoaaaEngJ
set_option linter.unusedSimpArgs false
set_option linter.unusedVariables false
namespace Go.Eng
section
variable {P : Program} {T : Tab}

def rng (A : Nat → Prop) (key key' : Nat) : Nat → Prop := fun k => A k ∨ (key ≤ k ∧ k < key')

/-- What a call of a function owes: on what is read alone (C), whatever else there is. -/
def CallSpec (P : Program) (f : FuncId) (args : List AV) (C : Look → Prop) (key key' : Nat) (v : AV) (W : Heap) : Prop :=
  ∀ (A : Nat → Prop) (E : Env) (lk : Look) (w : World) (vals : Array Value), RelU A E lk w → C lk → (∀ k, key ≤ k → k < key' → ¬ A k) → (∀ E', Agree A E E' → vals = (denL E' args).toArray) →
    Calls P f vals w fun e w' => ∃ val E1, e = .returned val ∧ (∀ E', Agree (rng A key key') E1 E' → val = den E' v) ∧ RelU (rng A key key') E1 (hupd lk W) w' ∧ Ext A E lk w E1 (hupd lk W) w'

/-- What a summary owes. -/
def SummOK (P : Program) (f : FuncId) (S : Summ) : Prop :=
  ∀ args h key v R W key', (S.run args h key).sel = some (v, R, W, key') → CallSpec P f args (fun lk => ∀ k ∈ R, lk k = hget k h) key key' v W

/-- A call of a function, run on the heap as it is. -/
def CallOK (P : Program) (call : CallD) : Prop :=
  ∀ f args h key v h' key' W, call f args h key = some (v, h', key') → h' = W ++ h → CallSpec P f args (fun lk => lk = lookOf h) key key' v W

def StepSpec (P : Program) (o : Oper) (τ : Tm) (C : Look → Prop) (key key' : Nat) (v : AV) (W : Heap) : Prop :=
  ∀ (A : Nat → Prop) (E : Env) (lk : Look) (w : World) (a : Act) (K : Act → World → Prop) (Q : Exit → Act → World → Prop), RelU A E lk w → C lk → (∀ k, key ≤ k → k < key' → ¬ A k) →
    (∀ E', Agree A E E' → ∀ x ∈ o.op.operands, a.eval x = den E' (aeval τ x)) →
    (∀ val w' E1, (∀ E', Agree (rng A key key') E1 E' → val = den E' v) → RelU (rng A key key') E1 (hupd lk W) w' → Ext A E lk w E1 (hupd lk W) w' → K (a.put o.dst val) w') →
    o.wp P a w K Q

theorem step_op {o : Oper} {τ : Tm} {h : Heap} {key : Nat} {v : AV} {R : List Nat} {W : Heap} (hs : (opA P o.op (aeval τ) h key).sel = some (.val v R W)) :
    StepSpec P o τ (fun lk => ∀ k ∈ R, lk k = hget k h) key (key + 2) v W := by
  intro A E lk w a K Q hU hC hk hρ hK
  obtain ⟨nx, w', E1, val, h1, h2, h3, h4, h5⟩ := opA_sound hs hU hk hC a.eval hρ o rfl
  unfold Oper.wp
  rw [h1]
  have := hK val w' E1 h3 h4 h5
  cases nx <;> simp only [nextV] at h2 <;> try (cases h2; done)
  · cases h2; exact this
  · cases h2; exact this

theorem step_call {o : Oper} {τ : Tm} {f : FuncId} {args : List AV} {C : Look → Prop} {key key' : Nat} {v : AV} {W : Heap} (hs : callOf P o.op (aeval τ) = some (f, args)) (hc : CallSpec P f args C key key' v W) :
    StepSpec P o τ C key key' v W := by
  intro A E lk w a K Q hU hC hk hρ hK
  obtain ⟨vals, h1, h2⟩ := callOf_run hs w a.eval hρ o rfl
  unfold Oper.wp
  rw [h1, Oper.upon_enter]
  refine (hc A E lk w vals hU hC hk h2).mono ?_
  rintro e w' ⟨val, E1, rfl, h3, h4, h5⟩
  exact hK val w' E1 h3 h4 h5

theorem StepSpec.weaken {o : Oper} {τ : Tm} {C D : Look → Prop} {key key' : Nat} {v : AV} {W : Heap} (h : StepSpec P o τ C key key' v W) (hCD : ∀ lk, D lk → C lk) : StepSpec P o τ D key key' v W :=
  fun A E lk w a K Q hU hC => h A E lk w a K Q hU (hCD lk hC)

/-- A call on a part of the heap. -/
theorem call_part {call : CallD} (hc : CallOK P call) (hg : CallG call) {f : FuncId} {args : List AV} {ks : List Nat} {h h' : Heap} {key key' : Nat} {v : AV} {W : Heap} (hs : call f args (restrict ks h) key = some (v, h', key'))
    (hW : h' = W ++ restrict ks h) (hcl : closedK ks h = true) : CallSpec P f args (fun lk => ∀ k ∈ ks, lk k = hget k h) key key' v W := by
  intro A E lk w vals hU hC hk hv
  have hlook : ∀ k, lookOf (restrict ks h) k = if k ∈ ks then hget k h else none := fun k => restrict_look h k ks
  have hsub : ∀ k o, lookOf (restrict ks h) k = some o → lk k = some o := by
    intro k o ho
    rw [hlook] at ho
    split at ho
    · rename_i hm; rw [hC k hm]; exact ho
    · cases ho
  have hr := hc f args _ key v h' key' W hs hW A E _ w vals (hU.sub hsub) rfl hk hv
  obtain ⟨_, W', hW', hwok⟩ := hg f args _ key v h' key' hs
  have : W' = W := by
    rw [hW] at hW'
    exact List.append_cancel_right hW'.symm
  subst this
  refine hr.mono ?_
  rintro e w' ⟨val, E1, rfl, h3, h4, h5⟩
  obtain ⟨g1, g2⟩ := hU.frame hsub (fun k len sz rows g hl ht => by
    rw [hlook] at hl ⊢
    split at hl
    · rename_i hm
      have hcl' := List.all_eq_true.1 hcl k hm
      rw [hl] at hcl'
      dsimp only at hcl'
      have hgm : g ∈ ks := by
        clear hl hcl hs hW' hW hr hwok h3 h4 h5 hlook hsub
        induction ks with
        | nil => cases hm
        | cons j ks ih =>
          simp only [memK] at hcl'
          by_cases hj : j = g
          · subst hj; simp
          · rw [beq_ne hj] at hcl'
            dsimp only at hcl'
            refine List.mem_cons_of_mem _ ?_
            have : ∀ (ks : List Nat), memK g ks = true → g ∈ ks := by
              intro ks
              induction ks with
              | nil => intro h; cases h
              | cons j ks ih =>
                intro h
                simp only [memK] at h
                by_cases hj : j = g
                · subst hj; simp
                · rw [beq_ne hj] at h
                  exact List.mem_cons_of_mem _ (ih h)
            exact this ks hcl'
      rw [if_pos hgm, ← hC g hgm]
      exact ht
    · cases hl) h4 h5 (fun _ h => .inl h) (fun k o hm => ⟨fun hA => (hwok k o hm).1.elim id fun h6 => absurd hA (hk k h6.1 h6.2), (hwok k o hm).2⟩)
  exact ⟨val, E1, rfl, h3, g1, g2⟩

/- The frame. -/
structure StU (A : Nat → Prop) (E : Env) (nt : Nat) (τ : Tm) (lk : Look) (a : Act) (w : World) : Prop where
  rel : RelU A E lk w
  size : a.tmps.size = nt
  defers : a.defers = []
  tm : ∀ E', Agree A E E' → ∀ t, a.tmps.getD t undef = den E' (tget t τ)

theorem tmEval {E : Env} {a : Act} {τ : Tm} (h : ∀ t, a.tmps.getD t undef = den E (tget t τ)) (x : Operand) : a.eval x = den E (aeval τ x) := by
  cases x with
  | tmp t => exact h t
  | const v => simp [Act.eval, aeval, den_ofV]
  | global g => rfl
  | func f => rfl
theorem tget_put (dst : Option Tmp) (v : AV) (τ : Tm) (t : Nat) : tget t (tput dst v τ) = if dst = some t then v else tget t τ := by
  cases dst with
  | none => simp [tput]
  | some d =>
    simp only [tput, tget, Option.some.injEq]
    by_cases h : d = t
    · subst h; simp
    · rw [beq_ne h]; simp [h]
theorem put_getD {a : Act} {nt : Nat} {dst : Option Tmp} (hs : a.tmps.size = nt) (hd : dstOk nt dst = true) (val : Value) (t : Nat) : (a.put dst val).tmps.getD t undef = if dst = some t then val else a.tmps.getD t undef := by
  cases dst with
  | none => simp [Act.put]
  | some d =>
    have hlt : @LT.lt Nat _ d a.tmps.size := by
      rw [hs]
      exact Nat.le_of_ble_eq_true hd
    simp only [Act.put, Option.some.injEq]
    by_cases h : d = t
    · subst h
      simp [Array.getD, hlt]
    · rw [if_neg h]
      simp only [Array.getD_eq_getD_getElem?, Array.getElem?_setIfInBounds_ne h]
theorem put_size {a : Act} {dst : Option Tmp} (val : Value) : (a.put dst val).tmps.size = a.tmps.size := by
  cases dst <;> simp [Act.put]
theorem put_defers' {a : Act} {dst : Option Tmp} (val : Value) : (a.put dst val).defers = a.defers := by
  cases dst <;> rfl
theorem StU.put {A A' : Nat → Prop} {E E1 : Env} {nt : Nat} {τ : Tm} {lk lk' : Look} {a : Act} {w w' : World} (h : StU A E nt τ lk a w) (hE : Agree A E E1) (hA : ∀ k, A k → A' k) (hr : RelU A' E1 lk' w')
    {dst : Option Tmp} (hd : dstOk nt dst = true) {val : Value} {v : AV} (hv : ∀ E', Agree A' E1 E' → val = den E' v) : StU A' E1 nt (tput dst v τ) lk' (a.put dst val) w' where
  rel := hr
  size := by rw [put_size]; exact h.size
  defers := by rw [put_defers']; exact h.defers
  tm := fun E' h' t => by
    rw [put_getD h.size hd, tget_put]
    split
    · exact hv E' h'
    · exact h.tm E' (hE.trans h' hA) t

/-- Temporaries that stand for the same values. -/
def TmEq (τ τ' : Tm) : Prop := ∀ (E : Env) (t : Nat), den E (tget t τ') = den E (tget t τ)
theorem StU.tmEq {A : Nat → Prop} {E : Env} {nt : Nat} {τ τ' : Tm} {lk : Look} {a : Act} {w : World} (h : StU A E nt τ lk a w) (he : TmEq τ τ') : StU A E nt τ' lk a w :=
  ⟨h.rel, h.size, h.defers, fun E' h' t => by rw [he]; exact h.tm E' h' t⟩
theorem TmEq.refl (τ : Tm) : TmEq τ τ := fun _ _ => rfl
theorem TmEq.trans {a b c : Tm} (h : TmEq a b) (h' : TmEq b c) : TmEq a c := fun E t => (h' E t).trans (h E t)
theorem tmEq_known {τ : Tm} {t : Nat} {b : Bool} (h : tget t τ = .bool (.sym b)) : TmEq τ ((t, .bool (.lit b)) :: τ) := by
  intro E s
  simp only [tget]
  by_cases hs : t = s
  · subst hs; simp [h, den, SB.v]
  · rw [beq_ne hs]
theorem pickD_eq (op : Op) (τ : Tm) : TmEq τ (pickD op τ) := by
  unfold pickD
  split
  · split
    · rename_i h; exact tmEq_known h
    · exact TmEq.refl _
  · exact TmEq.refl _
theorem guardD_spec {ops : Array Oper} {o : Oper} {τ τ' : Tm} {b : Bool} (h : guardD ops o τ = some (b, τ')) {E : Env} {a : Act} (ht : ∀ t, (match o.guard with | none => True | some (j, _) => (ops[j]?).bind (·.dst) = some t → a.tmps.getD t undef = den E (tget t τ))) :
    Region.wanted o (yielded ops a.tmps) = b ∧ TmEq τ τ' := by
  have yl : ∀ j t, (ops[j]?).bind (·.dst) = some t → yielded ops a.tmps j = match a.tmps.getD t undef with | .bool b => some b | _ => none := by
    intro j t e
    unfold yielded
    rw [e]
    simp only [Option.bind_some, Array.getD_eq_getD_getElem?]
    cases a.tmps[t]? with
    | none => rfl
    | some v => cases v <;> rfl
  unfold guardD at h
  unfold Region.wanted
  cases hg : o.guard with
  | none =>
    rw [hg] at h
    cases h
    exact ⟨rfl, TmEq.refl _⟩
  | some jw =>
    obtain ⟨j, want⟩ := jw
    rw [hg] at h
    dsimp only at h ⊢
    cases he : (ops[j]?).bind (·.dst) with
    | none =>
      rw [he] at h
      cases h
      refine ⟨?_, TmEq.refl _⟩
      unfold yielded
      rw [he]
      rfl
    | some t =>
      rw [he] at h
      dsimp only at h
      have hv : a.tmps.getD t undef = den E (tget t τ) := by
        have := ht t
        rw [hg] at this
        exact this he
      rw [yl j t he, hv]
      split at h
      · rename_i b' e
        cases h
        refine ⟨?_, TmEq.refl _⟩
        simp only [e, den, SB.v]
        cases b' <;> cases want <;> rfl
      · rename_i b' e
        cases h
        refine ⟨?_, tmEq_known e⟩
        simp only [e, den, SB.v]
        cases b' <;> cases want <;> rfl
      · rename_i e
        cases h
        refine ⟨?_, TmEq.refl _⟩
        simp only [e, den]
        rfl
      · cases h

theorem RelU.same {A B : Nat → Prop} {E : Env} {lk : Look} {w : World} (h : RelU A E lk w) (hAB : ∀ k, A k → B k) : RelU B E lk w := h.move (Agree.refl A E) hAB
theorem StU.same {A B : Nat → Prop} {E : Env} {nt : Nat} {τ : Tm} {lk : Look} {a : Act} {w : World} (h : StU A E nt τ lk a w) (hAB : ∀ k, A k → B k) : StU B E nt τ lk a w :=
  ⟨h.rel.same hAB, h.size, h.defers, fun E' h' t => h.tm E' (h'.mono hAB) t⟩

/-- What a table owes. -/
structure TabOK (P : Program) (T : Tab) : Prop extends TabW T where
  smOK : ∀ f S, T.sm f = some S → SummOK P f S

theorem range_cons (i m : Nat) : List.range' i (m + 1) = i :: List.range' (i + 1) m := by rw [List.range'_succ]

/-- A row of operations, in their order. -/
theorem opsD_sound (hT : TabOK P T) {call : CallD} (hc : CallOK P call) (hg : CallG call) (nt : Nat) (ops : Array Oper) : ∀ (m i : Nat) (τ : Tm) (h : Heap) (key : Nat) (q : Tm × Heap × Nat),
    i + m = ops.size → opsD P T call nt ops (ops.toList.drop i) τ h key = some q → ∀ (A : Nat → Prop) (E : Env) (a : Act) (w : World) (Q : Exit → Act → World → Prop), StU A E nt τ (lookOf h) a w →
    (∀ k, key ≤ k → k < q.2.2 → ¬ A k) →
    (∀ a' w' E1, StU (rng A key q.2.2) E1 nt q.1 (lookOf q.2.1) a' w' → Ext A E (lookOf h) w E1 (lookOf q.2.1) w' → Q .normal a' w') →
    wpOps P ops Q (List.range' i m) a w := by
  intro m
  induction m with
  | zero =>
    intro i τ h key q him e A E a w Q hS hk hQ
    have : ops.toList.drop i = [] := List.drop_eq_nil_of_le (by simp; omega)
    rw [this] at e
    cases e
    exact hQ a w E (hS.same fun _ h => .inl h) (Ext.refl _ _ _ _)
  | succ m ih =>
    intro i τ h key q him e A E a w Q hS hk hQ
    have hi : i < ops.size := by omega
    have hl : ops.toList.drop i = ops[i] :: ops.toList.drop (i + 1) := by
      rw [List.drop_eq_getElem_cons (by simpa using hi)]
      simp
    rw [hl] at e
    rw [range_cons, wpOps_cons]
    unfold wpOp
    rw [Array.getElem?_eq_getElem hi]
    dsimp only
    generalize ops[i] = o at e ⊢
    simp only [opsD] at e
    split at e
    · cases e
    · rename_i hd
      obtain ⟨g, hgd, e⟩ := obind_some e
      obtain ⟨b, τ1⟩ := g
      have hgs := guardD_spec hgd (E := E) (a := a) (fun t => by
        split
        · trivial
        · exact fun _ => hS.tm E (Agree.refl A E) t)
      dsimp only at e
      rw [hgs.1]
      -- what follows
      have go : ∀ (τ2 : Tm) (v : AV) (W : Heap) (key2 : Nat) (C : Look → Prop), TmEq τ τ2 → StepSpec P o τ2 C key key2 v W → C (lookOf h) → key ≤ key2 → key2 ≤ q.2.2 →
          opsD P T call nt ops (ops.toList.drop (i + 1)) (tput o.dst v τ2) (W ++ h) key2 = some q → o.wp P a w (wpOps P ops Q (List.range' (i + 1) m)) Q := by
        intro τ2 v W key2 C hτ hst hC h1 h2 e2
        have hS2 := hS.tmEq hτ
        refine hst A E (lookOf h) w a _ Q hS.rel hC (fun k a1 a2 => hk k a1 (by omega)) (fun E' h' x _ => tmEval (hS2.tm E' h') x) ?_
        intro val w' E1 hv hr hx
        have hS3 := hS2.put hx.agree (fun _ h => .inl h) hr hd hv
        rw [← lookOf_append] at hS3 hx
        refine ih (i + 1) _ _ _ q (by omega) e2 (rng A key key2) E1 _ w' Q hS3 (fun k a1 a2 => ?_) (fun a' w'' E2 hS4 hx2 => ?_)
        · rintro (h3 | h3)
          · exact hk k (by omega) a2 h3
          · omega
        · refine hQ a' w'' E2 (hS4.same ?_) (hx.trans hx2 fun _ h => .inl h)
          rintro k ((h3 | h3) | h3)
          · exact .inl h3
          · exact .inr ⟨h3.1, by omega⟩
          · exact .inr ⟨by omega, h3.2⟩
      split at e
      · refine .inl ?_
        have hτ : TmEq τ (pickD o.op τ1) := hgs.2.trans (pickD_eq _ _)
        split at e
        · rename_i f args hcall
          split at e
          · rename_i S hS'
            obtain ⟨⟨v, R, W, key2⟩, hr, e⟩ := obind_some e
            have hle := (hT.sm f S hS' _ _ _ _ hr).1
            have hgr := opsD_grows hT.toTabW hg nt ops _ _ _ _ _ e
            exact go _ v W key2 _ hτ (step_call hcall (hT.smOK f S hS' _ _ _ _ _ _ _ hr)) (fun k _ => rfl) hle hgr.1 e
          · obtain ⟨⟨v, h', key2⟩, hr, e⟩ := obind_some e
            obtain ⟨hle, W, hW, _⟩ := hg _ _ _ _ _ _ _ hr
            have hgr := opsD_grows hT.toTabW hg nt ops _ _ _ _ _ e
            dsimp only at hW e
            subst hW
            exact go _ v W key2 _ hτ (step_call hcall (hc _ _ _ _ _ _ _ W hr rfl)) rfl hle hgr.1 e
        · obtain ⟨⟨v, R, W⟩, hr, e⟩ := obind_some e
          have hgr := opsD_grows hT.toTabW hg nt ops _ _ _ _ _ e
          exact go _ v W (key + 2) _ hτ (step_op hr) (fun k _ => rfl) (by omega) hgr.1 e
      · have hS2 := (hS.tmEq hgs.2).put (Agree.refl A E) (fun _ h => h) hS.rel hd (val := undef) (v := .raw undef) (fun _ _ => rfl)
        exact ih (i + 1) _ _ _ q (by omega) e A E _ w Q hS2 hk hQ

theorem region_sound (hT : TabOK P T) {call : CallD} (hc : CallOK P call) (hg : CallG call) (nt id : Nat) (ops : Array Oper) (τ : Tm) (h : Heap) (key : Nat) (q : Tm × Heap × Nat)
    (e : opsD P T call nt ops ops.toList τ h key = some q) (A : Nat → Prop) (E : Env) (a : Act) (w : World) (Q : Exit → Act → World → Prop) (hS : StU A E nt τ (lookOf h) a w)
    (hk : ∀ k, key ≤ k → k < q.2.2 → ¬ A k)
    (hQ : ∀ a' w' E1, StU (rng A key q.2.2) E1 nt q.1 (lookOf q.2.1) a' w' → Ext A E (lookOf h) w E1 (lookOf q.2.1) w' → Q .normal a' w') :
    (Code.region id ops false).wp P Q a w := by
  refine wp_region ?_
  rw [List.range_eq_range']
  exact opsD_sound hT hc hg nt ops ops.size 0 τ h key q (by omega) (by simpa using e) A E a w Q hS hk hQ
end
end Go.Eng
