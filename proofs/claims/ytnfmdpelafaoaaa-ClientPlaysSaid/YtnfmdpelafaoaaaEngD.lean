/- The engine, part D: equality, arithmetic, and every operation.
   Conditions: none. -/
import Derived.Test.YtnfmdpelafaoaaaEngC
import Derived.Laws.StructEq
import Derived.Laws.Pointers
import Derived.ChangeKeysEq
set_option linter.unusedSimpArgs false
set_option linter.unusedVariables false
namespace Go.Eng
section
variable {P : Program}

theorem eqA_sound (E : Env) (w : World) : ∀ (d : Nat) (t : TypeId) (x y : AV) (r : SB) (D : Nat), eqA P d t x y = some r → d ≤ D → (Op.equalIn D t (den E x) (den E y)).run P w = .ok r.v w := by
  intro d
  induction d with
  | zero => intro t x y r D h; cases h
  | succ d ih =>
    intro t x y r D h hD
    obtain ⟨D, rfl⟩ : ∃ m, D = m + 1 := ⟨D - 1, by omega⟩
    simp only [eqA] at h
    split at h
    · rename_i hu
      split at h
      · cases h; simp [den, run_equalIn_bool w D t _ _ hu, SB.beq_v]
      · cases h
    · rename_i kk hu
      split at h
      · rename_i k a k' b
        split at h
        · rename_i hk
          cases h
          have : k = k' := of_decide_eq_true hk
          subst this
          simp [den, run_equalIn_int w D t k _ _ _ hu, SI.cmp_v]
        · cases h
      · cases h
    · rename_i hu
      split at h
      · cases h
        simp [den, Op.equalIn, run_underlying hu, SS.eq_v]
      · cases h
    · rename_i e hu
      split at h <;> first | (cases h; done) | (cases h; simp [den, Op.equalIn, run_underlying hu, SB.v])
    · rename_i e hu
      split at h <;> first | (cases h; done) | (cases h; simp [den, Op.equalIn, run_underlying hu, SB.v])
    · rename_i hu
      split at h <;> first | (cases h; done) | (cases h; simp [den, Op.equalIn, run_underlying hu, SB.v])
    · rename_i fields hu
      split at h
      · rename_i xs ys
        split at h
        · cases h
        · rename_i hp
          have hu' : P.underlying t = some (.struct (P.fieldsOf t)) := by simp [Program.fieldsOf, hu]
          have hf : P.fieldsOf t = fields := by simp [Program.fieldsOf, hu]
          simp only [den]
          rw [run_equalIn_struct w D t _ _ hu' hp, hf]
          clear hf hu' hu
          generalize fields.toList = fs at h ⊢
          induction fs generalizing r with
          | nil => simp only [List.foldr_nil, Option.some.injEq] at h; subst h; rfl
          | cons f fs ihf =>
            simp only [List.foldr_cons] at h
            simp only [Op.eqFields]
            split at h
            · rename_i hn
              have hn := of_decide_eq_true hn
              rw [if_neg (by simpa using hn)]
              exact ihf r h
            · rename_i hn
              have hn := of_decide_eq_false hn
              rw [if_pos hn]
              split at h
              · rename_i a b h1 h2
                split at h
                · rename_i r1 s h3 h4
                  cases h
                  simp only [Sem.run_bind, part_sound h1 E w, part_sound h2 E w, ih f.type a b r1 D h3 (by omega), Result.andThen_ok]
                  have := ihf s h4
                  rw [SB.and_v]
                  cases r1.v
                  · simp
                  · simpa using this
                · cases h
              · cases h
      · cases h
    · rename_i len elem hu
      split at h
      · rename_i xs ys n hn
        obtain ⟨i, hi, rfl⟩ := tsize_info hn
        simp only [den]
        rw [run_equalIn_array w D _ _ hu hi]
        have hc : P.cellsOf elem = i.size := by simp [Program.cellsOf, hi]
        rw [hc]
        generalize List.range len = is at h ⊢
        induction is generalizing r with
        | nil => simp only [List.foldr_nil, Option.some.injEq] at h; subst h; rfl
        | cons j is ihf =>
          simp only [List.foldr_cons] at h
          simp only [Op.eqItems]
          split at h
          · rename_i a b h1 h2
            split at h
            · rename_i r1 s h3 h4
              cases h
              simp only [Sem.run_bind, part_sound h1 E w, part_sound h2 E w, ih elem a b r1 D h3 (by omega), Result.andThen_ok]
              have := ihf s h4
              rw [SB.and_v]
              cases r1.v
              · simp
              · simpa using this
            · cases h
          · cases h
      · cases h
    · cases h

/-- '==' by its type: no guard stands in the way, and what it comes to. -/
theorem eqA_run {d : Nat} {t : TypeId} {x y : AV} {r : SB} (h : eqA P d t x y = some r) (hd : d ≤ 10000) (hg : ∀ a b, x = .agg a → y = .agg b → P.eqGuardType P.depth t = false) (E : Env) (w : World) (op : BinOp) (p q : Operand) :
    (eqGuard op t p q (den E x) (den E y)).run P w = .ok () w ∧ (binOp .eql t (den E x) (den E y)).run P w = .ok (.bool r.v) w ∧ (binOp .neq t (den E x) (den E y)).run P w = .ok (.bool (!r.v)) w := by
  have he := eqA_sound E w d t x y r 10000 h hd
  have he' : (Op.equal t (den E x) (den E y)).run P w = .ok r.v w := he
  cases d with
  | zero => cases h
  | succ d =>
    simp only [eqA] at h
    split at h
    · split at h
      · cases h; refine ⟨by cases op <;> simp [eqGuard, den], ?_, ?_⟩ <;> simp only [den] at he' ⊢ <;> simp [binOp, he']
      · cases h
    · split at h
      · rename_i k a k' b
        split at h
        · rename_i hk
          have : k = k' := of_decide_eq_true hk
          subst this
          cases h
          refine ⟨by cases op <;> simp [eqGuard, den], ?_, ?_⟩ <;> simp [den, binOp, Op.intCmp, SI.cmp_v, bne]
        · cases h
      · cases h
    · split at h
      · cases h
        refine ⟨by cases op <;> simp [eqGuard, den], ?_, ?_⟩ <;> simp [den, binOp, Op.stringOp, SS.eq_v, beq_toListBytes]
      · cases h
    · split at h <;> first
        | (cases h; done)
        | (cases h; refine ⟨by cases op <;> simp [eqGuard, den], ?_, ?_⟩ <;> simp only [den] at he' ⊢ <;> simp [binOp, he'])
    · split at h <;> first
        | (cases h; done)
        | (cases h; refine ⟨by cases op <;> simp [eqGuard, den], ?_, ?_⟩ <;> simp only [den] at he' ⊢ <;> simp [binOp, he'])
    · split at h <;> first
        | (cases h; done)
        | (cases h; refine ⟨by cases op <;> simp [eqGuard, den], ?_, ?_⟩ <;> simp only [den] at he' ⊢ <;> simp [binOp, he'])
    · split at h
      · rename_i a b
        refine ⟨?_, ?_, ?_⟩
        · simp only [den]; exact run_eqGuard_agg w op t p q _ _ (hg a b rfl rfl)
        · simp only [den] at he' ⊢; simp [binOp, he']
        · simp only [den] at he' ⊢; simp [binOp, he']
      · cases h
    · split at h
      · rename_i a b
        refine ⟨?_, ?_, ?_⟩
        · simp only [den]; exact run_eqGuard_agg w op t p q _ _ (hg _ _ rfl rfl)
        · simp only [den] at he' ⊢; simp [binOp, he']
        · simp only [den] at he' ⊢; simp [binOp, he']
      · cases h
    · cases h

theorem leaf_val {v v' : AV} {R R' : List Nat} {W W' : Heap} (h : (Tree.leaf (Res.val v R W)).sel = some (.val v' R' W')) : v' = v ∧ R' = R ∧ W' = W := by
  cases h; exact ⟨rfl, rfl, rfl⟩
theorem eqOp_run {neg : Bool} {t : TypeId} {x y v : AV} {R : List Nat} {W : Heap} (h : (eqOp P neg t x y).sel = some (.val v R W)) (hg : ∀ a b, x = .agg a → y = .agg b → P.eqGuardType P.depth t = false)
    (E : Env) (w : World) (p q : Operand) :
    W = [] ∧ (do eqGuard (match neg with | true => .neq | false => .eql) t p q (den E x) (den E y); binOp (match neg with | true => .neq | false => .eql) t (den E x) (den E y)).run P w = .ok (den E v) w := by
  unfold eqOp at h
  split at h
  · rename_i r hr
    obtain ⟨rfl, _, rfl⟩ := leaf_val h
    refine ⟨rfl, ?_⟩
    cases neg
    · obtain ⟨h1, h2, h3⟩ := eqA_run hr (by omega) hg E w .eql p q
      simp only [Sem.run_bind, h1, Result.andThen_ok, h2, den]
    · obtain ⟨h1, h2, h3⟩ := eqA_run hr (by omega) hg E w .neq p q
      simp only [Sem.run_bind, h1, Result.andThen_ok, h3, den, SB.not_v]
  · cases h

theorem intOp_run {op : BinOp} {k : IntKind} {a b : SI} {v : AV} {R : List Nat} {W : Heap} (h : (intOp op k a b).sel = some (.val v R W)) (t : TypeId) (E : Env) (w : World) (p q : Operand) :
    W = [] ∧ (do eqGuard op t p q (.int k a.v) (.int k b.v); binOp op t (.int k a.v) (.int k b.v)).run P w = .ok (den E v) w := by
  have hg : (eqGuard op t p q (.int k a.v) (.int k b.v)).run P w = .ok () w := by cases op <;> simp [eqGuard]
  simp only [Sem.run_bind, hg, Result.andThen_ok]
  cases op <;> simp only [intOp] at h <;> first
    | (cases h; done)
    | (obtain ⟨rfl, _, rfl⟩ := leaf_val h; exact ⟨rfl, by simp [binOp, Op.intArith, Op.intBits, Op.intCmp, den, SI.bin_v, SI.cmp_v]⟩)
    | (obtain ⟨hb, h⟩ := need_sel h; obtain ⟨rfl, _, rfl⟩ := leaf_val h; refine ⟨rfl, ?_⟩; rw [SI.cmp_v] at hb; simp only [bne_iff_ne] at hb; simp [binOp, Op.intDiv, den, SI.bin_v, hb])

theorem shiftOp_run {op : BinOp} {k k' : IntKind} {a b : SI} {v : AV} {R : List Nat} {W : Heap} (h : (shiftOp op k a b).sel = some (.val v R W)) (t : TypeId) (E : Env) (w : World) (p q : Operand) :
    W = [] ∧ (do eqGuard op t p q (.int k a.v) (.int k' b.v); binOp op t (.int k a.v) (.int k' b.v)).run P w = .ok (den E v) w := by
  have hg : (eqGuard op t p q (.int k a.v) (.int k' b.v)).run P w = .ok () w := by cases op <;> simp [eqGuard]
  simp only [Sem.run_bind, hg, Result.andThen_ok]
  cases op <;> simp only [shiftOp] at h <;> first
    | (cases h; done)
    | (obtain ⟨hb, h⟩ := need_sel h; obtain ⟨rfl, _, rfl⟩ := leaf_val h; refine ⟨rfl, ?_⟩; rw [SI.cmp_v] at hb; have hb := of_decide_eq_true hb
       have hb' : ¬ (b.v < 0) := by omega
       simp [binOp, Op.shift, den, SI.bin_v, hb'])

theorem binA_run {op : BinOp} {t : TypeId} {x y v : AV} {R : List Nat} {W : Heap} (h : (binA P op t x y).sel = some (.val v R W)) (E : Env) (w : World) (p q : Operand) :
    W = [] ∧ (do eqGuard op t p q (den E x) (den E y); binOp op t (den E x) (den E y)).run P w = .ok (den E v) w := by
  unfold binA at h
  split at h
  · rename_i k a k' b
    split at h
    · exact shiftOp_run h t E w p q
    · exact shiftOp_run h t E w p q
    · split at h
      · rename_i hk
        have : k = k' := of_decide_eq_true hk
        subst this
        exact intOp_run h t E w p q
      · cases h
  · rename_i a b
    split at h
    · obtain ⟨rfl, _, rfl⟩ := leaf_val h
      exact ⟨rfl, by simp [eqGuard, binOp, Op.stringOp, den, SS.eq_v, ba_toList]⟩
    · obtain ⟨rfl, _, rfl⟩ := leaf_val h
      exact ⟨rfl, by simp [eqGuard, binOp, Op.stringOp, den, SB.not_v, SS.eq_v, ba_toList, bne]⟩
    · cases h
  · rename_i a b
    split at h
    · cases h
    · rename_i hg
      split at h
      · exact eqOp_run (neg := false) h (fun _ _ _ _ => hg) E w p q
      · exact eqOp_run (neg := true) h (fun _ _ _ _ => hg) E w p q
      · cases h
  · cases h
  · rename_i h1 h2 h3 h4
    split at h
    · exact eqOp_run (neg := false) h (fun a b ha hb => absurd hb (by intro hb; exact h3 a b ha hb)) E w p q
    · exact eqOp_run (neg := true) h (fun a b ha hb => absurd hb (by intro hb; exact h3 a b ha hb)) E w p q
    · cases h

theorem unA_run {op : UnOp} {x v : AV} {R : List Nat} {W : Heap} (h : (unA op x).sel = some (.val v R W)) (E : Env) (w : World) : W = [] ∧ (Op.unary op (den E x)).run P w = .ok (den E v) w := by
  unfold unA at h
  split at h
  · obtain ⟨rfl, _, rfl⟩ := leaf_val h
    exact ⟨rfl, by simp [Op.unary, den, SB.not_v]⟩
  · obtain ⟨rfl, _, rfl⟩ := leaf_val h
    exact ⟨rfl, by simp [Op.unary, den, SI.un_v, Op.intArith]⟩
  · cases h
end
end Go.Eng
