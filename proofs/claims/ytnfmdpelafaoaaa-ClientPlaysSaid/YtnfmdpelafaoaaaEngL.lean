/- The engine, part L: a region that draws its order: whatever order, one outcome.
   Conditions: none. -/
import Derived.Test.YtnfmdpelafaoaaaEngK
set_option linter.unusedSimpArgs false
set_option linter.unusedVariables false
namespace Go.Eng
section
variable {P : Program} {T : Tab}

/-- What one operation of the region did, in the text's order. -/
structure DRec where
  τ : Tm
  h : Heap
  key : Nat
  b : Bool
  τ2 : Tm
  v : AV
  R : List Nat
  W : Heap
  key' : Nat
instance : Inhabited DRec := ⟨⟨[], [], 0, false, [], .nilp, [], [], 0⟩⟩

/-- One operation's record is right. -/
structure RecOK (P : Program) (nt : Nat) (ops : Array Oper) (i : Nat) (o : Oper) (r : DRec) : Prop where
  dst : dstOk nt o.dst = true
  edges : edgesOk o i = true
  guard : ∃ τ1, guardD ops o r.τ = some (r.b, τ1) ∧ TmEq r.τ r.τ2
  skip : r.b = false → r.v = .raw undef ∧ r.W = [] ∧ r.key' = r.key
  step : r.b = true → StepSpec P o r.τ2 (fun lk => ∀ k ∈ r.R, lk k = hget k r.h) r.key r.key' r.v r.W
  le : r.key ≤ r.key'

def certs (rs : List DRec) (i : Nat) : List Cert := ((rs.zipIdx i).map fun x => ⟨x.2, x.1.R, wkeys x.1.W⟩).reverse

def Recs (P : Program) (nt : Nat) (ops : Array Oper) (bef : List Nat) (l : List Oper) (i : Nat) (cs : List Cert) (τ : Tm) (h : Heap) (key : Nat) (q : Tm × Heap × Nat) : Prop :=
  ∃ rs : List DRec, rs.length = l.length ∧
      (∀ j o r, l[j]? = some o → rs[j]? = some r → RecOK P nt ops (i + j) o r ∧ (∀ c ∈ cs, clash ops (bef.getD (i + j) 0) o r.R (wkeys r.W) c = false) ∧
        (∀ j' r', j' < j → rs[j']? = some r' → clash ops (bef.getD (i + j) 0) o r.R (wkeys r.W) ⟨i + j', r'.R, wkeys r'.W⟩ = false)) ∧
      (∀ r, rs[0]? = some r → r.τ = τ ∧ r.h = h ∧ r.key = key) ∧
      (∀ j r r' o, rs[j]? = some r → rs[j + 1]? = some r' → l[j]? = some o → r'.τ = tput o.dst r.v r.τ2 ∧ r'.h = r.W ++ r.h ∧ r'.key = r.key') ∧
      (∀ r o, rs.getLast? = some r → l.getLast? = some o → q = (tput o.dst r.v r.τ2, r.W ++ r.h, r.key')) ∧ (rs = [] → q = (τ, h, key))

theorem drawD_recs (hT : TabOK P T) {call : CallD} (hc : CallOK P call) (hg : CallG call) (nt : Nat) (ops : Array Oper) (bef : List Nat) : ∀ (l : List Oper) (i : Nat) (cs : List Cert) (τ : Tm) (h : Heap) (key : Nat) (q : Tm × Heap × Nat),
    drawD P T call nt ops bef l i cs τ h key = some q → Recs P nt ops bef l i cs τ h key q := by
  intro l
  induction l with
  | nil =>
    intro i cs τ h key q e
    cases e
    exact ⟨[], rfl, fun j o r h1 => by simp at h1, fun r h1 => by simp at h1, fun j r r' o h1 => by simp at h1, fun r o h1 => by simp at h1, fun _ => rfl⟩
  | cons o rest ih =>
    intro i cs τ h key q e
    simp only [drawD] at e
    split at e
    · cases e
    · rename_i hd
      simp only [Bool.and_eq_true] at hd
      obtain ⟨⟨b, τ1⟩, hgd, e⟩ := obind_some e
      -- one record, and what follows
      have go : ∀ (r : DRec), r.τ = τ → r.h = h → r.key = key → RecOK P nt ops i o r → cs.any (clash ops (bef.getD i 0) o r.R (wkeys r.W)) = false →
          drawD P T call nt ops bef rest (i + 1) (⟨i, r.R, wkeys r.W⟩ :: cs) (tput o.dst r.v r.τ2) (r.W ++ r.h) r.key' = some q → Recs P nt ops bef (o :: rest) i cs τ h key q := by
        intro r e1 e2 e3 hok hcl e4
        obtain ⟨rs, a1, a2, a3, a4, a5, a6⟩ := ih _ _ _ _ _ _ e4
        have hcl' : ∀ c ∈ cs, clash ops (bef.getD i 0) o r.R (wkeys r.W) c = false := by
          intro c hc'
          have := List.any_eq_false.1 hcl c hc'
          simpa using this
        refine ⟨r :: rs, by simp [a1], ?_, ?_, ?_, ?_, ?_⟩
        · intro j o' r' h1 h2
          cases j with
          | zero =>
            simp only [List.getElem?_cons_zero, Option.some.injEq] at h1 h2
            subst h1; subst h2
            exact ⟨hok, hcl', fun j' r'' hj => by omega⟩
          | succ j =>
            simp only [List.getElem?_cons_succ] at h1 h2
            obtain ⟨b1, b2, b3⟩ := a2 j o' r' h1 h2
            have e5 : i + 1 + j = i + (j + 1) := by omega
            rw [e5] at b1 b2 b3
            refine ⟨b1, fun c hc' => b2 c (List.mem_cons_of_mem _ hc'), fun j' r'' hj h3 => ?_⟩
            cases j' with
            | zero =>
              simp only [List.getElem?_cons_zero, Option.some.injEq] at h3
              subst h3
              exact b2 _ List.mem_cons_self
            | succ j' =>
              simp only [List.getElem?_cons_succ] at h3
              have := b3 j' r'' (by omega) h3
              rwa [show i + 1 + j' = i + (j' + 1) by omega] at this
        · intro r' h1
          simp only [List.getElem?_cons_zero, Option.some.injEq] at h1
          subst h1
          exact ⟨e1, e2, e3⟩
        · intro j r' r'' o' h1 h2 h3
          cases j with
          | zero =>
            simp only [List.getElem?_cons_zero, List.getElem?_cons_succ, Option.some.injEq, Nat.zero_add] at h1 h2 h3
            subst h1; subst h3
            exact a3 r'' h2
          | succ j =>
            simp only [List.getElem?_cons_succ] at h1 h2 h3
            exact a4 j r' r'' o' h1 h2 h3
        · intro r' o' h1 h2
          cases rs with
          | nil =>
            cases rest with
            | nil =>
              simp only [List.getLast?_singleton, Option.some.injEq] at h1 h2
              subst h1; subst h2
              exact a6 rfl
            | cons => simp at a1
          | cons r2 rs =>
            cases rest with
            | nil => simp at a1
            | cons o2 rest =>
              rw [List.getLast?_cons_cons] at h1 h2
              exact a5 r' o' h1 h2
        · intro h1; cases h1
      split at e
      · rename_i hb
        have hb : b = true := hb
        subst hb
        obtain ⟨⟨v, R, W, key2⟩, hr, e⟩ := obind_some e
        split at e
        · cases e
        · rename_i hcl
          have hcl : cs.any (clash ops (bef.getD i 0) o R (wkeys W)) = false := hcl
          have hgr := drawStepD_grows hT.toTabW hg hr
          have hτ : TmEq τ (pickD o.op τ1) := by
            refine TmEq.trans ?_ (pickD_eq o.op τ1)
            intro E t
            -- what the guard does to the temporaries
            unfold guardD at hgd
            split at hgd
            · cases hgd; rfl
            · split at hgd
              · cases hgd
              · split at hgd
                · simp only [Option.some.injEq, Prod.mk.injEq] at hgd; rw [hgd.2]
                · rename_i hs
                  simp only [Option.some.injEq, Prod.mk.injEq] at hgd
                  rw [← hgd.2]
                  exact tmEq_known hs E t
                · cases hgd
                · cases hgd
          have hstep : StepSpec P o (pickD o.op τ1) (fun lk => ∀ k ∈ R, lk k = hget k h) key key2 v W := by
            unfold drawStepD at hr
            split at hr
            · rename_i f args hcall
              split at hr
              · rename_i S hS
                exact step_call hcall (hT.smOK f S hS _ _ _ _ _ _ _ hr)
              · split at hr
                · cases hr
                · rename_i hclosed
                  obtain ⟨⟨v', h2, key2'⟩, hx, hr⟩ := Option.map_eq_some_iff.1 hr
                  obtain ⟨_, W', hW', _⟩ := hg _ _ _ _ _ _ _ hx
                  have hW2 : h2 = W' ++ restrict (reach 100 (keysL args) [] h) h := hW'
                  subst hW2
                  simp only [Prod.mk.injEq] at hr
                  obtain ⟨rfl, rfl, rfl, rfl⟩ := hr
                  rw [← restrict_length (reach 100 (keysL args) [] h) h, take_new]
                  exact step_call hcall (call_part hc hg hx rfl hclosed)
            · obtain ⟨x, hx, hr⟩ := Option.map_eq_some_iff.1 hr
              cases x with
              | val v' R' W' =>
                simp only [Prod.mk.injEq] at hr
                obtain ⟨rfl, rfl, rfl, rfl⟩ := hr
                exact step_op hx
          exact go ⟨τ, h, key, true, pickD o.op τ1, v, R, W, key2⟩ rfl rfl rfl
            ⟨hd.1, hd.2, ⟨τ1, hgd, hτ⟩, (fun h => nomatch (show true = false from h)), fun _ => hstep, hgr.1⟩ hcl e
      · rename_i hb
        have hb : b = false := hb
        subst hb
        split at e
        · cases e
        · rename_i hcl
          have hτ : TmEq τ τ1 := by
            intro E t
            unfold guardD at hgd
            split at hgd
            · cases hgd
            · split at hgd
              · cases hgd; rfl
              · split at hgd
                · simp only [Option.some.injEq, Prod.mk.injEq] at hgd; rw [hgd.2]
                · rename_i hs
                  simp only [Option.some.injEq, Prod.mk.injEq] at hgd
                  rw [← hgd.2]
                  exact tmEq_known hs E t
                · cases hgd; rfl
                · cases hgd
          exact go ⟨τ, h, key, false, τ1, .raw undef, [], [], key⟩ rfl rfl rfl
            ⟨hd.1, hd.2, ⟨τ1, hgd, hτ⟩, fun _ => ⟨rfl, rfl, rfl⟩, (fun h => nomatch (show false = true from h)), Nat.le_refl _⟩ hcl e

/- Before: what the mask says. -/
theorem before_foldl (ops : List Oper) : ∀ (l : List Oper) (acc : Array Nat) (pre : List Oper), ops = pre ++ l → acc.size = pre.length →
    (∀ j i, Nat.testBit (acc.getD j 0) i = true → ∃ o, ops[j]? = some o ∧ ∃ e ∈ o.after.toList, Region.binds .any e = true ∧ (e.on = i ∨ (e.on < j ∧ Nat.testBit (acc.getD e.on 0) i = true))) →
    ∀ j i, Nat.testBit ((l.foldl (fun acc o => acc.push (o.after.foldl (fun s e => if Region.binds .any e then s ||| 2 ^ e.on ||| acc.getD e.on 0 else s) 0)) acc).getD j 0) i = true →
      ∃ o, ops[j]? = some o ∧ ∃ e ∈ o.after.toList, Region.binds .any e = true ∧ (e.on = i ∨ (e.on < j ∧ Nat.testBit ((l.foldl (fun acc o => acc.push (o.after.foldl (fun s e => if Region.binds .any e then s ||| 2 ^ e.on ||| acc.getD e.on 0 else s) 0)) acc).getD e.on 0) i = true))
  | [], acc, pre, h1, h2, h3, j, i, h4 => h3 j i h4
  | o :: l, acc, pre, h1, h2, h3, j, i, h4 => by
    simp only [List.foldl_cons] at h4 ⊢
    have bits : ∀ (i : Nat) (es : List Edge) (s : Nat), Nat.testBit (es.foldl (fun s e => if Region.binds .any e then s ||| 2 ^ e.on ||| acc.getD e.on 0 else s) s) i = true → Nat.testBit s i = true ∨ ∃ e ∈ es, Region.binds .any e = true ∧ (e.on = i ∨ Nat.testBit (acc.getD e.on 0) i = true) := by
      intro i es
      induction es with
      | nil => intro s h; exact .inl h
      | cons e es ih =>
        intro s h
        simp only [List.foldl_cons] at h
        rcases ih _ h with h | ⟨e', he, h⟩
        · split at h
          · rename_i hb
            simp only [Nat.testBit_or, Bool.or_eq_true] at h
            rcases h with (h | h) | h
            · exact .inl h
            · refine .inr ⟨e, by simp, hb, .inl ?_⟩
              rw [Nat.testBit_two_pow] at h
              simpa using h
            · exact .inr ⟨e, by simp, hb, .inr h⟩
          · exact .inl h
        · exact .inr ⟨e', by simp [he], h⟩
    refine before_foldl ops l _ (pre ++ [o]) (by simp [h1]) (by simp [h2]) ?_ j i h4
    intro j i hb
    have getP : ∀ k, (acc.push (o.after.foldl (fun s e => if Region.binds .any e then s ||| 2 ^ e.on ||| acc.getD e.on 0 else s) 0)).getD k 0 =
        if k = acc.size then (o.after.foldl (fun s e => if Region.binds .any e then s ||| 2 ^ e.on ||| acc.getD e.on 0 else s) 0) else acc.getD k 0 := by
      intro k
      simp only [Array.getD_eq_getD_getElem?, Array.getElem?_push]
      split <;> rfl
    have small : ∀ k i, Nat.testBit (acc.getD k 0) i = true → k < acc.size := by
      intro k i hk
      cases Nat.lt_or_ge k acc.size with
      | inl h => exact h
      | inr h =>
        simp only [Array.getD_eq_getD_getElem?, Array.getElem?_eq_none h, Option.getD_none, Nat.zero_testBit] at hk
        cases hk
    rw [getP] at hb
    by_cases hj : j = acc.size
    · rw [if_pos hj, ← Array.foldl_toList] at hb
      refine ⟨o, by rw [h1, hj, h2]; simp, ?_⟩
      rcases bits i _ 0 hb with hb | ⟨e, he, hbe, hor⟩
      · simp at hb
      · refine ⟨e, he, hbe, hor.imp id fun hor => ?_⟩
        have := small e.on i hor
        rw [getP, if_neg (by omega)]
        exact ⟨by omega, hor⟩
    · rw [if_neg hj] at hb
      obtain ⟨o', ho', e, he, hbe, hor⟩ := h3 j i hb
      have hlt := small j i hb
      refine ⟨o', ho', e, he, hbe, hor.imp id fun hor => ⟨hor.1, ?_⟩⟩
      rw [getP, if_neg (by omega)]
      exact hor.2

/-- What lies before an operation has been carried out, where what is carried out is closed under the edges. -/
theorem before_closed {ops : Array Oper} {D : Nat → Prop} (hD : ∀ j, D j → ∀ o, ops[j]? = some o → ∀ e ∈ o.after.toList, Region.binds .any e = true → D e.on) :
    ∀ (n j i : Nat), j ≤ n → Nat.testBit ((Region.before ops).getD j 0) i = true → (∀ o, ops[j]? = some o → ∀ e ∈ o.after.toList, Region.binds .any e = true → D e.on) → D i := by
  have hb : ∀ j i, Nat.testBit ((Region.before ops).getD j 0) i = true → ∃ o, ops[j]? = some o ∧ ∃ e ∈ o.after.toList, Region.binds .any e = true ∧ (e.on = i ∨ (e.on < j ∧ Nat.testBit ((Region.before ops).getD e.on 0) i = true)) := by
    intro j i h
    have := before_foldl ops.toList ops.toList #[] [] rfl rfl (fun j i h => by simp at h) j i (by
      unfold Region.before at h
      rw [← Array.foldl_toList] at h
      exact h)
    unfold Region.before
    rw [← Array.foldl_toList]
    obtain ⟨o, ho, e, he, h1, h2⟩ := this
    exact ⟨o, by simpa using ho, e, he, h1, h2⟩
  intro n
  induction n with
  | zero =>
    intro j i hj h hp
    obtain ⟨o, ho, e, he, h1, h2⟩ := hb j i h
    rcases h2 with h2 | h2
    · exact h2 ▸ hp o ho e he h1
    · omega
  | succ n ih =>
    intro j i hj h hp
    obtain ⟨o, ho, e, he, h1, h2⟩ := hb j i h
    rcases h2 with h2 | ⟨h2, h3⟩
    · exact h2 ▸ hp o ho e he h1
    · exact ih e.on i (by omega) h3 (hD e.on (hp o ho e he h1))

/- The heap and the temporaries behind a part of the operations. -/
def lkF (rec : Nat → DRec) (lk : Look) (D : Nat → Bool) : Nat → Look
  | 0 => lk
  | m + 1 => match D m with
    | true => hupd (lkF rec lk D m) (rec m).W
    | false => lkF rec lk D m
def tmF (rec : Nat → DRec) (dst : Nat → Option Tmp) (τ : Tm) (D : Nat → Bool) : Nat → Tm
  | 0 => τ
  | m + 1 => match D m with
    | true => tput (dst m) (rec m).v (tmF rec dst τ D m)
    | false => tmF rec dst τ D m

theorem hupd_ne {lk : Look} {W : Heap} {k : Nat} (h : k ∉ wkeys W) : hupd lk W k = lk k := by
  unfold hupd
  rw [wget_none h]
theorem hupd_in {lk lk' : Look} {W : Heap} {k : Nat} (h : k ∈ wkeys W) : hupd lk W k = hupd lk' W k := by
  unfold hupd
  cases hw : wget k W with
  | none => exact absurd h (wget_none_iff.1 hw)
  | some o => rfl

/-- A key whose writers are the same among two parts. -/
theorem lkF_congr (rec : Nat → DRec) (lk : Look) (D D' : Nat → Bool) (k : Nat) : ∀ m, (∀ j, j < m → k ∈ wkeys (rec j).W → D j = D' j) → lkF rec lk D m k = lkF rec lk D' m k
  | 0, _ => rfl
  | m + 1, h => by
    have ih := lkF_congr rec lk D D' k m fun j hj => h j (by omega)
    simp only [lkF]
    by_cases hk : k ∈ wkeys (rec m).W
    · rw [h m (by omega) hk]
      cases D' m with
      | true => exact hupd_in hk
      | false => exact ih
    · cases D m <;> cases D' m <;> simp only [hupd_ne hk] <;> exact ih
theorem tmF_congr (rec : Nat → DRec) (dst : Nat → Option Tmp) (τ : Tm) (D D' : Nat → Bool) (t : Nat) : ∀ m, (∀ j, j < m → dst j = some t → D j = D' j) → tget t (tmF rec dst τ D m) = tget t (tmF rec dst τ D' m)
  | 0, _ => rfl
  | m + 1, h => by
    have ih := tmF_congr rec dst τ D D' t m fun j hj => h j (by omega)
    simp only [tmF]
    by_cases hk : dst m = some t
    · rw [h m (by omega) hk]
      cases D' m with
      | true => simp [tget_put, hk]
      | false => exact ih
    · cases D m <;> cases D' m <;> simp only [tget_put, hk, if_false] <;> exact ih
/-- Behind the last operation of a part nothing changes. -/
theorem lkF_stop (rec : Nat → DRec) (lk : Look) (D : Nat → Bool) (i : Nat) (hD : ∀ j, i ≤ j → D j = false) : ∀ m, i ≤ m → lkF rec lk D m = lkF rec lk D i
  | 0, h => by have : i = 0 := by omega
               subst this; rfl
  | m + 1, h => by
    by_cases hm : i = m + 1
    · subst hm; rfl
    · simp only [lkF]
      rw [hD m (by omega)]
      exact lkF_stop rec lk D i hD m (by omega)
theorem tmF_stop (rec : Nat → DRec) (dst : Nat → Option Tmp) (τ : Tm) (D : Nat → Bool) (i : Nat) (hD : ∀ j, i ≤ j → D j = false) : ∀ m, i ≤ m → tmF rec dst τ D m = tmF rec dst τ D i
  | 0, h => by have : i = 0 := by omega
               subst this; rfl
  | m + 1, h => by
    by_cases hm : i = m + 1
    · subst hm; rfl
    · simp only [tmF]
      rw [hD m (by omega)]
      exact tmF_stop rec dst τ D i hD m (by omega)

end
end Go.Eng
