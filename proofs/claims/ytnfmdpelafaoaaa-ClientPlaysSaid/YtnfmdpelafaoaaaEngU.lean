/- The engine, part U: summaries of calls that make objects of their own; calls with loops as summaries.
   Conditions: none. -/
import Derived.Test.YtnfmdpelafaoaaaEngS
set_option linter.unusedSimpArgs false
set_option linter.unusedVariables false
namespace Go.Eng
section
variable {P : Program} {T : Tab}

def psi (φ : List Nat) (key j : Nat) : Nat := match Nat.blt j φ.length with
  | true => lkN φ j
  | false => key + (j - φ.length)
def psiI (φ : List Nat) (key n k : Nat) : Nat := match Nat.ble key k && Nat.blt k (key + n) with
  | true => φ.length + (k - key)
  | false => idxN k φ
def covers (m : Nat) (l : List (Nat × AObj)) : Bool := (List.range m).all fun j => memK j (l.map (·.1))
def isBox : AObj → Bool
  | .box _ => true
  | _ => false
/-- What a summary may be told of: boxes, and lists that are only read. -/
def plainB (m : Nat) : AObj → Prop
  | .box cs => (keysL cs).all (Nat.blt · m) = true
  | .lst _ _ rows none => PlainRows rows
  | _ => False
/-- How it stands in the heap at the call. -/
def SeenO (φ : Nat → Nat) (m : Nat) (h : Heap) (toks : List Nat) (k : Nat) : AObj → Prop
  | .box cs => ∃ o', hget k h = some o' ∧ SameO noNil φ (· < m) o' (.box cs)
  | .lst len sz rows _ => ∃ len' rows' g', hget k h = some (.lst len' sz rows' g') ∧ (∀ g, g' = some g → hget g h = some .tok ∧ g ∈ toks) ∧ len'.v = len.v ∧
      ∀ i : Nat, (i : Int) < len.v → (rows i).length = (rows' i).length ∧ ∀ E, denL E (rows' i) = denL E (rows i)
  | _ => False
/-- What it may leave under a key. -/
def plainN (m m' : Nat) (h' : List (Nat × AObj)) (j : Nat) : AObj → Prop
  | .box cs => (keysL cs).all (Nat.blt · m') = true
  | .lst _ _ rows (some g) => PlainRows rows ∧ m ≤ j ∧ m ≤ g ∧ g < m' ∧ memK g (h'.map (·.1)) = true
  | .tok => m ≤ j
  | _ => False

structure FitN where
  φ : List Nat
  toks : List Nat
  args : List AV
  h : List (Nat × AObj)
  n : Nat
  h' : List (Nat × AObj)
  v : AV
def boxKeys (h : List (Nat × AObj)) : List Nat := (h.filter fun p => isBox p.2).map (·.1)
structure FitNOk (P : Program) (f : FuncId) (args : List AV) (h : Heap) (q : FitN) : Prop where
  dist : distB q.φ = true
  args : ∀ E, denL E args = denL E (renL (lkN q.φ) q.args)
  obj : ∀ p ∈ q.h, p.1 < q.φ.length ∧ plainB q.φ.length p.2 ∧ SeenO (lkN q.φ) q.φ.length h q.toks (lkN q.φ p.1) p.2
  distH : distB (q.h.map (·.1)) = true
  cov : covers q.φ.length q.h = true
  obj' : ∀ p ∈ q.h', p.1 < q.φ.length + q.n ∧ (p.1 < q.φ.length → p.1 ∈ boxKeys q.h) ∧ plainN q.φ.length (q.φ.length + q.n) q.h' p.1 p.2
  cov' : ∀ j ∈ boxKeys q.h, j ∈ q.h'.map (·.1)
  dist' : distB (q.h'.map (·.1)) = true
  vk : (keysOf q.v).all (Nat.blt · (q.φ.length + q.n)) = true
  std : StdN P f q.φ.length q.h q.args (q.φ.length + q.n) q.h' q.v

def stdSummN (ent : List AV → Heap → Option FitN) : Summ := ⟨fun args h key => match ent args h with
  | some q => .leaf (ren (psi q.φ key) q.v, q.φ ++ q.toks, wOf (psi q.φ key) q.h', key + q.n)
  | none => .fail "summary"⟩

theorem psi_lt {φ : List Nat} {key j : Nat} (h : j < φ.length) : psi φ key j = lkN φ j := by
  unfold psi
  rw [show Nat.blt j φ.length = true from Nat.ble_eq_true_of_le h]
theorem psi_ge {φ : List Nat} {key j : Nat} (h : φ.length ≤ j) : psi φ key j = key + (j - φ.length) := by
  unfold psi
  have : Nat.blt j φ.length = false := by
    cases hb : Nat.blt j φ.length
    · rfl
    · have : j + 1 ≤ φ.length := Nat.le_of_ble_eq_true hb
      omega
  rw [this]
theorem psiI_new {φ : List Nat} {key n k : Nat} (h1 : key ≤ k) (h2 : k < key + n) : psiI φ key n k = φ.length + (k - key) := by
  unfold psiI
  rw [show Nat.ble key k = true from Nat.ble_eq_true_of_le h1, show Nat.blt k (key + n) = true from Nat.ble_eq_true_of_le h2]
  rfl
theorem psiI_old {φ : List Nat} {key n k : Nat} (h : ¬ (key ≤ k ∧ k < key + n)) : psiI φ key n k = idxN k φ := by
  unfold psiI
  have : (Nat.ble key k && Nat.blt k (key + n)) = false := by
    cases hb : (Nat.ble key k && Nat.blt k (key + n))
    · rfl
    · simp only [Bool.and_eq_true] at hb
      exact absurd ⟨Nat.le_of_ble_eq_true hb.1, Nat.le_of_ble_eq_true hb.2⟩ h
  rw [this]

theorem boxKeys_mem {h : List (Nat × AObj)} {j : Nat} (hj : j ∈ boxKeys h) : ∃ cs, (j, .box cs) ∈ h := by
  unfold boxKeys at hj
  obtain ⟨⟨k, o⟩, h1, rfl⟩ := List.mem_map.1 hj
  obtain ⟨h2, h3⟩ := List.mem_filter.1 h1
  cases o with
  | box cs => exact ⟨cs, h2⟩
  | _ => cases h3
theorem boxKeys_of {h : List (Nat × AObj)} {j : Nat} {cs : List AV} (hj : (j, .box cs) ∈ h) : j ∈ boxKeys h :=
  List.mem_map.2 ⟨(j, .box cs), List.mem_filter.2 ⟨hj, rfl⟩, rfl⟩
theorem cell_at {w : World} {B : Nat} {C : Array Value} {ty : TypeId} (h : w.heap[B]? = some (.cells C ty (0, 0))) (o : Nat) : w.cell? ⟨B, o, none⟩ = C[o]? := by
  simp [World.cell?, h]

/-- The callee's heap at the call. -/
theorem fit_relU {f : FuncId} {args : List AV} {h : Heap} {q : FitN} (F : FitNOk P f args h q) {A : Nat → Prop} {E : Env} {lk : Look} {w : World} (hU : RelU A E lk w) (hC : ∀ k ∈ q.φ ++ q.toks, lk k = hget k h) :
    RelU (· < q.φ.length) (E.via (lkN q.φ)) (lookOf (mkHeap q.h)) w := by
  have hφ : ∀ j, j < q.φ.length → lk (lkN q.φ j) = hget (lkN q.φ j) h := fun j hj => hC _ (List.mem_append_left _ (lkN_mem hj))
  have inj : ∀ j j', j < q.φ.length → j' < q.φ.length → lkN q.φ j = lkN q.φ j' → j = j' := fun j j' h1 h2 e => by
    rw [← idx_lkN F.dist h1, ← idx_lkN F.dist h2, e]
  refine ⟨fun k o ho => (F.obj _ (mkHeap_mem ho)).1, fun k len sz rows g ho => ?_, fun E2 hE => ⟨fun k o ho => ?_, fun k o k' o' b ho ho' hne h1 h2 => ?_, fun k len sz rows a k' o' ho hc ha ho' h2 => ?_⟩⟩
  · exact (F.obj _ (mkHeap_mem ho)).2.1.elim
  · obtain ⟨hk, hp, hs⟩ := F.obj _ (mkHeap_mem ho)
    obtain ⟨e1, e2, e3⟩ := hE k hk
    have e1 : E2.blk k = E.blk (lkN q.φ k) := e1
    have e2 : E2.hdr k = E.hdr (lkN q.φ k) := e2
    have e3 : E2.fp k = E.fp (lkN q.φ k) := e3
    cases o with
    | box cs =>
      obtain ⟨o', q1, q2⟩ := hs
      have hb := hU.here.obj (lkN q.φ k) o' (by rw [hφ k hk]; exact q1)
      cases o' <;> simp only [SameO] at q2
      obtain ⟨h1, h2, ty, h3⟩ := hb
      refine ⟨by rw [e3, h1, e1], q2.1, ty, ?_⟩
      rw [e1, h3, q2.2.1 E (noNil_ok E), denL_ren, denL_cl hE cs q2.2.2]
    | lst len sz rows g =>
      obtain ⟨len', rows', g', q1, q2, q3, q4⟩ := hs
      have hb := hU.here.obj (lkN q.φ k) _ (by rw [hφ k hk]; exact q1)
      obtain ⟨h1, h2, h3⟩ := hb
      cases g with
      | some g => exact hp.elim
      | none =>
        have hp : PlainRows rows := hp
        refine ⟨by rw [e2, h1, q3], by rw [e2]; exact h2, fun hc => ?_⟩
        rw [e2] at hc
        obtain ⟨B, off, b1, b2, b3⟩ := h3 hc
        refine ⟨B, off, by rw [e2]; exact b1, b2, ?_⟩
        have rows_ok : ∀ get : Nat → Option Value, RowsAt E get off sz (E.hdr (lkN q.φ k)).2.1 rows' → RowsAt E2 get off sz (E.hdr (lkN q.φ k)).2.1 rows := by
          intro get hg i hi
          obtain ⟨g1, g2, g3⟩ := hg i hi
          obtain ⟨r1, r3⟩ := q4 i (by rw [← q3, ← h1]; exact_mod_cast hi)
          refine ⟨by rw [r1, g1], (hp i).1, fun j hj => ?_⟩
          rw [g3 j hj, ← denL_get, ← denL_get, r3 E]
          rw [denL_cl (M := fun _ => False) (E := E) (E' := E2) (fun k hk => hk.elim) (rows i) (by rw [(hp i).2]; simp)]
        rw [e2]
        show RowsAt E2 _ off sz _ rows
        cases g' with
        | none => exact rows_ok _ b3
        | some g' =>
          obtain ⟨t1, t2⟩ := q2 g' rfl
          obtain ⟨c1, C, ty, c2, c3, c4⟩ := b3 (by rw [hC g' (List.mem_append_right _ t2)]; exact t1)
          exact (rows_ok _ c4).congr fun o => cell_at c2 o
    | tok => exact hs.elim
    | opq R => exact hs.elim
  · obtain ⟨hk, hp, hs⟩ := F.obj _ (mkHeap_mem ho)
    obtain ⟨hk', hp', hs'⟩ := F.obj _ (mkHeap_mem ho')
    have h1 := (owns_agree hE hk o b).1 h1
    have h2 := (owns_agree hE hk' o' b).1 h2
    cases o with
    | box cs =>
      cases o' with
      | box cs' =>
        obtain ⟨o1, q1, s1⟩ := hs
        obtain ⟨o2, q2, s2⟩ := hs'
        exact hU.here.apart (lkN q.φ k) o1 (lkN q.φ k') o2 b (by rw [hφ k hk]; exact q1) (by rw [hφ k' hk']; exact q2) (fun e => hne (inj k k' hk hk' e)) (s1.owns h1) (s2.owns h2)
      | lst => exact h2.elim
      | tok => exact hs'.elim
      | opq => exact hs'.elim
    | lst => exact h1.elim
    | tok => exact hs.elim
    | opq => exact hs.elim
  · obtain ⟨hk, hp, hs⟩ := F.obj _ (mkHeap_mem ho)
    obtain ⟨hk', hp', hs'⟩ := F.obj _ (mkHeap_mem ho')
    have e2 : E2.hdr k = E.hdr (lkN q.φ k) := (hE k hk).2.1
    have h2 := (owns_agree hE hk' o' a.block).1 h2
    rw [e2] at hc ha
    cases o' with
    | box cs' =>
      obtain ⟨o2, q2, s2⟩ := hs'
      obtain ⟨len', rows', g', q1, q3, q4, q5⟩ := hs
      have l1 : lk (lkN q.φ k) = _ := (hφ k hk).trans q1
      have l2 : lk (lkN q.φ k') = _ := (hφ k' hk').trans q2
      have h2 := s2.owns h2
      cases g' with
      | none => exact hU.here.ro (lkN q.φ k) _ _ _ a (lkN q.φ k') o2 l1 hc ha l2 h2
      | some g' =>
        obtain ⟨t1, t2⟩ := q3 g' rfl
        have l3 : lk g' = some .tok := by rw [hC g' (List.mem_append_right _ t2)]; exact t1
        obtain ⟨_, _, h3⟩ := hU.here.obj _ _ l1
        obtain ⟨B, off, b1, b2, b3⟩ := h3 hc
        obtain ⟨c1, _⟩ := b3 l3
        rw [ha] at b1
        cases b1
        refine hU.here.apart g' .tok (lkN q.φ k') o2 B l3 l2 (fun e => ?_) (by show B ∈ E.fp g'; rw [c1]; simp) h2
        rw [e, l2] at l3
        cases l3
        cases s2
    | lst => exact h2.elim
    | tok => exact hs'.elim
    | opq => exact hs'.elim

theorem fit_spec {f : FuncId} {args : List AV} {h : Heap} {q : FitN} (F : FitNOk P f args h q) (key : Nat) :
    CallSpec P f args (fun lk => ∀ k ∈ q.φ ++ q.toks, lk k = hget k h) key (key + q.n) (ren (psi q.φ key) q.v) (wOf (psi q.φ key) q.h') := by
  intro A E lk w vals hU hC hk hvals
  have hC : ∀ k ∈ q.φ ++ q.toks, lk k = hget k h := hC
  have hφ : ∀ j, j < q.φ.length → lk (lkN q.φ j) = hget (lkN q.φ j) h := fun j hj => hC _ (List.mem_append_left _ (lkN_mem hj))
  have cov : ∀ j, j < q.φ.length → ∃ o, (j, o) ∈ q.h := fun j hj => by
    have := memK_iff.1 (List.all_eq_true.1 F.cov j (by simpa using hj))
    obtain ⟨p, h1, h2⟩ := List.mem_map.1 this
    exact ⟨p.2, by rw [← h2]; exact h1⟩
  have hAφ : ∀ j, j < q.φ.length → A (lkN q.φ j) := fun j hj => by
    obtain ⟨o, ho⟩ := cov j hj
    obtain ⟨_, _, hs⟩ := F.obj _ ho
    cases o with
    | box cs => obtain ⟨o', h1, _⟩ := hs; exact hU.dom _ o' ((hφ j hj).trans h1)
    | lst len sz rows g => obtain ⟨_, _, _, h1, _⟩ := hs; exact hU.dom _ _ ((hφ j hj).trans h1)
    | tok => exact hs.elim
    | opq R => exact hs.elim
  have hAm : ∀ k, k ∈ q.φ → A k := fun k hm => by
    obtain ⟨h1, h2⟩ := lk_idxN hm
    rw [← h1]; exact hAφ _ h2
  have hold : ∀ k, A k → ¬ (key ≤ k ∧ k < key + q.n) := fun k hA hn => hk k hn.1 hn.2 hA
  -- the boxes at the call
  let nb : List Nat := (boxKeys q.h).map (lkN q.φ)
  have hbk : ∀ j, j ∈ boxKeys q.h → j < q.φ.length := fun j hj => by
    obtain ⟨cs, h1⟩ := boxKeys_mem hj
    exact (F.obj _ h1).1
  have hlook : ∀ k, lookOf (restrict nb h) k = if k ∈ nb then hget k h else none := fun k => restrict_look h k nb
  have hnb : ∀ k, k ∈ nb → ∃ j cs o', j < q.φ.length ∧ j ∈ boxKeys q.h ∧ k = lkN q.φ j ∧ (j, .box cs) ∈ q.h ∧ hget k h = some o' ∧ SameO noNil (lkN q.φ) (· < q.φ.length) o' (.box cs) := by
    intro k hm
    obtain ⟨j, h1, rfl⟩ := List.mem_map.1 hm
    obtain ⟨cs, h2⟩ := boxKeys_mem h1
    obtain ⟨h3, _, o', h4, h5⟩ := F.obj _ h2
    exact ⟨j, cs, o', h3, h1, rfl, h2, h4, h5⟩
  have hsub : ∀ k o, lookOf (restrict nb h) k = some o → lk k = some o := by
    intro k o ho
    rw [hlook] at ho
    split at ho
    · rename_i hm
      obtain ⟨j, _, _, hj, _, rfl, _⟩ := hnb k hm
      rw [hφ j hj]; exact ho
    · cases ho
  have hUs := fit_relU F hU hC
  have hv : vals = (denL (E.via (lkN q.φ)) q.args).toArray := by
    rw [hvals E (Agree.refl _ _), F.args E, denL_ren]
  rw [hv]
  refine (F.std _ w hUs).mono ?_
  rintro e w' ⟨E1, rfl, hag, hU1, hx1⟩
  have agφ : ∀ j, j < q.φ.length → E1.blk j = E.blk (lkN q.φ j) ∧ E1.hdr j = E.hdr (lkN q.φ j) ∧ E1.fp j = E.fp (lkN q.φ j) := fun j hj => hag j hj
  let I : Nat → Nat := psiI q.φ key q.n
  let E2 : Env := ⟨fun k => if key ≤ k ∧ k < key + q.n then E1.blk (I k) else E.blk k, fun k => if key ≤ k ∧ k < key + q.n then E1.hdr (I k) else E.hdr k, fun k => if key ≤ k ∧ k < key + q.n then E1.fp (I k) else E.fp k⟩
  have agA : Agree A E E2 := fun k hA => by
    have := hold k hA
    exact ⟨if_neg this, if_neg this, if_neg this⟩
  -- the keys that count behind the call
  let M : Nat → Prop := fun k => k ∈ q.φ ∨ (key ≤ k ∧ k < key + q.n)
  have agM : Agree M (E1.via I) E2 := fun k hk => by
    by_cases hn : key ≤ k ∧ k < key + q.n
    · exact ⟨if_pos hn, if_pos hn, if_pos hn⟩
    · have hm : k ∈ q.φ := hk.resolve_right hn
      obtain ⟨h1, h2⟩ := lk_idxN hm
      obtain ⟨a1, a2, a3⟩ := agφ _ h2
      rw [h1] at a1 a2 a3
      have hI : I k = idxN k q.φ := psiI_old hn
      refine ⟨(if_neg hn).trans ?_, (if_neg hn).trans ?_, (if_neg hn).trans ?_⟩
      · show _ = E1.blk (I k); rw [hI, a1]
      · show _ = E1.hdr (I k); rw [hI, a2]
      · show _ = E1.fp (I k); rw [hI, a3]
  have hM : ∀ k, M k → rng A key (key + q.n) k := fun k hk => hk.imp (hAm k) id
  have hIψ : ∀ j, j < q.φ.length + q.n → I (psi q.φ key j) = j ∧ M (psi q.φ key j) := fun j hj => by
    by_cases hlt : j < q.φ.length
    · rw [psi_lt hlt]
      exact ⟨(psiI_old (hold _ (hAφ j hlt))).trans (idx_lkN F.dist hlt), .inl (lkN_mem hlt)⟩
    · rw [psi_ge (by omega)]
      refine ⟨(psiI_new (by omega) (by omega)).trans (by omega), .inr ⟨by omega, by omega⟩⟩
  have hψI : ∀ k, M k → psi q.φ key (I k) = k ∧ I k < q.φ.length + q.n := fun k hk => by
    by_cases hn : key ≤ k ∧ k < key + q.n
    · have hI : I k = q.φ.length + (k - key) := psiI_new hn.1 hn.2
      rw [hI, psi_ge (by omega)]
      exact ⟨by omega, by omega⟩
    · obtain ⟨h1, h2⟩ := lk_idxN (hk.resolve_right hn)
      have hI : I k = idxN k q.φ := psiI_old hn
      rw [hI, psi_lt h2]
      exact ⟨h1, by omega⟩
  -- the heap at the call
  have hget' : ∀ k o, lookOf (wOf (psi q.φ key) q.h' ++ restrict nb h) k = some o → M k ∧ ∃ j os, k = psi q.φ key j ∧ j < q.φ.length + q.n ∧ (j, os) ∈ q.h' ∧ o = renO (psi q.φ key) os := by
    intro k o ho
    rw [lookOf_append] at ho
    unfold hupd at ho
    cases hw : wget k (wOf (psi q.φ key) q.h') with
    | some x =>
      rw [hw] at ho
      dsimp only at ho
      subst ho
      obtain ⟨p, h1, h2, h3⟩ := wOf_mem (wget_wOf hw)
      have hp := (F.obj' p h1).1
      exact ⟨by rw [h2]; exact (hIψ _ hp).2, p.1, p.2, h2, hp, h1, by cases h3; rfl⟩
    | none =>
      rw [hw] at ho
      dsimp only at ho
      rw [hlook] at ho
      split at ho
      · rename_i hm
        obtain ⟨j, _, _, h2, h3, rfl, _⟩ := hnb k hm
        have := wget_cov (φ := psi q.φ key) (F.cov' j h3)
        rw [psi_lt h2, hw] at this
        exact absurd rfl this
      · cases ho
  have hR2 : ResetH noNil M I (mkHeap q.h') (wOf (psi q.φ key) q.h' ++ restrict nb h) := by
    refine ⟨fun k o ho => ?_, fun k k' o o' ho ho' e => ?_⟩
    · obtain ⟨h1, j, os, h2, h3, h4, h5⟩ := hget' k o ho
      have hj : I k = j := by rw [h2]; exact (hIψ j h3).1
      have hmem := hget_mk_mem F.dist' h4
      refine ⟨h1, .inl ⟨os, by rw [hj]; exact hmem, ?_⟩⟩
      rw [h5]
      have hp := (F.obj' _ h4).2.2
      have back : ∀ (E : Env), Agree (· < q.φ.length + q.n) ((E.via I).via (psi q.φ key)) E := fun E j hj => by
        have := (hIψ j hj).1
        exact ⟨by simp [Env.via, this], by simp [Env.via, this], by simp [Env.via, this]⟩
      have rows : ∀ r : Nat → List AV, PlainRows r → ∀ i : Nat, (renL (psi q.φ key) (r i)).length = (r i).length ∧ allScalar (renL (psi q.φ key) (r i)) = true ∧ (∀ E, NilE noNil E → denL E (r i) = denL E (renL I (renL (psi q.φ key) (r i)))) ∧ ∀ k ∈ keysL (renL (psi q.φ key) (r i)), M k := fun r hr i => by
        refine ⟨length_ren _ _, by rw [allScalar_ren]; exact (hr i).1, fun E _ => ?_, fun k hk => ?_⟩
        · rw [denL_ren, denL_ren]
          exact denL_cl (M := fun _ => False) (fun k hk => hk.elim) _ (by rw [(hr i).2]; simp)
        · rw [keysL_ren, (hr i).2] at hk
          cases hk
      cases os with
      | box cs =>
        have hsc : allScalar cs = true := (hU1.here.obj j _ hmem).2.1
        have hp : (keysL cs).all (Nat.blt · (q.φ.length + q.n)) = true := hp
        refine ⟨by rw [allScalar_ren]; exact hsc, fun E _ => ?_, fun k hk => ?_⟩
        · rw [denL_ren, denL_ren]
          exact denL_cl (back E) cs (lt_of_all hp)
        · rw [keysL_ren] at hk
          obtain ⟨j, h1, rfl⟩ := List.mem_map.1 hk
          exact (hIψ j (lt_of_all hp j h1)).2
      | tok => trivial
      | lst len sz r g =>
        cases g with
        | none => exact hp.elim
        | some g =>
          obtain ⟨p1, p2, p3, p4, p5⟩ := hp
          refine ⟨rfl, rfl, ?_, (fun x (h : some (psi q.φ key g) = some x) => by cases h; exact ⟨(hIψ g p4).2, rfl⟩), fun i _ => rows r p1 i⟩
          show some g = some (I (psi q.φ key g))
          rw [(hIψ g p4).1]
      | opq R => exact hp.elim
    · have h1 := (hget' k o ho).1
      have h2 := (hget' k' o' ho').1
      rw [← (hψI k h1).1, ← (hψI k' h2).1, e]
  have h0 := hR2.relU (noNil_ok E1) hU1.here
  have hU2 : RelU (rng A key (key + q.n)) E2 (lookOf (wOf (psi q.φ key) q.h' ++ restrict nb h)) w' := h0.move agM hM
  have hwx := hx1.trans (hR2.wext E1 (noNil_ok E1) w')
  have downL : ∀ k0 o0 b, lookOf (mkHeap q.h) k0 = some o0 → owns (E.via (lkN q.φ)) k0 o0 b → ∃ k1 o1, lookOf (restrict nb h) k1 = some o1 ∧ owns E k1 o1 b := by
    intro k0 o0 b h1 h2
    have hm := mkHeap_mem h1
    obtain ⟨h3, _, hs⟩ := F.obj _ hm
    cases o0 with
    | box cs =>
      obtain ⟨o', h4, h5⟩ := hs
      refine ⟨lkN q.φ k0, o', ?_, h5.owns h2⟩
      rw [hlook, if_pos (List.mem_map.2 ⟨k0, boxKeys_of hm, rfl⟩)]
      exact h4
    | lst => exact h2.elim
    | tok => exact hs.elim
    | opq R => exact hs.elim
  have hx2 : Ext A E (lookOf (restrict nb h)) w E2 (lookOf (wOf (psi q.φ key) q.h' ++ restrict nb h)) w' := by
    refine ⟨hwx.os, hwx.tape, hwx.output, hwx.size, agA, fun b hb hn => hwx.frame b hb fun k0 o0 h1 h2 => ?_, fun k o b ho hb => ?_, fun k hA ht => ?_, fun k len sz rows a ho hc ha => ?_⟩
    · obtain ⟨k1, o1, h3, h4⟩ := downL k0 o0 b h1 h2
      exact hn k1 o1 h3 h4
    · rcases hwx.fresh k o b ho ((owns_agree agM (hget' k o ho).1 o b).1 hb) with ⟨k0, o0, h1, h2⟩ | h1
      · exact .inl (downL k0 o0 b h1 h2)
      · exact .inr h1
    · obtain ⟨_, j, os, h2, h3, h4, h5⟩ := hget' k _ ht
      have hp := (F.obj' _ h4).2.2
      cases os with
      | tok =>
        have hp : q.φ.length ≤ j := hp
        rw [psi_ge hp] at h2
        have := hold k hA
        exact absurd ⟨by omega, by omega⟩ this
      | box cs => cases h5
      | lst l s r g => cases h5
      | opq R => cases h5
    · obtain ⟨_, j, os, h2, h3, h4, h5⟩ := hget' k _ ho
      have hp := (F.obj' _ h4).2.2
      cases os with
      | lst l s r g => cases g with
        | none => exact hp.elim
        | some g => cases h5
      | tok => cases h5
      | box cs => cases h5
      | opq R => cases h5
  rw [lookOf_append] at hU2 hx2
  have wk : ∀ g, memK g (q.h'.map (·.1)) = true → psi q.φ key g ∈ wkeys (wOf (psi q.φ key) q.h') := by
    intro g hg
    have := memK_iff.1 hg
    have hc := wget_cov (φ := psi q.φ key) this
    cases hw : wget (psi q.φ key g) (wOf (psi q.φ key) q.h') with
    | none => exact absurd hw hc
    | some x => exact wget_mem hw
  obtain ⟨g1, g2⟩ := hU.frame hsub (fun k len sz rows g hl _ => by
    rw [hlook] at hl
    split at hl
    · rename_i hm
      obtain ⟨j, cs, o', h2, h3, rfl, _, h5, h6⟩ := hnb k hm
      rw [h5] at hl
      cases hl
      exact h6.elim
    · cases hl) hU2 hx2 (fun _ h => .inl h) (fun k o hm => by
    obtain ⟨p, h1, h2, h3⟩ := wOf_mem hm
    obtain ⟨hp, hpb, hp2⟩ := F.obj' p h1
    refine ⟨fun hA => ?_, fun len sz rows g ho => ?_⟩
    · have hlt : p.1 < q.φ.length := by
        cases Nat.lt_or_ge p.1 q.φ.length with
        | inl h => exact h
        | inr h =>
          rw [psi_ge h] at h2
          exact absurd ⟨by omega, by omega⟩ (hold k hA)
      have hin : k ∈ nb := by rw [h2, psi_lt hlt]; exact List.mem_map.2 ⟨p.1, hpb hlt, rfl⟩
      obtain ⟨j, cs, o', _, _, _, _, h5, _⟩ := hnb k hin
      rw [hlook, if_pos hin, h5]; simp
    · rw [h3] at ho
      cases hp3 : p.2 with
      | lst l s r g' =>
        rw [hp3] at hp2 ho
        cases g' with
        | none => cases ho
        | some g' =>
          cases ho
          exact .inl (wk g' hp2.2.2.2.2)
      | box cs => rw [hp3] at ho; cases ho
      | tok => rw [hp3] at ho; cases ho
      | opq R => rw [hp3] at ho; cases ho)
  refine ⟨_, E2, rfl, fun E' hE => ?_, g1, g2⟩
  rw [den_ren]
  refine (den_cl (M := (· < q.φ.length + q.n)) (fun j hj => ?_) _ (lt_of_all F.vk)).symm
  obtain ⟨i1, i2⟩ := hIψ j hj
  obtain ⟨a1, a2, a3⟩ := hE (psi q.φ key j) (hM _ i2)
  obtain ⟨b1, b2, b3⟩ := agM _ i2
  refine ⟨a1.trans (b1.trans ?_), a2.trans (b2.trans ?_), a3.trans (b3.trans ?_)⟩
  · show E1.blk (I (psi q.φ key j)) = _; rw [i1]
  · show E1.hdr (I (psi q.φ key j)) = _; rw [i1]
  · show E1.fp (I (psi q.φ key j)) = _; rw [i1]
theorem fit_wok {f : FuncId} {args : List AV} {h : Heap} {q : FitN} (F : FitNOk P f args h q) (key : Nat) : key ≤ key + q.n ∧ WOK (lookOf h) key (key + q.n) (wOf (psi q.φ key) q.h') := by
  refine ⟨Nat.le_add_right _ _, fun k o hm => ?_⟩
  obtain ⟨p, h1, h2, h3⟩ := wOf_mem hm
  obtain ⟨hp, hpb, hp2⟩ := F.obj' p h1
  refine ⟨?_, fun len sz rows g ho => ?_⟩
  · cases Nat.lt_or_ge p.1 q.φ.length with
    | inl hlt =>
      refine .inl ?_
      obtain ⟨cs, h4⟩ := boxKeys_mem (hpb hlt)
      obtain ⟨_, _, o', q1, _⟩ := F.obj _ h4
      rw [h2, psi_lt hlt]
      show hget _ h ≠ none
      have q1 : hget (lkN q.φ p.1) h = some o' := q1
      rw [q1]; simp
    | inr hge =>
      rw [psi_ge hge] at h2
      exact .inr ⟨by omega, by omega⟩
  · rw [h3] at ho
    cases hp3 : p.2 with
    | lst l s r g' =>
      rw [hp3] at hp2 ho
      cases g' with
      | none => cases ho
      | some g' =>
        cases ho
        left
        have := memK_iff.1 hp2.2.2.2.2
        have hc := wget_cov (φ := psi q.φ key) this
        cases hw : wget (psi q.φ key g') (wOf (psi q.φ key) q.h') with
        | none => exact absurd hw hc
        | some x => exact wget_mem hw
    | box cs => rw [hp3] at ho; cases ho
    | tok => rw [hp3] at ho; cases ho
    | opq R => rw [hp3] at ho; cases ho
theorem stdSummN_ok {f : FuncId} {ent : List AV → Heap → Option FitN} (H : ∀ args h q, ent args h = some q → FitNOk P f args h q) : SummAll P f (stdSummN ent) := by
  refine ⟨fun args h key v R W key' e => ?_, fun args h key r e => ?_⟩
  · simp only [stdSummN] at e
    split at e
    · rename_i q hq
      cases e
      exact fit_spec (H args h q hq) key
    · cases e
  · simp only [stdSummN] at e
    split at e
    · rename_i q hq
      cases e
      exact fit_wok (H args h q hq) key
    · cases e
/-- With a condition that the caller owes. -/
def stdSummM (ent : List AV → Heap → Option (Bool × FitN)) : Summ := ⟨fun args h key => match ent args h with
  | some (c, q) => .must c (.leaf (ren (psi q.φ key) q.v, q.φ ++ q.toks, wOf (psi q.φ key) q.h', key + q.n))
  | none => .fail "summary"⟩
theorem stdSummM_ok {f : FuncId} {ent : List AV → Heap → Option (Bool × FitN)} (H : ∀ args h c q, ent args h = some (c, q) → c = true → FitNOk P f args h q) : SummAll P f (stdSummM ent) := by
  refine ⟨fun args h key v R W key' e => ?_, fun args h key r e => ?_⟩
  · simp only [stdSummM] at e
    split at e
    · rename_i c q hq
      cases c with
      | false => cases e
      | true => cases e; exact fit_spec (H args h _ q hq rfl) key
    · cases e
  · simp only [stdSummM] at e
    split at e
    · rename_i c q hq
      cases c with
      | false => cases e
      | true => cases e; exact fit_wok (H args h _ q hq rfl) key
    · cases e

theorem WExt.sub {E E' : Env} {lk lk' lk2 : Look} {w w' : World} (h : WExt E lk w E' lk' w') (hs : ∀ k o, lk2 k = some o → lk' k = some o) : WExt E lk w E' lk2 w' :=
  ⟨h.os, h.tape, h.output, h.size, h.frame, fun k o b h1 h2 => h.fresh k o b (hs k o h1) h2, fun k len sz rows a h1 h2 h3 => h.rof k len sz rows a (hs _ _ h1) h2 h3⟩
/-- A call with loops, told by its body's row. -/
theorem stdN_of_ht {f : FuncId} {fn : Func} {c : Code} (hf : P.funcs[f]? = some fn) (hb : fn.body = some c) {args : List AV} (hle : Nat.ble args.length fn.ntmps = true) {m m' : Nat} {h h' : List (Nat × AObj)} {v : AV} (hargs : (keysL args).all (Nat.blt · m) = true)
    (H : HT P fn.ntmps m c m (argTm 0 args) (mkHeap h) fun ex m2 κ' h2 => (∀ i, ex ≠ .exit i) ∧ m2 = m' ∧ (∀ k o, hget k (mkHeap h') = some o → hget k h2 = some o) ∧ ∃ l, (∀ τ0, resA P (κ' ++ τ0) h2 fn.results.toList = some l) ∧ ∀ E, den E (resV l) = den E v) : StdN P f m h args m' h' v := by
  intro E w hU
  refine (calls_of_ht hf hb hle (R := fun m2 h2 v2 => m2 = m' ∧ (∀ k o, hget k (mkHeap h') = some o → hget k h2 = some o) ∧ ∀ E, den E v2 = den E v) (H.mono ?_) hU (fun E' hE => by rw [denL_cl hE args (lt_of_all hargs)])).mono ?_
  · rintro ex m2 κ' h2 ⟨h1, rfl, h3, l, h4, h5⟩
    exact ⟨h1, l, h4, rfl, h3, h5⟩
  · rintro e w' ⟨m2, h2, v2, E', rfl, ⟨rfl, h3, h5⟩, hU', hx, hag⟩
    exact ⟨E', by rw [h5], hag, hU'.sub h3, hx.sub h3⟩
end
end Go.Eng
