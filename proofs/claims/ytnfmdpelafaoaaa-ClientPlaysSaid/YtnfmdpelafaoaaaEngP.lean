/- The engine, part P: loops: rows of code joined by hand, each state renamed to keys of its own.
   Conditions: none. -/
import Derived.Test.YtnfmdpelafaoaaaEngO
import Derived.LoopN
set_option linter.unusedSimpArgs false
set_option linter.unusedVariables false
namespace Go.Eng
section
variable {P : Program} {T : Tab}

/- Renaming. -/
mutual
def ren (φ : Nat → Nat) : AV → AV
  | .ptr k off => .ptr (φ k) off
  | .elp k i sz off => .elp (φ k) i sz off
  | .sl k => .sl (φ k)
  | .fn f a b => .fn f (renL φ a) (renL φ b)
  | .ifc t v => .ifc t (ren φ v)
  | .agg l => .agg (renL φ l)
  | .tup l => .tup (renL φ l)
  | .bool b => .bool b
  | .int k n => .int k n
  | .str s => .str s
  | .slIf b k h => .slIf b (φ k) h
  | .slN k => .slN (φ k)
  | .nilp => .nilp
  | .nils => .nils
  | .nilf => .nilf
  | .nili => .nili
  | .raw v => .raw v
def renL (φ : Nat → Nat) : List AV → List AV
  | [] => []
  | v :: l => ren φ v :: renL φ l
end
def Env.via (E : Env) (φ : Nat → Nat) : Env := ⟨fun k => E.blk (φ k), fun k => E.hdr (φ k), fun k => E.fp (φ k)⟩
mutual
theorem den_ren (E : Env) (φ : Nat → Nat) : ∀ v : AV, den E (ren φ v) = den (E.via φ) v
  | .ptr _ _ => rfl
  | .elp _ _ _ _ => rfl
  | .sl _ => rfl
  | .fn f a b => by simp only [ren, den, denL_ren E φ a, denL_ren E φ b]
  | .ifc t v => by simp only [ren, den, den_ren E φ v]
  | .agg l => by simp only [ren, den, denL_ren E φ l]
  | .tup l => by simp only [ren, den, denL_ren E φ l]
  | .bool _ => rfl
  | .int _ _ => rfl
  | .str _ => rfl
  | .slIf b _ _ => by cases b <;> rfl
  | .slN _ => rfl
  | .nilp => rfl
  | .nils => rfl
  | .nilf => rfl
  | .nili => rfl
  | .raw _ => rfl
theorem denL_ren (E : Env) (φ : Nat → Nat) : ∀ l : List AV, denL E (renL φ l) = denL (E.via φ) l
  | [] => rfl
  | v :: l => by simp only [renL, denL, den_ren E φ v, denL_ren E φ l]
end
mutual
theorem den_cl {E E' : Env} {M : Nat → Prop} (h : Agree M E E') : ∀ v : AV, (∀ k ∈ keysOf v, M k) → den E' v = den E v
  | .ptr k _, hv => by
    have := h k (hv k (by simp [keysOf]))
    simp only [den, this.1]
  | .elp k _ _ _, hv => by
    have := h k (hv k (by simp [keysOf]))
    simp only [den, Env.elem, this.2.1]
  | .sl k, hv => by
    have := h k (hv k (by simp [keysOf]))
    simp only [den, this.2.1]
  | .fn f a b, hv => by
    simp only [den, denL_cl h a (fun k hk => hv k (by simp [keysOf, hk])), denL_cl h b (fun k hk => hv k (by simp [keysOf, hk]))]
  | .ifc t v, hv => by simp only [den, den_cl h v (fun k hk => hv k (by simpa [keysOf] using hk))]
  | .agg l, hv => by simp only [den, denL_cl h l (fun k hk => hv k (by simpa [keysOf] using hk))]
  | .tup l, hv => by simp only [den, denL_cl h l (fun k hk => hv k (by simpa [keysOf] using hk))]
  | .bool _, _ => rfl
  | .int _ _, _ => rfl
  | .str _, _ => rfl
  | .slIf b k _, hv => by
    have := h k (hv k (by simp [keysOf]))
    simp only [den, this.2.1]
  | .slN k, hv => by
    have := h k (hv k (by simp [keysOf]))
    simp only [den, this.2.1]
  | .nilp, _ => rfl
  | .nils, _ => rfl
  | .nilf, _ => rfl
  | .nili, _ => rfl
  | .raw _, _ => rfl
theorem denL_cl {E E' : Env} {M : Nat → Prop} (h : Agree M E E') : ∀ l : List AV, (∀ k ∈ keysL l, M k) → denL E' l = denL E l
  | [], _ => rfl
  | v :: l, hv => by simp only [denL, den_cl h v (fun k hk => hv k (by simp [keysL, hk])), denL_cl h l (fun k hk => hv k (by simp [keysL, hk]))]
end

/- What a state of the frame's says of slots and memory; nothing of the rest. -/
def tfind (t : Nat) : Tm → Option AV
  | [] => none
  | (j, v) :: l => match Nat.beq j t with
    | true => some v
    | false => tfind t l
theorem tget_tfind {t : Nat} {v : AV} : ∀ {τ : Tm}, tfind t τ = some v → tget t τ = v
  | [], h => by cases h
  | (j, x) :: l, h => by
    simp only [tfind] at h
    simp only [tget]
    cases hb : Nat.beq j t
    · rw [hb] at h; exact tget_tfind h
    · rw [hb] at h; cases h; rfl
theorem tget_append (t : Nat) (τ0 : Tm) : ∀ κ : Tm, tget t (κ ++ τ0) = (tfind t κ).getD (tget t τ0)
  | [] => rfl
  | (j, x) :: l => by
    simp only [List.cons_append, tget, tfind]
    cases hb : Nat.beq j t
    · exact tget_append t τ0 l
    · rfl

structure SSt (m : Nat) (E : Env) (nt : Nat) (κ : Tm) (h : Heap) (a : Act) (w : World) : Prop where
  rel : RelU (· < m) E (lookOf h) w
  size : a.tmps.size = nt
  defers : a.defers = []
  tm : ∀ t v, tfind t κ = some v → ∀ E', Agree (· < m) E E' → a.tmps.getD t undef = den E' v

def junk (a : Act) : Nat → Tm
  | 0 => []
  | n + 1 => (n, .raw (a.tmps.getD n undef)) :: junk a n
theorem junk_get (a : Act) (t : Nat) : ∀ n, tget t (junk a n) = if t < n then .raw (a.tmps.getD t undef) else .raw undef
  | 0 => rfl
  | n + 1 => by
    simp only [junk, tget]
    by_cases h : n = t
    · subst h
      rw [show Nat.beq n n = true from by simp]
      simp
    · rw [beq_ne h]
      dsimp only
      rw [junk_get a t n]
      by_cases h1 : t < n
      · rw [if_pos h1, if_pos (by omega)]
      · rw [if_neg h1, if_neg (by omega)]
theorem SSt.stU {m nt : Nat} {E : Env} {κ : Tm} {h : Heap} {a : Act} {w : World} (hS : SSt m E nt κ h a w) : StU (· < m) E nt (κ ++ junk a nt) (lookOf h) a w := by
  refine ⟨hS.rel, hS.size, hS.defers, fun E' h' t => ?_⟩
  rw [tget_append]
  cases hf : tfind t κ with
  | some v => exact hS.tm t v hf E' h'
  | none =>
    show _ = den E' (tget t (junk a nt))
    rw [junk_get]
    split
    · rfl
    · rename_i hlt
      simp only [den, Array.getD_eq_getD_getElem?]
      rw [Array.getElem?_eq_none (by rw [hS.size]; omega)]
      rfl

/-- What code keeps of the world. -/
structure WExt (E : Env) (lk : Look) (w : World) (E' : Env) (lk' : Look) (w' : World) : Prop where
  os : w'.os = w.os
  tape : w'.tape = w.tape
  output : w'.output = w.output
  size : w.heap.size ≤ w'.heap.size
  frame : ∀ b, b < w.heap.size → (∀ k o, lk k = some o → ¬ owns E k o b) → w'.heap[b]? = w.heap[b]?
  fresh : ∀ k o b, lk' k = some o → owns E' k o b → (∃ k0 o0, lk k0 = some o0 ∧ owns E k0 o0 b) ∨ w.heap.size ≤ b
  rof : ∀ k len sz rows a, lk' k = some (.lst len sz rows none) → 0 < (E'.hdr k).2.2 → (E'.hdr k).1 = some a →
    (∃ k0 len0 sz0 rows0 a0, lk k0 = some (.lst len0 sz0 rows0 none) ∧ 0 < (E.hdr k0).2.2 ∧ (E.hdr k0).1 = some a0 ∧ a0.block = a.block) ∨ w.heap.size ≤ a.block
theorem Ext.wext {A : Nat → Prop} {E E' : Env} {lk lk' : Look} {w w' : World} (h : Ext A E lk w E' lk' w') : WExt E lk w E' lk' w' := ⟨h.os, h.tape, h.output, h.size, h.frame, h.fresh, h.rof⟩
theorem WExt.refl (E : Env) (lk : Look) (w : World) : WExt E lk w E lk w :=
  ⟨rfl, rfl, rfl, Nat.le_refl _, fun _ _ _ => rfl, fun k o _ h ho => .inl ⟨k, o, h, ho⟩, fun k len sz rows a h hc ha => .inl ⟨k, len, sz, rows, a, h, hc, ha, rfl⟩⟩
theorem WExt.trans {E E' E'' : Env} {lk lk' lk'' : Look} {w w' w'' : World} (h : WExt E lk w E' lk' w') (h' : WExt E' lk' w' E'' lk'' w'') : WExt E lk w E'' lk'' w'' where
  os := h'.os.trans h.os
  tape := h'.tape.trans h.tape
  output := h'.output.trans h.output
  size := Nat.le_trans h.size h'.size
  frame := fun b hb hn => by
    rw [h'.frame b (Nat.lt_of_lt_of_le hb h.size) (fun k o ho hown => by
      rcases h.fresh k o b ho hown with ⟨k0, o0, h0, h1⟩ | h1
      · exact hn k0 o0 h0 h1
      · omega), h.frame b hb hn]
  fresh := fun k o b ho hown => by
    rcases h'.fresh k o b ho hown with ⟨k0, o0, h0, h1⟩ | h1
    · exact h.fresh k0 o0 b h0 h1
    · exact .inr (Nat.le_trans h.size h1)
  rof := fun k len sz rows a h1 h2 h3 => by
    rcases h'.rof k len sz rows a h1 h2 h3 with ⟨k0, len0, sz0, rows0, a0, h4, h5, h6, h7⟩ | h4
    · rcases h.rof k0 len0 sz0 rows0 a0 h4 h5 h6 with ⟨k1, len1, sz1, rows1, a1, g4, g5, g6, g7⟩ | g4
      · exact .inl ⟨k1, len1, sz1, rows1, a1, g4, g5, g6, g7.trans h7⟩
      · exact .inr (h7 ▸ g4)
    · exact .inr (Nat.le_trans h.size h4)

/- A state told anew, with keys of its own; what is nil may be told as a list of no rows. -/
def nilK : Nat := 1000000000
def isNil (k : Nat) : Bool := Nat.ble nilK k
def noNil (_ : Nat) : Bool := false
def NilE (z : Nat → Bool) (E : Env) : Prop := ∀ k, z k = true → E.hdr k = (none, 0, 0) ∧ E.fp k = []
theorem noNil_ok (E : Env) : NilE noNil E := fun _ h => by cases h
def SameV (z : Nat → Bool) (x y : AV) : Prop := ∀ E, NilE z E → den E x = den E y
def SameO (z : Nat → Bool) (φ : Nat → Nat) (M : Nat → Prop) : AObj → AObj → Prop
  | .box cs', .box cs => allScalar cs = true ∧ (∀ E, NilE z E → denL E cs' = denL E (renL φ cs)) ∧ (∀ k ∈ keysL cs, M k)
  | .tok, .tok => True
  | .lst len' sz' rows' g', .lst len sz rows g => len'.v = len.v ∧ sz' = sz ∧ g' = g.map φ ∧ (∀ x, g = some x → M x ∧ z (φ x) = false) ∧
      ∀ i : Nat, (i : Int) < len.v → (rows i).length = (rows' i).length ∧ allScalar (rows i) = true ∧ (∀ E, NilE z E → denL E (rows' i) = denL E (renL φ (rows i))) ∧ ∀ k ∈ keysL (rows i), M k
  | .opq R', .opq R => R' = R
  | _, _ => False
def NilO (M : Nat → Prop) : AObj → Prop
  | .tok => True
  | .lst len _ _ g => len.v = 0 ∧ ∀ x, g = some x → M x
  | _ => False

structure ResetH (z : Nat → Bool) (M : Nat → Prop) (φ : Nat → Nat) (h : Heap) (h' : Heap) : Prop where
  obj : ∀ k o, hget k h' = some o → M k ∧ ((∃ o', hget (φ k) h = some o' ∧ SameO z φ M o' o) ∨ (z (φ k) = true ∧ NilO M o))
  inj : ∀ k k' o o', hget k h' = some o → hget k' h' = some o' → φ k = φ k' → k = k'

structure Reset (z : Nat → Bool) (M : Nat → Prop) (φ : Nat → Nat) (τ : Tm) (h : Heap) (κ' : Tm) (h' : Heap) : Prop extends ResetH z M φ h h' where
  tm : ∀ t v, tfind t κ' = some v → (∃ x, tfind t τ = some x ∧ SameV z x (ren φ v)) ∧ ∀ k ∈ keysOf v, M k

theorem SameO.owns {z : Nat → Bool} {φ : Nat → Nat} {M : Nat → Prop} {k b : Nat} {o' o : AObj} {E : Env} (h : SameO z φ M o' o) (ho : owns (E.via φ) k o b) : owns E (φ k) o' b := by
  cases o' <;> cases o <;> simp only [SameO] at h <;> simp only [Eng.owns, Env.via] at ho ⊢ <;> first | exact ho | exact h.elim | skip
theorem NilO.owns {z : Nat → Bool} {φ : Nat → Nat} {M : Nat → Prop} {k b : Nat} {o : AObj} {E : Env} (hz : NilE z E) (hk : z (φ k) = true) (h : NilO M o) (ho : Eng.owns (E.via φ) k o b) : False := by
  cases o <;> simp only [NilO] at h <;> simp only [Eng.owns, Env.via] at ho
  rw [(hz _ hk).2] at ho
  cases ho

theorem ResetH.objRel {z : Nat → Bool} {M : Nat → Prop} {φ : Nat → Nat} {h : Heap} {h' : Heap} (hR : ResetH z M φ h h') {E E2 : Env} (hz : NilE z E) {w : World} (hr : Rel E (lookOf h) w) (hE : Agree M (E.via φ) E2)
    (k : Nat) (o : AObj) (hk : lookOf h' k = some o) : Eng.objRel E2 (lookOf h') w k o := by
  obtain ⟨hkm, ho'⟩ := hR.obj k o hk
  obtain ⟨e1, e2, e3⟩ := hE k hkm
  have e1 : E2.blk k = E.blk (φ k) := e1
  have e2 : E2.hdr k = E.hdr (φ k) := e2
  have e3 : E2.fp k = E.fp (φ k) := e3
  rcases ho' with ⟨o', ho', hs⟩ | ⟨hzk, hn⟩
  · have hb := hr.obj (φ k) o' ho'
    cases o' <;> cases o <;> simp only [SameO] at hs <;> try exact hs.elim
    · rename_i cs' cs
      obtain ⟨h1, h2, ty, h3⟩ := hb
      refine ⟨by rw [e3, h1, e1], hs.1, ty, ?_⟩
      rw [e1, h3, hs.2.1 E hz, denL_ren, denL_cl hE cs hs.2.2]
    · rcases hb with h1 | ⟨b, C, ty, h1, h2⟩
      · exact .inl (by rw [e3, h1])
      · exact .inr ⟨b, C, ty, by rw [e3, h1], h2⟩
    · rename_i len' sz' rows' g' len sz rows g
      obtain ⟨s1, rfl, rfl, s3, s4⟩ := hs
      obtain ⟨h1, h2, h3⟩ := hb
      refine ⟨by rw [e2, h1, s1], by rw [e2]; exact h2, fun hc => ?_⟩
      rw [e2] at hc
      obtain ⟨B, off, b1, b2, b3⟩ := h3 hc
      refine ⟨B, off, by rw [e2]; exact b1, b2, ?_⟩
      have rows_ok : ∀ get : Nat → Option Value, RowsAt E get off sz' (E.hdr (φ k)).2.1 rows' → RowsAt E2 get off sz' (E.hdr (φ k)).2.1 rows := by
        intro get hg i hi
        obtain ⟨g1, g2, g3⟩ := hg i hi
        obtain ⟨r1, r2, r3, r4⟩ := s4 i (by rw [← s1, ← h1]; exact_mod_cast hi)
        refine ⟨by rw [r1, g1], r2, fun j hj => ?_⟩
        rw [g3 j hj, ← denL_get, ← denL_get, r3 E hz, denL_ren, denL_cl hE _ r4]
      rw [e2]
      cases g with
      | none => exact rows_ok _ b3
      | some x =>
        intro hx
        have hx' : lookOf h (φ x) = some .tok := by
          obtain ⟨_, ⟨o'', q1, q2⟩ | ⟨q1, _⟩⟩ := hR.obj x .tok hx
          · cases o'' <;> simp only [SameO] at q2
            exact q1
          · rw [(s3 x rfl).2] at q1; cases q1
        obtain ⟨c1, C, ty, c2, c3, c4⟩ := b3 hx'
        have hxm := (hE x (s3 x rfl).1).2.2
        exact ⟨by rw [hxm]; exact c1, C, ty, c2, c3, rows_ok _ c4⟩
    · rename_i R' R
      subst hs
      obtain ⟨h1, h2⟩ := hb
      refine ⟨by rw [e3]; exact h1, fun w' hw => ?_⟩
      rw [e1, e3]
      exact h2 w' (by rw [e3] at hw; exact hw)
  · obtain ⟨n1, n2⟩ := hz _ hzk
    rw [n1] at e2
    rw [n2] at e3
    cases o <;> simp only [NilO] at hn
    · exact .inl e3
    · refine ⟨by rw [e2, hn.1]; rfl, by rw [e2]; exact Nat.le_refl _, fun hc => ?_⟩
      rw [e2] at hc
      exact absurd hc (Nat.lt_irrefl 0)

theorem ResetH.relU {z : Nat → Bool} {M : Nat → Prop} {φ : Nat → Nat} {h : Heap} {h' : Heap} (hR : ResetH z M φ h h') {E : Env} (hz : NilE z E) {w : World} (hr : Rel E (lookOf h) w) : RelU M (E.via φ) (lookOf h') w := by
  refine ⟨fun k o hk => (hR.obj k o hk).1, fun k len sz rows g hk => ?_, fun E2 hE => ⟨fun k o hk => hR.objRel hz hr hE k o hk, fun k o k' o' b hk hk' hne h1 h2 => ?_, fun k len sz rows a k' o' hk hc ha hk' h2 => ?_⟩⟩
  · obtain ⟨_, ⟨o', _, hs⟩ | ⟨_, hn⟩⟩ := hR.obj k _ hk
    · cases o' <;> simp only [SameO] at hs
      exact (hs.2.2.2.1 g rfl).1
    · exact hn.2 g rfl
  · obtain ⟨m1, q1⟩ := hR.obj k o hk
    obtain ⟨m2, q2⟩ := hR.obj k' o' hk'
    have h1 := (owns_agree hE m1 o b).1 h1
    have h2 := (owns_agree hE m2 o' b).1 h2
    rcases q1 with ⟨o1, q1, s1⟩ | ⟨z1, n1⟩
    · rcases q2 with ⟨o2, q2, s2⟩ | ⟨z2, n2⟩
      · exact hr.apart (φ k) o1 (φ k') o2 b q1 q2 (fun e => hne (hR.inj k k' o o' hk hk' e)) (s1.owns h1) (s2.owns h2)
      · exact n2.owns hz z2 h2
    · exact n1.owns hz z1 h1
  · obtain ⟨m1, q1⟩ := hR.obj k _ hk
    obtain ⟨m2, q2⟩ := hR.obj k' o' hk'
    have e2 : E2.hdr k = E.hdr (φ k) := (hE k m1).2.1
    have h2 := (owns_agree hE m2 o' a.block).1 h2
    rw [e2] at hc ha
    rcases q1 with ⟨o1, q1, s1⟩ | ⟨z1, _⟩
    · rcases q2 with ⟨o2, q2, s2⟩ | ⟨z2, n2⟩
      · cases o1 <;> simp only [SameO] at s1
        obtain ⟨_, _, rfl, _⟩ := s1
        exact hr.ro (φ k) _ _ _ a (φ k') o2 q1 hc ha q2 (s2.owns h2)
      · exact n2.owns hz z2 h2
    · rw [(hz _ z1).1] at hc
      exact absurd hc (Nat.lt_irrefl 0)

theorem ResetH.wext {z : Nat → Bool} {M : Nat → Prop} {φ : Nat → Nat} {h : Heap} {h' : Heap} (hR : ResetH z M φ h h') (E : Env) (hz : NilE z E) (w : World) : WExt E (lookOf h) w (E.via φ) (lookOf h') w := by
  refine ⟨rfl, rfl, rfl, Nat.le_refl _, fun _ _ _ => rfl, fun k o b hk ho => ?_, fun k len sz rows a hk hc ha => ?_⟩
  · obtain ⟨_, ⟨o', q, s⟩ | ⟨z1, n1⟩⟩ := hR.obj k o hk
    · exact .inl ⟨φ k, o', q, s.owns ho⟩
    · exact (n1.owns hz z1 ho).elim
  · obtain ⟨_, ⟨o', q, s⟩ | ⟨z1, n1⟩⟩ := hR.obj k _ hk
    · cases o' <;> simp only [SameO] at s
      obtain ⟨_, _, rfl, _⟩ := s
      exact .inl ⟨φ k, _, _, _, a, q, hc, ha, rfl⟩
    · have hc : 0 < (E.hdr (φ k)).2.2 := hc
      rw [(hz _ z1).1] at hc
      exact absurd hc (Nat.lt_irrefl 0)

/-- Keys that are read as nil. -/
def nilExt (E : Env) : Env := ⟨E.blk, fun k => match isNil k with | true => (none, 0, 0) | false => E.hdr k, fun k => match isNil k with | true => [] | false => E.fp k⟩
theorem nilExt_ok (E : Env) : NilE isNil (nilExt E) := fun k hk => by
  simp only [nilExt, hk]
  exact ⟨trivial, trivial⟩
theorem isNil_lt {k : Nat} (h : k < nilK) : isNil k = false := by
  unfold isNil
  cases hb : Nat.ble nilK k
  · rfl
  · have := Nat.le_of_ble_eq_true hb
    omega
theorem nilExt_agree {A : Nat → Prop} {E : Env} (h : ∀ k, A k → k < nilK) : Agree A E (nilExt E) := fun k hk => by
  have := isNil_lt (h k hk)
  simp only [nilExt, this]
  exact ⟨trivial, trivial, trivial⟩
theorem wext_agree {A : Nat → Prop} {E E' : Env} {lk : Look} {w : World} (h : RelU A E lk w) (ha : Agree A E E') : WExt E lk w E' lk w :=
  ⟨rfl, rfl, rfl, Nat.le_refl _, fun _ _ _ => rfl, fun k o b hk ho => .inl ⟨k, o, hk, (owns_agree ha (h.dom k o hk) o b).1 ho⟩,
   fun k len sz rows a hk hc hadr => by
    have := (ha k (h.dom k _ hk)).2.1
    exact .inl ⟨k, len, sz, rows, a, hk, by rw [← this]; exact hc, by rw [← this]; exact hadr, rfl⟩⟩

/- Rows of code. -/
def HTg (nt b : Nat) (WP : (Exit → Act → World → Prop) → Act → World → Prop) (m : Nat) (κ : Tm) (h : Heap) (Q : Ex → Nat → Tm → Heap → Prop) : Prop :=
  ∀ E a w, SSt m E nt κ h a w → WP (fun e a' w' => ∃ ex m' κ' h' E', e = exOf ex ∧ Q ex m' κ' h' ∧ SSt m' E' nt κ' h' a' w' ∧ WExt E (lookOf h) w E' (lookOf h') w' ∧ Agree (· < b) E E') a w
abbrev HT (P : Program) (nt b : Nat) (c : Code) (m : Nat) (κ : Tm) (h : Heap) (Q : Ex → Nat → Tm → Heap → Prop) : Prop := HTg nt b (c.wp P) m κ h Q

theorem HT.mono {nt b : Nat} {c : Code} {m : Nat} {κ : Tm} {h : Heap} {Q Q' : Ex → Nat → Tm → Heap → Prop} (hc : HT P nt b c m κ h Q) (hq : ∀ ex m' κ' h', Q ex m' κ' h' → Q' ex m' κ' h') : HT P nt b c m κ h Q' := by
  intro E a w hS
  refine wp_mono (hc E a w hS) ?_
  rintro e a' w' ⟨ex, m', κ', h', E', rfl, q, s, x⟩
  exact ⟨ex, m', κ', h', E', rfl, hq _ _ _ _ q, s, x⟩

def ExNormal : Ex → Prop
  | .normal => True
  | _ => False
theorem HT.seq {nt b : Nat} {x y : Code} {m : Nat} {κ : Tm} {h : Heap} {R Q : Ex → Nat → Tm → Heap → Prop} (hx : HT P nt b x m κ h R) (hy : ∀ m' κ' h', R .normal m' κ' h' → HT P nt b y m' κ' h' Q)
    (ho : ∀ ex m' κ' h', R ex m' κ' h' → ¬ ExNormal ex → Q ex m' κ' h') : HT P nt b (.seq x y) m κ h Q := by
  intro E a w hS
  refine wp_seq (wp_mono (hx E a w hS) ?_)
  rintro e a' w' ⟨ex, m', κ', h', E', rfl, q, s, g, ga⟩
  cases ex with
  | normal =>
    show Code.wp P y _ a' w'
    refine wp_mono (hy _ _ _ q E' a' w' s) ?_
    rintro e2 a2 w2 ⟨ex2, m2, κ2, h2, E2, rfl, q2, s2, g2, ga2⟩
    exact ⟨ex2, m2, κ2, h2, E2, rfl, q2, s2, g.trans g2, ga.trans ga2 fun _ h => h⟩
  | exit id => exact ⟨.exit id, m', κ', h', E', rfl, ho _ _ _ _ q (fun h => h), s, g, ga⟩
  | ret => exact ⟨.ret, m', κ', h', E', rfl, ho _ _ _ _ q (fun h => h), s, g, ga⟩

def exBlock (id : Nat) : Ex → Ex
  | .exit i => match Nat.beq i id with
    | true => .normal
    | false => .exit i
  | e => e
theorem HT.block {nt id b : Nat} {x : Code} {m : Nat} {κ : Tm} {h : Heap} {Q : Ex → Nat → Tm → Heap → Prop} (hx : HT P nt b x m κ h fun ex m' κ' h' => Q (exBlock id ex) m' κ' h') : HT P nt b (.block id x) m κ h Q := by
  intro E a w hS
  refine wp_block (wp_mono (hx E a w hS) ?_)
  rintro e a' w' ⟨ex, m', κ', h', E', rfl, q, s, g⟩
  cases ex with
  | normal => exact ⟨.normal, m', κ', h', E', rfl, q, s, g⟩
  | ret => exact ⟨.ret, m', κ', h', E', rfl, q, s, g⟩
  | exit i =>
    simp only [exBlock] at q
    show Exit.inBlock id _ (.exit i) a' w'
    unfold Exit.inBlock
    by_cases hi : i = id
    · subst hi
      rw [show Nat.beq i i = true from by simp] at q
      dsimp only
      rw [if_pos rfl]
      exact ⟨.normal, m', κ', h', E', rfl, q, s, g⟩
    · rw [beq_ne hi] at q
      dsimp only
      rw [if_neg hi]
      exact ⟨.exit i, m', κ', h', E', rfl, q, s, g⟩

/-- A loop: its states by data; each round comes to a state of a smaller measure, or ends. -/
theorem HT.loop {nt b : Nat} {x : Code} {D : Type} (μ : D → Nat) (mm : D → Nat) (κκ : D → Tm) (hh : D → Heap) (I : D → Prop) (Q : D → Ex → Nat → Tm → Heap → Prop)
    (round : ∀ d, I d → HT P nt b x (mm d) (κκ d) (hh d) fun ex m' κ' h' =>
      match ex with
      | .normal => ∃ d', I d' ∧ μ d' < μ d ∧ m' = mm d' ∧ κ' = κκ d' ∧ h' = hh d' ∧ ∀ ex m2 κ2 h2, Q d' ex m2 κ2 h2 → Q d ex m2 κ2 h2
      | ex => Q d ex m' κ' h')
    (d : D) (hd : I d) : HT P nt b (.loop x) (mm d) (κκ d) (hh d) (Q d) := by
  intro E a w hS
  refine wp_loop_rounds (μ d + 1) ?_
  have main : ∀ n d, μ d < n → I d → ∀ E0 w0 E a w (R : Ex → Nat → Tm → Heap → Prop), (∀ ex m2 κ2 h2, Q d ex m2 κ2 h2 → R ex m2 κ2 h2) → SSt (mm d) E nt (κκ d) (hh d) a w → ∀ lk0, WExt E0 lk0 w0 E (lookOf (hh d)) w → Agree (· < b) E0 E →
      Code.rounds P x (fun e a' w' => ∃ ex m' κ' h' E', e = exOf ex ∧ R ex m' κ' h' ∧ SSt m' E' nt κ' h' a' w' ∧ WExt E0 lk0 w0 E' (lookOf h') w' ∧ Agree (· < b) E0 E') n a w := by
    intro n
    induction n with
    | zero => intro d h; omega
    | succ n ih =>
      intro d hn hd E0 w0 E a w R hR hS lk0 hw hag
      rw [rounds_succ]
      refine wp_mono (round d hd E a w hS) ?_
      rintro e a' w' ⟨ex, m', κ', h', E', rfl, q, s, g, ga⟩
      have hag' := hag.trans ga fun _ h => h
      cases ex with
      | normal =>
        obtain ⟨d', i', hlt, rfl, rfl, rfl, hq⟩ := q
        exact ih d' (by omega) i' E0 w0 E' a' w' R (fun ex m2 κ2 h2 h => hR _ _ _ _ (hq _ _ _ _ h)) s lk0 (hw.trans g) hag'
      | exit id => exact ⟨.exit id, m', κ', h', E', rfl, hR _ _ _ _ q, s, hw.trans g, hag'⟩
      | ret => exact ⟨.ret, m', κ', h', E', rfl, hR _ _ _ _ q, s, hw.trans g, hag'⟩
  exact main _ d (by omega) hd E w E a w _ (fun _ _ _ _ h => h) hS _ (WExt.refl _ _ _) (Agree.refl _ _)

/-- A state forgotten. -/
theorem HTg.drop {nt b : Nat} {WP : (Exit → Act → World → Prop) → Act → World → Prop} (hWP : ∀ {Q Q' : Exit → Act → World → Prop} {a : Act} {w : World}, WP Q a w → (∀ e a w, Q e a w → Q' e a w) → WP Q' a w) {m : Nat} {κ : Tm} {h : Heap} {Q : Ex → Nat → Tm → Heap → Prop} (hc : HTg nt b WP 0 [] [] Q) : HTg nt b WP m κ h Q := by
  intro E a w hS
  refine hWP (hc E a w ⟨⟨fun _ _ h => (nomatch h), fun _ _ _ _ _ h => (nomatch h), fun _ _ => ⟨fun _ _ h => (nomatch h), fun _ _ _ _ _ h => (nomatch h), fun _ _ _ _ _ _ _ h => (nomatch h)⟩⟩, hS.size, hS.defers, fun _ _ h => (nomatch h)⟩) ?_
  rintro e a' w' ⟨ex, m', κ', h', E', rfl, q, s, x, ga⟩
  have x0 : WExt E (lookOf h) w E (lookOf []) w := ⟨rfl, rfl, rfl, Nat.le_refl _, fun _ _ _ => rfl, fun _ _ _ h => (nomatch h), fun _ _ _ _ _ h => (nomatch h)⟩
  exact ⟨ex, m', κ', h', E', rfl, q, s, x0.trans x, ga⟩

/-- What is asked of a state behind a row of code; of some keys only that nothing was written to them, the heap having been so long. Where it returns: of the results alone. -/
def forceT {R : Type} (τ : Tm) : List Nat → (Tm → R) → R
  | [], K => K []
  | t :: ts, K => forceV (tget t τ) fun v => forceT τ ts fun l => K ((t, v) :: l)
def forceO {R : Type} (o : Option AObj) (K : Option AObj → R) : R :=
  match o with
  | some (.box cs) => forceC cs fun cs => K (some (.box cs))
  | some (.lst (.lit n) sz rows g) => K (some (.lst (.lit n) sz rows g))
  | some (.lst (.sym n) sz rows g) => K (some (.lst (.sym n) sz rows g))
  | o => K o
def forceH {R : Type} (h : Heap) : List Nat → (Heap → R) → R
  | [], K => K []
  | k :: ks, K => forceO (hget k h) fun o => forceH h ks fun l => K ((k, o) :: l)
theorem forceT_eq {R : Type} (τ : Tm) : ∀ (ts : List Nat) (K : Tm → R), forceT τ ts K = K (ts.map fun t => (t, tget t τ))
  | [], K => rfl
  | t :: ts, K => by simp only [forceT, forceV_eq, forceT_eq τ ts, List.map_cons]
theorem forceO_eq {R : Type} (o : Option AObj) (K : Option AObj → R) : forceO o K = K o := by
  unfold forceO
  split
  · rw [forceC_eq]
  · rfl
  · rfl
  · rfl
theorem forceH_eq {R : Type} (h : Heap) : ∀ (ks : List Nat) (K : Heap → R), forceH h ks K = K (ks.map fun k => (k, hget k h))
  | [], K => rfl
  | k :: ks, K => by simp only [forceH, forceO_eq, forceH_eq h ks, List.map_cons]
def isRet : Ex → Bool
  | .ret => true
  | _ => false
def outR (rs rk ts ks fz : List Nat) (n : Nat) (s : St) : Tree St := match isRet s.ex with
  | true => match Nat.ble s.key nilK with
    | true => forceT s.tm rs fun tm => forceH s.heap rk fun h => .leaf ⟨.ret, tm, h, 0⟩
    | false => .fail "keys"
  | false => match (wkeys (s.heap.take (s.heap.length - n))).any (fun k => memK k fz), Nat.ble s.key nilK with
    | false, true => forceT s.tm ts fun tm => forceH s.heap ks fun h => .leaf ⟨s.ex, tm, h, 0⟩
    | _, _ => .fail "a frozen object was written"
def outF (rs ts ks fz : List Nat) (n : Nat) (s : St) : Tree St := outR rs [] ts ks fz n s
theorem tfind_map {t : Nat} {x : AV} {τ : Tm} : ∀ ts : List Nat, tfind t (ts.map fun t => (t, tget t τ)) = some x → tget t τ = x
  | [], h => by cases h
  | j :: ts, h => by
    simp only [List.map_cons, tfind] at h
    cases hb : Nat.beq j t
    · rw [hb] at h; exact tfind_map ts h
    · rw [hb] at h
      cases h
      rw [Nat.eq_of_beq_eq_true hb]
theorem hget_map {k : Nat} {o : AObj} {h : Heap} : ∀ ks : List Nat, hget k (ks.map fun k => (k, hget k h)) = some o → hget k h = some o
  | [], e => by cases e
  | j :: ks, e => by
    simp only [List.map_cons, hget] at e
    cases hb : Nat.beq j k
    · rw [hb] at e; exact hget_map ks e
    · rw [hb] at e
      rw [← Nat.eq_of_beq_eq_true hb]
      exact e

/-- The frozen objects, where it goes on. -/
def fzH (e : Ex) (fz : List Nat) (h h' : Heap) : Heap := match isRet e with
  | true => h'
  | false => h' ++ fz.map fun k => (k, hget k h)
/-- What a row of code's run owes, by a transformer of its own. -/
def RunSpec (nt : Nat) (WP : (Exit → Act → World → Prop) → Act → World → Prop) (τ : Tm) (h : Heap) (key : Nat) (s : St) : Prop :=
  ∀ (A : Nat → Prop) (E : Env) (a : Act) (w : World) (Q : Exit → Act → World → Prop), StU A E nt τ (lookOf h) a w → (∀ k, key ≤ k → k < s.key → ¬ A k) →
    (∀ a' w' E1, StU (rng A key s.key) E1 nt s.tm (lookOf s.heap) a' w' → Ext A E (lookOf h) w E1 (lookOf s.heap) w' → Q (exOf s.ex) a' w') → WP Q a w
theorem HTg.runR (hT : TabAll P T) {n : Nat} {f : FuncId} {nt b : Nat} {c : Code} {WP : (Exit → Act → World → Prop) → Act → World → Prop} (hin : ∀ τ h key s, codeD P T n f nt c τ h key = some s → RunSpec nt WP τ h key s) {m : Nat} {κ : Tm} {h : Heap} (rs rk ts ks fz : List Nat) {len : Nat} {Q : Ex → Nat → Tm → Heap → Prop} (hb : b ≤ m) (hlen : h.length = len)
    (H : ∀ τ0 : Tm, (codeT P T n f nt c (κ ++ τ0) h m (outR rs rk ts ks fz len)).Holds fun o => ∃ m' φ κ' h', (∀ k, k < b → φ k = k) ∧ Reset isNil (· < m') φ o.tm (fzH o.ex fz h o.heap) κ' h' ∧ Q o.ex m' κ' h') : HTg nt b WP m κ h Q := by
  intro E a w hS
  obtain ⟨o, h1, m', φ, κ', h', hφ, hR, hQ⟩ := H (junk a nt)
  rw [codeT_sel] at h1
  obtain ⟨s, hs, h1⟩ := obind_some h1
  have main : Nat.ble s.key nilK = true → ∀ (tl kl fl : List Nat), o.ex = s.ex → o.tm = tl.map (fun t => (t, tget t s.tm)) → (fl = [] ∨ (wkeys (s.heap.take (s.heap.length - len))).any (fun k => memK k fl) = false) →
      fzH o.ex fz h o.heap = (kl.map fun k => (k, hget k s.heap)) ++ (fl.map fun k => (k, hget k h)) → WP (fun e a' w' => ∃ ex m' κ' h' E', e = exOf ex ∧ Q ex m' κ' h' ∧ SSt m' E' nt κ' h' a' w' ∧ WExt E (lookOf h) w E' (lookOf h') w' ∧ Agree (· < b) E E') a w := by
    intro hkey tl kl fl e1 e2 e3 e4
    obtain ⟨hge, W, hW, _⟩ := codeD_grows hT.toTabW n f nt c _ h m s hs
    have hkey := Nat.le_of_ble_eq_true hkey
    rw [e4, e2] at hR
    rw [e1] at hQ
    have hfz : ∀ k, k ∈ fl → wget k W = none := by
      intro k hk
      rcases e3 with e3 | e3
      · rw [e3] at hk; cases hk
      · have : (W ++ h).take ((W ++ h).length - len) = W := by
          rw [← hlen]; simp
        rw [hW, this] at e3
        refine wget_none fun hm' => ?_
        have := List.any_eq_false.1 e3 k hm'
        rw [memK_iff.2 hk] at this
        exact this rfl
    refine hin _ h m s hs (· < m) E a w _ hS.stU (fun k h1 _ h2 => by omega) fun a' w' E1 hS1 hx1 => ?_
    have hlt : ∀ k, rng (· < m) m s.key k → k < nilK := fun k hk => by
      rcases hk with hk | hk <;> omega
    have hag := nilExt_agree (E := E1) hlt
    have hR' : ResetH isNil (· < m') φ s.heap h' := by
      refine ⟨fun k o hk => ?_, hR.inj⟩
      obtain ⟨q0, q1⟩ := hR.obj k o hk
      refine ⟨q0, q1.imp ?_ id⟩
      rintro ⟨o', q1, q2⟩
      refine ⟨o', ?_, q2⟩
      rw [hget_wget, wget_append] at q1
      cases hw : wget (φ k) (kl.map fun k => (k, hget k s.heap)) with
      | some x =>
        rw [hw] at q1
        have : hget (φ k) (kl.map fun k => (k, hget k s.heap)) = some o' := by rw [hget_wget, hw]; exact q1
        exact hget_map kl this
      | none =>
        rw [hw] at q1
        have q3 : hget (φ k) (fl.map fun k => (k, hget k h)) = some o' := by rw [hget_wget]; exact q1
        have q4 := hget_map fl q3
        have hmem : φ k ∈ fl := by
          rw [hget_wget] at q3
          cases hw2 : wget (φ k) (fl.map fun k => (k, hget k h)) with
          | none => rw [hw2] at q3; cases q3
          | some y =>
            have := wget_mem hw2
            simp only [wkeys, List.map_map, List.mem_map] at this
            obtain ⟨j, hj, e⟩ := this
            exact e ▸ hj
        rw [hW, hget_wget, wget_append, hfz _ hmem, ← hget_wget]
        exact q4
    have hz := nilExt_ok E1
    refine ⟨s.ex, m', κ', h', (nilExt E1).via φ, rfl, hQ, ⟨hR'.relU hz (hS1.rel.rel _ hag), hS1.size, hS1.defers, fun t v ht E2 hE => ?_⟩, (hx1.wext.trans (wext_agree hS1.rel hag)).trans (hR'.wext _ hz _), fun k hk => ?_⟩
    · obtain ⟨⟨x, q1, q2⟩, q3⟩ := hR.tm t v ht
      have := tfind_map tl q1
      subst this
      rw [hS1.tm _ hag t, q2 _ hz, den_ren, den_cl hE v q3]
    · have h1 := hx1.agree k (Nat.lt_of_lt_of_le hk hb)
      have h2 := hag k (.inl (Nat.lt_of_lt_of_le hk hb))
      simp only [Env.via, hφ k hk]
      exact ⟨h2.1.trans h1.1, h2.2.1.trans h1.2.1, h2.2.2.trans h1.2.2⟩
  unfold outR at h1
  cases hr : isRet s.ex with
  | true =>
    rw [hr] at h1
    have hex : s.ex = .ret := by
      cases hx : s.ex with
      | ret => rfl
      | normal => rw [hx] at hr; cases hr
      | exit i => rw [hx] at hr; cases hr
    dsimp only at h1
    split at h1
    · rename_i hkey
      rw [forceT_eq, forceH_eq] at h1
      cases h1
      exact main hkey rs rk [] hex.symm rfl (.inl rfl) (by simp only [fzH, isRet]; simp)
    · cases h1
  | false =>
    rw [hr] at h1
    dsimp only at h1
    split at h1
    · rename_i hfz hkey
      rw [forceT_eq, forceH_eq] at h1
      cases h1
      refine main hkey ts ks fz rfl rfl (.inr hfz) ?_
      simp only [fzH, hr]
    · cases h1
theorem HTg.runF (hT : TabAll P T) {n : Nat} {f : FuncId} {nt b : Nat} {c : Code} {WP : (Exit → Act → World → Prop) → Act → World → Prop} (hin : ∀ τ h key s, codeD P T n f nt c τ h key = some s → RunSpec nt WP τ h key s) {m : Nat} {κ : Tm} {h : Heap} (rs ts ks fz : List Nat) {len : Nat} {Q : Ex → Nat → Tm → Heap → Prop} (hb : b ≤ m) (hlen : h.length = len)
    (H : ∀ τ0 : Tm, (codeT P T n f nt c (κ ++ τ0) h m (outF rs ts ks fz len)).Holds fun o => ∃ m' φ κ' h', (∀ k, k < b → φ k = k) ∧ Reset isNil (· < m') φ o.tm (fzH o.ex fz h o.heap) κ' h' ∧ Q o.ex m' κ' h') : HTg nt b WP m κ h Q :=
  HTg.runR hT hin rs [] ts ks fz hb hlen H
theorem HT.runF (hT : TabAll P T) (hm : P.follows .mixedOrders = true) {n : Nat} {f : FuncId} {nt b : Nat} {c : Code} (hin : Within P f nt c) {m : Nat} {κ : Tm} {h : Heap} (rs ts ks fz : List Nat) {len : Nat} {Q : Ex → Nat → Tm → Heap → Prop} (hb : b ≤ m) (hlen : h.length = len)
    (H : ∀ τ0 : Tm, (codeT P T n f nt c (κ ++ τ0) h m (outF rs ts ks fz len)).Holds fun o => ∃ m' φ κ' h', (∀ k, k < b → φ k = k) ∧ Reset isNil (· < m') φ o.tm (fzH o.ex fz h o.heap) κ' h' ∧ Q o.ex m' κ' h') : HT P nt b c m κ h Q :=
  HTg.runF hT (fun _ _ _ s e => codeD_sound hT hm n f nt c _ _ _ s hin e) rs ts ks fz hb hlen H
theorem HT.runR (hT : TabAll P T) (hm : P.follows .mixedOrders = true) {n : Nat} {f : FuncId} {nt b : Nat} {c : Code} (hin : Within P f nt c) {m : Nat} {κ : Tm} {h : Heap} (rs rk ts ks fz : List Nat) {len : Nat} {Q : Ex → Nat → Tm → Heap → Prop} (hb : b ≤ m) (hlen : h.length = len)
    (H : ∀ τ0 : Tm, (codeT P T n f nt c (κ ++ τ0) h m (outR rs rk ts ks fz len)).Holds fun o => ∃ m' φ κ' h', (∀ k, k < b → φ k = k) ∧ Reset isNil (· < m') φ o.tm (fzH o.ex fz h o.heap) κ' h' ∧ Q o.ex m' κ' h') : HT P nt b c m κ h Q :=
  HTg.runR hT (fun _ _ _ s e => codeD_sound hT hm n f nt c _ _ _ s hin e) rs rk ts ks fz hb hlen H
end
end Go.Eng
