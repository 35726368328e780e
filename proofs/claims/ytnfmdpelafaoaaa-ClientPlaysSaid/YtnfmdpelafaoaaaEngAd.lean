/- The engine, part Ad: arguments opened: strings, slices in rows of slices.
   Conditions: none. -/
import Derived.Test.YtnfmdpelafaoaaaEngAc
set_option linter.unusedSimpArgs false
set_option linter.unusedVariables false
namespace Go.Eng
open Go.RowKit Go.ChangeShapes Go.WideShapes Go.Deep
/-- A cell's kind. -/
inductive QK where
  | b
  | i (k : IntKind)
  | s
  | sl (t e : TypeId)
/-- A cell's datum: a number, or a slice's header. -/
structure QC where
  x : Num
  h : Option Addr × Nat × Nat
def QK.val : QK → QC → Value
  | .b, c => .bool c.x.B
  | .i k, c => .int k c.x.I
  | .s, c => .string c.x.S
  | .sl _ _, c => .slice c.h.1 c.h.2.1 c.h.2.2
def hdQ : List QC → QC
  | [] => ⟨.u, (none, 0, 0)⟩
  | x :: _ => x
def tlQ : List QC → List QC
  | [] => []
  | _ :: l => l
def nQ (q : List QC) : List Num := q.map (·.x)
@[simp] theorem hdN_nQ (q : List QC) : hdN (nQ q) = (hdQ q).x := by cases q <;> rfl
@[simp] theorem tlN_nQ (q : List QC) : tlN (nQ q) = nQ (tlQ q) := by cases q <;> rfl
def qvals : List QK → List QC → List Value
  | [], _ => []
  | k :: l, q => k.val (hdQ q) :: qvals l (tlQ q)
theorem qvals_length : ∀ (l : List QK) (q : List QC), (qvals l q).length = l.length
  | [], _ => rfl
  | k :: l, q => by simp [qvals, qvals_length l]
def QK.tv : QK → TV
  | .b => .b
  | .i k => .i k
  | .s => .s
  | .sl _ _ => .nils
def QK.flat : QK → Bool
  | .sl _ _ => false
  | _ => true
theorem qvals_inst : ∀ {l : List QK} (q : List QC), l.all QK.flat = true → ∀ E, qvals l q = denL E (instL (l.map QK.tv) (nQ q))
  | [], _, _, _ => rfl
  | k :: l, q, h, E => by
    simp only [List.all_cons, Bool.and_eq_true] at h
    simp only [qvals, List.map_cons, instL, denL, hdN_nQ, tlN_nQ, qvals_inst (tlQ q) h.2 E]
    cases k <;> simp [QK.flat] at h <;> rfl
section
variable {P : Program} {H : Type} {enc : TypeId × Value → H} {w : World} {base : Nat} {spare : Nat → Bool} {held : Bool}
variable (P enc w base spare held) in
def QK.ok : QK → QC → Prop
  | .b, _ => True
  | .i k, c => (Lit.int k c.x.I).wf = true
  | .s, c => c.x.S.size ≤ maxLen
  | .sl t e, c => P.underlying t = some (.slice e) ∧ ∃ fuel x, DataW.trod enc P w base spare held fuel t [.slice c.h.1 c.h.2.1 c.h.2.2] = some x
variable (P enc w base spare held) in
def qall : List QK → List QC → Prop
  | [], _ => True
  | k :: l, q => k.ok P enc w base spare held (hdQ q) ∧ qall l (tlQ q)
variable (P enc w base spare held) in
def qoks : List QK → List Value → Prop
  | [], [] => True
  | k :: l, v :: cs => (∃ c, v = k.val c ∧ k.ok P enc w base spare held c) ∧ qoks l cs
  | _, _ => False
theorem qoks_append : ∀ {l : List QK} {cs : List Value} {l' : List QK} {cs' : List Value}, qoks P enc w base spare held l cs → qoks P enc w base spare held l' cs' → qoks P enc w base spare held (l ++ l') (cs ++ cs')
  | [], [], _, _, _, h => h
  | k :: l, v :: cs, _, _, h, h' => ⟨h.1, qoks_append h.2 h'⟩
  | [], _ :: _, _, _, h, _ => h.elim
  | _ :: _, [], _, _, h, _ => h.elim
theorem qoks_get : ∀ {l : List QK} {cs : List Value}, qoks P enc w base spare held l cs → ∃ q, qall P enc w base spare held l q ∧ cs = qvals l q
  | [], [], _ => ⟨[], trivial, rfl⟩
  | k :: l, v :: cs, h => by
    obtain ⟨⟨c, rfl, hc⟩, h2⟩ := h
    obtain ⟨q, h3, h4⟩ := qoks_get h2
    exact ⟨c :: q, ⟨hc, h3⟩, by simp only [qvals, hdQ, tlQ, h4]⟩
  | [], _ :: _, h => h.elim
  | _ :: _, [], h => h.elim
variable (P) in
def qkFields (g : TypeId → Option (List QK)) : List Field → Nat → Option (List QK)
  | [], _ => some []
  | f :: fs, off => match g f.type, Nat.beq f.offset off with
    | some l, true => match Nat.beq l.length (P.cellsOf f.type), qkFields g fs (off + l.length) with
      | true, some l' => some (l ++ l')
      | _, _ => none
    | _, _ => none
variable (P) in
def qkT : Nat → TypeId → Option (List QK)
  | 0, _ => none
  | n + 1, t => match P.underlying t with
    | some .bool => some [.b]
    | some (.int k) => some [.i k]
    | some .string => some [.s]
    | some (.slice e) => some [.sl t e]
    | some (.struct fs) => match qkFields P (qkT n) fs.toList 0 with
      | some l => match Nat.beq l.length (P.cellsOf t) with
        | true => some l
        | false => none
      | none => none
    | some (.array m e) => match qkT n e with
      | some l => match Nat.beq l.length (P.cellsOf e), Nat.beq (m * l.length) (P.cellsOf t) with
        | true, true => some (List.replicate m l).flatten
        | _, _ => none
      | none => none
    | _ => none
theorem qkFields_ok {g : TypeId → Option (List QK)} {cs : List Value} : ∀ (fs : List Field) (off : Nat) (l : List QK), qkFields P g fs off = some l →
    (∀ f ∈ fs, ∀ l, g f.type = some l → qoks P enc w base spare held l ((cs.drop f.offset).take (P.cellsOf f.type))) → qoks P enc w base spare held l ((cs.drop off).take l.length)
  | [], off, l, e, _ => by
    cases e
    simp [qoks]
  | f :: fs, off, l, e, h => by
    simp only [qkFields] at e
    split at e
    · rename_i l1 h1 h2
      split at e
      · rename_i l2 h3 h4
        cases e
        have i1 := h f (by simp) _ h1
        rw [← Nat.eq_of_beq_eq_true h3, Nat.eq_of_beq_eq_true h2] at i1
        have i2 := qkFields_ok fs _ _ h4 fun f hf => h f (by simp [hf])
        rw [List.length_append, List.take_add, List.drop_drop]
        exact qoks_append i1 i2
      · cases e
    · cases e
theorem qrep_ok {l : List QK} {cs : List Value} (c : Nat) (hc : l.length = c) : ∀ (m i : Nat), (∀ j, j < m → qoks P enc w base spare held l ((cs.drop ((i + j) * c)).take c)) → qoks P enc w base spare held (List.replicate m l).flatten ((cs.drop (i * c)).take (m * c))
  | 0, i, _ => by simp [qoks]
  | m + 1, i, h => by
    have i1 := h 0 (by omega)
    rw [Nat.add_zero] at i1
    have i2 := qrep_ok c hc m (i + 1) fun j hj => by
      have := h (j + 1) (by omega)
      rw [show i + (j + 1) = i + 1 + j from by omega] at this
      exact this
    rw [List.replicate_succ, List.flatten_cons, show (m + 1) * c = c + m * c from by rw [Nat.succ_mul]; omega, List.take_add, List.drop_drop, show i * c + c = (i + 1) * c from by rw [Nat.succ_mul]]
    exact qoks_append i1 i2
theorem qkT_ok : ∀ (n : Nat) (t : TypeId) (l : List QK), qkT P n t = some l → ∀ (fuel : Nat) (cs : List Value) (x : DataW H × List MemPlace), DataW.trod enc P w base spare held fuel t cs = some x → qoks P enc w base spare held l cs
  | 0, _, _, e, _, _, _, _ => by cases e
  | n + 1, t, l, e, fuel, cs, x, h => by
    simp only [qkT] at e
    split at e
    · rename_i hu
      cases e
      cases fuel with
      | zero => simp [DataW.trod] at h
      | succ fuel =>
        unfold DataW.trod at h
        rw [hu] at h
        split at h <;> try (simp_all; done)
        all_goals simp_all
        all_goals exact ⟨⟨⟨.b _, (none, 0, 0)⟩, rfl, trivial⟩, trivial⟩
    · rename_i k hu
      cases e
      obtain ⟨a, rfl, _, wa⟩ := DataW.trod_int hu h
      exact ⟨⟨⟨.i a, (none, 0, 0)⟩, rfl, wa⟩, trivial⟩
    · rename_i hu
      cases e
      cases fuel with
      | zero => simp [DataW.trod] at h
      | succ fuel =>
        unfold DataW.trod at h
        rw [hu] at h
        split at h <;> try (simp_all; done)
        all_goals simp_all
        all_goals exact ⟨⟨⟨.s _, (none, 0, 0)⟩, rfl, h.1⟩, trivial⟩
    · rename_i et hu
      cases e
      rcases open_slice hu h with ⟨rfl, _⟩ | ⟨a, len, cap, _, _, _, _, rfl, _⟩
      · exact ⟨⟨⟨.u, (none, 0, 0)⟩, rfl, hu, fuel, x, h⟩, trivial⟩
      · exact ⟨⟨⟨.u, (some a, len, cap)⟩, rfl, hu, fuel, x, h⟩, trivial⟩
    · rename_i fs hu
      split at e
      · rename_i l' hl'
        split at e
        · rename_i hb
          cases e
          obtain ⟨xs, m, rfl, rfl, hlen, hxs, hf⟩ := DataW.trod_struct hu h
          have := qkFields_ok (enc := enc) (w := w) (base := base) (spare := spare) (held := held) (cs := cs) fs.toList 0 _ hl' fun f hf' l2 hl2 => by
            obtain ⟨i, hi, hfi⟩ := List.getElem_of_mem hf'
            have hi' : i < fs.size := by simpa using hi
            have h1 := hf i f (by simp [Array.getElem?_eq_getElem hi', ← hfi])
            have hx : xs[i]? = some (xs[i]'(by omega)) := List.getElem?_eq_getElem (by omega)
            exact qkT_ok n _ _ hl2 _ _ _ (h1.trans hx)
          rw [List.drop_zero, List.take_of_length_le (by rw [hlen, Nat.eq_of_beq_eq_true hb]; exact Nat.le_refl _)] at this
          exact this
        · cases e
      · cases e
    · rename_i m et hu
      split at e
      · rename_i l' hl'
        split at e
        · rename_i h1 h2
          cases e
          obtain ⟨xs, m', rfl, rfl, hlen, hxs, hf⟩ := DataW.trod_array hu h
          have hc := Nat.eq_of_beq_eq_true h1
          have := qrep_ok (enc := enc) (P := P) (w := w) (base := base) (spare := spare) (held := held) (l := l') (cs := cs) (P.cellsOf et) hc m 0 fun j hj => by
            have h3 := hf j hj
            have hx : xs[j]? = some (xs[j]'(by omega)) := List.getElem?_eq_getElem (by omega)
            rw [Nat.zero_add]
            exact qkT_ok n _ _ hl' _ _ _ (h3.trans hx)
          rw [Nat.zero_mul, List.drop_zero, List.take_of_length_le (by rw [hlen, ← Nat.eq_of_beq_eq_true h2, hc]; exact Nat.le_refl _)] at this
          exact this
        · cases e
      · cases e
    · cases e
/-- A struct by value. -/
theorem open_q {t : TypeId} {fs : Array Field} {f : Nat} {l : List QK} {r : Reach} {b0 : Nat} {v : Value} {d : DataW H} {p : List MemPlace} (hs : P.underlying t = some (.struct fs)) (hl : qkT P f t = some l)
    (hv : Value.okWide P w r b0 t v) (h : DataW.Trod enc P w base spare held t v d p) : ∃ q, qall P enc w base spare held l q ∧ v = .agg (qvals l q).toArray := by
  obtain ⟨cs, rfl, _⟩ := okWide_struct hs hv
  obtain ⟨fuel, hf⟩ := h
  obtain ⟨q, h1, h2⟩ := qoks_get (qkT_ok f t l hl fuel _ _ hf)
  refine ⟨q, h1, ?_⟩
  simp only [Value.cells] at h2
  rw [← h2]
/-- What a slice's rows are in a world. -/
def rowsV (w : World) (hd : Option Addr × Nat × Nat) (sz : Nat) (vals : Nat → List Value) : Prop :=
  hd.2.1 ≤ hd.2.2 ∧ (0 < hd.2.2 → ∃ B off, hd.1 = some ⟨B, off, none⟩ ∧ B < w.heap.size ∧ ∀ i, i < hd.2.1 → (vals i).length = sz ∧ ∀ j, j < sz → w.cell? ⟨B, off + (i * sz + j), none⟩ = (vals i)[j]?)
theorem open_cellsQ {t e : TypeId} {f fuel : Nat} {l : List QK} {hd : Option Addr × Nat × Nat} {x : DataW H × List MemPlace} (ht : P.underlying t = some (.slice e)) (hl : qkT P f e = some l) (hsz : l.length = P.cellsOf e) (hpos : 0 < l.length)
    (hf : DataW.trod enc P w 0 (fun _ => true) held fuel t [.slice hd.1 hd.2.1 hd.2.2] = some x) :
    ∃ q : Nat → List QC, hd.2.1 ≤ maxLen ∧ (∀ i, i < hd.2.1 → qall P enc w 0 (fun _ => true) held l (q i)) ∧ rowsV w hd l.length (fun i => qvals l (q i)) := by
  rcases open_slice ht hf with ⟨hcs, _⟩ | ⟨a, len', cap', m, q, D, Pl, hcs, _, hlc, hcm, hm, _, hx⟩
  · simp at hcs
    obtain ⟨h1, h2, h3⟩ := hcs
    refine ⟨fun _ => [], by rw [h2]; exact Nat.zero_le _, fun i hi => ?_, by rw [h2]; exact Nat.zero_le _, fun h => ?_⟩
    · rw [h2] at hi; exact absurd hi (Nat.not_lt_zero i)
    · rw [h3] at h; exact absurd h (Nat.lt_irrefl 0)
  · simp at hcs
    obtain ⟨e1, e2, e3⟩ := hcs
    simp only [if_pos] at hm
    subst hm
    rw [← e2] at hlc
    rw [← e3] at hlc
    have rows : ∀ i, ∃ q : List QC, i < m → qall P enc w 0 (fun _ => true) held l q ∧ ∀ j, j < l.length → w.cell? (a.add (i * l.length + j)) = (qvals l q)[j]? := by
      intro i
      by_cases hi : i < m
      · obtain ⟨cs', h1, h2⟩ := hx i hi
        obtain ⟨_, h3, h4⟩ := World.cells?_some h1
        obtain ⟨q, h5, h6⟩ := qoks_get (qkT_ok f e l hl _ _ _ h2)
        refine ⟨q, fun _ => ⟨h5, fun j hj => ?_⟩⟩
        have := h4 j (by omega)
        rw [Go.Deep.add_add] at this
        rw [hsz, this, h6]
      · exact ⟨[], fun h => absurd h hi⟩
    obtain ⟨g, hg⟩ := Classical.axiomOfChoice rows
    refine ⟨g, by rw [e3] at hlc; omega, fun i hi => (hg i (by omega)).1, hlc, fun hc => ?_⟩
    rw [e3] at hc
    have h0 : ∃ v, w.cell? a = some v := by
      have := (hg 0 hc).2 0 hpos
      rw [show a.add (0 * l.length + 0) = a from by simp [Addr.add]] at this
      rw [this, List.getElem?_eq_getElem (by rw [qvals_length]; exact hpos)]
      exact ⟨_, rfl⟩
    obtain ⟨v, h0⟩ := h0
    obtain ⟨hs, hb⟩ := cell_lt h0
    obtain ⟨B, off, spot⟩ := a
    have hs : spot = none := hs
    subst hs
    refine ⟨B, off, e1, hb, fun i hi => ⟨qvals_length _ _, fun j hj => ?_⟩⟩
    have := (hg i (by omega)).2 j hj
    have ha : (⟨B, off, none⟩ : Addr).add (i * l.length + j) = ⟨B, off + (i * l.length + j), none⟩ := by
      unfold Addr.add
      split
      · rename_i h0; rw [h0, Nat.add_zero]
      · rfl
    rw [ha] at this
    exact this
/-- An argument that is a slice. -/
theorem open_rowsQ {t e : TypeId} {f : Nat} {l : List QK} {r : Reach} {b0 : Nat} {v : Value} {d : DataW H} {p : List MemPlace} (ht : P.underlying t = some (.slice e)) (hl : qkT P f e = some l) (hsz : l.length = P.cellsOf e) (hpos : 0 < l.length)
    (hv : Value.okWide P w r b0 t v) (h : DataW.Trod enc P w 0 (fun _ => true) held t v d p) :
    ∃ (hd : Option Addr × Nat × Nat) (q : Nat → List QC), v = .slice hd.1 hd.2.1 hd.2.2 ∧ hd.2.1 ≤ maxLen ∧ (∀ i, i < hd.2.1 → qall P enc w 0 (fun _ => true) held l (q i)) ∧ rowsV w hd l.length (fun i => qvals l (q i)) := by
  obtain ⟨a0, len, cap, rfl⟩ := okWide_slice ht hv
  obtain ⟨fuel, hf⟩ := h
  obtain ⟨q, h1⟩ := open_cellsQ (hd := (a0, len, cap)) ht hl hsz hpos hf
  exact ⟨(a0, len, cap), q, rfl, h1⟩
/-- Rows of plain cells. -/
theorem sliceOf_q {hd : Option Addr × Nat × Nat} {l : List QK} {q : Nat → List QC} (hl : l.all QK.flat = true) (h : rowsV w hd l.length (fun i => qvals l (q i))) : sliceOf w hd hd.2.1 l.length (instR (l.map QK.tv) fun i => nQ (q i)) := by
  refine ⟨rfl, h.1, fun hc => ?_⟩
  obtain ⟨B, off, h1, h2, h3⟩ := h.2 hc
  refine ⟨B, off, h1, h2, fun E i hi => ⟨?_, instL_scalar _ _, fun j hj => ?_⟩⟩
  · show (instL _ _).length = _
    rw [instL_length, List.length_map]
  · show w.cell? ⟨B, off + (i * l.length + j), none⟩ = _
    rw [(h3 i hi).2 j hj]
    show (qvals l (q i))[j]? = ((instL (l.map QK.tv) (nQ (q i)))[j]?).map (den E)
    rw [qvals_inst (q i) hl E, denL_get]
end
end Go.Eng
