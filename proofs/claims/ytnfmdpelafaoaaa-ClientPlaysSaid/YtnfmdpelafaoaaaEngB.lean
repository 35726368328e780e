/- The engine, part B: how an abstract heap stands to a world; what a step keeps.
   Conditions: none. -/
import Derived.Test.YtnfmdpelafaoaaaEngA
import Derived.Laws.Append
import Derived.Laws.AppendOwn
import Derived.Laws.CopyRow
import Derived.Laws.Rows
import Derived.Below
set_option linter.unusedSimpArgs false
set_option linter.unusedVariables false
namespace Go.Eng

/- Values. -/
theorem denL_map (E : Env) : ∀ l : List AV, denL E l = l.map (den E)
  | [] => rfl
  | v :: l => by simp [denL, denL_map E l]
theorem denL_length (E : Env) (l : List AV) : (denL E l).length = l.length := by simp [denL_map]
theorem denL_get (E : Env) (l : List AV) (i : Nat) : (denL E l)[i]? = (l[i]?).map (den E) := by simp [denL_map]
theorem denL_append (E : Env) (a b : List AV) : denL E (a ++ b) = denL E a ++ denL E b := by simp [denL_map]
theorem denL_take (E : Env) (a : List AV) (n : Nat) : denL E (a.take n) = (denL E a).take n := by simp [denL_map]
theorem denL_drop (E : Env) (a : List AV) (n : Nat) : denL E (a.drop n) = (denL E a).drop n := by simp [denL_map]

theorem den_scalar (E : Env) {v : AV} (h : v.scalar = true) : (den E v).oneCell' = true := by
  cases v <;> simp [AV.scalar] at h <;> simp [den, Value.oneCell']
  rename_i b k h
  cases b <;> rfl
theorem den_cells (E : Env) {v : AV} (h : allScalar v.cells = true) : (den E v).cells = (denL E v.cells).toArray := by
  cases v <;> simp [AV.cells, allScalar, AV.scalar] at h <;> simp [den, AV.cells, denL, Value.cells]
  rename_i b k h
  cases b <;> rfl
theorem allScalar_iff : ∀ l : List AV, allScalar l = true ↔ ∀ v ∈ l, v.scalar = true
  | [] => by simp [allScalar]
  | v :: l => by
    simp only [allScalar, List.mem_cons, forall_eq_or_imp]
    cases hv : v.scalar <;> simp [allScalar_iff l]
theorem den_ofV0 (E : Env) (v : Value) : den E (ofV0 v) = v := by
  unfold ofV0
  split <;> simp [den, SB.v, SI.v, SS.v]
theorem den_ofV (E : Env) (v : Value) : den E (ofV v) = v := by
  unfold ofV
  split
  · rename_i cs
    simp only [den, denL_map, List.map_map]
    have : (cs.toList.map (den E ∘ ofV0)) = cs.toList := by
      conv => rhs; rw [← List.map_id cs.toList]
      exact List.map_congr_left fun x _ => den_ofV0 E x
    rw [this]
  · exact den_ofV0 E v

/- Heaps. -/
def wget (k : Nat) : Heap → Option (Option AObj)
  | [] => none
  | (j, o) :: h => match Nat.beq j k with
    | true => some o
    | false => wget k h
abbrev Look := Nat → Option AObj
def hupd (lk : Look) (W : Heap) : Look := fun k => match wget k W with
  | some o => o
  | none => lk k
theorem hget_wget (k : Nat) : ∀ h : Heap, hget k h = (wget k h).getD none
  | [] => rfl
  | (j, o) :: h => by
    simp only [hget, wget]
    cases Nat.beq j k
    · exact hget_wget k h
    · rfl
theorem wget_append (k : Nat) (W h : Heap) : wget k (W ++ h) = match wget k W with | some o => some o | none => wget k h := by
  induction W with
  | nil => rfl
  | cons x W ih =>
    obtain ⟨j, o⟩ := x
    simp only [List.cons_append, wget]
    cases Nat.beq j k
    · exact ih
    · rfl
def lookOf (h : Heap) : Look := fun k => hget k h
theorem lookOf_append (W h : Heap) : lookOf (W ++ h) = hupd (lookOf h) W := by
  funext k
  simp only [lookOf, hupd, hget_wget, wget_append]
  cases wget k W <;> rfl
theorem hupd_nil (lk : Look) : hupd lk [] = lk := rfl
theorem hupd_append (lk : Look) (W V : Heap) : hupd lk (W ++ V) = hupd (hupd lk V) W := by
  funext k
  simp only [hupd, wget_append]
  cases wget k W <;> rfl
theorem wget_none {k : Nat} : ∀ {W : Heap}, k ∉ wkeys W → wget k W = none
  | [], _ => rfl
  | (j, o) :: W, h => by
    simp only [wkeys, List.map_cons, List.mem_cons, not_or] at h
    simp only [wget]
    have : Nat.beq j k = false := by
      cases hb : Nat.beq j k
      · rfl
      · exact absurd (Nat.eq_of_beq_eq_true hb).symm h.1
    rw [this]
    exact wget_none h.2
theorem wget_mem {k : Nat} {o : Option AObj} : ∀ {W : Heap}, wget k W = some o → k ∈ wkeys W
  | [], h => by simp [wget] at h
  | (j, o') :: W, h => by
    simp only [wget] at h
    simp only [wkeys, List.map_cons, List.mem_cons]
    cases hb : Nat.beq j k
    · rw [hb] at h; exact .inr (wget_mem h)
    · exact .inl (Nat.eq_of_beq_eq_true hb).symm

/- The relation. -/
def RowsAt (E : Env) (get : Nat → Option Value) (off sz n : Nat) (rows : Nat → List AV) : Prop :=
  ∀ i, i < n → (rows i).length = sz ∧ allScalar (rows i) = true ∧ ∀ j, j < sz → get (off + (i * sz + j)) = ((rows i)[j]?).map (den E)

def owns (E : Env) (k : Nat) : AObj → Nat → Prop
  | .lst _ _ _ _, _ => False
  | _, b => b ∈ E.fp k

def lstRel (E : Env) (lk : Look) (w : World) (k : Nat) (len : SI) (sz : Nat) (rows : Nat → List AV) (grp : Option Nat) : Prop :=
  (((E.hdr k).2.1 : Nat) : Int) = len.v ∧ (E.hdr k).2.1 ≤ (E.hdr k).2.2 ∧
  (0 < (E.hdr k).2.2 → ∃ B off, (E.hdr k).1 = some ⟨B, off, none⟩ ∧ B < w.heap.size ∧
    match grp with
    | none => RowsAt E (fun o => w.cell? ⟨B, o, none⟩) off sz (E.hdr k).2.1 rows
    | some g => lk g = some .tok → E.fp g = [B] ∧ ∃ C ty, w.heap[B]? = some (.cells C ty (0, 0)) ∧ off + (E.hdr k).2.2 * sz ≤ C.size ∧
        RowsAt E (fun o => C[o]?) off sz (E.hdr k).2.1 rows)

def objRel (E : Env) (lk : Look) (w : World) (k : Nat) : AObj → Prop
  | .box cs => E.fp k = [E.blk k] ∧ allScalar cs = true ∧ ∃ ty, w.heap[E.blk k]? = some (.cells (denL E cs).toArray ty (0, 0))
  | .tok => E.fp k = [] ∨ ∃ b C ty, E.fp k = [b] ∧ w.heap[b]? = some (.cells C ty (0, 0))
  | .lst len sz rows grp => lstRel E lk w k len sz rows grp
  | .opq R => (∀ b ∈ E.fp k, b < w.heap.size) ∧ ∀ w' : World, (∀ b ∈ E.fp k, w'.heap[b]? = w.heap[b]?) → R (E.blk k) (E.fp k) w'

structure Rel (E : Env) (lk : Look) (w : World) : Prop where
  obj : ∀ k o, lk k = some o → objRel E lk w k o
  apart : ∀ k o k' o' b, lk k = some o → lk k' = some o' → k ≠ k' → owns E k o b → owns E k' o' b → False
  ro : ∀ k len sz rows a k' o', lk k = some (.lst len sz rows none) → 0 < (E.hdr k).2.2 → (E.hdr k).1 = some a → lk k' = some o' → owns E k' o' a.block → False

/-- Two readings of keys that agree on some. -/
def Agree (A : Nat → Prop) (E E' : Env) : Prop := ∀ k, A k → E'.blk k = E.blk k ∧ E'.hdr k = E.hdr k ∧ E'.fp k = E.fp k
theorem Agree.refl (A : Nat → Prop) (E : Env) : Agree A E E := fun _ _ => ⟨rfl, rfl, rfl⟩
theorem Agree.trans {A B : Nat → Prop} {E E' E'' : Env} (h : Agree A E E') (h' : Agree B E' E'') (hAB : ∀ k, A k → B k) : Agree A E E'' := fun k hk =>
  ⟨(h' k (hAB k hk)).1.trans (h k hk).1, (h' k (hAB k hk)).2.1.trans (h k hk).2.1, (h' k (hAB k hk)).2.2.trans (h k hk).2.2⟩
theorem Agree.mono {A B : Nat → Prop} {E E' : Env} (h : Agree B E E') (hAB : ∀ k, A k → B k) : Agree A E E' := fun k hk => h k (hAB k hk)

structure RelU (A : Nat → Prop) (E : Env) (lk : Look) (w : World) : Prop where
  dom : ∀ k o, lk k = some o → A k
  grp : ∀ k len sz rows g, lk k = some (.lst len sz rows (some g)) → A g
  rel : ∀ E', Agree A E E' → Rel E' lk w
theorem RelU.here {A : Nat → Prop} {E : Env} {lk : Look} {w : World} (h : RelU A E lk w) : Rel E lk w := h.rel E (Agree.refl A E)
theorem RelU.move {A B : Nat → Prop} {E E' : Env} {lk : Look} {w : World} (h : RelU A E lk w) (ha : Agree A E E') (hAB : ∀ k, A k → B k) : RelU B E' lk w :=
  ⟨fun k o ho => hAB k (h.dom k o ho), fun k len sz rows g hk => hAB g (h.grp k len sz rows g hk), fun E'' h'' => h.rel E'' (ha.trans h'' hAB)⟩

/-- What a step keeps, from (E, lk, w) to (E', lk', w'). -/
structure Ext (A : Nat → Prop) (E : Env) (lk : Look) (w : World) (E' : Env) (lk' : Look) (w' : World) : Prop where
  os : w'.os = w.os
  tape : w'.tape = w.tape
  output : w'.output = w.output
  size : w.heap.size ≤ w'.heap.size
  agree : Agree A E E'
  frame : ∀ b, b < w.heap.size → (∀ k o, lk k = some o → ¬ owns E k o b) → w'.heap[b]? = w.heap[b]?
  fresh : ∀ k o b, lk' k = some o → owns E' k o b → (∃ k0 o0, lk k0 = some o0 ∧ owns E k0 o0 b) ∨ w.heap.size ≤ b
  tok : ∀ k, A k → lk' k = some .tok → lk k = some .tok ∧ ∀ b ∈ E.fp k, w'.heap[b]? = w.heap[b]?
  rof : ∀ k len sz rows a, lk' k = some (.lst len sz rows none) → 0 < (E'.hdr k).2.2 → (E'.hdr k).1 = some a →
    (∃ k0 len0 sz0 rows0 a0, lk k0 = some (.lst len0 sz0 rows0 none) ∧ 0 < (E.hdr k0).2.2 ∧ (E.hdr k0).1 = some a0 ∧ a0.block = a.block) ∨ w.heap.size ≤ a.block

theorem owns_agree {A : Nat → Prop} {E E' : Env} (h : Agree A E E') {k : Nat} (hk : A k) (o : AObj) (b : Nat) : owns E' k o b ↔ owns E k o b := by
  cases o <;> simp [owns, (h k hk).2.2]

theorem Ext.refl (A : Nat → Prop) (E : Env) (lk : Look) (w : World) : Ext A E lk w E lk w :=
  ⟨rfl, rfl, rfl, Nat.le_refl _, Agree.refl A E, fun _ _ _ => rfl, fun k o _ h ho => .inl ⟨k, o, h, ho⟩, fun _ _ h => ⟨h, fun _ _ => rfl⟩,
   fun k len sz rows a h hc ha => .inl ⟨k, len, sz, rows, a, h, hc, ha, rfl⟩⟩

theorem Ext.trans {A A' : Nat → Prop} {E E' E'' : Env} {lk lk' lk'' : Look} {w w' w'' : World}
    (h : Ext A E lk w E' lk' w') (h' : Ext A' E' lk' w' E'' lk'' w'') (hA : ∀ k, A k → A' k) : Ext A E lk w E'' lk'' w'' where
  os := h'.os.trans h.os
  tape := h'.tape.trans h.tape
  output := h'.output.trans h.output
  size := Nat.le_trans h.size h'.size
  agree := h.agree.trans h'.agree hA
  frame := fun b hb hn => by
    rw [h'.frame b (Nat.lt_of_lt_of_le hb h.size) (fun k o ho hown => by
      rcases h.fresh k o b ho hown with ⟨k0, o0, h0, h1⟩ | h1
      · exact hn k0 o0 h0 h1
      · omega), h.frame b hb hn]
  fresh := fun k o b ho hown => by
    rcases h'.fresh k o b ho hown with ⟨k0, o0, h0, h1⟩ | h1
    · exact h.fresh k0 o0 b h0 h1
    · exact .inr (Nat.le_trans h.size h1)
  tok := fun k hk ht => by
    obtain ⟨h1, h2⟩ := h'.tok k (hA k hk) ht
    obtain ⟨h3, h4⟩ := h.tok k hk h1
    refine ⟨h3, fun b hb => ?_⟩
    rw [h2 b (by rw [(h.agree k hk).2.2]; exact hb), h4 b hb]
  rof := fun k len sz rows a h1 h2 h3 => by
    rcases h'.rof k len sz rows a h1 h2 h3 with ⟨k0, len0, sz0, rows0, a0, h4, h5, h6, h7⟩ | h4
    · rcases h.rof k0 len0 sz0 rows0 a0 h4 h5 h6 with ⟨k1, len1, sz1, rows1, a1, g4, g5, g6, g7⟩ | g4
      · exact .inl ⟨k1, len1, sz1, rows1, a1, g4, g5, g6, g7.trans h7⟩
      · exact .inr (h7 ▸ g4)
    · exact .inr (Nat.le_trans h.size h4)

theorem Ext.mono {A B : Nat → Prop} {E E' : Env} {lk lk' : Look} {w w' : World} (h : Ext B E lk w E' lk' w') (hAB : ∀ k, A k → B k) : Ext A E lk w E' lk' w' :=
  ⟨h.os, h.tape, h.output, h.size, h.agree.mono hAB, h.frame, h.fresh, fun k hk => h.tok k (hAB k hk), h.rof⟩

/- An object that isn't touched. -/
theorem lt_of_get {w : World} {b : Nat} {o : Obj} (h : w.heap[b]? = some o) : b < w.heap.size := (Array.getElem?_eq_some_iff.1 h).1

theorem objRel.lt {E : Env} {lk : Look} {w : World} {k : Nat} {o : AObj} (h : objRel E lk w k o) {b : Nat} (hb : owns E k o b) : b < w.heap.size := by
  cases o with
  | box cs =>
    obtain ⟨h1, _, ty, h2⟩ := h
    simp only [owns, h1, List.mem_singleton] at hb
    subst hb
    exact lt_of_get h2
  | tok =>
    rcases h with h | ⟨b', C, ty, h1, h2⟩
    · simp [owns, h] at hb
    · simp only [owns, h1, List.mem_singleton] at hb
      subst hb
      exact lt_of_get h2
  | lst => exact hb.elim
  | opq R => exact h.1 b hb

theorem RowsAt.congr {E : Env} {get get' : Nat → Option Value} {off sz n : Nat} {rows : Nat → List AV} (h : RowsAt E get off sz n rows) (hg : ∀ o, get' o = get o) : RowsAt E get' off sz n rows :=
  fun i hi => ⟨(h i hi).1, (h i hi).2.1, fun j hj => by rw [hg]; exact (h i hi).2.2 j hj⟩

theorem objRel_keep {E : Env} {lk lk' : Look} {w w' : World} {k : Nat} {o : AObj} (h : objRel E lk w k o) (hsz : w.heap.size ≤ w'.heap.size)
    (h1 : ∀ b, owns E k o b → w'.heap[b]? = w.heap[b]?)
    (h2 : ∀ len sz rows a, o = .lst len sz rows none → 0 < (E.hdr k).2.2 → (E.hdr k).1 = some a → w'.heap[a.block]? = w.heap[a.block]?)
    (h3 : ∀ len sz rows g, o = .lst len sz rows (some g) → lk' g = some .tok → lk g = some .tok ∧ ∀ b ∈ E.fp g, w'.heap[b]? = w.heap[b]?) :
    objRel E lk' w' k o := by
  cases o with
  | box cs =>
    obtain ⟨e, hs, ty, h⟩ := h
    exact ⟨e, hs, ty, by rw [h1 _ (by simp [owns, e])]; exact h⟩
  | tok =>
    rcases h with h | ⟨b, C, ty, e, h⟩
    · exact .inl h
    · exact .inr ⟨b, C, ty, e, by rw [h1 _ (by simp [owns, e])]; exact h⟩
  | lst len sz rows grp =>
    obtain ⟨ha, hb, hc⟩ := h
    refine ⟨ha, hb, fun hp => ?_⟩
    obtain ⟨B, off, e, hlt, hr⟩ := hc hp
    refine ⟨B, off, e, Nat.lt_of_lt_of_le hlt hsz, ?_⟩
    cases grp with
    | none =>
      exact RowsAt.congr hr fun o => by
        have := h2 len sz rows _ rfl hp e
        exact World.cell?_of_block (w := w) (a := ⟨B, o, none⟩) this
    | some g =>
      intro ht
      obtain ⟨h4, h5⟩ := h3 len sz rows g rfl ht
      obtain ⟨h6, C, ty, h7, h8⟩ := hr h4
      exact ⟨h6, C, ty, by rw [h5 B (by simp [h6])]; exact h7, h8⟩
  | opq R =>
    refine ⟨fun b hb => Nat.lt_of_lt_of_le (h.1 b hb) hsz, fun w'' hw => h.2 w'' fun b hb => ?_⟩
    rw [hw b hb]
    exact h1 b hb

/-- The world went on, and nothing that was there has turned. -/
theorem Rel.world {E : Env} {lk : Look} {w w' : World} (h : Rel E lk w) (hsz : w.heap.size ≤ w'.heap.size) (hb : ∀ b, b < w.heap.size → w'.heap[b]? = w.heap[b]?) : Rel E lk w' where
  obj := fun k o ho => by
    have hr := h.obj k o ho
    refine objRel_keep hr hsz (fun b hown => hb b (hr.lt hown)) (fun len sz rows a e hp ha => ?_) (fun len sz rows g e ht => ⟨ht, fun b hbb => hb b ?_⟩)
    · subst e
      obtain ⟨_, _, hc⟩ := hr
      obtain ⟨B, off, e2, hlt, _⟩ := hc hp
      rw [ha] at e2
      cases e2
      exact hb B hlt
    · exact (h.obj g _ ht).lt (b := b) hbb
  apart := h.apart
  ro := h.ro
theorem RelU.world {A : Nat → Prop} {E : Env} {lk : Look} {w w' : World} (h : RelU A E lk w) (hsz : w.heap.size ≤ w'.heap.size) (hb : ∀ b, b < w.heap.size → w'.heap[b]? = w.heap[b]?) : RelU A E lk w' :=
  ⟨h.dom, h.grp, fun E' he => (h.rel E' he).world hsz hb⟩

/-- Some objects may be forgotten. -/
theorem Rel.sub {E : Env} {lk lk' : Look} {w : World} (h : Rel E lk w) (hs : ∀ k o, lk' k = some o → lk k = some o) : Rel E lk' w where
  obj := fun k o ho => objRel_keep (h.obj k o (hs k o ho)) (Nat.le_refl _) (fun _ _ => rfl) (fun _ _ _ _ _ _ _ => rfl) (fun _ _ _ g _ ht => ⟨hs g _ ht, fun _ _ => rfl⟩)
  apart := fun k o k' o' b h1 h2 => h.apart k o k' o' b (hs _ _ h1) (hs _ _ h2)
  ro := fun k len sz rows a k' o' h1 h2 h3 h4 => h.ro k len sz rows a k' o' (hs _ _ h1) h2 h3 (hs _ _ h4)
theorem RelU.sub {A : Nat → Prop} {E : Env} {lk lk' : Look} {w : World} (h : RelU A E lk w) (hs : ∀ k o, lk' k = some o → lk k = some o) : RelU A E lk' w :=
  ⟨fun k o ho => h.dom k o (hs k o ho), fun k len sz rows g hk => h.grp k len sz rows g (hs _ _ hk), fun E' he => (h.rel E' he).sub hs⟩

theorem wget_none_iff {k : Nat} : ∀ {W : Heap}, wget k W = none ↔ k ∉ wkeys W
  | [] => by simp [wget, wkeys]
  | (j, o) :: W => by
    simp only [wget, wkeys, List.map_cons, List.mem_cons, not_or]
    cases hb : Nat.beq j k with
    | false =>
      have hne : k ≠ j := fun e => by subst e; simp at hb
      simp only [hne, not_false_eq_true, true_and]
      exact wget_none_iff
    | true => simp [(Nat.eq_of_beq_eq_true hb).symm]
theorem wget_in {k : Nat} {o : Option AObj} : ∀ {W : Heap}, wget k W = some o → (k, o) ∈ W
  | [], h => by simp [wget] at h
  | (j, o') :: W, h => by
    simp only [wget] at h
    cases hb : Nat.beq j k with
    | false => rw [hb] at h; exact List.mem_cons_of_mem _ (wget_in h)
    | true =>
      rw [hb] at h
      cases h
      rw [Nat.eq_of_beq_eq_true hb]
      exact List.mem_cons_self

/-- What a step may write: what it found, and new keys; a list with its block. -/
def WOK (lk : Look) (n n' : Nat) (W : Heap) : Prop :=
  ∀ k o, (k, o) ∈ W → (lk k ≠ none ∨ (n ≤ k ∧ k < n')) ∧ ∀ len sz rows g, o = some (.lst len sz rows (some g)) → g ∈ wkeys W ∨ lk g ≠ none

/-- THE FRAME: what a part of the heap comes to, the whole comes to; the rest stays. -/
theorem RelU.frame {A A' : Nat → Prop} {E E' : Env} {lk lr : Look} {W : Heap} {w w' : World} (h : RelU A E lk w)
    (hsub : ∀ k o, lr k = some o → lk k = some o) (hcl : ∀ k len sz rows g, lr k = some (.lst len sz rows (some g)) → lk g = some .tok → lr g = some .tok)
    (hr : RelU A' E' (hupd lr W) w') (hx : Ext A E lr w E' (hupd lr W) w') (hA : ∀ k, A k → A' k)
    (hW : ∀ k o, (k, o) ∈ W → (A k → lr k ≠ none) ∧ ∀ len sz rows g, o = some (.lst len sz rows (some g)) → g ∈ wkeys W ∨ lr g ≠ none) :
    RelU A' E' (hupd lk W) w' ∧ Ext A E lk w E' (hupd lk W) w' := by
  have part : ∀ k o, hupd lk W k = some o → hupd lr W k = some o ∨ (k ∉ wkeys W ∧ lr k = none ∧ lk k = some o) := by
    intro k o ho
    unfold hupd at ho ⊢
    cases hw : wget k W with
    | some x => rw [hw] at ho; exact .inl ho
    | none =>
      rw [hw] at ho
      simp only at ho ⊢
      cases hl : lr k with
      | some x => rw [hsub k x hl] at ho; exact .inl ho
      | none => exact .inr ⟨wget_none_iff.1 hw, rfl, ho⟩
  have ag : ∀ {E''}, Agree A' E' E'' → Agree A E E'' := fun h'' => hx.agree.trans h'' hA
  have grp : ∀ k len sz rows g, hupd lr W k = some (.lst len sz rows (some g)) → hupd lk W g = some .tok → hupd lr W g = some .tok := by
    intro k len sz rows g hk hg
    unfold hupd at hk hg ⊢
    cases hwg : wget g W with
    | some x => rw [hwg] at hg; exact hg
    | none =>
      rw [hwg] at hg
      simp only at hg ⊢
      cases hwk : wget k W with
      | some x =>
        rw [hwk] at hk
        simp only at hk
        rcases (hW k x (wget_in hwk)).2 len sz rows g hk with h1 | h1
        · exact absurd h1 (wget_none_iff.1 hwg)
        · cases hl : lr g with
          | none => exact absurd hl h1
          | some y => rw [hsub g y hl] at hg; exact hg
      | none =>
        rw [hwk] at hk
        exact hcl k len sz rows g hk hg
  have own : ∀ {E''}, Agree A' E' E'' → ∀ k o b, hupd lr W k = some o → owns E'' k o b → (∃ k0 o0, lr k0 = some o0 ∧ owns E k0 o0 b) ∨ w.heap.size ≤ b := by
    intro E'' h'' k o b hk hb
    exact hx.fresh k o b hk ((owns_agree h'' (hr.dom k o hk) o b).1 hb)
  have still : ∀ {E''}, Agree A' E' E'' → ∀ k o, lr k = none → lk k = some o → ∀ b, owns E'' k o b → w'.heap[b]? = w.heap[b]? := by
    intro E'' h'' k o hn hk b hb
    have hbE := (owns_agree (ag h'') (h.dom k o hk) o b).1 hb
    refine hx.frame b ((h.here.obj k o hk).lt hbE) fun k0 o0 h0 hb0 => ?_
    refine h.here.apart k o k0 o0 b hk (hsub k0 o0 h0) (fun e => ?_) hbE hb0
    subst e
    rw [hn] at h0
    cases h0
  refine ⟨⟨fun k o ho => ?_, fun k len sz rows g ho => ?_, fun E'' h'' => ?_⟩, ?_⟩
  · rcases part k o ho with h1 | ⟨_, _, h1⟩
    · exact hr.dom k o h1
    · exact hA k (h.dom k o h1)
  · rcases part k _ ho with h1 | ⟨_, _, h1⟩
    · exact hr.grp k len sz rows g h1
    · exact hA g (h.grp k len sz rows g h1)
  · have hl := h.rel E'' (ag h'')
    have hp := hr.rel E'' h''
    refine ⟨fun k o ho => ?_, fun k o k' o' b ho ho' hne hb hb' => ?_, fun k len sz rows a k' o' ho hcap ha ho' hb => ?_⟩
    · rcases part k o ho with h1 | ⟨h2, h3, h1⟩
      · exact objRel_keep (hp.obj k o h1) (Nat.le_refl _) (fun _ _ => rfl) (fun _ _ _ _ _ _ _ => rfl) (fun len sz rows g e ht => ⟨grp k len sz rows g (e ▸ h1) ht, fun _ _ => rfl⟩)
      · refine objRel_keep (hl.obj k o h1) hx.size (still h'' k o h3 h1) (fun len sz rows a e hcap ha => ?_) (fun len sz rows g e ht => ?_)
        · subst e
          obtain ⟨_, _, hc⟩ := hl.obj k _ h1
          obtain ⟨B, off, e2, hlt, _⟩ := hc hcap
          rw [ha] at e2
          cases e2
          refine hx.frame B hlt fun k0 o0 h0 hb0 => ?_
          exact hl.ro k len sz rows _ k0 o0 h1 hcap ha (hsub k0 o0 h0) ((owns_agree (ag h'') (h.dom k0 o0 (hsub k0 o0 h0)) o0 B).2 hb0)
        · subst e
          have hAg := h.grp k len sz rows g h1
          cases hwg : wget g W with
          | some x =>
            have htr : hupd lr W g = some .tok := by
              unfold hupd at ht ⊢
              rw [hwg] at ht ⊢
              exact ht
            obtain ⟨h4, h5⟩ := hx.tok g hAg htr
            exact ⟨hsub g _ h4, fun b hb => h5 b (by rw [← ((ag h'') g hAg).2.2]; exact hb)⟩
          | none =>
            have hlg : lk g = some .tok := by
              unfold hupd at ht
              rw [hwg] at ht
              exact ht
            refine ⟨hlg, fun b hb => ?_⟩
            cases hlr : lr g with
            | none => exact still h'' g .tok hlr hlg b hb
            | some y =>
              have : y = .tok := by
                have := hsub g y hlr
                rw [hlg] at this
                cases this; rfl
              subst this
              have htr : hupd lr W g = some .tok := by
                unfold hupd
                rw [hwg]
                exact hlr
              exact (hx.tok g hAg htr).2 b (by rw [← ((ag h'') g hAg).2.2]; exact hb)
    · rcases part k o ho with h1 | ⟨_, h2, h1⟩ <;> rcases part k' o' ho' with g1 | ⟨_, g2, g1⟩
      · exact hp.apart k o k' o' b h1 g1 hne hb hb'
      · rcases own h'' k o b h1 hb with ⟨k0, o0, h3, h4⟩ | h3
        · refine hl.apart k0 o0 k' o' b (hsub k0 o0 h3) g1 (fun e => ?_) ((owns_agree (ag h'') (h.dom k0 o0 (hsub k0 o0 h3)) o0 b).2 h4) hb'
          subst e
          rw [g2] at h3
          cases h3
        · have := (hl.obj k' o' g1).lt hb'
          omega
      · rcases own h'' k' o' b g1 hb' with ⟨k0, o0, h3, h4⟩ | h3
        · refine hl.apart k0 o0 k o b (hsub k0 o0 h3) h1 (fun e => ?_) ((owns_agree (ag h'') (h.dom k0 o0 (hsub k0 o0 h3)) o0 b).2 h4) hb
          subst e
          rw [h2] at h3
          cases h3
        · have := (hl.obj k o h1).lt hb
          omega
      · exact hl.apart k o k' o' b h1 g1 hne hb hb'
    · rcases part k _ ho with h1 | ⟨_, h2, h1⟩ <;> rcases part k' o' ho' with g1 | ⟨_, g2, g1⟩
      · exact hp.ro k len sz rows a k' o' h1 hcap ha g1 hb
      · rw [(h'' k (hr.dom k _ h1)).2.1] at hcap ha
        rcases hx.rof k len sz rows a h1 hcap ha with ⟨k0, len0, sz0, rows0, a0, h4, h5, h6, h7⟩ | h4
        · have hk0 := hsub k0 _ h4
          have hh := ((ag h'') k0 (h.dom k0 _ hk0)).2.1
          exact hl.ro k0 len0 sz0 rows0 a0 k' o' hk0 (by rw [hh]; exact h5) (by rw [hh]; exact h6) g1 (by rw [h7]; exact hb)
        · have := (hl.obj k' o' g1).lt hb
          omega
      · have hlt : a.block < w.heap.size := by
          obtain ⟨_, _, hc⟩ := hl.obj k _ h1
          obtain ⟨B, off, e2, hlt, _⟩ := hc hcap
          rw [ha] at e2
          cases e2
          exact hlt
        rcases own h'' k' o' _ g1 hb with ⟨k0, o0, h3, h4⟩ | h3
        · exact hl.ro k len sz rows a k0 o0 h1 hcap ha (hsub k0 o0 h3) ((owns_agree (ag h'') (h.dom k0 o0 (hsub k0 o0 h3)) o0 _).2 h4)
        · omega
      · exact hl.ro k len sz rows a k' o' h1 hcap ha g1 hb
  · exact {
      os := hx.os, tape := hx.tape, output := hx.output, size := hx.size, agree := hx.agree
      frame := fun b hb hn => hx.frame b hb fun k o ho => hn k o (hsub k o ho)
      fresh := fun k o b ho hb => by
        rcases part k o ho with h1 | ⟨_, h2, h1⟩
        · rcases hx.fresh k o b h1 hb with ⟨k0, o0, h3, h4⟩ | h3
          · exact .inl ⟨k0, o0, hsub k0 o0 h3, h4⟩
          · exact .inr h3
        · exact .inl ⟨k, o, h1, (owns_agree hx.agree (h.dom k o h1) o b).1 hb⟩
      tok := fun k hk ht => by
        rcases part k _ ht with h1 | ⟨_, h2, h1⟩
        · obtain ⟨h3, h4⟩ := hx.tok k hk h1
          exact ⟨hsub k _ h3, h4⟩
        · refine ⟨h1, fun b hb => ?_⟩
          exact still (Agree.refl A' E') k .tok h2 h1 b (by
            show b ∈ E'.fp k
            rw [(hx.agree k hk).2.2]; exact hb)
      rof := fun k len sz rows a h1 h2 h3 => by
        rcases part k _ h1 with g1 | ⟨_, g2, g1⟩
        · rcases hx.rof k len sz rows a g1 h2 h3 with ⟨k0, len0, sz0, rows0, a0, h4, h5⟩ | h4
          · exact .inl ⟨k0, len0, sz0, rows0, a0, hsub _ _ h4, h5⟩
          · exact .inr h4
        · have hh := (hx.agree k (h.dom k _ g1)).2.1
          exact .inl ⟨k, len, sz, rows, a, g1, by rw [← hh]; exact h2, by rw [← hh]; exact h3, rfl⟩ }

/-- A STEP, in general: 'N' are the keys that are new or written; what is neither stays. -/
theorem RelU.step {A A' : Nat → Prop} {E E1 : Env} {lk lk' : Look} {w w' : World} (N : Nat → Prop) (h : RelU A E lk w) (hA : ∀ k, A k → A' k) (hE : Agree A E E1)
    (hos : w'.os = w.os) (htape : w'.tape = w.tape) (hout : w'.output = w.output) (hsz : w.heap.size ≤ w'.heap.size)
    (ha : ∀ k o, lk' k = some o → ¬ N k → lk k = some o)
    (hdom : ∀ k o, lk' k = some o → N k → A' k) (hgrp : ∀ k len sz rows g, lk' k = some (.lst len sz rows (some g)) → N k → A' g)
    (hb : ∀ E', Agree A' E1 E' → ∀ k o, lk' k = some o → N k → objRel E' lk' w' k o)
    (hc : ∀ E', Agree A' E1 E' → ∀ k o b, lk' k = some o → N k → owns E' k o b → (∃ k0 o0, lk k0 = some o0 ∧ (N k0 ∨ lk' k0 = none) ∧ owns E' k0 o0 b) ∨ w.heap.size ≤ b)
    (hd : ∀ E', Agree A' E1 E' → ∀ k o k' o' b, lk' k = some o → lk' k' = some o' → N k → N k' → k ≠ k' → owns E' k o b → owns E' k' o' b → False)
    (he : ∀ b, b < w.heap.size → (∀ k0 o0, lk k0 = some o0 → (N k0 ∨ lk' k0 = none) → ¬ owns E k0 o0 b) → w'.heap[b]? = w.heap[b]?)
    (hf : ∀ k len sz rows g, lk k = some (.lst len sz rows (some g)) → N g → lk' g ≠ some .tok)
    (hg : ∀ E', Agree A' E1 E' → ∀ k len sz rows a, lk' k = some (.lst len sz rows none) → N k → 0 < (E'.hdr k).2.2 → (E'.hdr k).1 = some a →
      ∃ k0 len0 sz0 rows0 a0, lk k0 = some (.lst len0 sz0 rows0 none) ∧ 0 < (E'.hdr k0).2.2 ∧ (E'.hdr k0).1 = some a0 ∧ a0.block = a.block)
    (hN : ∀ k, N k → A k → lk' k ≠ some .tok) :
    RelU A' E1 lk' w' ∧ Ext A E lk w E1 lk' w' := by
  have ag : ∀ {E'}, Agree A' E1 E' → Agree A E E' := fun h' => hE.trans h' hA
  -- a block of an old object that stays
  have still : ∀ {E'}, Agree A' E1 E' → ∀ k o, lk k = some o → ¬ N k → lk' k ≠ none → ∀ b, owns E' k o b → w'.heap[b]? = w.heap[b]? := by
    intro E' h' k o hk hnk hak b hbo
    have hbE := (owns_agree (ag h') (h.dom k o hk) o b).1 hbo
    refine he b ((h.here.obj k o hk).lt hbE) fun k0 o0 h0 h1 h2 => ?_
    refine h.here.apart k o k0 o0 b hk h0 (fun e => ?_) hbE h2
    subst e
    rcases h1 with h1 | h1
    · exact hnk h1
    · exact hak h1
  have roStill : ∀ {E'}, Agree A' E1 E' → ∀ k len sz rows a, lk k = some (.lst len sz rows none) → 0 < (E'.hdr k).2.2 → (E'.hdr k).1 = some a → a.block < w.heap.size ∧ w'.heap[a.block]? = w.heap[a.block]? := by
    intro E' h' k len sz rows a hk hcap hadr
    have hl := h.rel E' (ag h')
    have hlt : a.block < w.heap.size := by
      obtain ⟨_, _, h3⟩ := hl.obj k _ hk
      obtain ⟨B, off, e2, hlt, _⟩ := h3 hcap
      rw [hadr] at e2
      cases e2
      exact hlt
    refine ⟨hlt, he _ hlt fun k0 o0 h0 _ h2 => ?_⟩
    exact hl.ro k len sz rows a k0 o0 hk hcap hadr h0 ((owns_agree (ag h') (h.dom k0 o0 h0) o0 _).2 h2)
  have rel : ∀ E', Agree A' E1 E' → Rel E' lk' w' := by
    intro E' h'
    have hl := h.rel E' (ag h')
    have nown : ∀ k o b, lk' k = some o → N k → owns E' k o b → ∀ k' o', lk' k' = some o' → ¬ N k' → owns E' k' o' b → False := by
      intro k o b hk hNk hbo k' o' hk' hNk' hbo'
      have hk'' := ha k' o' hk' hNk'
      rcases hc E' h' k o b hk hNk hbo with ⟨k0, o0, h0, h1, h2⟩ | h1
      · refine hl.apart k0 o0 k' o' b h0 hk'' (fun e => ?_) h2 hbo'
        subst e
        rcases h1 with h1 | h1
        · exact hNk' h1
        · rw [h1] at hk'; cases hk'
      · have := (hl.obj k' o' hk'').lt hbo'
        omega
    have nro : ∀ k o b, lk' k = some o → N k → owns E' k o b → ∀ k' len sz rows a, lk k' = some (.lst len sz rows none) → 0 < (E'.hdr k').2.2 → (E'.hdr k').1 = some a → a.block = b → False := by
      intro k o b hk hNk hbo k' len sz rows a hk' hcap hadr hab
      rcases hc E' h' k o b hk hNk hbo with ⟨k0, o0, h0, _, h2⟩ | h1
      · exact hl.ro k' len sz rows a k0 o0 hk' hcap hadr h0 (hab ▸ h2)
      · have := (roStill h' k' len sz rows a hk' hcap hadr).1
        omega
    refine ⟨fun k o hk => ?_, fun k o k' o' b hk hk' hne hbo hbo' => ?_, fun k len sz rows a k' o' hk hcap hadr hk' hbo => ?_⟩
    · by_cases hNk : N k
      · exact hb E' h' k o hk hNk
      · have hk0 := ha k o hk hNk
        refine objRel_keep (hl.obj k o hk0) hsz (still h' k o hk0 hNk (by rw [hk]; simp)) (fun len sz rows a e hcap hadr => ?_) (fun len sz rows g e ht => ?_)
        · subst e; exact (roStill h' k len sz rows a hk0 hcap hadr).2
        · subst e
          have hNg : ¬ N g := fun hNg => hf k len sz rows g hk0 hNg ht
          have hg0 := ha g _ ht hNg
          exact ⟨hg0, still h' g _ hg0 hNg (by rw [ht]; simp)⟩
    · by_cases hNk : N k <;> by_cases hNk' : N k'
      · exact hd E' h' k o k' o' b hk hk' hNk hNk' hne hbo hbo'
      · exact nown k o b hk hNk hbo k' o' hk' hNk' hbo'
      · exact nown k' o' b hk' hNk' hbo' k o hk hNk hbo
      · exact hl.apart k o k' o' b (ha k o hk hNk) (ha k' o' hk' hNk') hne hbo hbo'
    · by_cases hNk : N k <;> by_cases hNk' : N k'
      · obtain ⟨k0, len0, sz0, rows0, a0, h1, h2, h3, h4⟩ := hg E' h' k len sz rows a hk hNk hcap hadr
        exact nro k' o' _ hk' hNk' hbo k0 len0 sz0 rows0 a0 h1 h2 h3 h4
      · obtain ⟨k0, len0, sz0, rows0, a0, h1, h2, h3, h4⟩ := hg E' h' k len sz rows a hk hNk hcap hadr
        exact hl.ro k0 len0 sz0 rows0 a0 k' o' h1 h2 h3 (ha k' o' hk' hNk') (by rw [h4]; exact hbo)
      · exact nro k' o' _ hk' hNk' hbo k len sz rows a (ha k _ hk hNk) hcap hadr rfl
      · exact hl.ro k len sz rows a k' o' (ha k _ hk hNk) hcap hadr (ha k' o' hk' hNk') hbo
  have e1 : Agree A' E1 E1 := Agree.refl A' E1
  refine ⟨⟨fun k o hk => ?_, fun k len sz rows g hk => ?_, rel⟩, ?_⟩
  · by_cases hNk : N k
    · exact hdom k o hk hNk
    · exact hA k (h.dom k o (ha k o hk hNk))
  · by_cases hNk : N k
    · exact hgrp k len sz rows g hk hNk
    · exact hA g (h.grp k len sz rows g (ha k _ hk hNk))
  · exact {
      os := hos, tape := htape, output := hout, size := hsz, agree := hE
      frame := fun b hlt hn => he b hlt fun k0 o0 h0 _ => hn k0 o0 h0
      fresh := fun k o b hk hbo => by
        by_cases hNk : N k
        · rcases hc E1 e1 k o b hk hNk hbo with ⟨k0, o0, h0, _, h2⟩ | h1
          · exact .inl ⟨k0, o0, h0, (owns_agree hE (h.dom k0 o0 h0) o0 b).1 h2⟩
          · exact .inr h1
        · have hk0 := ha k o hk hNk
          exact .inl ⟨k, o, hk0, (owns_agree hE (h.dom k o hk0) o b).1 hbo⟩
      tok := fun k hk ht => by
        have hNk : ¬ N k := fun hNk => hN k hNk hk ht
        have hk0 := ha k _ ht hNk
        exact ⟨hk0, fun b hb => still e1 k .tok hk0 hNk (by rw [ht]; simp) b (by show b ∈ E1.fp k; rw [(hE k hk).2.2]; exact hb)⟩
      rof := fun k len sz rows a hk hcap hadr => by
        by_cases hNk : N k
        · obtain ⟨k0, len0, sz0, rows0, a0, h1, h2, h3, h4⟩ := hg E1 e1 k len sz rows a hk hNk hcap hadr
          rw [(hE k0 (h.dom k0 _ h1)).2.1] at h2 h3
          exact .inl ⟨k0, len0, sz0, rows0, a0, h1, h2, h3, h4⟩
        · have hk0 := ha k _ hk hNk
          rw [(hE k (h.dom k _ hk0)).2.1] at hcap hadr
          exact .inl ⟨k, len, sz, rows, a, hk0, hcap, hadr, rfl⟩ }
end Go.Eng
