/- The engine, part C: each operation on abstract values does what the operation does in the world.
   Conditions: none. -/
import Derived.Test.YtnfmdpelafaoaaaEngB
set_option linter.unusedSimpArgs false
set_option linter.unusedVariables false
namespace Go.Eng

theorem Nat.beq_true {a b : Nat} (h : Nat.beq a b = true) : a = b := Nat.eq_of_beq_eq_true h

section
variable {P : Program}

theorem isAgg_run {t : TypeId} {b : Bool} (h : isAggB P t = some b) (w : World) : (isAgg t).run P w = .ok b w := by
  unfold isAggB at h
  unfold isAgg
  cases hu : P.underlying t with
  | none => rw [hu] at h; cases h
  | some d =>
    rw [hu] at h
    simp only [Sem.run_bind, run_underlying hu, Result.andThen_ok]
    cases d <;> cases h <;> rfl
theorem tinfo_run {t : TypeId} {i : TypeInfo} (h : P.info? t = some i) (w : World) : (typeInfo t).run P w = .ok i w := by
  simp [typeInfo, h]
theorem tsize_info {t : TypeId} {n : Nat} (h : tsize P t = some n) : ∃ i, P.info? t = some i ∧ i.size = n := by
  unfold tsize at h
  cases hi : P.info? t with
  | none => rw [hi] at h; cases h
  | some i => rw [hi] at h; cases h; exact ⟨i, rfl, rfl⟩
theorem sizeOf_run {t : TypeId} {n : Nat} (h : tsize P t = some n) (w : World) : (sizeOf t).run P w = .ok n w := by
  obtain ⟨i, hi, rfl⟩ := tsize_info h
  simp [sizeOf, tinfo_run hi]
theorem tzero_info {t : TypeId} {z : AV} (h : tzero P t = some z) : ∃ i v, P.info? t = some i ∧ i.zero = some v ∧ z = ofV v := by
  unfold tzero at h
  cases hi : P.info? t with
  | none => rw [hi] at h; cases h
  | some i =>
    rw [hi] at h
    simp only at h
    cases hz : i.zero with
    | none => rw [hz] at h; cases h
    | some v => rw [hz] at h; cases h; exact ⟨i, v, rfl, hz, rfl⟩
theorem zero_run {t : TypeId} {z : AV} (h : tzero P t = some z) (E : Env) (w : World) : (zeroValue t).run P w = .ok (den E z) w := by
  obtain ⟨i, v, hi, hz, rfl⟩ := tzero_info h
  simp [zeroValue, tinfo_run hi, hz, den_ofV]

theorem part_sound {t : TypeId} {cs : List AV} {off : Nat} {v : AV} (h : partA P t cs off = some v) (E : Env) (w : World) :
    (part t (denL E cs).toArray off).run P w = .ok (den E v) w := by
  unfold partA at h
  unfold part
  split at h
  · rename_i n h1 h2
    split at h
    · rename_i h3
      cases h
      simp only [Sem.run_bind, isAgg_run h1, sizeOf_run h2, Result.andThen_ok, if_true, Sem.run_pure]
      simp [den, denL_take, denL_drop]
    · cases h
  · rename_i n h1 h2
    simp only [Sem.run_bind, isAgg_run h1, Result.andThen_ok, Bool.false_eq_true, if_false]
    rw [show ((denL E cs).toArray)[off]? = some (den E v) by simp [denL_get, h]]
    rfl
  · cases h

theorem loadVar_sound {t : TypeId} {cs : List AV} {off : Nat} {v : AV} {E : Env} {w : World} {B o : Nat} (h : partA P t cs off = some v)
    (hc : ∀ j, j < cs.length → w.cell? ⟨B, o + j, none⟩ = (cs[j]?).map (den E)) :
    (loadVar t ⟨B, o + off, none⟩).run P w = .ok (den E v) w := by
  unfold partA at h
  unfold loadVar
  split at h
  · rename_i n h1 h2
    split at h
    · rename_i h3
      cases h
      have hle : off + n ≤ cs.length := Nat.le_of_ble_eq_true h3
      have hl : (denL E ((cs.drop off).take n)).length = n := by rw [denL_length]; simp; omega
      have hrun : (loadCells ⟨B, o + off, none⟩ n).run P w = .ok (denL E ((cs.drop off).take n)).toArray w := by
        have := run_loadCells_list (P := P) w ⟨B, o + off, none⟩ (denL E ((cs.drop off).take n)) (fun j x hx => by
          rw [Addr.add_lit]
          have hj : j < n := by
            have := (List.getElem?_eq_some_iff.1 hx).1
            omega
          rw [show o + off + j = o + (off + j) by omega, hc (off + j) (by omega)]
          rw [denL_get] at hx
          rw [← hx]
          simp [List.getElem?_take, hj, List.getElem?_drop])
        rw [hl] at this
        exact this
      simp only [Sem.run_bind, isAgg_run h1, sizeOf_run h2, Result.andThen_ok, if_true, hrun, Sem.run_pure, den]
    · cases h
  · rename_i n h1 h2
    have hlt : off < cs.length := (List.getElem?_eq_some_iff.1 h).1
    have hcell := hc off hlt
    rw [h] at hcell
    simp only [Sem.run_bind, isAgg_run h1, Result.andThen_ok, Bool.false_eq_true, if_false, run_load, hcell, Option.map_some]
  · cases h

theorem putCells_den (E : Env) (cs vs : List AV) (off : Nat) : denL E (putCells cs off vs) = (denL E cs).take off ++ denL E vs ++ (denL E cs).drop (off + vs.length) := by
  simp [putCells, denL_map]
theorem putCells_length {cs vs : List AV} {off : Nat} (h : off + vs.length ≤ cs.length) : (putCells cs off vs).length = cs.length := by
  simp [putCells]; omega
theorem putCells_scalar {cs vs : List AV} {off : Nat} (h1 : allScalar cs = true) (h2 : allScalar vs = true) : allScalar (putCells cs off vs) = true := by
  rw [allScalar_iff] at *
  intro v hv
  simp only [putCells, List.mem_append] at hv
  rcases hv with (hv | hv) | hv
  · exact h1 v (List.mem_of_mem_take hv)
  · exact h2 v hv
  · exact h1 v (List.mem_of_mem_drop hv)

theorem storeVar_sound {t : TypeId} {cs : List AV} {off n : Nat} {v : AV} {E : Env} {w : World} {B : Nat} {ty : TypeId} (hn : tsize P t = some n)
    (hw : w.heap[B]? = some (.cells (denL E cs).toArray ty (0, 0))) (hl : v.cells.length = n) (hle : off + n ≤ cs.length) (hs : allScalar v.cells = true) :
    (storeVar t ⟨B, off, none⟩ (den E v)).run P w = .ok () (w.setRow B (denL E (putCells cs off v.cells)).toArray) := by
  unfold storeVar
  have hc := den_cells E hs
  have hsz : (den E v).cells.size = n := by rw [hc]; simp [denL_length, hl]
  have hrun := run_storeCells_at P B off ty (denL E v.cells) 0 (denL E cs).toArray w hw (by simp [denL_length]; omega) (by
    intro x hx
    rw [denL_map] at hx
    obtain ⟨y, hy, rfl⟩ := List.mem_map.1 hx
    exact den_scalar E ((allScalar_iff _).1 hs y hy))
  simp only [Sem.run_bind, sizeOf_run hn, Result.andThen_ok, hsz, ne_eq, not_true_eq_false, if_false, Sem.run_pure]
  rw [hc]
  simp only [Nat.add_zero] at hrun
  rw [show ((denL E v.cells).toArray).toList = denL E v.cells from rfl, hrun, putCells_den, denL_length]

/- Numbers. -/
theorem SI.bin_v (f : Int → Int → Int) (a b : SI) : (SI.bin f a b).v = f a.v b.v := by cases a <;> cases b <;> rfl
theorem SI.un_v (f : Int → Int) (a : SI) : (SI.un f a).v = f a.v := by cases a <;> rfl
theorem SI.cmp_v (f : Int → Int → Bool) (a b : SI) : (SI.cmp f a b).v = f a.v b.v := by cases a <;> cases b <;> rfl
theorem SB.not_v (a : SB) : a.not.v = !a.v := by cases a <;> rfl
theorem SB.beq_v (a b : SB) : (a.beq b).v = (a.v == b.v) := by cases a <;> cases b <;> rfl
theorem SB.and_v (a b : SB) : (a.and b).v = (a.v && b.v) := by
  rcases a with (_ | _) | a <;> rcases b with (_ | _) | b <;> simp [SB.and, SB.v]

/- Strings. -/
theorem eqU_iff : ∀ {l m : List UInt8}, eqU l m = true ↔ l = m
  | [], [] => by simp [eqU]
  | [], _ :: _ => by simp [eqU]
  | _ :: _, [] => by simp [eqU]
  | x :: xs, y :: ys => by
    simp only [eqU, List.cons.injEq]
    cases h : Nat.beq x.toNat y.toNat
    · simp only [Bool.false_eq_true, false_iff, not_and]
      intro e
      subst e
      simp at h
    · have h : x = y := UInt8.toNat_inj.1 (Nat.eq_of_beq_eq_true h)
      simp [h, eqU_iff]
@[simp] theorem eqU_refl (l : List UInt8) : eqU l l = true := eqU_iff.2 rfl
theorem baLoop_eq (bs : ByteArray) : ∀ (k i : Nat) (r : List UInt8), k + i = bs.size → ByteArray.toList.loop bs i r = r.reverse ++ bs.data.toList.drop i := by
  intro k
  induction k with
  | zero =>
    intro i r h
    unfold ByteArray.toList.loop
    rw [if_neg (by omega)]
    have : bs.data.toList.length = bs.size := by simp
    rw [List.drop_of_length_le (by omega)]
    simp
  | succ k ih =>
    intro i r h
    unfold ByteArray.toList.loop
    rw [if_pos (by omega), ih (i + 1) _ (by omega)]
    have hl : i < bs.data.toList.length := by simp; omega
    rw [List.drop_eq_getElem_cons hl]
    have : bs.get! i = bs.data.toList[i] := by
      simp [ByteArray.get!]
      exact getElem!_pos _ _ (by simpa using hl)
    simp [this]
theorem baList_eq (bs : ByteArray) : bs.toList = bs.data.toList := by
  unfold ByteArray.toList
  rw [baLoop_eq bs bs.size 0 [] (by omega)]
  simp
theorem ba_beq (x y : ByteArray) : (x == y) = (x.data == y.data) := by
  cases x; cases y; rfl
theorem eqU_beq (x y : ByteArray) : eqU x.data.toList y.data.toList = (x == y) := by
  rw [ba_beq, Bool.eq_iff_iff, eqU_iff, beq_iff_eq, Array.toList_inj]
theorem ba_toList (x y : ByteArray) : (x.toList == y.toList) = (x == y) := by
  rw [← eqU_beq, baList_eq, baList_eq, Bool.eq_iff_iff, eqU_iff]
  simp
theorem SS.eq_v (a b : SS) : (a.eq b).v = (a.v == b.v) := by
  cases a <;> cases b <;> first | rfl | exact eqU_beq _ _
theorem SS.len_v (a : SS) : a.len.v = a.v.size := by cases a <;> rfl
/- A value out of a list. -/
theorem fixS_sel {R : Type} {v : AV} {K : AV → Tree R} {r : R} (h : (fixS v K).sel = some r) : ∃ v', (K v').sel = some r ∧ ∀ E, den E v' = den E v := by
  unfold fixS at h
  split at h
  · rename_i b k hd
    cases b with
    | true => exact ⟨.sl k, h, fun E => rfl⟩
    | false => cases h
  · exact ⟨v, h, fun E => rfl⟩
theorem fixC_sel {R : Type} : ∀ {l : List AV} {K : List AV → Tree R} {r : R}, (fixC l K).sel = some r → ∃ l', (K l').sel = some r ∧ ∀ E, denL E l' = denL E l
  | [], K, r, h => ⟨[], h, fun E => rfl⟩
  | v :: l, K, r, h => by
    obtain ⟨v', h1, h2⟩ := fixS_sel h
    obtain ⟨l', h3, h4⟩ := fixC_sel h1
    exact ⟨v' :: l', h3, fun E => by simp only [denL, h2 E, h4 E]⟩
theorem fixA_sel {R : Type} {v : AV} {K : AV → Tree R} {r : R} (h : (fixA v K).sel = some r) : ∃ v', (K v').sel = some r ∧ ∀ E, den E v' = den E v := by
  unfold fixA at h
  split at h
  · obtain ⟨l', h1, h2⟩ := fixC_sel h
    exact ⟨.agg l', h1, fun E => by simp only [den, h2 E]⟩
  · exact fixS_sel h

theorem need_sel {R : Type} {b : SB} {t : Tree R} {r : R} (h : (Tree.need b t).sel = some r) : b.v = true ∧ t.sel = some r := by
  rcases b with (_ | _) | b
  · cases h
  · exact ⟨rfl, h⟩
  · cases b
    · cases h
    · exact ⟨rfl, h⟩
theorem ofOpt_sel {R S : Type} {w : String} {x : Option R} {f : R → Tree S} {r : S} (h : (Tree.ofOpt w x f).sel = some r) : ∃ y, x = some y ∧ (f y).sel = some r := by
  cases x with
  | none => cases h
  | some y => exact ⟨y, rfl, h⟩
theorem bind_sel {R S : Type} (t : Tree R) (f : R → Tree S) : (t.bind f).sel = t.sel.bind fun r => (f r).sel := by
  induction t with
  | leaf r => rfl
  | ite b t e iht ihe => cases b <;> simp [Tree.bind, Tree.sel, iht, ihe]
  | must b t iht => cases b <;> simp [Tree.bind, Tree.sel, iht]
  | defI x k ih => exact ih x
  | defB x k ih => exact ih x
  | defE x k ih => exact ih x
  | fail w => rfl
theorem nway_sel {R : Type} {i : Int} {f : Nat → Tree R} {r : R} : ∀ {n : Nat} {e : Tree R}, (nway i f n e).sel = some r → (∃ j, j < n ∧ i = (j : Int) ∧ (f j).sel = some r) ∨ e.sel = some r
  | 0, e, h => .inr h
  | n + 1, e, h => by
    rcases nway_sel (n := n) h with ⟨j, h1, h2, h3⟩ | h1
    · exact .inl ⟨j, by omega, h2, h3⟩
    · by_cases hi : i = (n : Int)
      · simp only [Tree.sel, hi, decide_true] at h1
        exact .inl ⟨n, by omega, hi, h1⟩
      · simp only [Tree.sel, hi, decide_false] at h1
        exact .inr h1
theorem atPlace_sel {R : Type} {i : SI} {n : Nat} {f : Nat → Tree R} {r : R} (h : (atPlace i n f).sel = some r) : ∃ j, j < n ∧ i.v = (j : Int) ∧ (f j).sel = some r := by
  cases i with
  | lit x =>
    simp only [atPlace] at h
    split at h
    · rename_i hd
      have hd := of_decide_eq_true hd
      exact ⟨x.toNat, by omega, by simp [SI.v]; omega, h⟩
    · cases h
  | sym x =>
    rcases nway_sel h with h | h
    · exact h
    · cases h

/- What an operation comes to. -/
def nextV : Next → Option Value
  | .value v => some v
  | .skip => some undef
  | _ => none
def Done (A : Nat → Prop) (E : Env) (lk : Look) (w : World) (A' : Nat → Prop) (v : AV) (lk' : Look) (r : Result Next) : Prop :=
  ∃ nx w' E1 val, r = .ok nx w' ∧ nextV nx = some val ∧ (∀ E', Agree A' E1 E' → val = den E' v) ∧ RelU A' E1 lk' w' ∧ Ext A E lk w E1 lk' w'
def plus (A : Nat → Prop) (key : Nat) : Nat → Prop := fun k => A k ∨ (key ≤ k ∧ k < key + 2)

theorem Done.pure {A : Nat → Prop} {E : Env} {lk : Look} {w : World} {key : Nat} {v : AV} {val : Value} (hU : RelU A E lk w)
    (hv : ∀ E', Agree A E E' → val = den E' v) {nx : Next} (hn : nextV nx = some val) : Done A E lk w (plus A key) v (hupd lk []) (.ok nx w) :=
  ⟨nx, w, E, val, rfl, hn, fun E' h' => hv E' (h'.mono fun _ h => .inl h), hU.move (Agree.refl A E) (fun _ h => .inl h), Ext.refl A E lk w⟩

theorem vrun {s : Sem Value} {w w' : World} {val : Value} (h : s.run P w = .ok val w') : (do Pure.pure (Next.value (← s)) : Sem Next).run P w = .ok (.value val) w' := by
  simp only [Sem.run_bind, h, Result.andThen_ok, Sem.run_pure]

/-- Environments: one key more. -/
def Env.put (E : Env) (k : Nat) (b : Nat) (hd : Option Addr × Nat × Nat) (f : List Nat) : Env :=
  ⟨fun j => if j = k then b else E.blk j, fun j => if j = k then hd else E.hdr j, fun j => if j = k then f else E.fp j⟩
theorem Env.put_agree {A : Nat → Prop} (E : Env) {k : Nat} (hk : ¬ A k) (b : Nat) (hd : Option Addr × Nat × Nat) (f : List Nat) : Agree A E (E.put k b hd f) := fun j hj => by
  have : j ≠ k := fun e => hk (e ▸ hj)
  simp [Env.put, this]

/-- A new block of cells. -/
theorem newBox {A : Nat → Prop} {E : Env} {lk : Look} {w : World} {key : Nat} {cs : List AV} (hU : RelU A E lk w) (hk : ∀ k, key ≤ k → k < key + 2 → ¬ A k) (hs : allScalar cs = true)
    (C : Array Value) (hC : ∀ E', Agree A E E' → C = (denL E' cs).toArray) (ty : TypeId) :
    Done A E lk w (plus A key) (.ptr key 0) (hupd lk [(key, some (.box cs))]) (.ok (.value (.pointer (some ⟨w.heap.size, 0, none⟩))) { w with heap := w.heap.push (.cells C ty) }) := by
  have hnk : ¬ A key := hk key (Nat.le_refl _) (by omega)
  have hE : Agree A E (E.put key w.heap.size (none, 0, 0) [w.heap.size]) := E.put_agree hnk _ _ _
  refine ⟨_, _, E.put key w.heap.size (none, 0, 0) [w.heap.size], .pointer (some ⟨w.heap.size, 0, none⟩), rfl, rfl, fun E' h' => ?_, ?_⟩
  · have := (h' key (.inr ⟨Nat.le_refl _, by omega⟩)).1
    simp only [den, this, Env.put, if_true]
  have lkN : ∀ k, hupd lk [(key, some (.box cs))] k = if k = key then some (.box cs) else lk k := by
    intro k
    simp only [hupd, wget]
    by_cases hkk : k = key
    · subst hkk; simp
    · have : Nat.beq key k = false := by
        cases hb : Nat.beq key k
        · rfl
        · exact absurd (Nat.eq_of_beq_eq_true hb).symm hkk
      simp [this, hkk]
  have hold : ∀ b, b < w.heap.size → (w.heap.push (.cells C ty))[b]? = w.heap[b]? := fun b hb => by
    rw [Array.getElem?_push, if_neg (by omega)]
  have hkn : lk key = none := by
    cases hl : lk key with
    | none => rfl
    | some o => exact absurd (hU.dom key o hl) hnk
  refine RelU.step (fun k => k = key) hU (fun _ h => .inl h) hE rfl rfl rfl (by simp) ?_ ?_ ?_ ?_ ?_ ?_ ?_ ?_ ?_ ?_
  · intro k o ho hn; rw [lkN, if_neg hn] at ho; exact ho
  · intro k o ho hn; subst hn; exact .inr ⟨Nat.le_refl _, by omega⟩
  · intro k len sz rows g ho hn; subst hn; rw [lkN, if_pos rfl] at ho; cases ho
  · intro E' h' k o ho hn
    subst hn
    rw [lkN, if_pos rfl] at ho
    cases ho
    obtain ⟨e1, _, e3⟩ := h' k (.inr ⟨Nat.le_refl _, by omega⟩)
    simp only [Env.put, if_true] at e1 e3
    refine ⟨by rw [e1, e3], hs, ty, ?_⟩
    rw [e1, ← hC E' (hE.trans h' fun _ h => .inl h)]
    simp
  · intro E' h' k o b ho hn hb
    subst hn
    rw [lkN, if_pos rfl] at ho
    cases ho
    obtain ⟨_, _, e3⟩ := h' k (.inr ⟨Nat.le_refl _, by omega⟩)
    simp only [Env.put, if_true] at e3
    simp only [owns, e3, List.mem_singleton] at hb
    exact .inr (by omega)
  · intro E' h' k o k' o' b _ _ hn hn' hne; exact absurd (hn.trans hn'.symm) hne
  · intro b hb _; exact hold b hb
  · intro k len sz rows g ho hn; subst hn; exact absurd (hU.grp k len sz rows g ho) hnk
  · intro E' h' k len sz rows a ho hn; subst hn; rw [lkN, if_pos rfl] at ho; cases ho
  · intro k hn hA; subst hn; exact absurd hA hnk

end
end Go.Eng
