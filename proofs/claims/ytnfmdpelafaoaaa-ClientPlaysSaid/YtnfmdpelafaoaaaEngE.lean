/- The engine, part E: building, memory, lists; each operation as a whole.
   Conditions: none. -/
import Derived.Test.YtnfmdpelafaoaaaEngD
import Derived.Laws.Tables
import Derived.Great.BuildSlice
set_option linter.unusedSimpArgs false
set_option linter.unusedVariables false
namespace Go.Eng
section
variable {P : Program}

/- Filling a literal. -/
theorem foldl_set (off : Nat) : ∀ (vs : List Value) (i : Nat) (cur : Array Value), off + i + vs.length ≤ cur.size →
    (vs.zipIdx i).foldl (fun cs (x : Value × Nat) => cs.setIfInBounds (off + x.2) x.1) cur = (cur.toList.take (off + i) ++ vs ++ cur.toList.drop (off + i + vs.length)).toArray
  | [], i, cur, _ => by simp
  | v :: rest, i, cur, h => by
    simp only [List.length_cons] at h
    rw [List.zipIdx_cons, List.foldl_cons, foldl_set off rest (i + 1) (cur.setIfInBounds (off + i) v) (by simp; omega)]
    have e := list_seg_step cur.toList (off + i) v rest (by simp; omega)
    congr 1
    simpa [Array.toList_setIfInBounds, Nat.add_assoc] using e

theorem fill_sound (E : Env) (pl pr : Nat → Option (Nat × Nat)) (hpl : ∀ i x, pl i = some x → pr i = some x) : ∀ (parts : List (Nat × AV)) (cells cs : List AV), fillA pl cells parts = some cs →
    Instr.fill pr (denL E cells).toArray (parts.map fun p => (p.1, den E p.2)) = some (denL E cs).toArray ∧ (allScalar cells = true → allScalar cs = true) ∧ cs.length = cells.length
  | [], cells, cs, h => by
    cases h
    exact ⟨rfl, id, rfl⟩
  | (i, v) :: rest, cells, cs, h => by
    simp only [fillA] at h
    split at h
    · cases h
    · rename_i off size hi
      split at h
      · rename_i h1 h2 h3
        have h1 := Nat.eq_of_beq_eq_true h1
        have h2 := Nat.le_of_ble_eq_true h2
        obtain ⟨g1, g2, g3⟩ := fill_sound E pl pr hpl rest _ cs h
        have hc := den_cells E h3
        refine ⟨?_, fun hs => g2 (putCells_scalar hs h3), g3.trans (putCells_length h2)⟩
        simp only [List.map_cons, Instr.fill, hpl i _ hi, hc, List.size_toArray, denL_length, h1]
        rw [if_neg (by simp; omega)]
        rw [← g1]
        congr 1
        rw [putCells_den]
        have := foldl_set off (denL E v.cells) 0 (denL E cells).toArray (by simp [denL_length]; omega)
        rw [← Array.foldl_toList, Array.toList_zipIdx]
        simp only [Nat.add_zero, denL_length] at this
        exact this
      · cases h

theorem places_get : ∀ (fs : List Field) (hall : fs.all (fun f => (tsize P f.type).isSome) = true),
    ∃ places, fs.mapM (fun f => (P.info? f.type).map fun i => (f.offset, i.size)) = some places ∧ ∀ (i : Nat) (x : Nat × Nat), placeOf P fs[i]? = some x → places[i]? = some x
  | [], _ => ⟨[], rfl, fun i x h => by simp [placeOf] at h⟩
  | f :: fs, hall => by
    simp only [List.all_cons, Bool.and_eq_true] at hall
    obtain ⟨places, h1, h2⟩ := places_get fs hall.2
    obtain ⟨n, hn⟩ := Option.isSome_iff_exists.1 hall.1
    obtain ⟨i, hi, rfl⟩ := tsize_info hn
    refine ⟨(f.offset, i.size) :: places, by simp [List.mapM_cons, hi, h1], fun j x hx => ?_⟩
    cases j with
    | zero => simpa [hn, placeOf] using hx
    | succ j => simpa using h2 j x (by simpa using hx)

theorem buildA_sound {t : TypeId} {parts : List (Nat × AV)} {v : AV} (h : buildA P t parts = some v) (E : Env) :
    ∃ cs, v = .agg cs ∧ P.built t (parts.map fun p => (p.1, den E p.2)) = some (denL E cs).toArray := by
  unfold buildA at h
  split at h
  · rename_i z fields hz hu
    obtain ⟨i, zv, hi, hzv, rfl⟩ := tzero_info hz
    split at h
    · rename_i h1 h2
      obtain ⟨cs, hcs, rfl⟩ := Option.map_eq_some_iff.1 h
      obtain ⟨places, h3, h4⟩ := places_get fields.toList h1
      refine ⟨cs, rfl, ?_⟩
      have hc := den_cells E h2
      rw [den_ofV] at hc
      simp only [Program.built, hi, hu, hzv, h3, hc]
      refine (fill_sound E _ _ (fun j x hx => ?_) parts _ cs hcs).1
      unfold placesA at hx
      simpa using h4 j x (by simpa using hx)
    · cases h
  · rename_i z len elem hz hu
    obtain ⟨i, zv, hi, hzv, rfl⟩ := tzero_info hz
    split at h
    · rename_i n h1 h2
      obtain ⟨cs, hcs, rfl⟩ := Option.map_eq_some_iff.1 h
      obtain ⟨ie, hie, rfl⟩ := tsize_info h1
      refine ⟨cs, rfl, ?_⟩
      have hc := den_cells E h2
      rw [den_ofV] at hc
      simp only [Program.built, hi, hu, hzv, hie, hc]
      exact (fill_sound E _ _ (fun j x hx => hx) parts _ cs hcs).1
    · cases h
  · cases h

/- What an operation that writes nothing comes to, for every reading. -/
theorem Done.det {A : Nat → Prop} {E : Env} {lk : Look} {w : World} {key : Nat} {v : AV} {r : Result Next} (hU : RelU A E lk w)
    (h : ∀ E', Agree A E E' → r = .ok (.value (den E' v)) w) : Done A E lk w (plus A key) v (hupd lk []) r := by
  have h0 := h E (Agree.refl A E)
  rw [h0]
  refine Done.pure hU (fun E' h' => ?_) rfl
  have h1 := h E' h'
  rw [h0] at h1
  injection h1 with h1
  injection h1

/- Places of lists. -/
theorem lst_place {E : Env} {lk : Look} {w : World} {k : Nat} {len : SI} {sz : Nat} {rows : Nat → List AV} {g : Option Nat} {i : Int} (hr : lstRel E lk w k len sz rows g) (hg : ∀ g', g = some g' → lk g' = some .tok)
    (h0 : 0 ≤ i) (h1 : i < len.v) : ∃ B off, (E.hdr k).1 = some ⟨B, off, none⟩ ∧ (rows i.toNat).length = sz ∧ ∀ j, j < sz → w.cell? ⟨B, off + i.toNat * sz + j, none⟩ = ((rows i.toNat)[j]?).map (den E) := by
  obtain ⟨ha, hb, hc⟩ := hr
  have hlt : i.toNat < (E.hdr k).2.1 := by omega
  obtain ⟨B, off, e, hB, hrows⟩ := hc (by omega)
  refine ⟨B, off, e, ?_⟩
  cases g with
  | none =>
    obtain ⟨h2, _, h3⟩ := hrows i.toNat hlt
    exact ⟨h2, fun j hj => by rw [Nat.add_assoc]; exact h3 j hj⟩
  | some g =>
    obtain ⟨h4, C, ty, h5, h6, h7⟩ := hrows (hg g rfl)
    obtain ⟨h2, _, h3⟩ := h7 i.toNat hlt
    exact ⟨h2, fun j hj => by rw [Nat.add_assoc, cell_of_row w B _ C ty _ h5]; exact h3 j hj⟩

theorem inB_v {i len : SI} (h : (inB i len).v = true) : 0 ≤ i.v ∧ i.v < len.v := by
  rw [inB, SI.cmp_v] at h
  exact of_decide_eq_true h
theorem liveG_spec {h : Heap} {g : Option Nat} (hl : liveG h g = true) : ∀ g', g = some g' → hget g' h = some .tok := by
  intro g' e
  subst e
  unfold liveG at hl
  simp only at hl
  split at hl
  · assumption
  · cases hl

theorem loadA_sound {t : TypeId} {x v : AV} {h : Heap} {R : List Nat} {W : Heap} (hs : (loadA P t x h).sel = some (.val v R W)) {E : Env} {lk : Look} {w : World} (hr : Rel E lk w) (hR : ∀ k ∈ R, lk k = hget k h) :
    W = [] ∧ (Instr.loadAt t (den E x)).run P w = .ok (den E v) w := by
  unfold loadA at hs
  split at hs
  · rename_i k off
    split at hs
    · rename_i cs hk
      obtain ⟨y, hy, hs⟩ := ofOpt_sel hs
      obtain ⟨rfl, rfl, rfl⟩ := leaf_val hs
      refine ⟨rfl, ?_⟩
      obtain ⟨_, _, ty, hb⟩ := hr.obj k _ ((hR k (by simp)).trans hk)
      have := loadVar_sound (P := P) (E := E) (w := w) (B := E.blk k) (o := 0) hy (fun j hj => by
        rw [cell_of_row w _ _ _ ty _ hb]
        simp [denL_get])
      simp only [Nat.zero_add] at this
      simp [Instr.loadAt, Instr.sureAddr, den, this]
    · cases hs
  · rename_i k i sz off
    split at hs
    · rename_i len sz' rows g hk
      split at hs
      · rename_i h1 h2
        have h1 := Nat.eq_of_beq_eq_true h1
        subst h1
        obtain ⟨hb, hs⟩ := need_sel hs
        obtain ⟨y, hy, hs⟩ := ofOpt_sel hs
        obtain ⟨y', hs, hden⟩ := fixA_sel hs
        obtain ⟨rfl, rfl, rfl⟩ := leaf_val hs
        rw [hden E]
        refine ⟨rfl, ?_⟩
        obtain ⟨hi0, hi1⟩ := inB_v hb
        have hlive : ∀ g', g = some g' → lk g' = some .tok := fun g' e => by
          rw [hR g' (by subst e; simp [keysG])]; exact liveG_spec h2 g' e
        obtain ⟨B, o, e, h3, h4⟩ := lst_place (hr.obj k _ ((hR k (by cases g <;> simp [keysG])).trans hk)) hlive hi0 hi1
        have := loadVar_sound (P := P) (E := E) (w := w) (B := B) (o := o + i.v.toNat * sz) hy (fun j hj => h4 j (by omega))
        simp only [Instr.loadAt, Instr.sureAddr, den, Env.elem, e, Option.getD_some, Sem.run_bind, Sem.run_pure, Result.andThen_ok]
        rw [← Nat.add_assoc]
        exact this
      · cases hs
    · cases hs
  · cases hs

theorem fieldAddrA_sound {s : TypeId} {x v : AV} {f : Nat} {R : List Nat} {W : Heap} (hs : (fieldAddrA P s x f).sel = some (.val v R W)) (E : Env) (w : World) :
    W = [] ∧ (Instr.fieldAt s (den E x) f).run P w = .ok (den E v) w := by
  unfold fieldAddrA at hs
  split at hs
  · rename_i fields hu
    split at hs
    · rename_i fd hf
      split at hs
      · rename_i n hn
        split at hs
        · obtain ⟨rfl, rfl, rfl⟩ := leaf_val hs
          exact ⟨rfl, by simp [Instr.fieldAt, Instr.sureAddr, run_underlying hu, hf, den, fieldPlace, sizeOf_run hn, Addr.add_lit]⟩
        · obtain ⟨rfl, rfl, rfl⟩ := leaf_val hs
          exact ⟨rfl, by simp [Instr.fieldAt, Instr.sureAddr, run_underlying hu, hf, den, fieldPlace, sizeOf_run hn, Addr.add_lit, Env.elem, Nat.add_assoc]⟩
        · cases hs
      · cases hs
    · cases hs
  · cases hs

theorem indexAddrA_sound {t : TypeId} {x i v : AV} {h : Heap} {R : List Nat} {W : Heap} (hs : (indexAddrA P t x i h).sel = some (.val v R W)) {E : Env} {lk : Look} {w : World} (hr : Rel E lk w) (hR : ∀ k ∈ R, lk k = hget k h) :
    W = [] ∧ (Instr.indexAt t (den E x) (den E i)).run P w = .ok (den E v) w := by
  unfold indexAddrA at hs
  split at hs
  · rename_i ki i
    split at hs
    · rename_i len elem hu
      split at hs
      · rename_i n hn
        split at hs
        · rename_i k off
          obtain ⟨j, hj, hij, hs⟩ := atPlace_sel hs
          obtain ⟨rfl, rfl, rfl⟩ := leaf_val hs
          refine ⟨rfl, ?_⟩
          have h1 : (0 : Int) ≤ i.v ∧ i.v < (len : Int) := by omega
          simp [Instr.indexAt, asIntOf, run_underlying hu, den, Instr.sureAddr, h1, sizeOf_run hn, Addr.add_lit, hij, show j < len from hj]
        · cases hs
      · cases hs
    · rename_i elem hu
      split at hs
      · rename_i k n hn
        split at hs
        · rename_i len sz rows g hk
          split at hs
          · rename_i h1
            have h1 := Nat.eq_of_beq_eq_true h1
            subst h1
            obtain ⟨hb, hs⟩ := need_sel hs
            obtain ⟨rfl, rfl, rfl⟩ := leaf_val hs
            refine ⟨rfl, ?_⟩
            obtain ⟨hi0, hi1⟩ := inB_v hb
            obtain ⟨ha, hb', hc⟩ := hr.obj k _ ((hR k (by simp)).trans hk)
            obtain ⟨B, off, e, _⟩ := hc (by omega)
            have h2 : i.v < (((E.hdr k).2.1 : Nat) : Int) := by omega
            simp [Instr.indexAt, asIntOf, run_underlying hu, den, e, hi0, h2, sizeOf_run hn, Addr.add_lit, Env.elem]
          · cases hs
        · cases hs
      · cases hs
    · cases hs
  · cases hs

theorem indexA_sound {t : TypeId} {x i v : AV} {R : List Nat} {W : Heap} (hs : (indexA P t x i).sel = some (.val v R W)) (E : Env) (w : World) :
    W = [] ∧ (Instr.index t (den E x) (den E i)).run P w = .ok (den E v) w := by
  unfold indexA at hs
  split at hs
  · rename_i cs ki i
    split at hs
    · rename_i len elem hu
      split at hs
      · rename_i n hn
        obtain ⟨j, hj, hij, hs⟩ := atPlace_sel hs
        obtain ⟨y, hy, hs⟩ := ofOpt_sel hs
        obtain ⟨rfl, rfl, rfl⟩ := leaf_val hs
        refine ⟨rfl, ?_⟩
        have hp := part_sound hy E w
        simp [Instr.index, asIntOf, run_underlying hu, den, hij, show j < len from hj, sizeOf_run hn, hp]
      · cases hs
    · cases hs
  · cases hs

theorem fieldA_sound {t : TypeId} {x v : AV} {f : Nat} {R : List Nat} {W : Heap} (hs : (fieldA P t x f).sel = some (.val v R W)) (E : Env) (w : World) :
    W = [] ∧ (Instr.field t (den E x) f).run P w = .ok (den E v) w := by
  unfold fieldA at hs
  split at hs
  · rename_i fields cs hu
    split at hs
    · rename_i fd hf
      obtain ⟨y, hy, hs⟩ := ofOpt_sel hs
      obtain ⟨rfl, rfl, rfl⟩ := leaf_val hs
      refine ⟨rfl, ?_⟩
      have hp := part_sound hy E w
      simp [Instr.field, run_underlying hu, hf, den, asAgg, hp]
    · cases hs
  · cases hs

theorem lenK_sound {k : Nat} {v : AV} {h : Heap} {R : List Nat} {W : Heap} (hs : (lenK k h).sel = some (.val v R W)) {E : Env} {lk : Look} {w : World} (hr : Rel E lk w) (hR : ∀ k ∈ R, lk k = hget k h) :
    W = [] ∧ den E v = .int .i64 ((E.hdr k).2.1 : Nat) := by
  unfold lenK at hs
  split at hs
  · rename_i len sz rows g hk
    obtain ⟨rfl, rfl, rfl⟩ := leaf_val hs
    obtain ⟨ha, _, _⟩ := hr.obj k _ ((hR k (by simp)).trans hk)
    exact ⟨rfl, by simp [den, ← ha]⟩
  · cases hs
theorem lenA_sound {t ty : TypeId} {ts : List TypeId} {x v : AV} {h : Heap} {R : List Nat} {W : Heap} (hs : (lenA P t x h).sel = some (.val v R W)) {E : Env} {lk : Look} {w : World} (hr : Rel E lk w) (hR : ∀ k ∈ R, lk k = hget k h) :
    W = [] ∧ (Builtin.len_ (t :: ts).toArray ty #[den E x]).run P w = .ok (den E v) w := by
  unfold lenA at hs
  split at hs
  · rename_i s hu
    obtain ⟨rfl, rfl, rfl⟩ := leaf_val hs
    exact ⟨rfl, by simp [Builtin.len_, run_underlying hu, den, goInt, SS.len_v]⟩
  · rename_i n e hu
    obtain ⟨rfl, rfl, rfl⟩ := leaf_val hs
    exact ⟨rfl, by simp [Builtin.len_, run_underlying hu, den, goInt, SI.v]⟩
  · rename_i e hu
    obtain ⟨rfl, rfl, rfl⟩ := leaf_val hs
    exact ⟨rfl, by simp [Builtin.len_, run_underlying hu, den, goInt, SI.v]⟩
  · rename_i e k hu
    obtain ⟨h1, h2⟩ := lenK_sound hs hr hR
    refine ⟨h1, ?_⟩
    rw [h2]
    simp [Builtin.len_, run_underlying hu, den, goInt]
  · rename_i e k hu
    obtain ⟨h1, h2⟩ := lenK_sound hs hr hR
    refine ⟨h1, ?_⟩
    rw [h2]
    simp [Builtin.len_, run_underlying hu, den, goInt]
  · cases hs

theorem minA_sound (mx : Bool) (less : Int → Int → Bool) (hless : less = if mx then (fun y x => decide (y > x)) else (fun y x => decide (y < x))) (E : Env) (w : World) : ∀ (xs : List AV) (x v : AV), minA less x xs = some v → (∃ k n, x = .int k n) →
    ((xs.map (den E)).foldlM (if mx then Builtin.max2 else Builtin.min2) (den E x)).run P w = .ok (den E v) w
  | [], x, v, h, _ => by simp only [minA, Option.some.injEq] at h; subst h; rfl
  | y :: ys, x, v, h, hx => by
    obtain ⟨k, n, rfl⟩ := hx
    cases y <;> simp only [minA] at h <;> try (cases h; done)
    rename_i k' m
    split at h
    · rename_i hk
      have : k = k' := of_decide_eq_true hk
      subst this
      have ih := minA_sound mx less hless E w ys _ v h ⟨_, _, rfl⟩
      simp only [List.map_cons, List.foldlM_cons, Sem.run_bind]
      have h2 : ((if mx then Builtin.max2 else Builtin.min2) (den E (.int k n)) (den E (.int k m))).run P w = .ok (den E (.int k (SI.bin (fun x y => match less y x with | true => y | false => x) n m))) w := by
        subst hless
        cases mx
        · simp only [Bool.false_eq_true, if_false, den, Builtin.min2, SI.bin_v, Sem.run_pure]
          by_cases hlt : m.v < n.v <;> simp [hlt]
        · simp only [if_true, den, Builtin.max2, SI.bin_v, Sem.run_pure]
          by_cases hlt : m.v > n.v <;> simp [hlt]
      rw [h2]
      exact ih
    · cases h

end
end Go.Eng
