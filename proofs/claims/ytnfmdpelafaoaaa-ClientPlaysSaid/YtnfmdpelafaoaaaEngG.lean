/- The engine, part G: append, slices, slice literals; every operation.
   Conditions: none. -/
import Derived.Test.YtnfmdpelafaoaaaEngF
set_option linter.unusedSimpArgs false
set_option linter.unusedVariables false
namespace Go.Eng
section
variable {P : Program}

theorem oneCells {E : Env} {n : Nat} {rows : Nat → List AV} (h : ∀ i, i < n → allScalar (rows i) = true) : ∀ v ∈ flatRows E n rows, v.oneCell' = true := by
  intro v hv
  simp only [flatRows, List.mem_flatMap, List.mem_range] at hv
  obtain ⟨i, hi, hv⟩ := hv
  rw [denL_map] at hv
  obtain ⟨y, hy, rfl⟩ := List.mem_map.1 hv
  exact den_scalar E ((allScalar_iff _).1 (h i hi) y hy)

theorem ofV_size (v : Value) : (ofV v).cells.length = v.cells.size := by
  unfold ofV
  split
  · simp [AV.cells, Value.cells]
  · rename_i h
    have h1 : v.cells.size = 1 := by
      cases v <;> first | rfl | exact absurd rfl (h _)
    rw [h1]
    unfold ofV0
    split <;> rfl

theorem appendA_sound {t u ty e2 : TypeId} {x y v : AV} {h : Heap} {key : Nat} {R : List Nat} {W : Heap} (hs : (appendA P t x y h key).sel = some (.val v R W)) (hu2 : P.underlying u = some (.slice e2))
    {A : Nat → Prop} {E : Env} {lk : Look} {w : World} (hU : RelU A E lk w) (hk : ∀ k, key ≤ k → k < key + 2 → ¬ A k) (hR : ∀ k ∈ R, lk k = hget k h) (X Y : Value)
    (hX : ∀ E', Agree A E E' → X = den E' x) (hY : ∀ E', Agree A E E' → Y = den E' y) :
    Done A E lk w (plus A key) v (hupd lk W) ((do Pure.pure (Next.value (← Builtin.append_ #[t, u] ty #[X, Y])) : Sem Next).run P w) := by
  unfold appendA at hs
  split at hs
  · rename_i elem hu
    split at hs
    · rename_i n0 by0 z hn hby hz
      split at hs
      · rename_i a c g h1 h2 h3 h4
        have h1 := Nat.eq_of_beq_eq_true h1
        simp only [Lst.with_eq] at hs
        obtain ⟨hsm, hs⟩ := need_sel hs
        obtain ⟨rfl, rfl, rfl⟩ := leaf_val hs
        obtain ⟨i, hi, hisz⟩ := tsize_info hn
        have hby' : i.bytes = by0 := by unfold tbytes at hby; rw [hi] at hby; simpa using hby
        obtain ⟨i', zv, hi', hzv, hzz⟩ := tzero_info hz
        rw [hi] at hi'
        cases hi'
        have hr0 := hU.here
        have hRa : ∀ k ∈ a.R, lk k = hget k h := fun k hk => hR k (by simp [hk])
        have hRc : ∀ k ∈ c.R, lk k = hget k h := fun k hk => hR k (by simp [hk])
        obtain ⟨ax, n, cap, x1, x2, x3, x4, x5, x6, x7⟩ := readL_sound h2 hr0 hRa
        obtain ⟨ay, m, capy, y1, y2, y3, y4, y5, y6, y7⟩ := readL_sound h3 hr0 hRc
        have hX0 := hX E (Agree.refl A E)
        have hY0 := hY E (Agree.refl A E)
        rw [x1] at hX0
        rw [y1] at hY0
        -- the lists' lengths
        have hlen : ((n + m : Nat) : Int) = (addL a.len c.len).v := by rw [addL, SI.bin_v]; omega
        have hnn : a.len.v.toNat = n := by omega
        have hbound : (n + m) * i.bytes ≤ 1099511627776 ∧ n + m ≤ 1099511627776 := by
          rw [smallB, SI.cmp_v] at hsm
          have := of_decide_eq_true hsm
          rw [← hlen, hby'.symm] at this
          exact ⟨by have h9 := this.1; rw [← Int.natCast_mul] at h9; omega, by omega⟩
        -- the cells
        have lx := flatRows_length E (n0 + 1) a.rows n x5
        have ly := flatRows_length E (n0 + 1) c.rows m y5
        have rowsLen : ∀ j, j < n + m → (catRows a.len a.rows c.rows j).length = n0 + 1 ∧ allScalar (catRows a.len a.rows c.rows j) = true := by
          intro j hj
          unfold catRows
          rw [hnn]
          cases hb : Nat.blt j n with
          | true => have := Nat.le_of_ble_eq_true hb; exact ⟨x5 j (by omega), x6 j (by omega)⟩
          | false =>
            have hge : n ≤ j := by
              cases Nat.lt_or_ge j n with
              | inl hlt => have : Nat.blt j n = true := Nat.ble_eq_true_of_le hlt; rw [this] at hb; cases hb
              | inr h => exact h
            exact ⟨y5 (j - n) (by omega), y6 (j - n) (by omega)⟩
        have flat : ∀ E', Agree A E E' → flatRows E' (n + m) (catRows a.len a.rows c.rows) = flatRows E n a.rows ++ flatRows E m c.rows := by
          intro E' h'
          rw [flatRows_cat E' a.len n hnn]
          rw [flat_same h2 hr0 (hU.rel E' h') hRa (by rw [← hX E (Agree.refl A E), ← hX E' h']) x2, flat_same h3 hr0 (hU.rel E' h') hRc (by rw [← hY E (Agree.refl A E), ← hY E' h']) y2]
        -- whose block it is
        have hgrp : (∀ g', g = some g' → A g') ∧ (0 < cap → ∃ g' B off C ety, g = some g' ∧ lk g' = some .tok ∧ ax = some ⟨B, off, none⟩ ∧ E.fp g' = [B] ∧ w.heap[B]? = some (.cells C ety (0, 0)) ∧ off + cap * (n0 + 1) ≤ C.size) := by
          unfold grpOf at h4
          split at h4
          · cases h4
            have : cap = 0 := by simp only [den] at x1; cases x1; rfl
            exact ⟨fun _ e => (by cases e), fun hp => absurd hp (by omega)⟩
          · rename_i k
            split at h4
            · rename_i len sz rows g' hkk
              cases h4
              have hRk : k ∈ a.R ∧ g' ∈ a.R := by
                unfold readL at h2
                simp only [readK] at h2
                rw [hkk] at h2
                simp only at h2
                split at h2
                · cases h2; simp [keysG]
                · cases h2
              have hlk := (hRa k hRk.1).trans hkk
              refine ⟨fun g'' e => (by cases e; exact hU.grp k len sz rows g' hlk), fun hp => ?_⟩
              have hsz : n0 + 1 = sz ∧ liveG h (some g') = true := by
                unfold readL at h2
                simp only [readK] at h2
                rw [hkk] at h2
                simp only at h2
                split at h2
                · rename_i h5 h6
                  exact ⟨Nat.eq_of_beq_eq_true h5, h6⟩
                · cases h2
              have htok := (hRa g' hRk.2).trans (liveG_spec hsz.2 g' rfl)
              simp only [den] at x1
              injection x1 with e1 e2 e3
              obtain ⟨_, _, hc⟩ := hr0.obj k _ hlk
              obtain ⟨B, off, f1, f2, f3⟩ := hc (by omega)
              obtain ⟨f4, C, ety, f5, f6, _⟩ := f3 htok
              exact ⟨g', B, off, C, ety, rfl, htok, by rw [← e1, f1], f4, f5, by rw [← e3, hsz.1]; exact f6⟩
            · cases h4
          · cases h4
        have first0 := fun (W : World) (hW : ∀ a, W.cell? a = w.cell? a) => first_run (P := P) (sz := n0 + 1) (w := W) lx x4 x3 (fun p v hp => by
          obtain ⟨ad, e1, e2⟩ := x7 p v hp
          exact ⟨ad, e1, by rw [hW]; exact e2⟩)
        have first1 := fun (W : World) (hW : ∀ a, W.cell? a = w.cell? a) => first_run (P := P) (sz := n0 + 1) (w := W) ly y4 y3 (fun p v hp => by
          obtain ⟨ad, e1, e2⟩ := y7 p v hp
          exact ⟨ad, e1, by rw [hW]; exact e2⟩)
        rw [hX0, hY0]
        by_cases hroom : n + m ≤ cap
        · by_cases hcap : 0 < cap
          · -- into the block
            obtain ⟨g', B, off, C, ety, rfl, htok, rfl, hfp, hC, hfit⟩ := hgrp.2 hcap
            have hfit' : off + n * (n0 + 1) + (flatRows E m c.rows).length ≤ C.size := by
              rw [ly]
              have := Nat.mul_le_mul_right (n0 + 1) hroom
              rw [Nat.add_mul] at this
              omega
            have hrun := append_room_run (P := P) (ty := ty) hu hu2 hi B off n cap C ety hC ay m capy (flatRows E m c.rows) (by rw [hisz]; exact first1 w (fun _ => rfl)) (oneCells y6) hroom (by rw [hisz]; exact hfit')
            rw [vrun hrun, hisz]
            have hsh := setRow_heap w B C ((C.toList.take (off + n * (n0 + 1)) ++ flatRows E m c.rows ++ C.toList.drop (off + n * (n0 + 1) + (flatRows E m c.rows).length)).toArray) ety _ hC
            refine newList (g := some g') hU hk (n + m) cap _ [B] rfl rfl rfl (by simp [World.setRow]) hlen hroom (.inr ⟨B, _, ety, rfl, hsh⟩) (fun E' h' _ => ?_) (fun b hb => ?_) (fun b hb hn => ?_) hgrp.1
            · refine ⟨B, off, rfl, rfl, _, ety, hsh, ?_, rowsAt_of_flat (fun j hj => (rowsLen j hj).1) (fun j hj => (rowsLen j hj).2) fun p hp => ?_⟩
              · simp only [List.size_toArray, List.length_append, List.length_take, List.length_drop, Array.length_toList]
                omega
              · rw [flat E' h']
                rw [Nat.add_mul] at hp
                simp only [List.getElem?_toArray]
                by_cases hpn : p < n * (n0 + 1)
                · rw [List.append_assoc, List.getElem?_append_left (by simp only [List.length_take, Array.length_toList]; omega), List.getElem?_append_left (by omega), List.getElem?_take, if_pos (by omega)]
                  obtain ⟨v, hv⟩ : ∃ v, (flatRows E n a.rows)[p]? = some v := ⟨_, List.getElem?_eq_getElem (by omega)⟩
                  obtain ⟨ad, e1, e2⟩ := x7 p v hv
                  cases e1
                  rw [Addr.add_lit, cell_of_row w B _ C ety _ hC] at e2
                  rw [hv, ← e2]
                  simp
                · rw [List.append_assoc, List.getElem?_append_right (by simp only [List.length_take, Array.length_toList]; omega), List.getElem?_append_left (by simp only [List.length_take, Array.length_toList]; omega), List.getElem?_append_right (by omega)]
                  congr 1
                  simp only [List.length_take, Array.length_toList]
                  omega
            · rw [List.mem_singleton] at hb
              subst hb
              exact .inl ⟨g', rfl, htok, by simp [hfp]⟩
            · exact setRow_other w B b _ (by simpa using hn)
          · -- nothing onto nothing
            have hn0 : n = 0 := by omega
            have hm0 : m = 0 := by omega
            subst hn0; subst hm0
            have hnil : flatRows E 0 c.rows = [] := by simp [flatRows]
            have hrun := append_void_run (P := P) (ty := ty) hu hu2 hi ax ay cap capy (by rw [hisz]; have := first1 w (fun _ => rfl); rw [hnil] at this; exact this)
            rw [vrun hrun]
            exact newList hU hk 0 cap _ [] rfl rfl rfl (Nat.le_refl _) hlen (by omega) (.inl rfl) (fun E' h' hp => absurd hp hcap) (fun b hb => by cases hb) (fun _ _ _ => rfl) hgrp.1
        · -- a new block
          have hrun := append_grow_run (P := P) (ty := ty) hu hu2 hi hzv ax ay n cap m capy (flatRows E n a.rows) (flatRows E m c.rows) (by rw [hisz]; exact first0 w.drew (fun _ => rfl)) (by rw [hisz]; exact first1 w.drew (fun _ => rfl)) (by omega) (by omega) (growslice_fits (by omega) (by omega))
          rw [vrun hrun]
          have hge := grownCap_ge w (n + m) cap elem
          refine newList hU hk (n + m) _ _ [w.heap.size] rfl rfl rfl (by simp [World.alloc]) hlen hge (.inr ⟨w.heap.size, _, elem, rfl, heap_alloc_new w.drew _⟩) (fun E' h' _ => ?_) (fun b hb => ?_) (fun b hb _ => ?_) hgrp.1
          · refine ⟨w.heap.size, 0, rfl, rfl, _, elem, heap_alloc_new w.drew _, ?_, rowsAt_of_flat (fun j hj => (rowsLen j hj).1) (fun j hj => (rowsLen j hj).2) fun p hp => ?_⟩
            · have hzs : zv.cells.size = n0 + 1 := by
                rw [← ofV_size, ← hzz]; exact h1
              simp only [Array.size_append, List.size_toArray, lx, ly, size_zeroCells, hzs]
              have := Nat.mul_le_mul_right (n0 + 1) hge
              rw [Nat.sub_mul, Nat.zero_add, ← Nat.add_mul]
              omega
            · rw [flat E' h']
              rw [Nat.add_mul] at hp
              rw [Nat.zero_add, Array.getElem?_append_left (by simp; omega)]
              simp
          · rw [List.mem_singleton] at hb
            exact .inr (by omega)
          · show (w.drew.heap.push _)[b]? = _
            rw [Array.getElem?_push, if_neg (by show b ≠ w.heap.size; omega)]
            rfl
      · cases hs
    · cases hs
  · cases hs

theorem newAlias {A : Nat → Prop} {E : Env} {lk : Look} {w : World} {key k : Nat} {len : SI} {sz : Nat} {rows : Nat → List AV} {g : Option Nat} (hU : RelU A E lk w) (hk : ∀ k, key ≤ k → k < key + 2 → ¬ A k)
    (hl : lk k = some (.lst len sz rows g)) (l m : SI) (l' m' cap : Nat) (hl0 : (l' : Int) = l.v) (hm0 : (m' : Int) = m.v) (hlm : l' ≤ m') (hmn : m' ≤ (E.hdr k).2.1) (hcap : (E.hdr k).2.2 = cap) :
    Done A E lk w (plus A key) (.sl key) (hupd lk [(key, some (.lst (subL m l) sz (dropRows l rows) g))])
      (.ok (.value (.slice (if cap = l' then (E.hdr k).1 else (E.hdr k).1.map (·.add (l' * sz))) (m' - l') (cap - l'))) w) := by
  have hnk : ¬ A key := hk key (Nat.le_refl _) (by omega)
  have hAk := hU.dom k _ hl
  let hd : Option Addr × Nat × Nat := (if cap = l' then (E.hdr k).1 else (E.hdr k).1.map (·.add (l' * sz)), m' - l', cap - l')
  have hE : Agree A E (E.put key 0 hd []) := E.put_agree hnk _ _ _
  have in0 : plus A key key := .inr ⟨Nat.le_refl _, by omega⟩
  have hd1 : ∀ {E'}, Agree (plus A key) (E.put key 0 hd []) E' → E'.hdr key = hd := fun h' => by
    rw [(h' key in0).2.1]; simp [Env.put]
  have hdk : ∀ {E'}, Agree (plus A key) (E.put key 0 hd []) E' → E'.hdr k = E.hdr k := fun h' => ((hE.trans h' fun _ h => .inl h) k hAk).2.1
  have hle : l' ≤ cap := by
    have := (hU.here.obj k _ hl).2.1
    omega
  refine ⟨_, _, E.put key 0 hd [], .slice hd.1 hd.2.1 hd.2.2, rfl, rfl, fun E' h' => ?_, ?_⟩
  · simp only [den, hd1 h']
  refine RelU.step (fun j => j = key) hU (fun _ h => .inl h) hE rfl rfl rfl (Nat.le_refl _) ?_ ?_ ?_ ?_ ?_ ?_ ?_ ?_ ?_ ?_
  · intro j o ho hn; rw [hupd_one, if_neg hn] at ho; exact ho
  · intro j o ho hn; subst hn; exact in0
  · intro j len' sz' rows' g' ho hn
    subst hn
    rw [hupd_one, if_pos rfl] at ho
    cases ho
    exact .inl (hU.grp k _ _ _ g' hl)
  · intro E' h' j o ho hn
    subst hn
    rw [hupd_one, if_pos rfl] at ho
    cases ho
    have hr := (hU.rel E' (hE.trans h' fun _ h => .inl h)).obj k _ hl
    obtain ⟨a1, a2, a3⟩ := hr
    rw [hdk h'] at a1 a2 a3
    rw [hcap] at a2 a3
    refine ⟨?_, ?_, fun hp => ?_⟩
    · rw [hd1 h', subL, SI.bin_v]; show ((m' - l' : Nat) : Int) = _; omega
    · rw [hd1 h']; show m' - l' ≤ cap - l'; omega
    · rw [hd1 h'] at hp ⊢
      have hp : 0 < cap - l' := hp
      obtain ⟨B, off, e, hB, hrows⟩ := a3 (by omega)
      refine ⟨B, off + l' * sz, ?_, hB, ?_⟩
      · show (if cap = l' then (E.hdr k).1 else (E.hdr k).1.map (·.add (l' * sz))) = _
        rw [if_neg (by omega), e]
        simp [Addr.add_lit]
      · have hlv : l.v.toNat = l' := by omega
        cases g with
        | none =>
          show RowsAt E' _ (off + l' * sz) sz (m' - l') (dropRows l rows)
          intro i hi
          obtain ⟨b1, b2, b3⟩ := hrows (l' + i) (by omega)
          simp only [dropRows, hlv]
          refine ⟨b1, b2, fun j hj => ?_⟩
          rw [← b3 j hj, show off + l' * sz + (i * sz + j) = off + ((l' + i) * sz + j) by rw [Nat.add_mul]; omega]
        | some g =>
          intro ht
          have hgk : g ≠ j := fun e => hnk (e ▸ hU.grp k _ _ _ g hl)
          have hg : lk g = some .tok := by
            rw [hupd_one, if_neg hgk] at ht; exact ht
          obtain ⟨b1, C, ty, b2, b3, b4⟩ := hrows hg
          refine ⟨b1, C, ty, b2, ?_, ?_⟩
          · show off + l' * sz + (cap - l') * sz ≤ C.size
            rw [Nat.add_assoc, ← Nat.add_mul, Nat.add_sub_cancel' hle]
            exact b3
          · show RowsAt E' _ (off + l' * sz) sz (m' - l') (dropRows l rows)
            intro i hi
            obtain ⟨c1, c2, c3⟩ := b4 (l' + i) (by omega)
            simp only [dropRows, hlv]
            refine ⟨c1, c2, fun j hj => ?_⟩
            rw [← c3 j hj, show off + l' * sz + (i * sz + j) = off + ((l' + i) * sz + j) by rw [Nat.add_mul]; omega]
  · intro E' h' j o b ho hn hb
    subst hn
    rw [hupd_one, if_pos rfl] at ho
    cases ho
    exact hb.elim
  · intro E' h' j o j' o' b _ _ hn hn' hne; exact absurd (hn.trans hn'.symm) hne
  · intro b hb _; rfl
  · intro j len' sz' rows' g' ho hn; subst hn; exact absurd (hU.grp j len' sz' rows' g' ho) hnk
  · intro E' h' j len' sz' rows' a ho hn hc ha
    subst hn
    rw [hupd_one, if_pos rfl] at ho
    injection ho with ho
    injection ho with _ _ _ ho
    subst ho
    rw [hd1 h'] at hc ha
    have hc : 0 < cap - l' := hc
    have ha : (if cap = l' then (E.hdr k).1 else (E.hdr k).1.map (·.add (l' * sz))) = some a := ha
    rw [if_neg (by omega)] at ha
    have hr := (hU.rel E' (hE.trans h' fun _ h => .inl h)).obj k _ hl
    obtain ⟨_, _, a3⟩ := hr
    rw [hdk h'] at a3
    rw [hcap] at a3
    obtain ⟨B, off, e, hB, _⟩ := a3 (by omega)
    rw [e] at ha
    simp only [Option.map_some, Addr.add_lit, Option.some.injEq] at ha
    refine ⟨k, len, sz, rows, ⟨B, off, none⟩, hl, by rw [hdk h', hcap]; omega, by rw [hdk h', e], by rw [← ha]⟩
  · intro j hn hA; subst hn; exact absurd hA hnk

theorem bounds_run {E : Env} {w : World} {lo hi : Option AV} {l m d : SI} (n cap : Nat) (hl : boundA (.lit 0) lo = some l) (hm : boundA d hi = some m) (hd : (n : Int) = d.v) (h0 : 0 ≤ l.v) (h1 : l.v ≤ m.v) (h2 : m.v ≤ (n : Int)) (hc : n ≤ cap) :
    (Instr.sliceBounds true n cap (lo.map (den E)) (hi.map (den E)) none).run P w = .ok (l.v.toNat, m.v.toNat, cap) w := by
  have c1 : 0 ≤ m.v ∧ m.v ≤ (cap : Int) := by omega
  have c2 : 0 ≤ l.v ∧ l.v ≤ ((m.v.toNat : Nat) : Int) := by omega
  cases hi with
  | none =>
    simp only [boundA, Option.some.injEq] at hm
    subst hm
    have hn : d.v.toNat = n := by omega
    rw [hn] at c2 ⊢
    cases lo with
    | none =>
      simp only [boundA, Option.some.injEq] at hl
      subst hl
      simp only [Instr.sliceBounds, Option.map_none, Sem.run_bind, Sem.run_pure, Result.andThen_ok, SI.v]
      rfl
    | some v =>
      cases v <;> simp only [boundA] at hl <;> try (cases hl; done)
      cases hl
      simp only [Instr.sliceBounds, Instr.sliceBound, asIntOf, den, Option.map_none, Option.map_some, Sem.run_bind, Sem.run_pure, Result.andThen_ok]
      rw [if_pos c2]
      rfl
  | some v =>
    cases v <;> simp only [boundA] at hm <;> try (cases hm; done)
    cases hm
    cases lo with
    | none =>
      simp only [boundA, Option.some.injEq] at hl
      subst hl
      simp only [Instr.sliceBounds, Instr.sliceBound, asIntOf, den, Option.map_none, Option.map_some, Sem.run_bind, Sem.run_pure, Result.andThen_ok]
      rw [if_pos c1]
      rfl
    | some v =>
      cases v <;> simp only [boundA] at hl <;> try (cases hl; done)
      cases hl
      simp only [Instr.sliceBounds, Instr.sliceBound, asIntOf, den, Option.map_none, Option.map_some, Sem.run_bind, Sem.run_pure, Result.andThen_ok]
      rw [if_pos c1]
      simp only [Sem.run_pure, Result.andThen_ok]
      rw [if_pos c2]
      rfl

theorem sliceA_sound {t : TypeId} {x v : AV} {lo hi : Option AV} {h : Heap} {key : Nat} {R : List Nat} {W : Heap} (hs : (sliceA P t x lo hi h key).sel = some (.val v R W))
    {A : Nat → Prop} {E : Env} {lk : Look} {w : World} (hU : RelU A E lk w) (hk : ∀ k, key ≤ k → k < key + 2 → ¬ A k) (hR : ∀ k ∈ R, lk k = hget k h) (X : Value) (LO HI : Option Value)
    (hX : ∀ E', Agree A E E' → X = den E' x) (hLO : ∀ E', Agree A E E' → LO = lo.map (den E')) (hHI : ∀ E', Agree A E E' → HI = hi.map (den E')) :
    Done A E lk w (plus A key) v (hupd lk W) ((do Pure.pure (Next.value (← Instr.sliceAt t X LO HI none)) : Sem Next).run P w) := by
  unfold sliceA at hs
  rw [hX E (Agree.refl A E), hLO E (Agree.refl A E), hHI E (Agree.refl A E)]
  split at hs
  · rename_i elem hu
    split at hs
    · rename_i n k hn
      split at hs
      · rename_i len sz rows g hkk
        split at hs
        · rename_i l m h1 h2 h3
          simp only [Bool.and_eq_true] at h1
          have hnsz := Nat.eq_of_beq_eq_true h1.1
          subst hnsz
          obtain ⟨c1, hs⟩ := need_sel hs
          obtain ⟨c2, hs⟩ := need_sel hs
          rw [SI.cmp_v] at c1 c2
          have c1 := of_decide_eq_true c1
          have c2 := of_decide_eq_true c2
          obtain ⟨rfl, rfl, rfl⟩ := leaf_val hs
          have hl := (hR k (by cases g <;> simp [keysG])).trans hkk
          obtain ⟨a1, a2, _⟩ := hU.here.obj k _ hl
          have hb := bounds_run (P := P) (E := E) (w := w) (E.hdr k).2.1 (E.hdr k).2.2 h2 h3 a1 c1.1 c1.2 (by omega) a2
          have hrun : (Instr.sliceAt t (den E (.sl k)) (lo.map (den E)) (hi.map (den E)) none).run P w =
              .ok (.slice (if (E.hdr k).2.2 = l.v.toNat then (E.hdr k).1 else (E.hdr k).1.map (·.add (l.v.toNat * n))) (m.v.toNat - l.v.toNat) ((E.hdr k).2.2 - l.v.toNat)) w := by
            simp only [Instr.sliceAt, Sem.run_bind, run_underlying hu, Result.andThen_ok, Instr.slice, den, hb, sizeOf_run hn, Sem.run_pure]
          rw [vrun hrun]
          exact newAlias hU hk hl l m l.v.toNat m.v.toNat _ (by omega) (by omega) (by omega) (by omega) rfl
        · cases hs
      · cases hs
    · rename_i n hn
      split at hs
      · rename_i h2 h3
        obtain ⟨rfl, rfl, rfl⟩ := leaf_val hs
        have hb : ∀ E' : Env, (Instr.sliceAt t (den E' .nils) (lo.map (den E')) (hi.map (den E')) none).run P w = .ok (den E' .nils) w := by
          intro E'
          have hb := bounds_run (P := P) (E := E') (w := w) (d := .lit 0) 0 0 h2 h3 rfl (by simp [SI.v]) (by simp [SI.v]) (by simp [SI.v]) (Nat.le_refl _)
          simp only [Instr.sliceAt, Sem.run_bind, run_underlying hu, Result.andThen_ok, Instr.slice, den, hb, sizeOf_run hn, Sem.run_pure]
          simp [SI.v]
        rw [vrun (hb E)]
        exact Done.pure hU (fun E' h' => rfl) rfl
      · cases hs
    · cases hs
  · cases hs

theorem sliceZA_sound {t : TypeId} {x v hi mx : AV} {lo : Option AV} {h : Heap} {key : Nat} {R : List Nat} {W : Heap} (hs : (sliceZA P t x lo hi mx h key).sel = some (.val v R W))
    {A : Nat → Prop} {E : Env} {lk : Look} {w : World} (hU : RelU A E lk w) (hk : ∀ k, key ≤ k → k < key + 2 → ¬ A k) (hR : ∀ k ∈ R, lk k = hget k h) (X HI MX : Value) (LO : Option Value)
    (hX : ∀ E', Agree A E E' → X = den E' x) (hLO : ∀ E', Agree A E E' → LO = lo.map (den E')) (hHI : ∀ E', Agree A E E' → HI = den E' hi) (hMX : ∀ E', Agree A E E' → MX = den E' mx) :
    Done A E lk w (plus A key) v (hupd lk W) ((do Pure.pure (Next.value (← Instr.sliceAt t X LO (some HI) (some MX))) : Sem Next).run P w) := by
  unfold sliceZA at hs
  rw [hX E (Agree.refl A E), hLO E (Agree.refl A E), hHI E (Agree.refl A E), hMX E (Agree.refl A E)]
  split at hs
  · rename_i elem hu
    split at hs
    · rename_i n k1 k2 hn hl
      have hb : ∀ len cap : Nat, (Instr.sliceBounds true len cap (lo.map (den E)) (some (.int k1 0)) (some (.int k2 0))).run P w = .ok (0, 0, 0) w := by
        intro len cap
        have c0 : (0 : Int) ≤ 0 ∧ (0 : Int) ≤ (cap : Int) := ⟨Int.le_refl _, Int.natCast_nonneg _⟩
        have c1 : (0 : Int) ≤ 0 ∧ (0 : Int) ≤ (((0 : Int).toNat : Nat) : Int) := ⟨Int.le_refl _, Int.le_refl _⟩
        cases lo with
        | none =>
          simp only [Instr.sliceBounds, Instr.sliceBound, asIntOf, Option.map_none, Sem.run_bind, Sem.run_pure, Result.andThen_ok]
          rw [if_pos c0]
          simp only [Sem.run_pure, Result.andThen_ok]
          rw [if_pos c1]
          rfl
        | some v =>
          cases v <;> simp only [boundA] at hl <;> try (cases hl; done)
          cases hl
          simp only [Instr.sliceBounds, Instr.sliceBound, asIntOf, den, SI.v, Option.map_some, Sem.run_bind, Sem.run_pure, Result.andThen_ok]
          rw [if_pos c0]
          simp only [Sem.run_pure, Result.andThen_ok]
          rw [if_pos c1]
          simp only [Sem.run_pure, Result.andThen_ok]
          rw [if_pos c1]
          rfl
      split at hs
      · obtain ⟨rfl, rfl, rfl⟩ := leaf_val hs
        have hrun : (Instr.sliceAt t (den E .nils) (lo.map (den E)) (some (den E (.int k1 (.lit 0)))) (some (den E (.int k2 (.lit 0))))).run P w = .ok (den E .nils) w := by
          have hb := hb 0 0
          simp only [Instr.sliceAt, Sem.run_bind, run_underlying hu, Result.andThen_ok, Instr.slice, den, SI.v, hb, sizeOf_run hn, Sem.run_pure]
          simp
        rw [vrun hrun]
        exact Done.pure hU (fun E' h' => rfl) rfl
      · rename_i k
        split at hs
        · rename_i len sz rows g hkk
          obtain ⟨rfl, rfl, rfl⟩ := leaf_val hs
          have hrun : (Instr.sliceAt t (den E (.sl k)) (lo.map (den E)) (some (den E (.int k1 (.lit 0)))) (some (den E (.int k2 (.lit 0))))).run P w = .ok (.slice (E.hdr k).1 0 0) w := by
            have hb := hb (E.hdr k).2.1 (E.hdr k).2.2
            simp only [Instr.sliceAt, Sem.run_bind, run_underlying hu, Result.andThen_ok, Instr.slice, den, SI.v, hb, sizeOf_run hn, Sem.run_pure]
            simp
          rw [vrun hrun]
          exact newList (g := none) hU hk 0 0 _ [] rfl rfl rfl (Nat.le_refl _) rfl (Nat.le_refl _) (.inl rfl) (fun E' h' hp => absurd hp (Nat.lt_irrefl 0)) (fun b hb => by cases hb) (fun _ _ _ => rfl) (fun _ e => by cases e)
        · cases hs
      · cases hs
    · cases hs
  · cases hs

/- Slice literals. -/
theorem range_rows (zs : Array Value) (hz : 0 < zs.size) : ∀ len, ((Array.range (len * zs.size)).map (zs[· % zs.size]!)) = (List.replicate len zs.toList).flatten.toArray
  | 0 => by simp
  | len + 1 => by
    have ih := congrArg Array.toList (range_rows zs hz len)
    simp only [Array.toList_map, Array.toList_range] at ih
    apply Array.ext'
    simp only [Array.toList_map, Array.toList_range]
    rw [Nat.add_mul, Nat.one_mul, List.range_add, List.map_append, ih, List.replicate_succ', List.flatten_append]
    congr 1
    simp only [List.flatten_cons, List.flatten_nil, List.append_nil, List.map_map]
    apply List.ext_getElem?
    intro j
    simp only [List.getElem?_map]
    by_cases hj : j < zs.size
    · have hm : (len * zs.size + j) % zs.size = j := by
        rw [Nat.add_comm, Nat.mul_comm, Nat.add_mul_mod_self_left, Nat.mod_eq_of_lt hj]
      simp [List.getElem?_range hj, hm, hj]
    · rw [List.getElem?_eq_none (by simpa using hj), List.getElem?_eq_none (by simpa using hj)]
      rfl

theorem buildSliceA_sound {t : TypeId} {len : Nat} {parts : List (Nat × AV)} {v : AV} {key : Nat} {R : List Nat} {W : Heap} (hs : (buildSliceA P t len parts key).sel = some (.val v R W))
    {A : Nat → Prop} {E : Env} {lk : Look} {w : World} (hU : RelU A E lk w) (hk : ∀ k, key ≤ k → k < key + 2 → ¬ A k) (ps : Array (Nat × Value)) (hps : ∀ E', Agree A E E' → ps.toList = parts.map fun p => (p.1, den E' p.2)) :
    Done A E lk w (plus A key) v (hupd lk W) ((do Pure.pure (Next.value (← Instr.buildSlice t len ps)) : Sem Next).run P w) := by
  unfold buildSliceA at hs
  split at hs
  · rename_i elem hu
    split at hs
    · rename_i n z hn hz
      split at hs
      · rename_i h1 h2 h3
        have h2 := Nat.eq_of_beq_eq_true h2
        have h3 := Nat.le_of_ble_eq_true h3
        split at hs
        · rename_i cs hcs
          rw [forceC_eq] at hs
          obtain ⟨rfl, rfl, rfl⟩ := leaf_val hs
          obtain ⟨i, hi, hisz⟩ := tsize_info hn
          obtain ⟨i', zv, hi', hzv, rfl⟩ := tzero_info hz
          rw [hi] at hi'
          cases hi'
          have hisz : i.size = n + 1 := hisz
          have hzs : zv.cells.size = n + 1 := by rw [← ofV_size]; exact h2
          have hzc : ∀ E' : Env, zv.cells.toList = denL E' (ofV zv).cells := fun E' => by
            have := den_cells E' h1
            rw [den_ofV] at this
            rw [this]
          have hflat : ∀ E' : Env, denL E' (List.replicate len (ofV zv).cells).flatten = (List.replicate len zv.cells.toList).flatten := fun E' => by
            rw [denL_map, List.map_flatten, List.map_replicate, ← denL_map, ← hzc E']
          have hfill : ∀ E', Agree A E E' → Instr.fill (fun i => some (i * (n + 1), n + 1)) (List.replicate len zv.cells.toList).flatten.toArray ps.toList = some (denL E' cs).toArray := fun E' h' => by
            have := (fill_sound E' _ _ (fun j x hx => hx) parts _ cs hcs).1
            rw [hflat E'] at this
            rw [hps E' h']
            exact this
          obtain ⟨_, hsc, hlen⟩ := fill_sound E _ _ (fun j x hx => hx) parts _ cs hcs
          have hall : allScalar (List.replicate len (ofV zv).cells).flatten = true := by
            rw [allScalar_iff]
            intro v hv
            simp only [List.mem_flatten, List.mem_replicate] at hv
            obtain ⟨l, ⟨_, rfl⟩, hv⟩ := hv
            exact (allScalar_iff _).1 h1 v hv
          have hsc := hsc hall
          have hlen : cs.length = len * (n + 1) := by rw [hlen]; simp [h2]
          have h0 := hfill E (Agree.refl A E)
          have hrun : (Instr.buildSlice t len ps).run P w = .ok (.slice (some ⟨w.heap.size, 0, none⟩) len len) (w.alloc (.cells (denL E cs).toArray elem)) := by
            by_cases hpos : len * (n + 1) = 0
            · have hl0 : len = 0 := by
                rcases Nat.mul_eq_zero.1 hpos with h | h
                · exact h
                · omega
              subst hl0
              simp at h0
              simp [Instr.buildSlice, run_underlying hu, sizeOf, typeInfo, hi, hisz, show Array.range 0 = #[] from rfl, h0, newRow]
            · refine run_buildSlice (P := P) w t elem len ps _ i zv hu hi hzv (by rw [hisz]; exact Nat.not_lt.2 h3) (by rw [hisz]; exact hpos) ?_
              rw [hisz, ← hzs, range_rows zv.cells (by omega), hzs]
              exact h0
          rw [vrun hrun]
          refine newList (g := none) hU hk len len _ [w.heap.size] rfl rfl rfl (by simp) rfl (Nat.le_refl _) (.inr ⟨w.heap.size, _, elem, rfl, heap_alloc_new w _⟩) (fun E' h' _ => ?_) (fun b hb => ?_) (fun b hb _ => ?_) (fun _ e => (by cases e))
          · refine ⟨w.heap.size, 0, rfl, rfl, _, elem, heap_alloc_new w _, by simp [denL_length, hlen], fun i hi => ?_⟩
            have hle : (i + 1) * (n + 1) ≤ len * (n + 1) := Nat.mul_le_mul_right (n + 1) hi
            rw [Nat.add_mul, Nat.one_mul] at hle
            refine ⟨by simp [chunk]; omega, ?_, fun j hj => ?_⟩
            · rw [allScalar_iff] at hsc ⊢
              intro v hv
              exact hsc v (List.mem_of_mem_drop (List.mem_of_mem_take hv))
            · have e1 : denL E cs = denL E' cs := by
                have := h0.symm.trans (hfill E' h')
                simpa using this
              rw [e1]
              simp only [Nat.zero_add, List.getElem?_toArray, denL_get, chunk, List.getElem?_take, hj, if_true, List.getElem?_drop]
          · rw [List.mem_singleton] at hb
            exact .inr (by omega)
          · show (w.heap.push _)[b]? = _
            rw [Array.getElem?_push, if_neg (by omega)]
        · cases hs
      · cases hs
    · cases hs
  · cases hs

end
end Go.Eng
