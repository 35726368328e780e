/- The engine, part F: what writes memory: stores, slices, append, slice literals.
   Conditions: none. -/
import Derived.Test.YtnfmdpelafaoaaaEngE
set_option linter.unusedSimpArgs false
set_option linter.unusedVariables false
namespace Go.Eng
section
variable {P : Program}

theorem beq_ne {a b : Nat} (h : a ≠ b) : Nat.beq a b = false := by
  cases hb : Nat.beq a b
  · rfl
  · exact absurd (Nat.eq_of_beq_eq_true hb) h
theorem hupd_one (lk : Look) (k : Nat) (o : Option AObj) (j : Nat) : hupd lk [(k, o)] j = if j = k then o else lk j := by
  simp only [hupd, wget]
  by_cases h : j = k
  · subst h; simp
  · simp [beq_ne (Ne.symm h), h]

theorem storeBox {A : Nat → Prop} {E : Env} {lk : Look} {w : World} {key k : Nat} {cs cs' : List AV} (hU : RelU A E lk w) (hk : lk k = some (.box cs)) (hs : allScalar cs' = true)
    (C : Array Value) (hC : ∀ E', Agree A E E' → C = (denL E' cs').toArray) :
    Done A E lk w (plus A key) (.raw undef) (hupd lk [(k, some (.box cs'))]) (.ok .skip (w.setRow (E.blk k) C)) := by
  refine ⟨_, _, E, undef, rfl, rfl, fun _ _ => rfl, ?_⟩
  have hAk := hU.dom k _ hk
  obtain ⟨e1, _, ty, e2⟩ := hU.here.obj k _ hk
  refine RelU.step (fun j => j = k) hU (fun _ h => .inl h) (Agree.refl A E) rfl rfl rfl (by simp [World.setRow]) ?_ ?_ ?_ ?_ ?_ ?_ ?_ ?_ ?_ ?_
  · intro j o ho hn; rw [hupd_one, if_neg hn] at ho; exact ho
  · intro j o ho hn; subst hn; exact .inl hAk
  · intro j len sz rows g ho hn; subst hn; rw [hupd_one, if_pos rfl] at ho; cases ho
  · intro E' h' j o ho hn
    subst hn
    rw [hupd_one, if_pos rfl] at ho
    cases ho
    have h'' : Agree A E E' := h'.mono fun _ h => .inl h
    obtain ⟨f1, f2, f3⟩ := h'' j hAk
    refine ⟨by rw [f1, f3, e1], hs, ty, ?_⟩
    rw [f1, ← hC E' h'']
    exact setRow_heap w _ _ _ ty _ e2
  · intro E' h' j o b ho hn hb
    subst hn
    rw [hupd_one, if_pos rfl] at ho
    cases ho
    exact .inl ⟨j, _, hk, .inl rfl, hb⟩
  · intro E' h' j o j' o' b _ _ hn hn' hne; exact absurd (hn.trans hn'.symm) hne
  · intro b hb hn
    refine setRow_other w _ _ _ fun e => hn k _ hk (.inl rfl) ?_
    simp [owns, e1, e]
  · intro j len sz rows g ho hn ht; subst hn; rw [hupd_one, if_pos rfl] at ht; cases ht
  · intro E' h' j len sz rows a ho hn; subst hn; rw [hupd_one, if_pos rfl] at ho; cases ho
  · intro j hn hA ht; subst hn; rw [hupd_one, if_pos rfl] at ht; cases ht

theorem storeA_sound {t : TypeId} {x y v : AV} {h : Heap} {R : List Nat} {W : Heap} (hs : (storeA P t x y h).sel = some (.val v R W)) {A : Nat → Prop} {E : Env} {lk : Look} {w : World} {key : Nat} (hU : RelU A E lk w)
    (hR : ∀ k ∈ R, lk k = hget k h) (X Y : Value) (hX : ∀ E', Agree A E E' → X = den E' x) (hY : ∀ E', Agree A E E' → Y = den E' y) :
    Done A E lk w (plus A key) v (hupd lk W) ((do Instr.storeAt t X Y; Pure.pure Next.skip : Sem Next).run P w) := by
  unfold storeA at hs
  split at hs
  · rename_i k off
    split at hs
    · rename_i cs n hk hn
      split at hs
      · rename_i h1 h2 h3
        have h1 := Nat.eq_of_beq_eq_true h1
        have h2 := Nat.le_of_ble_eq_true h2
        obtain ⟨rfl, rfl, rfl⟩ := leaf_val hs
        have hk' := (hR k (by simp)).trans hk
        obtain ⟨e1, e0, ty, e2⟩ := hU.here.obj k _ hk'
        have hrun := storeVar_sound (P := P) (v := y) (E := E) hn e2 h1 h2 h3
        have hX0 := hX E (Agree.refl A E)
        have hY0 := hY E (Agree.refl A E)
        have : (do Instr.storeAt t X Y; Pure.pure Next.skip : Sem Next).run P w = .ok .skip (w.setRow (E.blk k) (denL E (putCells cs off y.cells)).toArray) := by
          rw [hX0, hY0]
          simp only [Instr.storeAt, Instr.sureAddr, den, Sem.run_bind, Sem.run_pure, Result.andThen_ok, hrun]
        rw [this]
        refine storeBox hU hk' (putCells_scalar e0 h3) _ fun E' h' => ?_
        obtain ⟨_, _, ty', e3⟩ := (hU.rel E' h').obj k _ hk'
        rw [(h' k (hU.dom k _ hk')).1, e2] at e3
        have e4 : denL E cs = denL E' cs := by
          injection e3 with e3
          injection e3 with e3
          simpa using e3
        have e5 : denL E y.cells = denL E' y.cells := by
          have := hY0.symm.trans (hY E' h')
          have hc := congrArg Value.cells this
          rw [den_cells E h3, den_cells E' h3] at hc
          simpa using hc
        rw [putCells_den, putCells_den, e4, e5]
      · cases hs
    · cases hs
  · cases hs

/- Lists. -/
def flatRows (E : Env) (n : Nat) (rows : Nat → List AV) : List Value := (List.range n).flatMap fun i => denL E (rows i)
theorem flatRows_succ (E : Env) (n : Nat) (rows : Nat → List AV) : flatRows E (n + 1) rows = flatRows E n rows ++ denL E (rows n) := by
  simp [flatRows, List.range_succ]
theorem flatRows_length (E : Env) (sz : Nat) (rows : Nat → List AV) : ∀ n, (∀ i, i < n → (rows i).length = sz) → (flatRows E n rows).length = n * sz
  | 0, _ => by simp [flatRows]
  | n + 1, h => by
    rw [flatRows_succ, List.length_append, flatRows_length E sz rows n (fun i hi => h i (by omega)), denL_length, h n (by omega), Nat.add_mul, Nat.one_mul]
theorem flatRows_get (E : Env) (sz : Nat) (rows : Nat → List AV) : ∀ n, (∀ i, i < n → (rows i).length = sz) → ∀ i j, i < n → j < sz → (flatRows E n rows)[i * sz + j]? = ((rows i)[j]?).map (den E)
  | 0, _, i, j, hi, _ => absurd hi (by omega)
  | n + 1, h, i, j, hi, hj => by
    have hl := flatRows_length E sz rows n (fun i hi => h i (by omega))
    rw [flatRows_succ]
    by_cases hlt : i < n
    · have : i * sz + j < n * sz := by
        have := Nat.mul_le_mul_right sz (show i + 1 ≤ n by omega)
        rw [Nat.add_mul, Nat.one_mul] at this
        omega
      rw [List.getElem?_append_left (by omega)]
      exact flatRows_get E sz rows n (fun i hi => h i (by omega)) i j hlt hj
    · have : i = n := by omega
      subst this
      rw [List.getElem?_append_right (by omega), hl, show i * sz + j - i * sz = j by omega, denL_get]
theorem flatRows_cat (E : Env) (a : SI) (n : Nat) (hn : a.v.toNat = n) (r s : Nat → List AV) : ∀ m, flatRows E (n + m) (catRows a r s) = flatRows E n r ++ flatRows E m s
  | 0 => by
    simp only [Nat.add_zero, flatRows, List.range_zero, List.flatMap_nil, List.append_nil]
    have : ∀ i ∈ List.range n, denL E (catRows a r s i) = denL E (r i) := fun i hi => by
      have hi := List.mem_range.1 hi
      simp only [catRows, hn]
      rw [show Nat.blt i n = true from by simp [Nat.blt]; omega]
    rw [List.flatMap_def, List.flatMap_def, List.map_congr_left this]
  | m + 1 => by
    rw [← Nat.add_assoc, flatRows_succ, flatRows_cat E a n hn r s m, flatRows_succ, List.append_assoc]
    congr 2
    simp only [catRows, hn]
    rw [show Nat.blt (n + m) n = false from by
      cases hb : Nat.blt (n + m) n with
      | false => rfl
      | true => have := Nat.le_of_ble_eq_true hb; omega]
    rw [Nat.add_sub_cancel_left]

theorem rowsAt_of_flat {E : Env} {get : Nat → Option Value} {off sz n : Nat} {rows : Nat → List AV} (h1 : ∀ i, i < n → (rows i).length = sz) (h2 : ∀ i, i < n → allScalar (rows i) = true)
    (h3 : ∀ p, p < n * sz → get (off + p) = (flatRows E n rows)[p]?) : RowsAt E get off sz n rows := fun i hi =>
  ⟨h1 i hi, h2 i hi, fun j hj => by
    rw [h3 (i * sz + j) (by
      have := Nat.mul_le_mul_right sz (show i + 1 ≤ n by omega)
      rw [Nat.add_mul, Nat.one_mul] at this
      omega), flatRows_get E sz rows n h1 i j hi hj]⟩

/-- What a list that is read comes to. -/
theorem readK_sound {sz k : Nat} {h : Heap} {L : Lst} (hs : readK sz k h = some L) {E : Env} {lk : Look} {w : World} (hr : Rel E lk w) (hR : ∀ k ∈ L.R, lk k = hget k h) :
    ∃ a n cap, den E (.sl k) = .slice a n cap ∧ (n : Int) = L.len.v ∧ n ≤ cap ∧ (a = none → cap = 0) ∧ (∀ i, i < n → (L.rows i).length = sz) ∧ (∀ i, i < n → allScalar (L.rows i) = true) ∧
      (∀ p v, (flatRows E n L.rows)[p]? = some v → ∃ ad, a = some ad ∧ w.cell? (ad.add p) = some v) := by
  unfold readK at hs
  · split at hs
    · rename_i len sz' rows g hk
      split at hs
      · rename_i h1 h2
        have h1 := Nat.eq_of_beq_eq_true h1
        subst h1
        cases hs
        have hlive : ∀ g', g = some g' → lk g' = some .tok := fun g' e => by
          rw [hR g' (by subst e; simp [keysG])]; exact liveG_spec h2 g' e
        have hl := hr.obj k _ ((hR k (by cases g <;> simp [keysG])).trans hk)
        obtain ⟨ha, hb, hc⟩ := hl
        have rowsOk : ∀ i, i < (E.hdr k).2.1 → (rows i).length = sz ∧ allScalar (rows i) = true := by
          intro i hi
          obtain ⟨B, off, e, hB, hrows⟩ := hc (by omega)
          cases g with
          | none => exact ⟨(hrows i hi).1, (hrows i hi).2.1⟩
          | some g =>
            obtain ⟨_, C, ty, _, _, h7⟩ := hrows (hlive g rfl)
            exact ⟨(h7 i hi).1, (h7 i hi).2.1⟩
        by_cases hcap : 0 < (E.hdr k).2.2
        · obtain ⟨B, off, e, hB, hrows⟩ := hc hcap
          refine ⟨(E.hdr k).1, (E.hdr k).2.1, (E.hdr k).2.2, rfl, ha, hb, fun hn => (by rw [e] at hn; cases hn), fun i hi => (rowsOk i hi).1, fun i hi => (rowsOk i hi).2, fun p v hp => ?_⟩
          refine ⟨_, e, ?_⟩
          rw [Addr.add_lit]
          have hlen := flatRows_length E sz rows (E.hdr k).2.1 (fun i hi => (rowsOk i hi).1)
          have hplt : p < (E.hdr k).2.1 * sz := by rw [← hlen]; exact (List.getElem?_eq_some_iff.1 hp).1
          have hsz : 0 < sz := by
            cases sz with
            | zero => simp at hplt
            | succ n => omega
          have hi : p / sz < (E.hdr k).2.1 := Nat.div_lt_of_lt_mul (by rw [Nat.mul_comm]; exact hplt)
          have hj : p % sz < sz := Nat.mod_lt _ hsz
          have hpe : p = p / sz * sz + p % sz := by rw [Nat.mul_comm]; exact (Nat.div_add_mod p sz).symm
          obtain ⟨B', off', e', _, h4⟩ := lst_place (i := ((p / sz : Nat) : Int)) ⟨ha, hb, hc⟩ hlive (Int.natCast_nonneg _) (by rw [← ha]; exact Int.ofNat_lt.2 hi)
          rw [e] at e'
          cases e'
          have h5 := h4 (p % sz) hj
          rw [Int.toNat_natCast, Nat.add_assoc, ← hpe] at h5
          rw [h5, ← flatRows_get E sz rows _ (fun i hi => (rowsOk i hi).1) _ _ hi hj, ← hpe]
          exact hp
        · have hn0 : (E.hdr k).2.1 = 0 := by omega
          refine ⟨(E.hdr k).1, (E.hdr k).2.1, (E.hdr k).2.2, rfl, ha, hb, fun _ => by omega, fun i hi => (rowsOk i hi).1, fun i hi => (rowsOk i hi).2, fun p v hp => ?_⟩
          rw [hn0] at hp
          simp [flatRows] at hp
      · cases hs
    · cases hs
theorem readL_sound {sz : Nat} {x : AV} {h : Heap} {L : Lst} (hs : readL sz x h = some L) {E : Env} {lk : Look} {w : World} (hr : Rel E lk w) (hR : ∀ k ∈ L.R, lk k = hget k h) :
    ∃ a n cap, den E x = .slice a n cap ∧ (n : Int) = L.len.v ∧ n ≤ cap ∧ (a = none → cap = 0) ∧ (∀ i, i < n → (L.rows i).length = sz) ∧ (∀ i, i < n → allScalar (L.rows i) = true) ∧
      (∀ p v, (flatRows E n L.rows)[p]? = some v → ∃ ad, a = some ad ∧ w.cell? (ad.add p) = some v) := by
  unfold readL at hs
  split at hs
  · cases hs
    exact ⟨none, 0, 0, rfl, rfl, Nat.le_refl _, fun _ => rfl, fun i hi => absurd hi (by omega), fun i hi => absurd hi (by omega), fun p v hp => by simp [flatRows] at hp⟩
  · exact readK_sound hs hr hR
  · obtain ⟨a, n, cap, h1, h2, h3, h4, h5, h6, h7⟩ := readK_sound hs hr hR
    simp only [den] at h1
    injection h1 with e1 e2 e3
    subst e2 e3
    refine ⟨_, _, _, rfl, h2, h3, (fun e => by cases e), h5, h6, fun p v hp => ?_⟩
    obtain ⟨ad, g1, g2⟩ := h7 p v hp
    exact ⟨ad, by rw [e1, g1]; rfl, g2⟩
  · cases hs

theorem first_run {sz n cap : Nat} {a : Option Addr} {news : List Value} {w : World} (hl : news.length = n * sz) (h0 : a = none → cap = 0) (hle : n ≤ cap) (h : ∀ p v, news[p]? = some v → ∃ ad, a = some ad ∧ w.cell? (ad.add p) = some v) :
    (Builtin.firstCells sz n (.slice a n cap)).run P w = .ok news.toArray w := by
  cases a with
  | none =>
    have : n = 0 := by have := h0 rfl; omega
    subst this
    have : news = [] := List.eq_nil_of_length_eq_zero (by simpa using hl)
    subst this
    simp [Builtin.firstCells]
  | some ad =>
    exact run_firstCells_some (P := P) w sz n ad n cap news hl fun j v hv => by
      obtain ⟨ad', e, h'⟩ := h j v hv
      cases e
      exact h'


/-- Two lists of cells that stand at one place are one. -/
theorem flat_same {sz : Nat} {x : AV} {h : Heap} {L : Lst} (hs : readL sz x h = some L) {E E' : Env} {lk : Look} {w : World} (hr : Rel E lk w) (hr' : Rel E' lk w) (hR : ∀ k ∈ L.R, lk k = hget k h) (hx : den E x = den E' x) {n : Nat} (hn : (n : Int) = L.len.v) :
    flatRows E' n L.rows = flatRows E n L.rows := by
  obtain ⟨a, m, cap, h1, h2, h3, h4, h5, h6, h7⟩ := readL_sound hs hr hR
  obtain ⟨a', m', cap', g1, g2, g3, g4, g5, g6, g7⟩ := readL_sound hs hr' hR
  have : m = n := by omega
  subst this
  have : m' = m := by omega
  subst this
  rw [h1, g1] at hx
  cases hx
  apply List.ext_getElem?
  intro p
  have l1 := flatRows_length E sz L.rows m' h5
  have l2 := flatRows_length E' sz L.rows m' h5
  by_cases hp : p < m' * sz
  · obtain ⟨v, hv⟩ : ∃ v, (flatRows E m' L.rows)[p]? = some v := ⟨_, List.getElem?_eq_getElem (by omega)⟩
    obtain ⟨v', hv'⟩ : ∃ v, (flatRows E' m' L.rows)[p]? = some v := ⟨_, List.getElem?_eq_getElem (by omega)⟩
    obtain ⟨ad, e1, e2⟩ := h7 p v hv
    obtain ⟨ad', f1, f2⟩ := g7 p v' hv'
    rw [e1] at f1
    cases f1
    rw [e2] at f2
    rw [hv, hv', f2]
  · rw [List.getElem?_eq_none (by omega), List.getElem?_eq_none (by omega)]

/-- A new list over the block of a token: whatever the block (new, or that of a token that goes). -/
theorem newList {A : Nat → Prop} {E : Env} {lk : Look} {w w' : World} {key : Nat} {len : SI} {sz : Nat} {rows : Nat → List AV} {g : Option Nat} (hU : RelU A E lk w) (hk : ∀ k, key ≤ k → k < key + 2 → ¬ A k)
    (n cap : Nat) (a : Option Addr) (f : List Nat) (hos : w'.os = w.os) (htape : w'.tape = w.tape) (hout : w'.output = w.output) (hsz : w.heap.size ≤ w'.heap.size)
    (hlen : (n : Int) = len.v) (hcap : n ≤ cap) (hf0 : f = [] ∨ ∃ b C ty, f = [b] ∧ w'.heap[b]? = some (.cells C ty (0, 0)))
    (hrows : ∀ E', Agree A E E' → 0 < cap → ∃ B off, a = some ⟨B, off, none⟩ ∧ f = [B] ∧ ∃ C ty, w'.heap[B]? = some (.cells C ty (0, 0)) ∧ off + cap * sz ≤ C.size ∧ RowsAt E' (fun o => C[o]?) off sz n rows)
    (hown : ∀ b ∈ f, (∃ g', g = some g' ∧ lk g' = some .tok ∧ b ∈ E.fp g') ∨ w.heap.size ≤ b)
    (hheap : ∀ b, b < w.heap.size → b ∉ f → w'.heap[b]? = w.heap[b]?) (hgA : ∀ g', g = some g' → A g') :
    Done A E lk w (plus A key) (.sl (key + 1)) (hupd lk ((key + 1, some (.lst len sz rows (some key))) :: (key, some .tok) :: killG g)) (.ok (.value (.slice a n cap)) w') := by
  have hnk : ¬ A key := hk key (Nat.le_refl _) (by omega)
  have hnk1 : ¬ A (key + 1) := hk (key + 1) (by omega) (by omega)
  have hne : key ≠ key + 1 := by omega
  let E1 := (E.put key 0 (none, 0, 0) f).put (key + 1) 0 (a, n, cap) []
  have hE : Agree A E E1 := fun j hj => by
    have j1 : j ≠ key := fun e => hnk (e ▸ hj)
    have j2 : j ≠ key + 1 := fun e => hnk1 (e ▸ hj)
    simp [E1, Env.put, j1, j2]
  have in0 : plus A key key := .inr ⟨Nat.le_refl _, by omega⟩
  have in1 : plus A key (key + 1) := .inr ⟨by omega, by omega⟩
  have fp0 : ∀ {E'}, Agree (plus A key) E1 E' → E'.fp key = f := fun h' => by
    rw [(h' key in0).2.2]; simp [E1, Env.put, hne]
  have hd1 : ∀ {E'}, Agree (plus A key) E1 E' → E'.hdr (key + 1) = (a, n, cap) := fun h' => by
    rw [(h' (key + 1) in1).2.1]; simp [E1, Env.put]
  have lkN : ∀ j, hupd lk ((key + 1, some (.lst len sz rows (some key))) :: (key, some .tok) :: killG g) j =
      if j = key + 1 then some (.lst len sz rows (some key)) else if j = key then some .tok else if g = some j then none else lk j := by
    intro j
    by_cases h1 : j = key + 1
    · subst h1; simp [hupd, wget]
    · by_cases h2 : j = key
      · subst h2; simp [hupd, wget, beq_ne (Ne.symm h1)]
      · cases g with
        | none => simp [hupd, wget, beq_ne (Ne.symm h1), beq_ne (Ne.symm h2), h1, h2, killG]
        | some g' =>
          by_cases h3 : j = g'
          · subst h3; simp [hupd, wget, beq_ne (Ne.symm h1), beq_ne (Ne.symm h2), h1, h2, killG]
          · simp [hupd, wget, beq_ne (Ne.symm h1), beq_ne (Ne.symm h2), h1, h2, killG, beq_ne (Ne.symm h3), Ne.symm h3]
  refine ⟨_, _, E1, .slice a n cap, rfl, rfl, fun E' h' => ?_, ?_⟩
  · simp only [den, hd1 h']
  refine RelU.step (fun j => j = key ∨ j = key + 1) hU (fun _ h => .inl h) hE hos htape hout hsz ?_ ?_ ?_ ?_ ?_ ?_ ?_ ?_ ?_ ?_
  · intro j o ho hn
    rw [lkN, if_neg (fun e => hn (.inr e)), if_neg (fun e => hn (.inl e))] at ho
    split at ho
    · cases ho
    · exact ho
  · intro j o _ hn
    rcases hn with rfl | rfl
    · exact in0
    · exact in1
  · intro j len' sz' rows' g' ho hn
    rcases hn with rfl | rfl
    · rw [lkN, if_neg hne, if_pos rfl] at ho; cases ho
    · rw [lkN, if_pos rfl] at ho; cases ho; exact in0
  · intro E' h' j o ho hn
    rcases hn with rfl | rfl
    · rw [lkN, if_neg hne, if_pos rfl] at ho
      cases ho
      show E'.fp j = [] ∨ _
      rw [fp0 h']
      exact hf0
    · rw [lkN, if_pos rfl] at ho
      cases ho
      have hh := hd1 h'
      refine ⟨by rw [hh]; exact hlen, by rw [hh]; exact hcap, fun hp => ?_⟩
      rw [hh] at hp ⊢
      obtain ⟨B, off, e1, e2, C, ty, e3, e4, e5⟩ := hrows E' (hE.trans h' fun _ h => .inl h) hp
      exact ⟨B, off, e1, lt_of_get e3, fun _ => ⟨by rw [fp0 h', e2], C, ty, e3, e4, e5⟩⟩
  · intro E' h' j o b ho hn hb
    rcases hn with rfl | rfl
    · rw [lkN, if_neg hne, if_pos rfl] at ho
      cases ho
      have hb : b ∈ f := by
        have : b ∈ E'.fp j := hb
        rwa [fp0 h'] at this
      rcases hown b hb with ⟨g', e1, e2, e3⟩ | h1
      · refine .inl ⟨g', .tok, e2, .inr ?_, ?_⟩
        · have g1 : g' ≠ j := fun e => hnk (e ▸ hgA g' e1)
          have g2 : g' ≠ j + 1 := fun e => hnk1 (e ▸ hgA g' e1)
          rw [lkN, if_neg g2, if_neg g1, if_pos e1]
        · show b ∈ E'.fp g'
          rw [((hE.trans h' fun _ h => .inl h) g' (hgA g' e1)).2.2]
          exact e3
      · exact .inr h1
    · rw [lkN, if_pos rfl] at ho
      cases ho
      exact hb.elim
  · intro E' h' j o j' o' b ho ho' hn hn' hne' hb hb'
    rcases hn with rfl | rfl <;> rcases hn' with rfl | rfl
    · exact hne' rfl
    · rw [lkN, if_pos rfl] at ho'; cases ho'; exact hb'
    · rw [lkN, if_pos rfl] at ho; cases ho; exact hb
    · exact hne' rfl
  · intro b hb hn
    refine hheap b hb fun hbf => ?_
    rcases hown b hbf with ⟨g', e1, e2, e3⟩ | h1
    · refine hn g' .tok e2 (.inr ?_) e3
      have g1 : g' ≠ key := fun e => hnk (e ▸ hgA g' e1)
      have g2 : g' ≠ key + 1 := fun e => hnk1 (e ▸ hgA g' e1)
      rw [lkN, if_neg g2, if_neg g1, if_pos e1]
    · omega
  · intro j len' sz' rows' g' ho hn
    have := hU.grp j len' sz' rows' g' ho
    rcases hn with rfl | rfl
    · exact absurd this hnk
    · exact absurd this hnk1
  · intro E' h' j len' sz' rows' a' ho hn
    rcases hn with rfl | rfl
    · rw [lkN, if_neg hne, if_pos rfl] at ho; cases ho
    · rw [lkN, if_pos rfl] at ho; cases ho
  · intro j hn hA
    rcases hn with rfl | rfl
    · exact absurd hA hnk
    · exact absurd hA hnk1

theorem append_room_run {t u ty elem e2 : TypeId} {i : TypeInfo} (hu : P.underlying t = some (.slice elem)) (hu2 : P.underlying u = some (.slice e2)) (hi : P.info? elem = some i) {w : World}
    (B off n cap : Nat) (cur : Array Value) (ety : TypeId) (hg : w.heap[B]? = some (.cells cur ety (0, 0))) (b : Option Addr) (m c : Nat) (news : List Value)
    (hf : (Builtin.firstCells i.size m (.slice b m c)).run P w = .ok news.toArray w) (h1 : ∀ v ∈ news, v.oneCell' = true) (hroom : n + m ≤ cap) (hfit : off + n * i.size + news.length ≤ cur.size) :
    (Builtin.append_ #[t, u] ty #[.slice (some ⟨B, off, none⟩) n cap, .slice b m c]).run P w =
      .ok (.slice (some ⟨B, off, none⟩) (n + m) cap) (w.setRow B (cur.toList.take (off + n * i.size) ++ news ++ cur.toList.drop (off + n * i.size + news.length)).toArray) := by
  have hst := run_storeCells_at P B (off + n * i.size) ety news 0 cur w hg (by simpa using hfit) h1
  simp only [Nat.add_zero] at hst
  simp [Builtin.append_, run_underlying hu, run_underlying hu2, sizeOf, typeInfo, hi, Builtin.lenOf, hroom, hf, Addr.add_lit, hst]
theorem append_void_run {t u ty elem e2 : TypeId} {i : TypeInfo} (hu : P.underlying t = some (.slice elem)) (hu2 : P.underlying u = some (.slice e2)) (hi : P.info? elem = some i) {w : World}
    (a b : Option Addr) (cap c : Nat) (hf : (Builtin.firstCells i.size 0 (.slice b 0 c)).run P w = .ok #[] w) :
    (Builtin.append_ #[t, u] ty #[.slice a 0 cap, .slice b 0 c]).run P w = .ok (.slice a 0 cap) w := by
  cases a <;> simp [Builtin.append_, run_underlying hu, run_underlying hu2, sizeOf, typeInfo, hi, Builtin.lenOf, hf, storeCells]
theorem append_grow_run {t u ty elem e2 : TypeId} {i : TypeInfo} {z : Value} (hu : P.underlying t = some (.slice elem)) (hu2 : P.underlying u = some (.slice e2)) (hi : P.info? elem = some i) (hz : i.zero = some z) {w : World}
    (a b : Option Addr) (n cap m c : Nat) (olds news : List Value) (hfo : (Builtin.firstCells i.size n (.slice a n cap)).run P w.drew = .ok olds.toArray w.drew)
    (hf : (Builtin.firstCells i.size m (.slice b m c)).run P w.drew = .ok news.toArray w.drew) (hg : cap < n + m) (h63 : ((n + m : Nat) : Int) ≤ 9223372036854775807) (hfit : Builtin.nextslicecap (n + m) cap * i.bytes ≤ 281474976710656) :
    (Builtin.append_ #[t, u] ty #[.slice a n cap, .slice b m c]).run P w =
      .ok (.slice (some ⟨w.heap.size, 0, none⟩) (n + m) (grownCap w (n + m) cap elem)) (w.drew.alloc (.cells (olds.toArray ++ news.toArray ++ Builtin.zeroCells z.cells (grownCap w (n + m) cap elem - (n + m))) elem)) := by
  have hn : ¬ (n + m ≤ cap) := by omega
  have h63' : ¬ (9223372036854775807 < ((n : Int) + (m : Int))) := by omega
  have h48' : ¬ (281474976710656 < Builtin.nextslicecap (n + m) cap * i.bytes) := by omega
  simp [Builtin.append_, run_underlying hu, run_underlying hu2, sizeOf, typeInfo, zeroValue, hi, hz, Builtin.lenOf, hn, h63', h48', Question.forced, hf, hfo, newRow, grownCap]
  congr 2
  apply Array.ext'
  simp [List.append_assoc]
end
end Go.Eng
