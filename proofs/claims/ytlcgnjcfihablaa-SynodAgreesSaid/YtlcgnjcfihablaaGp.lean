/- Three proposers and three acceptors agree (plain).
   Conditions: none. -/
import Derived.Test.YtlcgnjcfihablaaGa
import Derived.Carry
set_option linter.unusedSimpArgs false
set_option linter.unusedVariables false
namespace Go.Proofs.Ytlcgnjcfihablaa
open Go.Eng Go.RowKit Go.ChangeShapes Go.WideShapes
set_option maxRecDepth 100000
/-- One slot: what is proposed under a ballot (by number), who voted, what each acceptor promised. -/
structure Core (wish : I3 → Prop) (V : Int → Option I3) (vote : Nat → Int → Prop) (pr : Nat → Int) : Prop where
  vV : ∀ j n, j < 3 → vote j n → ∃ v, V n = some v
  vp : ∀ j n, j < 3 → vote j n → n ≤ pr j
  pos : ∀ n v, V n = some v → 0 < n
  wi : ∀ n v, V n = some v → wish v
  safe : ∀ n v, V n = some v → ∃ j1 j2, j1 < 3 ∧ j2 < 3 ∧ j1 ≠ j2 ∧ n ≤ pr j1 ∧ n ≤ pr j2 ∧
    ((∀ n', n' < n → ¬ vote j1 n' ∧ ¬ vote j2 n') ∨ ∃ c, c < n ∧ V c = some v ∧ ∀ n', n' < n → (vote j1 n' → n' ≤ c) ∧ (vote j2 n' → n' ≤ c))
def Chosen (vote : Nat → Int → Prop) (n : Int) : Prop := ∃ j1 j2, j1 < 3 ∧ j2 < 3 ∧ j1 ≠ j2 ∧ vote j1 n ∧ vote j2 n
variable {wish : I3 → Prop} {V : Int → Option I3} {vote : Nat → Int → Prop} {pr : Nat → Int}
theorem Core.le (C : Core wish V vote pr) {n : Int} {v : I3} (hc : Chosen vote n) (hv : V n = some v) : ∀ (k : Nat) (n' : Int) (v' : I3), n' = n + k → V n' = some v' → v' = v := by
  intro k
  induction k using Nat.strongRecOn with
  | _ k ih =>
    intro n' v' e h'
    by_cases h0 : k = 0
    · subst h0
      have : n' = n := by omega
      subst this
      rw [hv] at h'
      cases h'; rfl
    · obtain ⟨a, b, ha, hb, hab, va, vb⟩ := hc
      obtain ⟨c, d, hc', hd, hcd, _, _, hs⟩ := C.safe n' v' h'
      have hlt : n < n' := by omega
      have meet : (a = c ∨ a = d) ∨ (b = c ∨ b = d) := by omega
      have hv2 : vote c n ∨ vote d n := by
        rcases meet with (rfl | rfl) | (rfl | rfl)
        · exact .inl va
        · exact .inr va
        · exact .inl vb
        · exact .inr vb
      rcases hs with hs | ⟨m, hm, hV, hs⟩
      · have := hs n hlt
        rcases hv2 with h | h
        · exact (this.1 h).elim
        · exact (this.2 h).elim
      · have hle : n ≤ m := by
          have := hs n hlt
          rcases hv2 with h | h
          · exact this.1 h
          · exact this.2 h
        exact ih (m - n).toNat (by omega) m v' (by omega) hV
theorem Core.agree (C : Core wish V vote pr) {n n' : Int} {v v' : I3} (hc : Chosen vote n) (hv : V n = some v) (hc' : Chosen vote n') (hv' : V n' = some v') : v' = v := by
  by_cases h : n ≤ n'
  · exact C.le hc hv (n' - n).toNat n' v' (by omega) hv'
  · exact (C.le hc' hv' (n - n').toNat n v (by omega) hv).symm
theorem Core.raise (C : Core wish V vote pr) {pr' : Nat → Int} (h : ∀ j, j < 3 → pr j ≤ pr' j) : Core wish V vote pr' where
  vV := C.vV
  vp := fun j n hj hv => Int.le_trans (C.vp j n hj hv) (h j hj)
  pos := C.pos
  wi := C.wi
  safe := fun n v hv => by
    obtain ⟨a, b, ha, hb, hab, h1, h2, h3⟩ := C.safe n v hv
    exact ⟨a, b, ha, hb, hab, Int.le_trans h1 (h a ha), Int.le_trans h2 (h b hb), h3⟩
/-- A value is proposed under a ballot of which nobody heard yet. -/
theorem Core.propose (C : Core wish V vote pr) {n : Int} {v : I3} (h0 : 0 < n) (hn : V n = none) (hw : wish v) {a b : Nat} (ha : a < 3) (hb : b < 3) (hab : a ≠ b) (h1 : n ≤ pr a) (h2 : n ≤ pr b)
    (hs : (∀ n', n' < n → ¬ vote a n' ∧ ¬ vote b n') ∨ ∃ c, c < n ∧ V c = some v ∧ ∀ n', n' < n → (vote a n' → n' ≤ c) ∧ (vote b n' → n' ≤ c)) :
    Core wish (fun m => if m = n then some v else V m) vote pr where
  vV := fun j m hj hv => by
    by_cases e : m = n
    · exact ⟨v, by simp [e]⟩
    · simpa [e] using C.vV j m hj hv
  vp := C.vp
  pos := fun m u hm => by
    by_cases e : m = n
    · omega
    · simp [e] at hm; exact C.pos m u hm
  wi := fun m u hm => by
    by_cases e : m = n
    · simp [e] at hm; rw [← hm]; exact hw
    · simp [e] at hm; exact C.wi m u hm
  safe := fun m u hm => by
    have keep : ∀ c w, V c = some w → (if c = n then some v else V c) = some w := fun c w hc => by
      by_cases e : c = n
      · subst e; rw [hn] at hc; cases hc
      · simp [e, hc]
    by_cases e : m = n
    · simp [e] at hm
      subst hm e
      refine ⟨a, b, ha, hb, hab, h1, h2, ?_⟩
      rcases hs with hs | ⟨c, q1, q2, q3⟩
      · exact .inl hs
      · exact .inr ⟨c, q1, keep c _ q2, q3⟩
    · simp [e] at hm
      obtain ⟨a', b', ha', hb', hab', g1, g2, g3⟩ := C.safe m u hm
      refine ⟨a', b', ha', hb', hab', g1, g2, ?_⟩
      rcases g3 with hs | ⟨c, q1, q2, q3⟩
      · exact .inl hs
      · exact .inr ⟨c, q1, keep c _ q2, q3⟩
/-- An acceptor votes. -/
theorem Core.voted (C : Core wish V vote pr) {n : Int} {v : I3} (hn : V n = some v) {j : Nat} (hj : j < 3) (h : pr j ≤ n) :
    Core wish V (fun i m => vote i m ∨ (i = j ∧ m = n)) (fun i => if i = j then n else pr i) where
  vV := fun i m hi hv => by
    rcases hv with hv | ⟨_, rfl⟩
    · exact C.vV i m hi hv
    · exact ⟨v, hn⟩
  vp := fun i m hi hv => by
    rcases hv with hv | ⟨rfl, rfl⟩
    · have := C.vp i m hi hv
      by_cases e : i = j
      · subst e; simp; omega
      · simp [e]; exact this
    · simp
  pos := C.pos
  wi := C.wi
  safe := fun m u hm => by
    obtain ⟨a, b, ha, hb, hab, h1, h2, h3⟩ := C.safe m u hm
    have up : ∀ i, i < 3 → pr i ≤ (if i = j then n else pr i) := fun i _ => by
      by_cases e : i = j
      · subst e; simp [h]
      · simp [e]
    -- a new vote is not below a ballot whose quorum its voter belongs to
    have nb : ∀ i, m ≤ pr i → ∀ n', n' < m → (vote i n' ∨ (i = j ∧ n' = n)) → vote i n' := fun i hi n' hlt hv => by
      rcases hv with hv | ⟨rfl, rfl⟩
      · exact hv
      · omega
    refine ⟨a, b, ha, hb, hab, Int.le_trans h1 (up a ha), Int.le_trans h2 (up b hb), ?_⟩
    rcases h3 with hs | ⟨c, q1, q2, q3⟩
    · exact .inl fun n' hlt => ⟨fun hv => (hs n' hlt).1 (nb a h1 n' hlt hv), fun hv => (hs n' hlt).2 (nb b h2 n' hlt hv)⟩
    · exact .inr ⟨c, q1, q2, fun n' hlt => ⟨fun hv => (q3 n' hlt).1 (nb a h1 n' hlt hv), fun hv => (q3 n' hlt).2 (nb b h2 n' hlt hv)⟩⟩
def AcS.prepare (a : AcS) (b : B2) : Bool × AcS := bif isBal b && !lessB b a.prom then (true, { a with prom := b }) else (false, a)
def AcS.accept (a : AcS) (ok : Bool) (b : B2) (x : I3) : Bool × AcS := bif isBal b && ok && !lessB b a.prom then (true, ⟨b, b, x⟩) else (false, a)
def ord (b : B2) : Int := 4 * b.1 + b.2
def Bal (b : B2) : Prop := 0 ≤ b.1 ∧ 0 ≤ b.2 ∧ b.2 < 3
theorem less_ord {a b : B2} (ha : Bal a) (hb : Bal b) : lessB a b = decide (ord a < ord b) := by
  unfold lessB ord
  obtain ⟨a1, a2, a3⟩ := ha
  obtain ⟨b1, b2, b3⟩ := hb
  rw [Bool.eq_iff_iff]
  simp only [Bool.or_eq_true, Bool.and_eq_true, decide_eq_true_eq, beq_iff_eq]
  omega
theorem ord_inj {a b : B2} (ha : Bal a) (hb : Bal b) (h : ord a = ord b) : a = b := by
  unfold ord at h
  obtain ⟨a1, a2, a3⟩ := ha
  obtain ⟨b1, b2, b3⟩ := hb
  exact Prod.ext (by omega) (by omega)
def upd {α : Type} (f : Nat → α) (k : Nat) (v : α) : Nat → α := fun i => if i = k then v else f i
@[simp] theorem upd_same {α : Type} (f : Nat → α) (k : Nat) (v : α) : upd f k v k = v := by simp [upd]
theorem upd_ne {α : Type} (f : Nat → α) {k i : Nat} (v : α) (h : i ≠ k) : upd f k v i = f i := by simp [upd, h]
/-- A proposer in the world of votes. -/
structure PrI (w : Nat → I3) (V : Int → Option I3) (vote : Nat → Int → Prop) (pr : Nat → Int) (t : Int) (k : Nat) (p : PrS) : Prop where
  who : p.who = k
  wants : p.wants = w k
  bal : p.b = (0, 0) ∨ p.b.2 = k ∧ 1 ≤ p.b.1
  bt : p.b.1 ≤ t
  vals : p.valued = true → V (ord p.b) = some p.value
  novals : p.valued = false → V (ord p.b) = none
  above : ∀ n, ord p.b < n → n % 4 = k → V n = none
  pl1 : p.valued = false → p.pl.length ≤ 1
  pls : p.valued = false → ∀ j ∈ p.pl, ∃ i : Nat, j = i ∧ i < 3 ∧ ord p.b ≤ pr i ∧ ∀ n, n < ord p.b → vote i n → p.has = true ∧ n ≤ ord p.acc
  hasI : p.valued = false → p.has = true → Bal p.acc ∧ ord p.acc < ord p.b ∧ V (ord p.acc) = some p.best
  aln : p.valued = false → p.al = []
  als : p.valued = true → ∀ j ∈ p.al, ∃ i : Nat, j = i ∧ i < 3 ∧ vote i (ord p.b)
  al1 : p.done = false → p.al.length ≤ 1
  evs : p.ever = true → ∃ n, Chosen vote n ∧ V n = some p.dec
  plL : p.pl.length ≤ 2
  alL : p.al.length ≤ 2
structure AcI (V : Int → Option I3) (vote : Nat → Int → Prop) (pr : Nat → Int) (t : Int) (j : Nat) (a : AcS) : Prop where
  prom : Bal a.prom
  pt : a.prom.1 ≤ t
  acc : Bal a.acc
  accp : ord a.acc ≤ ord a.prom
  pr : pr j = ord a.prom
  votes : ∀ n, vote j n → n ≤ ord a.acc
  last : a.has = true → vote j (ord a.acc) ∧ V (ord a.acc) = some a.inc
structure SInv (w : Nat → I3) (t : Int) (P : Nat → PrS) (A : Nat → AcS) (V : Int → Option I3) (vote : Nat → Int → Prop) (pr : Nat → Int) : Prop where
  core : Core (fun v => ∃ k, k < 3 ∧ v = w k) V vote pr
  p : ∀ k, k < 3 → PrI w V vote pr t k (P k)
  a : ∀ j, j < 3 → AcI V vote pr t j (A j)
variable {w : Nat → I3} {t : Int} {P : Nat → PrS} {A : Nat → AcS} {V : Int → Option I3} {vote : Nat → Int → Prop} {pr : Nat → Int}
theorem PrI.Bal {k : Nat} {p : PrS} (hk : k < 3) (h : PrI w V vote pr t k p) : Go.Proofs.Ytlcgnjcfihablaa.Bal p.b := by
  rcases h.bal with e | ⟨e1, e2⟩
  · rw [e]; exact ⟨by simp, by simp, by simp⟩
  · exact ⟨by omega, by omega, by omega⟩
theorem PrI.mono {k : Nat} {p : PrS} (h : PrI w V vote pr t k p) {t' : Int} (ht : t ≤ t') {pr' : Nat → Int} (hp : ∀ j, j < 3 → pr j ≤ pr' j) : PrI w V vote pr' t' k p :=
  { h with
    bt := Int.le_trans h.bt ht
    pls := fun hv j hj => by
      obtain ⟨i, e, hi, h1, h2⟩ := h.pls hv j hj
      exact ⟨i, e, hi, Int.le_trans h1 (hp i hi), h2⟩ }
theorem AcI.mono {j : Nat} {a : AcS} (h : AcI V vote pr t j a) {t' : Int} (ht : t ≤ t') : AcI V vote pr t' j a := { h with pt := Int.le_trans h.pt ht }
theorem SInv.mono (h : SInv w t P A V vote pr) {t' : Int} (ht : t ≤ t') : SInv w t' P A V vote pr :=
  ⟨h.core, fun k hk => (h.p k hk).mono ht fun _ _ => Int.le_refl _, fun j hj => (h.a j hj).mono ht⟩
theorem topN_small {a b : Int} {t : Int} (ha : a ≤ t) (hb : b ≤ t) (ht : t < 4294967295) (h0 : 0 ≤ a) (h1 : 0 ≤ b): a < topN a b ∧ b < topN a b ∧ topN a b ≤ t + 1 ∧ 1 ≤ topN a b := by
  have := (topN_le (a := a) (b := b) ⟨h0, by omega⟩ ⟨h1, by omega⟩).1 (by omega)
  omega
theorem SInv.start (h : SInv w t P A V vote pr) (ht : t < 4294967295) {k : Nat} (hk : k < 3) {o : B2} (ho : 0 ≤ o.1) (hot : o.1 ≤ t) : SInv w (t + 1) (upd P k ((P k).start o)) A V vote pr := by
  have I := h.p k hk
  have hB := I.Bal hk
  have ht2 := topN_small hot I.bt ht ho hB.1
  refine ⟨h.core, fun i hi => ?_, fun j hj => (h.a j hj).mono (by omega)⟩
  by_cases e : i = k
  · subst e
    rw [upd_same]
    have hab : ∀ n, ord (P i).b < n → n % 4 = i → V n = none := I.above
    have hlt : ord (P i).b < ord (topN o.1 (P i).b.1, (P i).who) := by
      unfold ord
      have := hB.2
      rw [I.who]
      dsimp only
      omega
    exact {
      who := I.who
      wants := I.wants
      bal := .inr ⟨I.who, by show 1 ≤ topN o.1 (P i).b.1; omega⟩
      bt := by show topN o.1 (P i).b.1 ≤ t + 1; omega
      vals := fun e => by cases e
      novals := fun _ => hab _ hlt (by show (4 * topN o.1 (P i).b.1 + (P i).who) % 4 = i; rw [I.who]; omega)
      above := fun n h1 h2 => hab n (Int.lt_trans hlt h1) h2
      pl1 := fun _ => Nat.zero_le _
      pls := fun _ j hj => by cases hj
      hasI := fun _ e => by cases e
      aln := fun _ => rfl
      als := fun e => by cases e
      al1 := fun _ => Nat.zero_le _
      evs := I.evs
      plL := Nat.zero_le _
      alL := Nat.zero_le _ }
  · rw [upd_ne _ _ e]
    exact (h.p i hi).mono (by omega) fun _ _ => Int.le_refl _
/-- An acceptor promises. -/
theorem SInv.prepare (h : SInv w t P A V vote pr) {j : Nat} (hj : j < 3) {b : B2} (hb : Bal b) (hbt : b.1 ≤ t) : SInv w t P (upd A j ((A j).prepare b).2) V vote (fun i => if i = j then ord ((A j).prepare b).2.prom else pr i) ∧
    (((A j).prepare b).1 = true → ((A j).prepare b).2.prom = b) ∧ ((A j).prepare b).2.acc = (A j).acc ∧ ((A j).prepare b).2.inc = (A j).inc := by
  have I := h.a j hj
  have hle : ord (A j).prom ≤ ord ((A j).prepare b).2.prom ∧ (((A j).prepare b).1 = true → ((A j).prepare b).2.prom = b) ∧ ((A j).prepare b).2.acc = (A j).acc ∧ ((A j).prepare b).2.inc = (A j).inc ∧ Bal ((A j).prepare b).2.prom ∧ ((A j).prepare b).2.prom.1 ≤ t := by
    unfold AcS.prepare
    rw [less_ord hb I.prom]
    cases isBal b
    · exact ⟨Int.le_refl _, (fun e => by cases e), rfl, rfl, I.prom, I.pt⟩
    · by_cases hl : ord b < ord (A j).prom
      · simp [hl]; exact ⟨I.prom, I.pt⟩
      · simp [hl]; exact ⟨by omega, hb, hbt⟩
  obtain ⟨h1, h2, h3, h4, h5, h6⟩ := hle
  have hup : ∀ i, i < 3 → pr i ≤ (if i = j then ord ((A j).prepare b).2.prom else pr i) := fun i _ => by
    by_cases e : i = j
    · subst e; simp only [if_true]; rw [I.pr]; exact h1
    · simp [e]
  refine ⟨⟨h.core.raise hup, fun k hk => (h.p k hk).mono (Int.le_refl _) hup, fun i hi => ?_⟩, h2, h3, h4⟩
  by_cases e : i = j
  · subst e
    rw [upd_same]
    refine ⟨h5, h6, by rw [h3]; exact I.acc, by rw [h3]; exact Int.le_trans I.accp h1, by simp, by rw [h3]; exact I.votes, fun q => ?_⟩
    have : (A i).has = true := by unfold AcS.has at q ⊢; rw [h3] at q; exact q
    rw [h3, h4]
    exact I.last this
  · rw [upd_ne _ _ e]
    have Ie := h.a i hi
    exact ⟨Ie.prom, Ie.pt, Ie.acc, Ie.accp, by simp [e]; exact Ie.pr, Ie.votes, Ie.last⟩
theorem inL_mem {l : List Int} {v : Int} : inL l v = false ↔ v ∉ l := by
  unfold inL
  rw [anyN_false]
  constructor
  · intro h hm
    obtain ⟨i, hi, e⟩ := List.getElem_of_mem hm
    have := h i hi
    simp [ixP, List.getD, hi, e] at this
  · intro h i hi
    simp only [ixP, rowI_I, beq_eq_false_iff_ne, ne_eq, List.getD, List.getElem?_eq_getElem hi, Option.getD_some]
    intro e
    exact h (e ▸ List.getElem_mem hi)
theorem upd_self {α : Type} (f : Nat → α) (k : Nat) : upd f k (f k) = f := by funext i; unfold upd; by_cases e : i = k <;> simp [e]
/-- Another proposer's ballot gets its value. -/
theorem PrI.other {k : Nat} {p : PrS} (hk : k < 3) (h : PrI w V vote pr t k p) {n0 : Int} {v : I3} (hn : V n0 = none) (h0 : 0 < n0) (hm : n0 % 4 ≠ k) : PrI w (fun m => if m = n0 then some v else V m) vote pr t k p := by
  have hB := h.Bal hk
  have keep : ∀ c x, V c = some x → (if c = n0 then some v else V c) = some x := fun c x hc => by
    by_cases e : c = n0
    · subst e; rw [hn] at hc; cases hc
    · simp [e, hc]
  have ne : ord p.b ≠ n0 := fun e => by
    rcases h.bal with e0 | ⟨e1, e2⟩
    · rw [e0] at e; unfold ord at e; simp at e; omega
    · unfold ord at e; omega
  exact { h with
    vals := fun q => keep _ _ (h.vals q)
    novals := fun q => by simp only [ne, if_false]; exact h.novals q
    above := fun n h1 h2 => by
      have : n ≠ n0 := fun e => hm (by rw [← e]; exact h2)
      simp only [this, if_false]; exact h.above n h1 h2
    hasI := fun q r => ⟨(h.hasI q r).1, (h.hasI q r).2.1, keep _ _ (h.hasI q r).2.2⟩
    evs := fun q => by
      obtain ⟨n, h1, h2⟩ := h.evs q
      exact ⟨n, h1, keep _ _ h2⟩ }
/-- What a proposer knows with one more promise. -/
theorem SInv.more (h : SInv w t P A V vote pr) {k j : Nat} (hk : k < 3) (hj : j < 3) (hp : (A j).prom = (P k).b) (hv : (P k).valued = false) {has : Bool} {acc : B2} {best : I3}
    (e : (has, acc, best) = bif (A j).has && (!(P k).has || lessB (P k).acc (A j).acc) then (true, (A j).acc, (A j).inc) else ((P k).has, (P k).acc, (P k).best)) :
    (∀ i : Nat, (i : Int) ∈ (P k).pl ∨ i = j → ∀ n, n < ord (P k).b → vote i n → has = true ∧ n ≤ ord acc) ∧ (has = true → Bal acc ∧ ord acc < ord (P k).b ∧ V (ord acc) = some best) := by
  have I := h.p k hk
  have J := h.a j hj
  have accLt : (A j).has = true → ord (A j).acc < ord (P k).b := fun hh => by
    obtain ⟨l1, l2⟩ := J.last hh
    have h1 : ord (A j).acc ≠ ord (P k).b := fun e => by
      rw [e, I.novals hv] at l2; cases l2
    have h2 := J.accp
    rw [hp] at h2
    omega
  have old : ∀ i : Nat, (i : Int) ∈ (P k).pl → ∀ n, n < ord (P k).b → vote i n → (P k).has = true ∧ n ≤ ord (P k).acc := fun i hi n h1 h2 => by
    obtain ⟨i', e, _, _, h5⟩ := I.pls hv _ hi
    have : i = i' := by omega
    subst this
    exact h5 n h1 h2
  have new : ∀ n, n < ord (P k).b → vote j n → (A j).has = true ∧ n ≤ ord (A j).acc := fun n h1 h2 => by
    have h3 := J.votes n h2
    refine ⟨?_, h3⟩
    cases hh : (A j).has with
    | true => rfl
    | false =>
      obtain ⟨v, hV⟩ := h.core.vV j n hj h2
      have := h.core.pos n v hV
      unfold AcS.has at hh
      simp at hh
      unfold ord at h3
      rw [hh.1, hh.2] at h3
      omega
  cases hh : (A j).has with
  | false =>
    rw [hh] at e
    simp only [Bool.false_and, cond_false] at e
    cases e
    refine ⟨fun i hi n h1 h2 => ?_, I.hasI hv⟩
    rcases hi with hi | rfl
    · exact old i hi n h1 h2
    · have := (new n h1 h2).1
      rw [hh] at this; cases this
  | true =>
    rw [hh] at e
    cases hP : (P k).has with
    | false =>
      rw [hP] at e
      simp only [Bool.true_and, Bool.not_false, Bool.true_or, cond_true] at e
      cases e
      refine ⟨fun i hi n h1 h2 => ?_, fun _ => ⟨J.acc, accLt hh, (J.last hh).2⟩⟩
      rcases hi with hi | rfl
      · have := (old i hi n h1 h2).1
        rw [hP] at this; cases this
      · exact ⟨rfl, (new n h1 h2).2⟩
    | true =>
      obtain ⟨g1, g2, g3⟩ := I.hasI hv hP
      rw [hP, less_ord g1 J.acc] at e
      simp only [Bool.true_and, Bool.not_true, Bool.false_or] at e
      by_cases hl : ord (P k).acc < ord (A j).acc
      · simp only [hl, decide_true, cond_true] at e
        cases e
        refine ⟨fun i hi n h1 h2 => ⟨rfl, ?_⟩, fun _ => ⟨J.acc, accLt hh, (J.last hh).2⟩⟩
        rcases hi with hi | rfl
        · exact Int.le_of_lt (Int.lt_of_le_of_lt (old i hi n h1 h2).2 hl)
        · exact (new n h1 h2).2
      · simp only [hl, decide_false, cond_false] at e
        cases e
        refine ⟨fun i hi n h1 h2 => ⟨rfl, ?_⟩, fun _ => ⟨g1, g2, g3⟩⟩
        rcases hi with hi | rfl
        · exact (old i hi n h1 h2).2
        · have := (new n h1 h2).2
          omega
/-- A proposer hears a promise of its ballot. -/
theorem SInv.promise (h : SInv w t P A V vote pr) {k j : Nat} (hk : k < 3) (hj : j < 3) (hp : (A j).prom = (P k).b) : ∃ V', SInv w t (upd P k ((P k).promise (j : Int) (P k).b (A j).acc (A j).inc (A j).has).2) A V' vote pr := by
  have I := h.p k hk
  have J := h.a j hj
  have hB := I.Bal hk
  have noth : ((P k).promise (j : Int) (P k).b (A j).acc (A j).inc (A j).has).2 = P k → ∃ V', SInv w t (upd P k ((P k).promise (j : Int) (P k).b (A j).acc (A j).inc (A j).has).2) A V' vote pr := fun e => ⟨V, by rw [e, upd_self]; exact h⟩
  cases hv : (P k).valued with
  | true => exact noth (by simp only [PrS.promise, hv, cond_true])
  | false =>
  by_cases hb : ¬ (P k).b.1 > 0
  · exact noth (by simp only [PrS.promise, hv, hb, decide_false, cond_false])
  have hb : (P k).b.1 > 0 := by omega
  have hm : (P k).b.2 = k := by
    rcases I.bal with e | ⟨e, _⟩
    · rw [e] at hb; simp at hb
    · exact e
  have hmod : ord (P k).b % 4 = k := by unfold ord; omega
  have hpos : 0 < ord (P k).b := by unfold ord; omega
  by_cases hin : (j : Int) ∈ (P k).pl
  · have : inL (P k).pl j = true := by
      cases e : inL (P k).pl j with
      | true => rfl
      | false => exact absurd hin (inL_mem.1 e)
    exact noth (by simp only [PrS.promise, hv, hb, this, decide_true, cond_true, cond_false, beq_self_eq_true, Bool.and_self, show decide ((j : Int) ≥ 3) = false from decide_eq_false (by omega)])
  have hin2 : inL (P k).pl j = false := inL_mem.2 hin
  generalize hq : (bif (A j).has && (!(P k).has || lessB (P k).acc (A j).acc) then (true, (A j).acc, (A j).inc) else ((P k).has, (P k).acc, (P k).best)) = q
  obtain ⟨has, acc, best⟩ := q
  obtain ⟨m1, m2⟩ := h.more hk hj hp hv hq.symm
  have hpr : ord (P k).b ≤ pr j := by rw [J.pr, hp]; exact Int.le_refl _
  have ev : (P k).promise (j : Int) (P k).b (A j).acc (A j).inc (A j).has = bif !(((P k).pl.length : Int) + 1 == 2) then (false, { P k with has := has, acc := acc, best := best, pl := (P k).pl ++ [(j : Int)] }) else (true, { P k with has := has, acc := acc, best := best, pl := (P k).pl ++ [(j : Int)], valued := true, value := bif has then best else (P k).wants }) := by
    simp only [PrS.promise, hv, hb, hin2, decide_true, cond_true, cond_false, beq_self_eq_true, Bool.and_self, show decide ((j : Int) ≥ 3) = false from decide_eq_false (by omega)]
    revert hq
    cases (A j).has && (!(P k).has || lessB (P k).acc (A j).acc)
    · intro hq; cases hq; rfl
    · intro hq; cases hq; rfl
  have pl1 := I.pl1 hv
  match hpl : (P k).pl, pl1 with
  | [], _ =>
    refine ⟨V, h.core, fun i hi => ?_, h.a⟩
    by_cases e : i = k
    · subst e
      rw [upd_same, ev, hpl]
      exact { I with
        pl1 := fun _ => Nat.le_refl _
        plL := Nat.le_succ _
        pls := fun _ x hx => by
          have hx : x ∈ [(j : Int)] := hx
          exact ⟨j, List.mem_singleton.1 hx, hj, hpr, m1 j (.inr rfl)⟩
        hasI := fun _ => m2 }
    · rw [upd_ne _ _ e]
      exact h.p i hi
  | [g], _ =>
    obtain ⟨i, rfl, hi, hpi, _⟩ := I.pls hv g (by rw [hpl]; simp)
    have hij : i ≠ j := fun e => hin (by rw [hpl, e]; simp)
    have hn := I.novals hv
    have core' : Core (fun v => ∃ k, k < 3 ∧ v = w k) (fun m => if m = ord (P k).b then some (bif has then best else (P k).wants) else V m) vote pr := by
      refine h.core.propose hpos hn ?_ hi hj hij hpi hpr ?_
      · cases has with
        | true => exact h.core.wi _ _ (m2 rfl).2.2
        | false => exact ⟨k, hk, I.wants⟩
      · cases has with
        | true => exact .inr ⟨ord acc, (m2 rfl).2.1, (m2 rfl).2.2, fun n hlt => ⟨fun hv => (m1 i (.inl (by rw [hpl]; simp)) n hlt hv).2, fun hv => (m1 j (.inr rfl) n hlt hv).2⟩⟩
        | false => exact .inl fun n hlt => ⟨(fun hv => nomatch (m1 i (.inl (by rw [hpl]; simp)) n hlt hv).1), (fun hv => nomatch (m1 j (.inr rfl) n hlt hv).1)⟩
    have keep : ∀ c x, V c = some x → (if c = ord (P k).b then some (bif has then best else (P k).wants) else V c) = some x := fun c x hc => by
      by_cases e : c = ord (P k).b
      · subst e; rw [hn] at hc; cases hc
      · simp [e, hc]
    refine ⟨_, core', fun i' hi' => ?_, fun j' hj' => ?_⟩
    · by_cases e : i' = k
      · subst e
        rw [upd_same, ev, hpl]
        exact {
          who := I.who
          wants := I.wants
          bal := I.bal
          bt := I.bt
          vals := fun _ => by simp
          novals := fun e => by cases e
          above := fun n h1 h2 => by
            have : n ≠ ord (P i').b := by
              have h1 : ord (P i').b < n := h1
              omega
            simp only [this, if_false]
            exact I.above n h1 h2
          pl1 := fun e => by cases e
          pls := fun e => by cases e
          hasI := fun e => by cases e
          aln := fun e => by cases e
          als := fun _ x hx => by
            have hx : x ∈ (P i').al := hx
            rw [I.aln hv] at hx; cases hx
          al1 := I.al1
          evs := fun q => by
            obtain ⟨n, h1, h2⟩ := I.evs q
            exact ⟨n, h1, keep _ _ h2⟩
          plL := Nat.le_refl _
          alL := I.alL }
      · rw [upd_ne _ _ e]
        refine (h.p i' hi').other hi' hn hpos ?_
        rw [hmod]; omega
    · have Ij := h.a j' hj'
      exact ⟨Ij.prom, Ij.pt, Ij.acc, Ij.accp, Ij.pr, Ij.votes, fun q => ⟨(Ij.last q).1, keep _ _ (Ij.last q).2⟩⟩

/-- An acceptor votes; its proposer hears it, or not. -/
theorem SInv.accept (h : SInv w t P A V vote pr) {k j : Nat} (hk : k < 3) (hj : j < 3) (hv : (P k).valued = true) (ok : Bool) : ∃ vote' pr', SInv w t P (upd A j ((A j).accept ok (P k).b (P k).value).2) V vote' pr' ∧
    (((A j).accept ok (P k).b (P k).value).1 = true → vote' j (ord (P k).b)) := by
  have I := h.p k hk
  have J := h.a j hj
  have hB := I.Bal hk
  cases hc : isBal (P k).b && ok && !lessB (P k).b (A j).prom with
  | false => exact ⟨vote, pr, by simp only [AcS.accept, hc, cond_false, upd_self]; exact h, by simp only [AcS.accept, hc, cond_false]; exact fun e => by cases e⟩
  | true =>
    simp only [AcS.accept, hc, cond_true]
    rw [less_ord hB J.prom] at hc
    simp only [Bool.and_eq_true, Bool.not_eq_true', decide_eq_false_iff_not] at hc
    have hle : pr j ≤ ord (P k).b := by rw [J.pr]; omega
    have hV := I.vals hv
    have mv : ∀ i n, vote i n → vote i n ∨ i = j ∧ n = ord (P k).b := fun i n h => .inl h
    refine ⟨_, _, ⟨h.core.voted hV hj hle, fun i hi => ?_, fun i hi => ?_⟩, fun _ => .inr ⟨rfl, rfl⟩⟩
    · have Ii := h.p i hi
      exact { Ii with
        pls := fun q x hx => by
          obtain ⟨i', e, h1, h2, h3⟩ := Ii.pls q x hx
          have h2' : ord (P i).b ≤ (if i' = j then ord (P k).b else pr i') := by
            by_cases e : i' = j
            · subst e; simp only [if_true]; omega
            · simp [e, h2]
          refine ⟨i', e, h1, h2', fun n hn hvt => ?_⟩
          rcases hvt with hvt | ⟨rfl, rfl⟩
          · exact h3 n hn hvt
          · omega
        als := fun q x hx => by
          obtain ⟨i', e, h1, h2⟩ := Ii.als q x hx
          exact ⟨i', e, h1, .inl h2⟩
        evs := fun q => by
          obtain ⟨n, ⟨a, b, ha, hb, hab, va, vb⟩, h2⟩ := Ii.evs q
          exact ⟨n, ⟨a, b, ha, hb, hab, .inl va, .inl vb⟩, h2⟩ }
    · by_cases e : i = j
      · subst e
        rw [upd_same]
        exact ⟨hB, I.bt, hB, Int.le_refl _, by simp, fun n hn => by
          rcases hn with hn | ⟨_, rfl⟩
          · have h1 := J.votes n hn
            have h2 := J.accp
            show n ≤ ord (P k).b
            rw [J.pr] at hle
            omega
          · exact Int.le_refl _, fun _ => ⟨.inr ⟨rfl, rfl⟩, hV⟩⟩
      · rw [upd_ne _ _ e]
        have Ii := h.a i hi
        refine ⟨Ii.prom, Ii.pt, Ii.acc, Ii.accp, by simp [e]; exact Ii.pr, fun n hn => ?_, fun q => ⟨.inl (Ii.last q).1, (Ii.last q).2⟩⟩
        rcases hn with hn | ⟨rfl, _⟩
        · exact Ii.votes n hn
        · exact absurd rfl e
theorem SInv.accepted (h : SInv w t P A V vote pr) {k j : Nat} (hk : k < 3) (hj : j < 3) (hvt : vote j (ord (P k).b)) : SInv w t (upd P k ((P k).accept (j : Int) (P k).b).2) A V vote pr := by
  have I := h.p k hk
  have noth : ((P k).accept (j : Int) (P k).b).2 = P k → SInv w t (upd P k ((P k).accept (j : Int) (P k).b).2) A V vote pr := fun e => by rw [e, upd_self]; exact h
  cases hv : (P k).valued with
  | false => exact noth (by simp only [PrS.accept, hv, cond_true, Bool.not_false])
  | true =>
  cases hd : (P k).done with
  | true => exact noth (by simp only [PrS.accept, hv, hd, cond_true, cond_false, Bool.not_true])
  | false =>
  by_cases hb : ¬ (P k).b.1 > 0
  · exact noth (by simp only [PrS.accept, hv, hd, hb, decide_false, cond_false, Bool.not_true])
  have hb : (P k).b.1 > 0 := by omega
  by_cases hin : (j : Int) ∈ (P k).al
  · have : inL (P k).al j = true := by
      cases e : inL (P k).al j with
      | true => rfl
      | false => exact absurd hin (inL_mem.1 e)
    exact noth (by simp only [PrS.accept, hv, hd, hb, this, decide_true, cond_true, cond_false, beq_self_eq_true, Bool.and_self, Bool.not_true, show decide ((j : Int) ≥ 3) = false from decide_eq_false (by omega)])
  have hin2 : inL (P k).al j = false := inL_mem.2 hin
  have ev : (P k).accept (j : Int) (P k).b = bif !(((P k).al.length : Int) + 1 == 2) then (false, { P k with al := (P k).al ++ [(j : Int)] }) else (true, { P k with al := (P k).al ++ [(j : Int)], done := true, ever := true, dec := (P k).value }) := by
    simp only [PrS.accept, hv, hd, hb, hin2, decide_true, cond_true, cond_false, beq_self_eq_true, Bool.and_self, Bool.not_true, show decide ((j : Int) ≥ 3) = false from decide_eq_false (by omega)]
  refine ⟨h.core, fun i hi => ?_, h.a⟩
  by_cases e : i = k
  · subst e
    rw [upd_same, ev]
    have als : ∀ x ∈ (P i).al ++ [(j : Int)], ∃ i' : Nat, x = i' ∧ i' < 3 ∧ vote i' (ord (P i).b) := fun x hx => by
      rcases List.mem_append.1 hx with hx | hx
      · exact I.als hv x hx
      · exact ⟨j, List.mem_singleton.1 hx, hj, hvt⟩
    have al1 := I.al1 hd
    match hal : (P i).al, al1 with
    | [], _ =>
      rw [hal] at als
      exact { I with aln := fun q => (by have q : (P i).valued = false := q; rw [hv] at q; cases q), als := fun _ => als, al1 := fun _ => Nat.le_refl _, alL := Nat.le_succ _ }
    | [g], _ =>
      obtain ⟨i', rfl, hi', hv'⟩ := I.als hv g (by rw [hal]; simp)
      have hij : i' ≠ j := fun e => hin (by rw [hal, e]; simp)
      rw [hal] at als
      exact { I with aln := fun q => (by have q : (P i).valued = false := q; rw [hv] at q; cases q), als := fun _ => als, al1 := fun q => (by cases q), evs := fun _ => ⟨ord (P i).b, ⟨i', j, hi', hj, hij, hv', hvt⟩, I.vals hv⟩, alL := Nat.le_refl _ }
  · rw [upd_ne _ _ e]
    exact h.p i hi
/-- Whatever two of them decided is one and the same, and somebody's wish. -/
theorem SInv.agree (h : SInv w t P A V vote pr) {i k : Nat} (hi : i < 3) (hk : k < 3) (h1 : (P i).ever = true) (h2 : (P k).ever = true) : (P i).dec = (P k).dec ∧ ∃ l, l < 3 ∧ (P i).dec = w l := by
  obtain ⟨n, c1, v1⟩ := (h.p i hi).evs h1
  obtain ⟨n', c2, v2⟩ := (h.p k hk).evs h2
  exact ⟨(h.core.agree c1 v1 c2 v2).symm, h.core.wi n _ v1⟩
theorem prepE_state (a : AcS) (b : B2) : (a.prepE b).2 = (a.prepare b).2 := by
  unfold AcS.prepE AcS.prepare isBal
  cases decide (b.1 > 0) <;> cases decide (b.2 < 3) <;> cases lessB b a.prom <;> rfl
theorem prepE_ok {a : AcS} {b : B2} (h : (a.prepE b).1.2.2.2 = 0) : (a.prepare b).1 = true ∧ (a.prepE b).1 = (a.acc, a.inc, a.has, 0) := by
  revert h
  unfold AcS.prepE AcS.prepare isBal
  cases decide (b.1 > 0) <;> cases decide (b.2 < 3) <;> cases lessB b a.prom <;> intro h
  all_goals first
    | exact ⟨rfl, rfl⟩
    | (simp at h; done)
theorem accE_state (a : AcS) (b : B2) (x : I3) : (a.accE b x).2 = (a.accept (isIncB x) b x).2 := by
  unfold AcS.accE AcS.accept isBal
  cases decide (b.1 > 0) <;> cases decide (b.2 < 3) <;> cases isIncB x <;> cases lessB b a.prom <;> rfl
theorem accE_ok {a : AcS} {b : B2} {x : I3} (h : (a.accE b x).1 = 0) : (a.accept (isIncB x) b x).1 = true := by
  revert h
  unfold AcS.accE AcS.accept isBal
  cases decide (b.1 > 0) <;> cases decide (b.2 < 3) <;> cases isIncB x <;> cases lessB b a.prom <;> intro h
  all_goals first
    | exact rfl
    | (simp at h; done)
def tri {α : Type} (x y z : α) : Nat → α := fun i => if i = 0 then x else if i = 1 then y else z
def SIf (w : Nat → I3) (t : Int) (P : Nat → PrS) (A : Nat → AcS) : Prop := ∃ V vote pr, SInv w t P A V vote pr
section
variable {w : Nat → I3} {t : Int} {P : Nat → PrS} {A : Nat → AcS} {k j : Nat}
theorem SIf.mono (h : SIf w t P A) : SIf w (t + 1) P A := by
  obtain ⟨V, vote, pr, h⟩ := h
  exact ⟨V, vote, pr, h.mono (by omega)⟩
theorem SIf.start (h : SIf w t P A) (ht : t < 4294967295) (hk : k < 3) (hj : j < 3) : SIf w (t + 1) (upd P k ((P k).start (A j).prom)) A := by
  obtain ⟨V, vote, pr, h⟩ := h
  exact ⟨V, vote, pr, h.start ht hk (h.a j hj).prom.1 (h.a j hj).pt⟩
theorem SIf.prep (h : SIf w t P A) (hk : k < 3) (hj : j < 3) : SIf w t P (upd A j ((A j).prepE (P k).b).2) := by
  obtain ⟨V, vote, pr, h⟩ := h
  rw [prepE_state]
  exact ⟨V, vote, _, (h.prepare hj ((h.p k hk).Bal hk) (h.p k hk).bt).1⟩
theorem SIf.prom (h : SIf w t P A) (hk : k < 3) (hj : j < 3) (he : ((A j).prepE (P k).b).1.2.2.2 = 0) : SIf w t (upd P k ((P k).promise (j : Int) (P k).b ((A j).prepE (P k).b).1.1 ((A j).prepE (P k).b).1.2.1 ((A j).prepE (P k).b).1.2.2.1).2) (upd A j ((A j).prepE (P k).b).2) := by
  obtain ⟨V, vote, pr, h⟩ := h
  obtain ⟨h1, h2⟩ := prepE_ok he
  obtain ⟨g1, g2, g3, g4⟩ := h.prepare hj ((h.p k hk).Bal hk) (h.p k hk).bt
  rw [h2, prepE_state]
  have hh : ((A j).prepare (P k).b).2.has = (A j).has := by unfold AcS.has; rw [g3]
  have := g1.promise hk hj (by rw [upd_same]; exact g2 h1)
  rw [upd_same, g3, g4, hh] at this
  obtain ⟨V', h'⟩ := this
  exact ⟨V', _, _, h'⟩
theorem SIf.acc (h : SIf w t P A) (hk : k < 3) (hj : j < 3) (hv : (P k).valued = true) : SIf w t P (upd A j ((A j).accE (P k).b (P k).value).2) := by
  obtain ⟨V, vote, pr, h⟩ := h
  rw [accE_state]
  obtain ⟨vote', pr', h', _⟩ := h.accept hk hj hv (isIncB (P k).value)
  exact ⟨_, _, _, h'⟩
theorem SIf.accd (h : SIf w t P A) (hk : k < 3) (hj : j < 3) (hv : (P k).valued = true) (he : ((A j).accE (P k).b (P k).value).1 = 0) : SIf w t (upd P k ((P k).accept (j : Int) (P k).b).2) (upd A j ((A j).accE (P k).b (P k).value).2) := by
  obtain ⟨V, vote, pr, h⟩ := h
  rw [accE_state]
  obtain ⟨vote', pr', h', h2⟩ := h.accept hk hj hv (isIncB (P k).value)
  exact ⟨_, _, _, h'.accepted hk hj (h2 (accE_ok he))⟩
theorem SIf.lens (h : SIf w t P A) (hk : k < 3) : (P k).pl.length ≤ 2 ∧ (P k).al.length ≤ 2 := by
  obtain ⟨V, vote, pr, h⟩ := h
  exact ⟨(h.p k hk).plL, (h.p k hk).alL⟩
theorem SIf.ok {x y z : I3} (h : SIf (tri x y z) t P A) : AgOk (P 0) (P 1) (P 2) x y z := by
  obtain ⟨V, vote, pr, h⟩ := h
  have one : ∀ k, k < 3 → (P k).ever = true → (P k).dec = x ∨ (P k).dec = y ∨ (P k).dec = z := fun k hk he => by
    obtain ⟨_, l, hl, e⟩ := h.agree hk hk he he
    rw [e]
    unfold tri
    by_cases h0 : l = 0
    · simp [h0]
    · by_cases h1 : l = 1
      · simp [h1]
      · simp [h0, h1]
  exact ⟨one 0 (by omega), one 1 (by omega), one 2 (by omega), fun h1 h2 => (h.agree (by omega) (by omega) h2 h1).1, fun h1 h2 => (h.agree (by omega) (by omega) h2 h1).1, fun h1 h2 => (h.agree (by omega) (by omega) h2 h1).1⟩
end
theorem SIf.new (x y z : I3) : SIf (tri x y z) 0 (tri (prNew 0 x) (prNew 1 y) (prNew 2 z)) (tri ⟨(0, 0), (0, 0), (0, 0, 0)⟩ ⟨(0, 0), (0, 0), (0, 0, 0)⟩ ⟨(0, 0), (0, 0), (0, 0, 0)⟩) := by
  refine ⟨fun _ => none, fun _ _ => False, fun _ => 0, ⟨fun _ _ _ h => h.elim, fun _ _ _ h => h.elim, fun _ _ h => (nomatch h), fun _ _ h => (nomatch h), fun _ _ h => (nomatch h)⟩, fun k hk => ?_, fun j hj => ?_⟩
  · have e : tri (prNew 0 x) (prNew 1 y) (prNew 2 z) k = prNew k (tri x y z k) := by
      match k, hk with
      | 0, _ => rfl
      | 1, _ => rfl
      | 2, _ => rfl
    rw [e]
    exact ⟨rfl, rfl, .inl rfl, Int.le_refl _, (fun h => nomatch h), fun _ => rfl, fun _ _ _ => rfl, fun _ => Nat.zero_le _, (fun _ _ h => nomatch h), (fun _ h => nomatch h), fun _ => rfl, (fun h => nomatch h), fun _ => Nat.zero_le _, (fun h => nomatch h), Nat.zero_le _, Nat.zero_le _⟩
  · have e : (tri ⟨(0, 0), (0, 0), (0, 0, 0)⟩ ⟨(0, 0), (0, 0), (0, 0, 0)⟩ ⟨(0, 0), (0, 0), (0, 0, 0)⟩ : Nat → AcS) j = ⟨(0, 0), (0, 0), (0, 0, 0)⟩ := by
      unfold tri
      by_cases h0 : j = 0
      · simp [h0]
      · by_cases h1 : j = 1
        · simp [h1]
        · simp [h0, h1]
    rw [e]
    exact ⟨⟨by decide, by decide, by decide⟩, by decide, ⟨by decide, by decide, by decide⟩, by decide, rfl, fun _ h => h.elim, (fun h => nomatch h)⟩
end Go.Proofs.Ytlcgnjcfihablaa
