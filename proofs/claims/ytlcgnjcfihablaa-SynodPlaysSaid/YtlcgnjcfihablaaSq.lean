/- SynodPlays: the two proposers do the same (plain).
   Conditions: none. -/
import Derived.Test.YtlcgnjcfihablaaSp
set_option linter.unusedSimpArgs false
set_option linter.unusedVariables false
namespace Go.Proofs.Ytlcgnjcfihablaa
open Go.Eng Go.RowKit Go.ChangeShapes Go.WideShapes
set_option maxRecDepth 100000
def One3 (l : List Int) (a b c : Bool) : Prop := (l = [] ∧ a = false ∧ b = false ∧ c = false) ∨ (l = [0] ∧ a = true ∧ b = false ∧ c = false) ∨ (l = [1] ∧ a = false ∧ b = true ∧ c = false) ∨ (l = [2] ∧ a = false ∧ b = false ∧ c = true)
structure SpR (p : PrS) (r : RfS) : Prop where
  who : r.who = p.who
  want : r.want = p.wants
  b : r.b = p.b
  bz : p.b.1 = 0 → p.b.2 = 0
  b0 : 0 ≤ p.b.1
  bM : p.b.1 < 4294967296
  has : r.has = p.has
  best : p.has = true → r.best = p.acc ∧ r.bestX = p.best
  valued : r.valued = p.valued
  value : p.valued = true → r.value = p.value
  pl : p.valued = false → One3 p.pl r.h0 r.h1 r.h2
  told : r.told = p.done
  al : p.done = false → One3 p.al r.a0 r.a1 r.a2
  ever : r.ever = p.ever
  dec : p.ever = true → r.dec = p.dec
  plL : p.pl.length ≤ 2
  alL : p.al.length ≤ 2
theorem topN_in {a b : Int} (ha : 0 ≤ a ∧ a < 4294967296) (hb : 0 ≤ b ∧ b < 4294967296) : 1 ≤ topN a b ∧ topN a b < 4294967296 := by
  have := topN_le ha hb
  omega
theorem SpR.start {p : PrS} {r : RfS} (h : SpR p r) {o : B2} (ho : 0 ≤ o.1 ∧ o.1 < 4294967296) : SpR (p.start o) (r.start o) := by
  have ht := topN_in ho ⟨h.b0, h.bM⟩
  have hb : topN o.1 r.b.1 = topN o.1 p.b.1 := by rw [h.b]
  exact {
    who := h.who
    want := h.want
    b := by show (topN o.1 r.b.1, r.who) = (topN o.1 p.b.1, p.who); rw [hb, h.who]
    bz := fun hz => by have hz : topN o.1 p.b.1 = 0 := hz; omega
    b0 := by show 0 ≤ topN o.1 p.b.1; omega
    bM := ht.2
    has := rfl
    best := fun hh => by cases hh
    valued := rfl
    value := fun hh => by cases hh
    pl := fun _ => .inl ⟨rfl, rfl, rfl, rfl⟩
    told := rfl
    al := fun _ => .inl ⟨rfl, rfl, rfl, rfl⟩
    ever := h.ever
    dec := h.dec
    plL := Nat.zero_le _
    alL := Nat.zero_le _ }
theorem SpR.zero {p : PrS} {r : RfS} (h : SpR p r) : (r.b.1 == 0 && r.b.2 == 0) = !decide (p.b.1 > 0) := by
  rw [h.b]
  by_cases hz : p.b.1 = 0
  · rw [hz, h.bz hz]; rfl
  · have : p.b.1 > 0 := by have := h.b0; omega
    simp [hz, this]
theorem inL_nil (f : Int) : inL [] f = false := rfl
theorem inL_one (g f : Int) : inL [g] f = (f == g) := rfl
theorem app_len (l : List Int) (f : Int) : (l ++ [f]).length = l.length + 1 := by simp
set_option maxHeartbeats 4000000 in
theorem SpR.promise {p : PrS} {r : RfS} (h : SpR p r) {f : Int} (hf : 0 ≤ f) (b a : B2) (x : I3) (hh : Bool) : (p.promise f b a x hh).1 = (r.promise f b a x hh).1 ∧ SpR (p.promise f b a x hh).2 (r.promise f b a x hh).2 := by
  unfold PrS.promise RfS.promise
  rw [h.zero, h.valued, h.b]
  cases hv : p.valued with
  | true =>
    simp only [cond_true]
    cases decide (p.b.1 > 0) <;> cases (b.1 == p.b.1 && b.2 == p.b.2) <;> cases decide (f ≥ 3) <;> cases at3 f r.h0 r.h1 r.h2 <;> exact ⟨rfl, h⟩
  | false =>
    simp only [cond_false]
    cases hz : decide (p.b.1 > 0) with
    | false => exact ⟨rfl, h⟩
    | true =>
      cases hb : (b.1 == p.b.1 && b.2 == p.b.2) with
      | false => exact ⟨rfl, h⟩
      | true =>
        cases h3 : decide (f ≥ 3) with
        | true => exact ⟨rfl, h⟩
        | false =>
          have h3 := of_decide_eq_false h3
          have hl : lessB r.best a = lessB p.acc a ∨ p.has = false := by
            cases hp : p.has with
            | false => exact .inr rfl
            | true => rw [(h.best hp).1]; exact .inl rfl
          have htk : (hh && (!r.has || lessB r.best a)) = (hh && (!p.has || lessB p.acc a)) := by
            rw [h.has]
            rcases hl with hl | hl
            · rw [hl]
            · rw [hl]; simp
          simp only [Bool.not_true, Bool.not_false, cond_true, cond_false, htk]
          cases ht : (hh && (!p.has || lessB p.acc a)) with
          | true =>
            rcases h.pl hv with ⟨e, e0, e1, e2⟩ | ⟨e, e0, e1, e2⟩ | ⟨e, e0, e1, e2⟩ | ⟨e, e0, e1, e2⟩ <;> rcases three hf h3 with rfl | rfl | rfl <;> simp only [e, e0, e1, e2, inL_nil, inL_one, at3] <;> simp [cntB] <;>
              first
              | exact h
              | exact { h with b := rfl, has := rfl, best := fun _ => ⟨rfl, rfl⟩, valued := rfl, value := fun q => (by cases q), pl := fun _ => by first | exact .inl ⟨rfl, rfl, rfl, rfl⟩ | exact .inr (.inl ⟨rfl, rfl, rfl, rfl⟩) | exact .inr (.inr (.inl ⟨rfl, rfl, rfl, rfl⟩)) | exact .inr (.inr (.inr ⟨rfl, rfl, rfl, rfl⟩)), plL := by simp }
              | exact { h with b := rfl, has := rfl, best := fun _ => ⟨rfl, rfl⟩, valued := rfl, value := fun _ => rfl, pl := fun q => (by cases q), plL := by simp }
          | false =>
            rcases h.pl hv with ⟨e, e0, e1, e2⟩ | ⟨e, e0, e1, e2⟩ | ⟨e, e0, e1, e2⟩ | ⟨e, e0, e1, e2⟩ <;> rcases three hf h3 with rfl | rfl | rfl <;> simp only [e, e0, e1, e2, inL_nil, inL_one, at3] <;> simp [cntB] <;>
              first
              | exact h
              | exact { h with b := rfl, valued := rfl, value := fun q => (by cases q), pl := fun _ => by first | exact .inl ⟨rfl, rfl, rfl, rfl⟩ | exact .inr (.inl ⟨rfl, rfl, rfl, rfl⟩) | exact .inr (.inr (.inl ⟨rfl, rfl, rfl, rfl⟩)) | exact .inr (.inr (.inr ⟨rfl, rfl, rfl, rfl⟩)), plL := by simp }
              | exact { h with b := rfl, valued := rfl, value := fun _ => (by rw [h.has]; cases hp : p.has with | true => exact (h.best hp).2 | false => exact h.want), pl := fun q => (by cases q), plL := by simp }
set_option maxHeartbeats 4000000 in
theorem SpR.accept {p : PrS} {r : RfS} (h : SpR p r) {f : Int} (hf : 0 ≤ f) (b : B2) : (p.accept f b).1 = (r.accept f b).1 ∧ SpR (p.accept f b).2 (r.accept f b).2 := by
  unfold PrS.accept RfS.accept
  rw [h.zero, h.valued, h.told, h.b]
  cases hv : p.valued with
  | false =>
    simp only [cond_true, Bool.not_false]
    cases decide (p.b.1 > 0) <;> cases (b.1 == p.b.1 && b.2 == p.b.2) <;> cases decide (f ≥ 3) <;> cases at3 f r.a0 r.a1 r.a2 <;> exact ⟨rfl, h⟩
  | true =>
    cases hd : p.done with
    | true =>
      simp only [cond_true, cond_false, Bool.not_true]
      cases decide (p.b.1 > 0) <;> cases (b.1 == p.b.1 && b.2 == p.b.2) <;> cases decide (f ≥ 3) <;> cases at3 f r.a0 r.a1 r.a2 <;> simp only [cond_true, cond_false, Bool.not_true, Bool.not_false]
      all_goals first
        | exact ⟨by first | exact trivial | exact rfl, h⟩
        | (cases decide (cntB _ _ _ < 2) <;> exact ⟨by first | exact trivial | exact rfl, { h with b := rfl, valued := hv.symm, told := hd.symm, al := fun q => (by rw [hd] at q; cases q) }⟩)
    | false =>
      simp only [cond_false, Bool.not_true]
      cases hz : decide (p.b.1 > 0) with
      | false => exact ⟨rfl, h⟩
      | true =>
        cases hb : (b.1 == p.b.1 && b.2 == p.b.2) with
        | false => exact ⟨rfl, h⟩
        | true =>
          cases h3 : decide (f ≥ 3) with
          | true => exact ⟨rfl, h⟩
          | false =>
            have h3 := of_decide_eq_false h3
            simp only [Bool.not_true, Bool.not_false, cond_true, cond_false]
            rcases h.al hd with ⟨e, e0, e1, e2⟩ | ⟨e, e0, e1, e2⟩ | ⟨e, e0, e1, e2⟩ | ⟨e, e0, e1, e2⟩ <;> rcases three hf h3 with rfl | rfl | rfl <;> simp only [e, e0, e1, e2, inL_nil, inL_one, at3] <;> simp [cntB] <;>
              first
              | exact h
              | exact { h with b := rfl, valued := rfl, value := fun _ => h.value hv, pl := fun q => (by cases q), told := rfl, al := fun _ => by first | exact .inl ⟨rfl, rfl, rfl, rfl⟩ | exact .inr (.inl ⟨rfl, rfl, rfl, rfl⟩) | exact .inr (.inr (.inl ⟨rfl, rfl, rfl, rfl⟩)) | exact .inr (.inr (.inr ⟨rfl, rfl, rfl, rfl⟩)), alL := by simp }
              | exact { h with b := rfl, valued := rfl, value := fun _ => h.value hv, pl := fun q => (by cases q), told := rfl, al := fun q => (by cases q), ever := rfl, dec := fun _ => h.value hv, alL := by simp }
end Go.Proofs.Ytlcgnjcfihablaa
