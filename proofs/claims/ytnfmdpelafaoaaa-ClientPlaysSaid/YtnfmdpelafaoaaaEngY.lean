/- The engine, part Y: rows of code, loops and calls told by templates.
   Conditions: none. -/
import Derived.Test.YtnfmdpelafaoaaaEngX
set_option linter.unusedSimpArgs false
set_option linter.unusedVariables false
namespace Go.Eng
open Go.RowKit
section
variable {P : Program} {T : Tab}

/- Numbers that are alike. -/
def TV.eqv : TV → Num → Num → Prop
  | .i _, x, y => x.I = y.I
  | .b, x, y => x.B = y.B
  | .s, x, y => x.S = y.S
  | _, _, _ => True
def eqvL : List TV → List Num → List Num → Prop
  | [], _, _ => True
  | t :: ts, xs, ys => t.eqv (hdN xs) (hdN ys) ∧ eqvL ts (tlN xs) (tlN ys)
def TA.eqv : TA → List Num → List Num → Prop
  | .one t, xs, ys => t.eqv (hdN xs) (hdN ys)
  | .agg l, xs, ys => eqvL l xs ys
def eqvA : List TA → List (List Num) → List (List Num) → Prop
  | [], _, _ => True
  | t :: ts, xs, ys => t.eqv (hdL xs) (hdL ys) ∧ eqvA ts (tlL xs) (tlL ys)
def eqvLn : Option Int → Nat → Nat → Prop
  | none, x, y => x = y
  | some _, _, _ => True
def TO.eqv : TO → ON → ON → Prop
  | .box cs, x, y => eqvL cs x.xs y.xs
  | .lst ln row _, x, y => eqvLn ln x.len y.len ∧ ∀ i : Nat, (i : Int) < (lnS ln y.len).v → eqvL row (x.rows i) (y.rows i)
  | .tok, _, _ => True
def eqvH : List (Nat × TO) → List ON → List ON → Prop
  | [], _, _ => True
  | p :: l, xs, ys => p.2.eqv (hdO xs) (hdO ys) ∧ eqvH l (tlO xs) (tlO ys)
def TS.eqv (t : TS) (x y : EN) : Prop := eqvA t.vs x.a y.a ∧ eqvH t.hp x.o y.o
theorem TV.eqv_inst {t : TV} {x y : Num} (h : t.eqv x y) : t.inst x = t.inst y := by
  cases t <;> simp only [TV.eqv] at h <;> simp only [TV.inst, h]
theorem eqvL_inst : ∀ {ts : List TV} {xs ys : List Num}, eqvL ts xs ys → instL ts xs = instL ts ys
  | [], _, _, _ => rfl
  | t :: ts, xs, ys, h => by
    simp only [instL]
    rw [TV.eqv_inst h.1, eqvL_inst h.2]
theorem TA.eqv_inst {t : TA} {x y : List Num} (h : t.eqv x y) : t.inst x = t.inst y := by
  cases t with
  | one t => exact TV.eqv_inst (t := t) h
  | agg l => exact congrArg AV.agg (eqvL_inst (ts := l) h)
theorem eqvA_inst : ∀ {ts : List TA} {xs ys : List (List Num)}, eqvA ts xs ys → instA ts xs = instA ts ys
  | [], _, _, _ => rfl
  | t :: ts, xs, ys, h => by
    simp only [instA]
    rw [TA.eqv_inst h.1, eqvA_inst h.2]
theorem eqvL_refl : ∀ (ts : List TV) (xs : List Num), eqvL ts xs xs
  | [], _ => trivial
  | t :: ts, xs => ⟨by cases t <;> simp [TV.eqv], eqvL_refl ts _⟩
theorem eqvA_refl : ∀ (ts : List TA) (xs : List (List Num)), eqvA ts xs xs
  | [], _ => trivial
  | t :: ts, xs => ⟨by cases t with
      | one t => cases t <;> simp [TA.eqv, TV.eqv]
      | agg l => exact eqvL_refl l _, eqvA_refl ts _⟩
theorem eqvH_refl : ∀ (l : List (Nat × TO)) (xs : List ON), eqvH l xs xs
  | [], _ => trivial
  | p :: l, xs => ⟨by
      obtain ⟨k, t⟩ := p
      cases t with
      | box cs => exact eqvL_refl cs _
      | lst ln row own => exact ⟨by cases ln <;> simp [eqvLn], fun i _ => eqvL_refl row _⟩
      | tok => trivial, eqvH_refl l _⟩
theorem TS.eqv_refl (t : TS) (x : EN) : t.eqv x x := ⟨eqvA_refl _ _, eqvH_refl _ _⟩
/-- Objects that are alike. -/
def eqO : AObj → AObj → Prop
  | .box a, .box b => a = b
  | .lst l s r g, .lst l' s' r' g' => l.v = l'.v ∧ s = s' ∧ g = g' ∧ ∀ i : Nat, (i : Int) < l'.v → r i = r' i
  | .tok, .tok => True
  | _, _ => False
theorem TO.eqv_inst {t : TO} {x y : ON} (h : t.eqv x y) : eqO (t.inst x) (t.inst y) := by
  cases t with
  | box cs => exact eqvL_inst (ts := cs) h
  | lst ln row own =>
    refine ⟨?_, rfl, rfl, fun i hi => eqvL_inst (h.2 i hi)⟩
    cases ln with
    | none => exact congrArg (fun n : Nat => (n : Int)) h.1
    | some n => rfl
  | tok => trivial
theorem eqvH_get : ∀ {l : List (Nat × TO)} {xs ys : List ON}, eqvH l xs ys → ∀ k o, hget k (mkHeap (instH l ys)) = some o → ∃ o', hget k (mkHeap (instH l xs)) = some o' ∧ eqO o' o
  | [], _, _, _, k, o, h => by cases h
  | p :: l, xs, ys, e, k, o, h => by
    simp only [instH, mkHeap, hget] at h ⊢
    cases hb : Nat.beq p.1 k
    · rw [hb] at h
      exact eqvH_get e.2 k o h
    · rw [hb] at h
      cases h
      exact ⟨_, rfl, TO.eqv_inst e.1⟩
theorem eqO_owns {E : Env} {k b : Nat} {o o' : AObj} (h : eqO o' o) : owns E k o b ↔ owns E k o' b := by
  cases o <;> cases o' <;> simp only [eqO] at h <;> exact Iff.rfl
theorem eqO_rel {E : Env} {lk lk' : Look} {w : World} {k : Nat} {o o' : AObj} (h : eqO o' o) (hl : ∀ k, lk k = some .tok → lk' k = some .tok) (ho : objRel E lk' w k o') : objRel E lk w k o := by
  cases o <;> cases o' <;> simp only [eqO] at h
  · subst h; exact ho
  · exact ho
  · rename_i l s r g l' s' r' g'
    obtain ⟨h1, rfl, rfl, h4⟩ := h
    obtain ⟨b1, b2, b3⟩ := ho
    refine ⟨by rw [b1, h1], b2, fun hc => ?_⟩
    obtain ⟨B, off, c1, c2, c3⟩ := b3 hc
    refine ⟨B, off, c1, c2, ?_⟩
    have rows_ok : ∀ get : Nat → Option Value, RowsAt E get off s' (E.hdr k).2.1 r' → RowsAt E get off s' (E.hdr k).2.1 r := by
      intro get hg i hi
      have : r' i = r i := h4 i (by rw [← h1, ← b1]; exact_mod_cast hi)
      rw [← this]
      exact hg i hi
    cases g' with
    | none => exact rows_ok _ c3
    | some g =>
      intro hg
      obtain ⟨d1, C, ty, d2, d3, d4⟩ := c3 (hl g hg)
      exact ⟨d1, C, ty, d2, d3, rows_ok _ d4⟩
theorem eqvH_relU {A : Nat → Prop} {E : Env} {w : World} {l : List (Nat × TO)} {xs ys : List ON} (h : eqvH l xs ys) (hU : RelU A E (lookOf (mkHeap (instH l xs))) w) : RelU A E (lookOf (mkHeap (instH l ys))) w := by
  have gt : ∀ k o, lookOf (mkHeap (instH l ys)) k = some o → ∃ o', lookOf (mkHeap (instH l xs)) k = some o' ∧ eqO o' o := eqvH_get h
  have tk : ∀ k, lookOf (mkHeap (instH l ys)) k = some .tok → lookOf (mkHeap (instH l xs)) k = some .tok := fun k hk => by
    obtain ⟨o', h1, h2⟩ := gt k _ hk
    cases o' <;> simp only [eqO] at h2
    exact h1
  refine ⟨fun k o ho => ?_, fun k len sz rows g ho => ?_, fun E' hE => ⟨fun k o ho => ?_, fun k o k' o' b ho ho' hne h1 h2 => ?_, fun k len sz rows a k' o' ho hc ha ho' h2 => ?_⟩⟩
  · obtain ⟨o', h1, _⟩ := gt k o ho
    exact hU.dom k o' h1
  · obtain ⟨o', h1, h2⟩ := gt k _ ho
    cases o' <;> simp only [eqO] at h2
    obtain ⟨_, _, rfl, _⟩ := h2
    exact hU.grp k _ _ _ _ h1
  · obtain ⟨o', h1, h2⟩ := gt k o ho
    exact eqO_rel h2 tk ((hU.rel E' hE).obj k o' h1)
  · obtain ⟨o1, g1, g2⟩ := gt k o ho
    obtain ⟨o2, g3, g4⟩ := gt k' o' ho'
    exact (hU.rel E' hE).apart k o1 k' o2 b g1 g3 hne ((eqO_owns g2).1 h1) ((eqO_owns g4).1 h2)
  · obtain ⟨o1, g1, g2⟩ := gt k _ ho
    obtain ⟨o2, g3, g4⟩ := gt k' o' ho'
    cases o1 <;> simp only [eqO] at g2
    obtain ⟨_, _, rfl, _⟩ := g2
    exact (hU.rel E' hE).ro k _ _ _ a k' o2 g1 hc ha g3 ((eqO_owns g4).1 h2)
theorem eqvH_wext {E : Env} {w : World} {l : List (Nat × TO)} {xs ys : List ON} (h : eqvH l xs ys) : WExt E (lookOf (mkHeap (instH l xs))) w E (lookOf (mkHeap (instH l ys))) w := by
  have gt : ∀ k o, lookOf (mkHeap (instH l ys)) k = some o → ∃ o', lookOf (mkHeap (instH l xs)) k = some o' ∧ eqO o' o := eqvH_get h
  refine ⟨rfl, rfl, rfl, Nat.le_refl _, fun _ _ _ => rfl, fun k o b ho hb => ?_, fun k len sz rows a ho hc ha => ?_⟩
  · obtain ⟨o', h1, h2⟩ := gt k o ho
    exact .inl ⟨k, o', h1, (eqO_owns h2).1 hb⟩
  · obtain ⟨o', h1, h2⟩ := gt k _ ho
    cases o' <;> simp only [eqO] at h2
    obtain ⟨_, _, rfl, _⟩ := h2
    exact .inl ⟨k, _, _, _, a, h1, hc, ha, rfl⟩

def TS.heap (t : TS) (en : EN) : Heap := mkHeap (t.objs en)
/-- A state that says the same. -/
theorem HTg.pre {nt b : Nat} {WP : (Exit → Act → World → Prop) → Act → World → Prop} (hWP : ∀ {Q Q' : Exit → Act → World → Prop} {a : Act} {w : World}, WP Q a w → (∀ e a w, Q e a w → Q' e a w) → WP Q' a w)
    {t : TS} {x y : EN} (h : t.eqv x y) {Q : Ex → Nat → Tm → Heap → Prop} (hc : HTg nt b WP t.m (t.tm y) (t.heap y) Q) : HTg nt b WP t.m (t.tm x) (t.heap x) Q := by
  intro E a w hS
  have etm : t.tm x = t.tm y := by
    unfold TS.tm TS.vals
    rw [eqvA_inst h.1]
  refine hWP (hc E a w ⟨eqvH_relU h.2 hS.rel, hS.size, hS.defers, by rw [← etm]; exact hS.tm⟩) ?_
  rintro e a' w' ⟨ex, m', κ', h', E', rfl, q, s, g, ga⟩
  exact ⟨ex, m', κ', h', E', rfl, q, s, (eqvH_wext h.2).trans g, ga⟩

/- Runs. -/
def mustAll {R : Type} : List Bool → Tree R → Tree R
  | [], t => t
  | b :: l, t => .must b (mustAll l t)
theorem mustAll_sel {R : Type} : ∀ {l : List Bool} {t : Tree R} {r : R}, (mustAll l t).sel = some r → (∀ x ∈ l, x = true) ∧ t.sel = some r
  | [], t, r, h => ⟨fun _ h => (nomatch h), h⟩
  | b :: l, t, r, h => by
    cases b with
    | false => cases h
    | true =>
      obtain ⟨h1, h2⟩ := mustAll_sel (show (mustAll l t).sel = some r from h)
      exact ⟨fun x hx => (List.mem_cons.1 hx).elim id (h1 x), h2⟩
/-- The templates of a row of code's ends. -/
structure Pk where
  n : Option TS
  x : List (Nat × TS)
  r : Option TS
def pickX : Nat → List (Nat × TS) → Option TS
  | _, [] => none
  | i, p :: l => match Nat.beq p.1 i with
    | true => some p.2
    | false => pickX i l
def Pk.at (p : Pk) : Ex → Option TS
  | .normal => p.n
  | .exit i => pickX i p.x
  | .ret => p.r
def tgets (τ : Tm) : List Nat → List AV
  | [] => []
  | t :: ts => tget t τ :: tgets τ ts
def outX (b : Nat) (p : Pk) (s : St) : Tree (Ex × EN) := match p.at s.ex, Nat.ble s.key nilK with
  | some t, true => match matS false b t (tgets s.tm t.tmps) s.heap with
    | some q => mustAll q.ms (.leaf (s.ex, q.en))
    | none => .fail "the state is not of its template"
  | _, _ => .fail "an end without a template"
theorem outX_sel {b : Nat} {p : Pk} {s : St} {r : Ex × EN} (h : (outX b p s).sel = some r) : ∃ t q, p.at s.ex = some t ∧ s.key ≤ nilK ∧ MatOk false b t (tgets s.tm t.tmps) s.heap q ∧ (∀ x ∈ q.ms, x = true) ∧ r = (s.ex, q.en) := by
  unfold outX at h
  split at h
  · rename_i t hp hk
    split at h
    · rename_i q hq
      obtain ⟨h1, h2⟩ := mustAll_sel h
      cases h2
      exact ⟨t, q, hp, Nat.le_of_ble_eq_true hk, matS_ok hq, h1, rfl⟩
    · cases h
  · cases h
theorem zip_get {φ : Nat → Nat} {m : Nat} {τ : Tm} {t : Nat} {v : AV} : ∀ {ts : List Nat} {vs : List TA} {a : List (List Num)}, getA φ vs (tgets τ ts) = some a → vs.all (TA.keyB m) = true → tfind t (zipTm ts (instA vs a)) = some v →
    (∀ E, den E (tget t τ) = den (viaN E φ) v) ∧ (keysOf v).all (Nat.blt · m) = true
  | [], [], a, h, _, hv => by simp [zipTm, tfind] at hv
  | [], _ :: _, a, h, _, hv => by simp [zipTm, tfind] at hv
  | _ :: _, [], a, h, _, hv => by simp [instA, zipTm, tfind] at hv
  | j :: ts, x :: vs, a, h, hk, hv => by
    simp only [List.all_cons, Bool.and_eq_true] at hk
    simp only [tgets, getA] at h
    split at h
    · rename_i y hy
      split at h
      · rename_i ys hys
        cases h
        simp only [instA, zipTm, tfind, hdL, tlL] at hv
        cases hb : Nat.beq j t
        · rw [hb] at hv
          exact zip_get hys hk.2 hv
        · rw [hb] at hv
          cases hv
          rw [← Nat.eq_of_beq_eq_true hb]
          exact ⟨fun E => TA.get_den hy E, TA.keys_inst hk.1 _⟩
      · cases h
    · cases h
/-- What is owned, what is only read, in a state told by its template. -/
theorem MatOk.wext {b : Nat} {t : TS} {vals : List AV} {h : Heap} {q : Mat} (M : MatOk false b t vals h q) (hms : ∀ x ∈ q.ms, x = true) (E : Env) (w : World) : WExt E (lookOf h) w (viaN E (lkN q.φ)) (lookOf (t.heap q.en)) w := by
  obtain ⟨hpb, hpd, _⟩ := M.hp
  have find : ∀ k o, lookOf (t.heap q.en) k = some o → ∃ to g, (k, to) ∈ t.hp ∧ k < t.m ∧ getO false (lkN q.φ) h k to = some g ∧ o = to.inst g.on := by
    intro k o ho
    obtain ⟨to, g, h1, h2, h3, _, _⟩ := getOs_mem M.o hms (k, o) (mkHeap_mem ho)
    exact ⟨to, g, h1, (hpB_mem hpb h1).1, h2, h3⟩
  refine ⟨rfl, rfl, rfl, Nat.le_refl _, fun _ _ _ => rfl, fun k o b ho hb => ?_, fun k len sz rows a ho hc ha => ?_⟩
  · obtain ⟨to, g, _, hk, hg, rfl⟩ := find k o ho
    cases hn : isNil (lkN q.φ k) with
    | true =>
      cases to with
      | box cs => simp [getO, hn] at hg
      | lst ln row ow => exact hb.elim
      | tok =>
        have hb : b ∈ (nilExt E).fp (lkN q.φ k) := hb
        simp only [nilExt, hn] at hb
        cases hb
    | false =>
      simp only [getO, hn] at hg
      split at hg
      · rename_i o' ho'
        refine .inl ⟨lkN q.φ k, o', ho', ?_⟩
        cases to <;> cases o' <;> simp only [TO.get] at hg <;> try (cases hg; done)
        · have hb : b ∈ (nilExt E).fp (lkN q.φ k) := hb
          simp only [nilExt, hn] at hb
          exact hb
        · exact hb
        · have hb : b ∈ (nilExt E).fp (lkN q.φ k) := hb
          simp only [nilExt, hn] at hb
          exact hb
      · cases hg
  · obtain ⟨to, g, hmem, hk, hg, he⟩ := find k _ ho
    cases hn : isNil (lkN q.φ k) with
    | true =>
      simp only [Env.via, nilExt, hn] at hc
      exact absurd hc (Nat.lt_irrefl 0)
    | false =>
      simp only [Env.via, nilExt, hn] at hc ha
      simp only [getO, hn] at hg
      split at hg
      · rename_i o' ho'
        cases to <;> simp only [TO.inst] at he <;> try (cases he; done)
        cases o' <;> simp only [TO.get] at hg <;> try (cases hg; done)
        rename_i ln row ow len' sz' rows' gr
        have how : ow = none := by cases he; rfl
        subst how
        split at hg
        · rename_i tk h1 h2 h3
          cases gr with
          | none => exact .inl ⟨_, _, _, _, a, ho', hc, ha, rfl⟩
          | some g' => simp [ownOk] at h3
        · cases hg
      · cases hg

abbrev QX (p : Pk) (R : Ex → EN → Prop) : Ex → Nat → Tm → Heap → Prop := fun ex m' κ' h' => ∃ t en, p.at ex = some t ∧ R ex en ∧ m' = t.m ∧ κ' = t.tm en ∧ h' = t.heap en
theorem HTg.runX (hT : TabAll P T) {n : Nat} {f : FuncId} {nt b : Nat} {c : Code} {WP : (Exit → Act → World → Prop) → Act → World → Prop} (hin : ∀ τ h key s, codeD P T n f nt c τ h key = some s → RunSpec nt WP τ h key s) {m : Nat} {κ : Tm} {h : Heap} {p : Pk} {R : Ex → EN → Prop} (hb : b ≤ m)
    (H : ∀ τ0 : Tm, (codeT P T n f nt c (κ ++ τ0) h m (outX b p)).Holds fun r => R r.1 r.2) : HTg nt b WP m κ h (QX p R) := by
  intro E a w hS
  obtain ⟨r, h1, hR⟩ := H (junk a nt)
  rw [codeT_sel] at h1
  obtain ⟨s, hs, h1⟩ := obind_some h1
  obtain ⟨t, q, e1, hkey, M, hms, rfl⟩ := outX_sel h1
  obtain ⟨hge, W, hW, _⟩ := codeD_grows hT.toTabW n f nt c _ h m s hs
  refine hin _ h m s hs (· < m) E a w _ hS.stU (fun k h1 _ h2 => by omega) fun a' w' E1 hS1 hx1 => ?_
  refine ⟨s.ex, t.m, t.tm q.en, t.heap q.en, viaN E1 (lkN q.φ), rfl, ⟨t, q.en, e1, hR, rfl, rfl, rfl⟩, ⟨M.relU hms hS1.rel (fun _ _ _ => rfl) (fun _ _ => rfl), hS1.size, hS1.defers, fun j v hj E2 hE => ?_⟩, hx1.wext.trans (M.wext hms E1 w'), fun k hk => ?_⟩
  · obtain ⟨z1, z2⟩ := zip_get M.a M.hp.2.2 hj
    rw [hS1.tm E1 (Agree.refl _ _) j, z1 E1]
    exact (den_cl hE v (lt_of_all z2)).symm
  · have h1 := hx1.agree k (Nat.lt_of_lt_of_le hk hb)
    have hn : isNil k = false := isNil_lt (by omega)
    simp only [Env.via, nilExt, M.pre k hk, hn]
    exact h1
theorem HT.runX (hT : TabAll P T) (hm : P.follows .mixedOrders = true) {n : Nat} {f : FuncId} {nt b : Nat} {c : Code} (hin : Within P f nt c) {m : Nat} {κ : Tm} {h : Heap} {p : Pk} {R : Ex → EN → Prop} (hb : b ≤ m)
    (H : ∀ τ0 : Tm, (codeT P T n f nt c (κ ++ τ0) h m (outX b p)).Holds fun r => R r.1 r.2) : HT P nt b c m κ h (QX p R) :=
  HTg.runX hT (fun _ _ _ s e => codeD_sound hT hm n f nt c _ _ _ s hin e) hb H
theorem HTL.runX (hT : TabAll P T) (hm : P.follows .mixedOrders = true) {n : Nat} {f : FuncId} {nt b : Nat} {l : List Code} (hne : l ≠ []) (hin : Within P f nt (ofL l)) {m : Nat} {κ : Tm} {h : Heap} {p : Pk} {R : Ex → EN → Prop} (hb : b ≤ m)
    (H : ∀ τ0 : Tm, (codeT P T n f nt (ofL l) (κ ++ τ0) h m (outX b p)).Holds fun r => R r.1 r.2) : HTL P nt b l m κ h (QX p R) :=
  HTg.runX hT (fun _ _ _ s e => codeD_soundL hT hm l n _ _ _ s hne hin e) hb H

/-- A loop, its states by data. -/
theorem HT.loopX (hT : TabAll P T) (hm : P.follows .mixedOrders = true) {n : Nat} {f : FuncId} {nt b : Nat} {x : Code} (hin : Within P f nt x) {D : Type} (t : TS) (xs : List (Nat × TS)) (rt : Option TS) (en : D → EN) (I : D → Prop) (μ : D → Nat) (R : D → Ex → EN → Prop) (hb : b ≤ t.m)
    (round : ∀ d, I d → ∀ τ0 : Tm, (codeT P T n f nt x (t.tm (en d) ++ τ0) (t.heap (en d)) t.m (outX b ⟨some t, xs, rt⟩)).Holds fun r =>
      match r.1 with
      | .normal => ∃ d', I d' ∧ μ d' < μ d ∧ t.eqv r.2 (en d') ∧ ∀ ex e, R d' ex e → R d ex e
      | ex => R d ex r.2)
    (d : D) (hd : I d) : HT P nt b (.loop x) t.m (t.tm (en d)) (t.heap (en d)) (QX ⟨none, xs, rt⟩ (R d)) := by
  refine HT.loop (D := EN × D) (fun q => μ q.2) (fun _ => t.m) (fun q => t.tm q.1) (fun q => t.heap q.1) (fun q => I q.2 ∧ t.eqv q.1 (en q.2)) (fun q => QX ⟨none, xs, rt⟩ (R q.2)) ?_ (en d, d) ⟨hd, t.eqv_refl _⟩
  rintro ⟨e, d⟩ ⟨hI, he⟩
  refine HTg.pre (WP := fun Q a w => x.wp P Q a w) (fun h hq => wp_mono h hq) he (HT.mono (HT.runX (R := fun ex en' => match ex with
      | .normal => ∃ d', I d' ∧ μ d' < μ d ∧ t.eqv en' (en d') ∧ ∀ ex e, R d' ex e → R d ex e
      | ex => R d ex en') hT hm hin hb (round d hI)) ?_)
  rintro ex m' κ' h' ⟨t', e', h1, h2, rfl, rfl, rfl⟩
  cases ex with
  | normal =>
    cases h1
    obtain ⟨d', i1, i2, i3, i4⟩ := h2
    exact ⟨(e', d'), ⟨i1, i3⟩, i2, rfl, rfl, rfl, fun ex m2 κ2 h2 ⟨t2, e2, j1, j2, j3⟩ => ⟨t2, e2, j1, i4 _ _ j2, j3⟩⟩
  | exit i => exact ⟨t', e', h1, h2, rfl, rfl, rfl⟩
  | ret => exact ⟨t', e', h1, h2, rfl, rfl, rfl⟩
/-- A block of a loop: its exit is where it goes on. -/
theorem QX_block {id : Nat} {t' : TS} {rt : Option TS} {R : Ex → EN → Prop} {ex : Ex} {m : Nat} {κ : Tm} {h : Heap} (q : QX ⟨none, [(id, t')], rt⟩ R ex m κ h) :
    QX ⟨some t', [], rt⟩ (fun ex e => match ex with | .normal => R (.exit id) e | ex => R ex e) (exBlock id ex) m κ h := by
  obtain ⟨t, e, h1, h2, h3⟩ := q
  cases ex with
  | normal => cases h1
  | exit i =>
    simp only [Pk.at, pickX] at h1
    split at h1
    · rename_i hb
      have := Nat.eq_of_beq_eq_true hb
      subst this
      simp only [exBlock, hb]
      exact ⟨t, e, h1, h2, h3⟩
    · cases h1
  | ret => exact ⟨t, e, h1, h2, h3⟩

/- Calls. -/
def unres : Nat → AV → List AV
  | 1, v => [v]
  | _, .tup l => l
  | _, _ => []
def resB : Nat → AV → Bool
  | 1, _ => true
  | _, .tup l => match l with
    | [_] => false
    | _ => true
  | _, _ => false
theorem res_unres {n : Nat} {v : AV} (h : resB n v = true) (hl : (unres n v).length = n) : resV (unres n v) = v := by
  match n, v with
  | 1, v => rfl
  | 0, .tup l => simp only [unres] at hl ⊢; rw [List.eq_nil_of_length_eq_zero hl]; rfl
  | n + 2, .tup l => match l, hl with
    | a :: b :: l, _ => rfl
def outV (b : Nat) (t : TS) (v : AV) (h : Heap) (key : Nat) : Tree EN := match Nat.ble key nilK, resB t.vs.length v with
  | true, true => match matS false b t (unres t.vs.length v) h with
    | some q => mustAll q.ms (.leaf q.en)
    | none => .fail "the result is not of its template"
  | _, _ => .fail "keys"
theorem getA_length {φ : Nat → Nat} : ∀ {ts : List TA} {vs : List AV} {xs : List (List Num)}, getA φ ts vs = some xs → vs.length = ts.length := fun {ts vs xs} h => by
  have := congrArg List.length (getA_den h default)
  rwa [denL_length, denL_length, instA_length] at this
theorem den_resV (E E' : Env) : ∀ {l l' : List AV}, denL E l = denL E' l' → den E (resV l) = den E' (resV l')
  | [], [], _ => rfl
  | [a], [b], h => by
    simp only [denL] at h
    exact (List.cons.inj h).1
  | a :: b :: l, a' :: b' :: l', h => by
    show den E (.tup (a :: b :: l)) = den E' (.tup (a' :: b' :: l'))
    simp only [den, h]
  | [], _ :: _, h => by simp [denL] at h
  | _ :: _, [], h => by simp [denL] at h
  | [_], _ :: _ :: _, h => by simp [denL] at h
  | _ :: _ :: _, [_], h => by simp [denL] at h
theorem keysOf_resV {m : Nat} : ∀ {l : List AV}, (keysL l).all (Nat.blt · m) = true → (keysOf (resV l)).all (Nat.blt · m) = true
  | [], _ => rfl
  | [a], h => by
    simp only [keysL, List.append_nil] at h
    exact h
  | a :: b :: l, h => h
/-- What a call owes, by templates. -/
def StdX (P : Program) (f : FuncId) (t : TS) (x : EN) (t' : TS) (y : EN) : Prop := StdN P f t.m (t.objs x) (t.vals x) t'.m (t'.objs y) (resV (t'.vals y))
theorem stdX_tree (hT : TabAll P T) (hm : P.follows .mixedOrders = true) {n : Nat} {f : FuncId} {t t' : TS} {x y : EN} (hargs : t.vs.all (TA.keyB t.m) = true)
    (H : (callW P (codeT P T n) f (t.vals x) (t.heap x) t.m (outV t.m t')).Holds fun e => t'.eqv e y) : StdX P f t x t' y := by
  intro E w hU
  obtain ⟨o, h1, h2⟩ := H
  rw [callW_nat (runD := codeD P T n) (fun f nt c τ h key K => codeT_sel n f nt c τ h key K)] at h1
  obtain ⟨⟨v0, H0, key'⟩, hc, h1⟩ := obind_some h1
  dsimp only [outV] at h1
  split at h1
  · rename_i hkey hres
    have hkey := Nat.le_of_ble_eq_true hkey
    split at h1
    · rename_i q hq
      obtain ⟨hms, h1⟩ := mustAll_sel h1
      cases h1
      have M := matS_ok hq
      obtain ⟨hge, W, hW, _⟩ := call_grows hT n f (t.vals x) _ t.m v0 H0 key' hc
      have := call_sound hT hm n f (t.vals x) _ t.m v0 H0 key' W hc hW (· < t.m) E _ w _ hU rfl (fun k h1 _ h2 => by omega) (fun E' hE => congrArg List.toArray (denL_cl hE (t.vals x) (lt_of_all (instA_keys _ hargs))).symm)
      refine this.mono ?_
      rintro e w' ⟨val, E1, rfl, g1, g2, g3⟩
      have hW : H0 = W ++ mkHeap (t.objs x) := hW
      rw [← lookOf_append, ← hW] at g2 g3
      refine ⟨viaN E1 (lkN q.φ), ?_, fun k hk => ?_, eqvH_relU h2.2 (M.relU hms g2 (fun _ _ _ => rfl) (fun _ _ => rfl)), (g3.wext.trans (M.wext hms E1 w')).trans (eqvH_wext h2.2)⟩
      · have hl := getA_length M.a
        rw [g1 E1 (Agree.refl _ _), ← res_unres hres hl]
        refine congrArg Ending.returned (den_resV _ _ ?_)
        rw [getA_den M.a E1]
        unfold TS.vals
        rw [eqvA_inst h2.1]
      · have h1 := g3.agree k hk
        have hn : isNil k = false := isNil_lt (by omega)
        simp only [Env.via, nilExt, M.pre k hk, hn]
        exact h1
    · cases h1
  · cases h1
/-- Out of a body's row: the results lie in the state behind it. -/
theorem stdX_ht {f : FuncId} {fn : Func} {c : Code} (hf : P.funcs[f]? = some fn) (hb : fn.body = some c) {t t' : TS} {x y : EN} (hle : Nat.ble t.vs.length fn.ntmps = true) (hargs : t.vs.all (TA.keyB t.m) = true)
    (H : HT P fn.ntmps t.m c t.m (argTm 0 (t.vals x)) (t.heap x) fun ex m2 κ' h2 => (∀ i, ex ≠ .exit i) ∧ m2 = t'.m ∧ (∀ k o, hget k (t'.heap y) = some o → hget k h2 = some o) ∧ ∃ l, (∀ τ0, resA P (κ' ++ τ0) h2 fn.results.toList = some l) ∧ ∀ E, den E (resV l) = den E (resV (t'.vals y))) : StdX P f t x t' y := by
  have e : (t.vals x).length = t.vs.length := instA_length _ _
  exact stdN_of_ht hf hb (by rw [e]; exact hle) (instA_keys _ hargs) H
end
end Go.Eng
