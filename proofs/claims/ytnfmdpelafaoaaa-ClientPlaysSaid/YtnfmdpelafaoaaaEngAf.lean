/- The engine, part Af: what came in stays beside the triples, and is brought in where a loop's round asks for it.
   Conditions: none. -/
import Derived.Test.YtnfmdpelafaoaaaEngAe
set_option linter.unusedSimpArgs false
set_option linter.unusedVariables false
namespace Go.Eng
open Go.RowKit
/-- Rows that came in. -/
structure RoF where
  hd : Option Addr × Nat × Nat
  sz : Nat
  vals : Nat → List Value
section
variable {P : Program} {T : Tab}
/-- What code keeps of the world, without what it only reads. -/
structure WX (E : Env) (lk : Look) (w : World) (E' : Env) (lk' : Look) (w' : World) : Prop where
  os : w'.os = w.os
  tape : w'.tape = w.tape
  output : w'.output = w.output
  size : w.heap.size ≤ w'.heap.size
  frame : ∀ b, b < w.heap.size → (∀ k o, lk k = some o → ¬ owns E k o b) → w'.heap[b]? = w.heap[b]?
  fresh : ∀ k o b, lk' k = some o → owns E' k o b → (∃ k0 o0, lk k0 = some o0 ∧ owns E k0 o0 b) ∨ w.heap.size ≤ b
theorem WExt.wx {E E' : Env} {lk lk' : Look} {w w' : World} (h : WExt E lk w E' lk' w') : WX E lk w E' lk' w' := ⟨h.os, h.tape, h.output, h.size, h.frame, h.fresh⟩
theorem WX.refl (E : Env) (lk : Look) (w : World) : WX E lk w E lk w := (WExt.refl E lk w).wx
theorem WX.trans {E E' E'' : Env} {lk lk' lk'' : Look} {w w' w'' : World} (h : WX E lk w E' lk' w') (h' : WX E' lk' w' E'' lk'' w'') : WX E lk w E'' lk'' w'' where
  os := h'.os.trans h.os
  tape := h'.tape.trans h.tape
  output := h'.output.trans h.output
  size := Nat.le_trans h.size h'.size
  frame := fun b hb hn => by
    rw [h'.frame b (Nat.lt_of_lt_of_le hb h.size) (fun k o ho hown => by
      rcases h.fresh k o b ho hown with ⟨k0, o0, h0, h1⟩ | h1
      · exact hn k0 o0 h0 h1
      · omega), h.frame b hb hn]
  fresh := fun k o b ho hown => by
    rcases h'.fresh k o b ho hown with ⟨k0, o0, h0, h1⟩ | h1
    · exact h.fresh k0 o0 b h0 h1
    · exact .inr (Nat.le_trans h.size h1)
def HidOK (F : RoF → Prop) (E : Env) (lk : Look) (w : World) : Prop :=
  ∀ f, F f → rowsV w f.hd f.sz f.vals ∧ (0 < f.hd.2.2 → ∀ a, f.hd.1 = some a → a.block < w.heap.size ∧ ∀ j o, lk j = some o → ¬ owns E j o a.block)
theorem cell_same {w w' : World} {a : Addr} (h : w'.heap[a.block]? = w.heap[a.block]?) : w'.cell? a = w.cell? a := by
  unfold World.cell?
  rw [h]
theorem HidOK.keep {F : RoF → Prop} {E E' : Env} {lk lk' : Look} {w w' : World} (h : HidOK F E lk w) (hx : WX E lk w E' lk' w') : HidOK F E' lk' w' := by
  intro f hf
  obtain ⟨⟨h1, h2⟩, h3⟩ := h f hf
  have still : 0 < f.hd.2.2 → ∀ a, f.hd.1 = some a → w'.heap[a.block]? = w.heap[a.block]? := fun hc a ha => by
    obtain ⟨g1, g2⟩ := h3 hc a ha
    exact hx.frame a.block g1 g2
  refine ⟨⟨h1, fun hc => ?_⟩, fun hc a ha => ?_⟩
  · obtain ⟨B, off, e, hB, hr⟩ := h2 hc
    refine ⟨B, off, e, Nat.lt_of_lt_of_le hB hx.size, fun i hi => ⟨(hr i hi).1, fun j hj => ?_⟩⟩
    rw [cell_same (a := ⟨B, off + (i * f.sz + j), none⟩) (show w'.heap[B]? = w.heap[B]? from still hc _ e)]
    exact (hr i hi).2 j hj
  · obtain ⟨g1, g2⟩ := h3 hc a ha
    refine ⟨Nat.lt_of_lt_of_le g1 hx.size, fun j o ho hown => ?_⟩
    rcases hx.fresh j o _ ho hown with ⟨k0, o0, h4, h5⟩ | h4
    · exact g2 k0 o0 h4 h5
    · omega
theorem objRel_lk {E : Env} {lk lk' : Look} {w : World} {k : Nat} {o : AObj} (hl : ∀ g, lk' g = some .tok → lk g = some .tok) (h : objRel E lk w k o) : objRel E lk' w k o := by
  cases o with
  | lst len sz rows grp =>
    obtain ⟨b1, b2, b3⟩ := h
    refine ⟨b1, b2, fun hc => ?_⟩
    obtain ⟨B, off, c1, c2, c3⟩ := b3 hc
    refine ⟨B, off, c1, c2, ?_⟩
    cases grp with
    | none => exact c3
    | some g => exact fun ht => c3 (hl g ht)
  | box cs => exact h
  | tok => exact h
  | opq R => exact h
theorem look_cons (k j : Nat) (o : Option AObj) (h : Heap) : lookOf ((k, o) :: h) j = if k = j then o else lookOf h j := by
  simp only [lookOf, hget]
  by_cases e : k = j
  · subst e; simp
  · rw [beq_ne e]; simp [e]
/-- A list that came in, told to the heap. -/
theorem RelU.reveal {m m' k : Nat} {E E1 : Env} {h : Heap} {w : World} (hU : RelU (· < m) E (lookOf h) w) (hE : Agree (· < m) E E1) (hmm : m ≤ m') (hk : k < m') {f : RoF} (hf : rowsV w f.hd f.sz f.vals)
    (hno : 0 < f.hd.2.2 → ∀ a, f.hd.1 = some a → ∀ j o, lookOf h j = some o → ¬ owns E j o a.block) (hd : E1.hdr k = f.hd) {rows : Nat → List AV}
    (hrows : ∀ E', Agree (· < m') E1 E' → ∀ i, i < f.hd.2.1 → (rows i).length = f.sz ∧ allScalar (rows i) = true ∧ denL E' (rows i) = f.vals i) :
    RelU (· < m') E1 (lookOf ((k, some (.lst (.sym (f.hd.2.1 : Int)) f.sz rows none)) :: h)) w := by
  have ag : ∀ {E'}, Agree (· < m') E1 E' → Agree (· < m) E E' := fun h' => hE.trans h' fun j hj => Nat.lt_of_lt_of_le hj hmm
  refine ⟨fun j o ho => ?_, fun j len sz rows' g ho => ?_, fun E' hE' => ⟨fun j o ho => ?_, fun j o j' o' b ho ho' hne h1 h2 => ?_, fun j len sz rows' a j' o' ho hc ha ho' h2 => ?_⟩⟩
  · rw [look_cons] at ho
    split at ho
    · rename_i e; subst e; exact hk
    · exact Nat.lt_of_lt_of_le (hU.dom j o ho) hmm
  · rw [look_cons] at ho
    split at ho
    · cases ho
    · exact Nat.lt_of_lt_of_le (hU.grp j _ _ _ _ ho) hmm
  · rw [look_cons] at ho
    split at ho
    · rename_i e
      subst e
      cases ho
      have e2 : E'.hdr k = f.hd := by rw [(hE' k hk).2.1, hd]
      refine ⟨by rw [e2]; rfl, by rw [e2]; exact hf.1, fun hc => ?_⟩
      rw [e2] at hc ⊢
      obtain ⟨B, off, g1, g2, g3⟩ := hf.2 hc
      refine ⟨B, off, g1, g2, fun i hi => ?_⟩
      obtain ⟨r1, r2, r3⟩ := hrows E' hE' i hi
      refine ⟨r1, r2, fun j hj => ?_⟩
      show w.cell? ⟨B, off + (i * f.sz + j), none⟩ = _
      rw [(g3 i hi).2 j hj, ← r3, denL_get]
    · refine objRel_lk (fun g ht => ?_) ((hU.rel E' (ag hE')).obj j o ho)
      rw [look_cons] at ht
      split at ht
      · cases ht
      · exact ht
  · rw [look_cons] at ho ho'
    split at ho
    · cases ho; exact h1.elim
    · split at ho'
      · cases ho'; exact h2.elim
      · exact (hU.rel E' (ag hE')).apart j o j' o' b ho ho' hne h1 h2
  · rw [look_cons] at ho ho'
    split at ho'
    · cases ho'; exact h2.elim
    · split at ho
      · rename_i e
        subst e
        have e2 : E'.hdr k = f.hd := by rw [(hE' k hk).2.1, hd]
        rw [e2] at hc ha
        have hd2 := hU.dom j' o' ho'
        exact hno hc a ha j' o' ho' ((owns_agree (ag hE') hd2 o' _).1 h2)
      · exact (hU.rel E' (ag hE')).ro j _ _ _ a j' o' ho hc ha ho' h2
/-- A triple beside what came in; 'C': what is known of the first keys. -/
def HH (F : RoF → Prop) (C : Env → Prop) (nt b : Nat) (WP : (Exit → Act → World → Prop) → Act → World → Prop) (m : Nat) (κ : Tm) (h : Heap) (Q : Ex → Nat → Tm → Heap → Prop) : Prop :=
  ∀ E a w, SSt m E nt κ h a w → HidOK F E (lookOf h) w → C E → WP (fun e a' w' => ∃ ex m' κ' h' E', e = exOf ex ∧ Q ex m' κ' h' ∧ SSt m' E' nt κ' h' a' w' ∧ WX E (lookOf h) w E' (lookOf h') w' ∧ Agree (· < b) E E') a w
variable {F : RoF → Prop} {C : Env → Prop}
def CKeep (C : Env → Prop) (b : Nat) : Prop := ∀ E E', Agree (· < b) E E' → C E → C E'
theorem HH.mono {nt b : Nat} {WP : (Exit → Act → World → Prop) → Act → World → Prop} (hWP : ∀ {Q Q' : Exit → Act → World → Prop} {a : Act} {w : World}, WP Q a w → (∀ e a w, Q e a w → Q' e a w) → WP Q' a w)
    {m : Nat} {κ : Tm} {h : Heap} {Q Q' : Ex → Nat → Tm → Heap → Prop} (hc : HH F C nt b WP m κ h Q) (hq : ∀ ex m' κ' h', Q ex m' κ' h' → Q' ex m' κ' h') : HH F C nt b WP m κ h Q' := by
  intro E a w hS hF hC
  refine hWP (hc E a w hS hF hC) ?_
  rintro e a' w' ⟨ex, m', κ', h', E', rfl, q, s, x⟩
  exact ⟨ex, m', κ', h', E', rfl, hq _ _ _ _ q, s, x⟩
theorem HTg.hh {nt b : Nat} {WP : (Exit → Act → World → Prop) → Act → World → Prop} (hWP : ∀ {Q Q' : Exit → Act → World → Prop} {a : Act} {w : World}, WP Q a w → (∀ e a w, Q e a w → Q' e a w) → WP Q' a w)
    {m : Nat} {κ : Tm} {h : Heap} {Q : Ex → Nat → Tm → Heap → Prop} (hc : HTg nt b WP m κ h Q) : HH F C nt b WP m κ h Q := by
  intro E a w hS _ _
  refine hWP (hc E a w hS) ?_
  rintro e a' w' ⟨ex, m', κ', h', E', rfl, q, s, x, g⟩
  exact ⟨ex, m', κ', h', E', rfl, q, s, x.wx, g⟩
/-- Lists that came in, to be told: their keys, rows. -/
structure New where
  k : Nat
  f : RoF
  rows : Nat → List AV
def newH (h : Heap) : List New → Heap
  | [] => h
  | n :: l => (n.k, some (.lst (.sym (n.f.hd.2.1 : Int)) n.f.sz n.rows none)) :: newH h l
theorem owns_new {E : Env} {h : Heap} {j : Nat} {o : AObj} {b : Nat} : ∀ {l : List New}, lookOf (newH h l) j = some o → owns E j o b → lookOf h j = some o
  | [], h1, _ => h1
  | n :: l, h1, h2 => by
    rw [newH, look_cons] at h1
    split at h1
    · cases h1; exact h2.elim
    · exact owns_new h1 h2
theorem reveal_all {m m' : Nat} {E E1 : Env} {h : Heap} {w : World} (hU : RelU (· < m) E (lookOf h) w) (hF : HidOK F E (lookOf h) w) (hE : Agree (· < m) E E1) (hmm : m ≤ m') : ∀ l : List New,
    (∀ n ∈ l, n.k < m' ∧ F n.f ∧ E1.hdr n.k = n.f.hd ∧ ∀ E', Agree (· < m') E1 E' → ∀ i, i < n.f.hd.2.1 → (n.rows i).length = n.f.sz ∧ allScalar (n.rows i) = true ∧ denL E' (n.rows i) = n.f.vals i) →
    RelU (· < m') E1 (lookOf (newH h l)) w
  | [], _ => hU.move hE fun j hj => Nat.lt_of_lt_of_le hj hmm
  | n :: l, hl => by
    have ih := reveal_all hU hF hE hmm l fun x hx => hl x (by simp [hx])
    obtain ⟨h1, h2, h3, h4⟩ := hl n (by simp)
    obtain ⟨g1, g2⟩ := hF n.f h2
    refine RelU.reveal (m := m') ih (Agree.refl _ _) (Nat.le_refl _) h1 g1 (fun hc a ha j o ho hown => ?_) h3 h4
    have hd := ih.dom j o ho
    have ho2 := owns_new ho hown
    have hj := hU.dom j o ho2
    exact (g2 hc a ha).2 j o ho2 ((owns_agree hE hj o _).1 hown)
/-- What came in, brought in. -/
theorem HH.reveal {nt b : Nat} {WP : (Exit → Act → World → Prop) → Act → World → Prop} (hWP : ∀ {Q Q' : Exit → Act → World → Prop} {a : Act} {w : World}, WP Q a w → (∀ e a w, Q e a w → Q' e a w) → WP Q' a w)
    {m m' : Nat} {κ : Tm} {h : Heap} {Q : Ex → Nat → Tm → Heap → Prop} (l : List New) (hb : b ≤ m) (hmm : m ≤ m')
    (hl : ∀ E, C E → ∃ E1, Agree (· < m) E E1 ∧ ∀ n ∈ l, n.k < m' ∧ F n.f ∧ E1.hdr n.k = n.f.hd ∧ ∀ E', Agree (· < m') E1 E' → ∀ i, i < n.f.hd.2.1 → (n.rows i).length = n.f.sz ∧ allScalar (n.rows i) = true ∧ denL E' (n.rows i) = n.f.vals i)
    (hc : HTg nt b WP m' κ (newH h l) Q) : HH F C nt b WP m κ h Q := by
  intro E a w hS hF hC
  obtain ⟨E1, hE, hn⟩ := hl E hC
  have hU := reveal_all hS.rel hF hE hmm l hn
  refine hWP (hc E1 a w ⟨hU, hS.size, hS.defers, fun t v ht E' hE' => hS.tm t v ht E' (hE.trans hE' fun j hj => Nat.lt_of_lt_of_le hj hmm)⟩) ?_
  rintro e a' w' ⟨ex, m2, κ', h', E', rfl, q, s, x, g⟩
  have x0 : WX E (lookOf h) w E1 (lookOf (newH h l)) w := ⟨rfl, rfl, rfl, Nat.le_refl _, fun _ _ _ => rfl, fun k o b ho hown => by
    have ho2 := owns_new ho hown
    exact .inl ⟨k, o, ho2, (owns_agree hE (hS.rel.dom k o ho2) o b).1 hown⟩⟩
  exact ⟨ex, m2, κ', h', E', rfl, q, s, x0.trans x.wx, (hE.mono fun j hj => Nat.lt_of_lt_of_le hj hb).trans g fun _ h => h⟩
/-- Rows of code, one behind the other. -/
theorem HH.append {nt b : Nat} (hC : CKeep C b) {l1 l2 : List Code} {m : Nat} {κ : Tm} {h : Heap} {R Q : Ex → Nat → Tm → Heap → Prop} (hx : HH F C nt b (wpL P l1) m κ h R)
    (hy : ∀ m' κ' h', R .normal m' κ' h' → HH F C nt b (wpL P l2) m' κ' h' Q) (ho : ∀ ex m' κ' h', R ex m' κ' h' → ¬ ExNormal ex → Q ex m' κ' h') : HH F C nt b (wpL P (l1 ++ l2)) m κ h Q := by
  intro E a w hS hF hc
  refine (wpL_append _ l1 l2 a w).2 (wpL_mono (hx E a w hS hF hc) ?_)
  rintro e a' w' ⟨ex, m', κ', h', E', rfl, q, s, g, ga⟩
  cases ex with
  | normal =>
    show wpL P l2 _ a' w'
    refine wpL_mono (hy _ _ _ q E' a' w' s (hF.keep g) (hC _ _ ga hc)) ?_
    rintro e2 a2 w2 ⟨ex2, m2, κ2, h2, E2, rfl, q2, s2, g2, ga2⟩
    exact ⟨ex2, m2, κ2, h2, E2, rfl, q2, s2, g.trans g2, ga.trans ga2 fun _ h => h⟩
  | exit id => exact ⟨.exit id, m', κ', h', E', rfl, ho _ _ _ _ q (fun h => h), s, g, ga⟩
  | ret => exact ⟨.ret, m', κ', h', E', rfl, ho _ _ _ _ q (fun h => h), s, g, ga⟩
theorem HH.appG {nt b : Nat} (hC : CKeep C b) {l1 l2 : List Code} {m : Nat} {κ : Tm} {h : Heap} {t1 : TS} {p1 p : Pk} {R1 R : Ex → EN → Prop} (hn : p1.n = some t1) (hx : HH F C nt b (wpL P l1) m κ h (QX p1 R1))
    (hy : ∀ en, R1 .normal en → HH F C nt b (wpL P l2) t1.m (t1.tm en) (t1.heap en) (QX p R)) (ho : ∀ ex t en, ¬ ExNormal ex → p1.at ex = some t → R1 ex en → p.at ex = some t ∧ R ex en) : HH F C nt b (wpL P (l1 ++ l2)) m κ h (QX p R) := by
  refine HH.append hC hx ?_ ?_
  · rintro m' κ' h' ⟨t, en, h1, h2, rfl, rfl, rfl⟩
    have h1 : p1.n = some t := h1
    rw [hn] at h1
    cases h1
    exact hy en h2
  · rintro ex m' κ' h' ⟨t, en, h1, h2, rfl, rfl, rfl⟩ hnn
    obtain ⟨g1, g2⟩ := ho ex t en hnn h1 h2
    exact ⟨t, en, g1, g2, rfl, rfl, rfl⟩
theorem HH.cutG {nt b : Nat} (hC : CKeep C b) {c : Code} {m : Nat} {κ : Tm} {h : Heap} {t1 : TS} {p1 p : Pk} {R1 R : Ex → EN → Prop} (k : Nat) (hn : p1.n = some t1) (hx : HH F C nt b (wpL P ((Eng.flat c).take k)) m κ h (QX p1 R1))
    (hy : ∀ en, R1 .normal en → HH F C nt b (wpL P ((Eng.flat c).drop k)) t1.m (t1.tm en) (t1.heap en) (QX p R)) (ho : ∀ ex t en, ¬ ExNormal ex → p1.at ex = some t → R1 ex en → p.at ex = some t ∧ R ex en) : HH F C nt b (c.wp P) m κ h (QX p R) := by
  intro E a w hS hF hc
  refine wp_flat c _ a w ?_
  have := HH.appG (P := P) (l1 := (Eng.flat c).take k) (l2 := (Eng.flat c).drop k) hC hn hx hy ho E a w hS hF hc
  rw [List.take_append_drop] at this
  exact this
/-- A state that says the same. -/
theorem HH.pre {nt b : Nat} {WP : (Exit → Act → World → Prop) → Act → World → Prop} (hWP : ∀ {Q Q' : Exit → Act → World → Prop} {a : Act} {w : World}, WP Q a w → (∀ e a w, Q e a w → Q' e a w) → WP Q' a w)
    {t : TS} {x y : EN} (h : t.eqv x y) {Q : Ex → Nat → Tm → Heap → Prop} (hc : HH F C nt b WP t.m (t.tm y) (t.heap y) Q) : HH F C nt b WP t.m (t.tm x) (t.heap x) Q := by
  intro E a w hS hF hC
  have etm : t.tm x = t.tm y := by
    unfold TS.tm TS.vals
    rw [eqvA_inst h.1]
  have hx := (eqvH_wext (E := E) (w := w) h.2).wx
  refine hWP (hc E a w ⟨eqvH_relU h.2 hS.rel, hS.size, hS.defers, by rw [← etm]; exact hS.tm⟩ (hF.keep hx) hC) ?_
  rintro e a' w' ⟨ex, m', κ', h', E', rfl, q, s, g, ga⟩
  exact ⟨ex, m', κ', h', E', rfl, q, s, hx.trans g, ga⟩
/-- A loop. -/
theorem HH.loop {nt b : Nat} (hC : CKeep C b) {x : Code} {D : Type} (t : TS) (xs : List (Nat × TS)) (rt : Option TS) (en : D → EN) (I : D → Prop) (μ : D → Nat) (R : D → Ex → EN → Prop)
    (round : ∀ d, I d → HH F C nt b (x.wp P) t.m (t.tm (en d)) (t.heap (en d)) (QX ⟨some t, xs, rt⟩ fun ex e => match ex with
      | .normal => ∃ d', I d' ∧ μ d' < μ d ∧ t.eqv e (en d') ∧ ∀ ex e, R d' ex e → R d ex e
      | ex => R d ex e))
    (d : D) (hd : I d) : HH F C nt b ((Code.loop x).wp P) t.m (t.tm (en d)) (t.heap (en d)) (QX ⟨none, xs, rt⟩ (R d)) := by
  intro E a w hS hF hc
  refine wp_loop_rounds (μ d + 1) ?_
  have main : ∀ n d, μ d < n → I d → ∀ e0, t.eqv e0 (en d) → ∀ E0 w0 E a w (R' : Ex → EN → Prop), (∀ ex e, R d ex e → R' ex e) → SSt t.m E nt (t.tm e0) (t.heap e0) a w → HidOK F E (lookOf (t.heap e0)) w → C E →
      ∀ lk0, WX E0 lk0 w0 E (lookOf (t.heap e0)) w → Agree (· < b) E0 E →
      Code.rounds P x (fun e a' w' => ∃ ex m' κ' h' E', e = exOf ex ∧ QX ⟨none, xs, rt⟩ R' ex m' κ' h' ∧ SSt m' E' nt κ' h' a' w' ∧ WX E0 lk0 w0 E' (lookOf h') w' ∧ Agree (· < b) E0 E') n a w := by
    intro n
    induction n with
    | zero => intro d h; omega
    | succ n ih =>
      intro d hn hd e0 he E0 w0 E a w R' hR hS hF hc lk0 hw hag
      rw [rounds_succ]
      refine wp_mono (HH.pre (WP := fun Q a w => x.wp P Q a w) (fun h hq => wp_mono h hq) he (round d hd) E a w hS hF hc) ?_
      rintro e a' w' ⟨ex, m', κ', h', E', rfl, ⟨t', en', h1, h2, rfl, rfl, rfl⟩, s, g, ga⟩
      have hag' := hag.trans ga fun _ h => h
      cases ex with
      | normal =>
        cases h1
        obtain ⟨d', i1, i2, i3, i4⟩ := h2
        exact ih d' (by omega) i1 en' i3 E0 w0 E' a' w' R' (fun ex e h => hR _ _ (i4 _ _ h)) s (hF.keep g) (hC _ _ ga hc) lk0 (hw.trans g) hag'
      | exit id => exact ⟨.exit id, _, _, _, E', rfl, ⟨t', en', h1, hR _ _ h2, rfl, rfl, rfl⟩, s, hw.trans g, hag'⟩
      | ret => exact ⟨.ret, _, _, _, E', rfl, ⟨t', en', h1, hR _ _ h2, rfl, rfl, rfl⟩, s, hw.trans g, hag'⟩
  exact main _ d (by omega) hd (en d) (t.eqv_refl _) E w E a w _ (fun _ _ h => h) hS hF hc _ (WX.refl _ _ _) (Agree.refl _ _)
theorem HH.block {nt id b : Nat} {x : Code} {m : Nat} {κ : Tm} {h : Heap} {Q : Ex → Nat → Tm → Heap → Prop} (hx : HH F C nt b (x.wp P) m κ h fun ex m' κ' h' => Q (exBlock id ex) m' κ' h') : HH F C nt b ((Code.block id x).wp P) m κ h Q := by
  intro E a w hS hF hc
  refine wp_block (wp_mono (hx E a w hS hF hc) ?_)
  rintro e a' w' ⟨ex, m', κ', h', E', rfl, q, s, g⟩
  cases ex with
  | normal => exact ⟨.normal, m', κ', h', E', rfl, q, s, g⟩
  | ret => exact ⟨.ret, m', κ', h', E', rfl, q, s, g⟩
  | exit i =>
    simp only [exBlock] at q
    show Exit.inBlock id _ (.exit i) a' w'
    unfold Exit.inBlock
    by_cases hi : i = id
    · subst hi
      rw [show Nat.beq i i = true from by simp] at q
      dsimp only
      rw [if_pos rfl]
      exact ⟨.normal, m', κ', h', E', rfl, q, s, g⟩
    · rw [beq_ne hi] at q
      dsimp only
      rw [if_neg hi]
      exact ⟨.exit i, m', κ', h', E', rfl, q, s, g⟩
theorem HH.blockX {nt b id : Nat} {x : Code} {m : Nat} {κ : Tm} {h : Heap} {p rt : Option TS} {R : Ex → EN → Prop} (hx : HH F C nt b (x.wp P) m κ h (QX ⟨p, [], rt⟩ R)) : HH F C nt b ((Code.block id x).wp P) m κ h (QX ⟨p, [], rt⟩ R) := by
  refine HH.block (HH.mono (WP := fun Q a w => x.wp P Q a w) (fun h hq => wp_mono h hq) hx ?_)
  rintro ex m' κ' h' ⟨t, en, h1, h2, h3⟩
  cases ex with
  | normal => exact ⟨t, en, h1, h2, h3⟩
  | exit i => cases h1
  | ret => exact ⟨t, en, h1, h2, h3⟩
theorem HH.one {nt b : Nat} {c : Code} {m : Nat} {κ : Tm} {h : Heap} {Q : Ex → Nat → Tm → Heap → Prop} (hc : HH F C nt b (c.wp P) m κ h Q) : HH F C nt b (wpL P [c]) m κ h Q := fun E a w hS hF h => wpL_one (hc E a w hS hF h)
theorem HH.loopThen {nt b id : Nat} (hC : CKeep C b) {x : Code} {l l2 : List Code} {m : Nat} {κ : Tm} {h : Heap} {t2 : TS} {rt p : Option TS} {RL R : Ex → EN → Prop} (e : l = [.block id (.loop x)] ++ l2) (hx : HH F C nt b ((Code.loop x).wp P) m κ h (QX ⟨none, [(id, t2)], rt⟩ RL))
    (hy : ∀ en, RL (.exit id) en → HH F C nt b (wpL P l2) t2.m (t2.tm en) (t2.heap en) (QX ⟨p, [], rt⟩ R)) (ho : ∀ en, RL .ret en → R .ret en) : HH F C nt b (wpL P l) m κ h (QX ⟨p, [], rt⟩ R) := by
  subst e
  refine HH.appG (t1 := t2) (p1 := ⟨some t2, [], rt⟩) (R1 := fun ex e => match ex with | .normal => RL (.exit id) e | ex => RL ex e) hC rfl (HH.one (HH.block (HH.mono (WP := fun Q a w => (Code.loop x).wp P Q a w) (fun h hq => wp_mono h hq) hx fun ex m' κ' h' q => QX_block q))) hy ?_
  intro ex t en hn h1 h2
  cases ex with
  | normal => exact absurd trivial hn
  | exit i => cases h1
  | ret => exact ⟨h1, ho en h2⟩
/-- A law, out of its body's row beside what came in. -/
theorem law_hh {f : FuncId} {fn : Func} {c : Code} (hf : P.funcs[f]? = some fn) (hb : fn.body = some c) {args : List AV} (hle : Nat.ble args.length fn.ntmps = true) {m b : Nat} {t : Tmp} (hr : fn.results.toList = [.tmp t])
    {hdr : Nat → Option Addr × Nat × Nat} {w : World} {vals : Array Value} (hF : ∀ f, F f → rowsV w f.hd f.sz f.vals) (hC : C ⟨fun _ => 0, hdr, fun _ => []⟩)
    (H : HH F C fn.ntmps b (c.wp P) m (argTm 0 args) [] (QX ⟨none, [], some (lawT t)⟩ lawR))
    (hv : ∀ E', Agree (· < m) ⟨fun _ => 0, hdr, fun _ => []⟩ E' → vals = (denL E' args).toArray) :
    Calls P f vals w fun e w' => e = .returned (.bool true) ∧ Below w.heap.size w w' := by
  have hle := Nat.le_of_ble_eq_true hle
  have hvals : vals.size = args.length := by rw [hv _ (Agree.refl _ _)]; simp [denL_length]
  have hU : RelU (· < m) ⟨fun _ => 0, hdr, fun _ => []⟩ (lookOf []) w := relU_nil _ _ _
  have hH : HidOK F ⟨fun _ => 0, hdr, fun _ => []⟩ (lookOf []) w := fun f hf => ⟨hF f hf, fun hc a ha => by
    obtain ⟨B, off, e, hB, _⟩ := (hF f hf).2 hc
    rw [ha] at e
    cases e
    exact ⟨hB, fun j o ho => by cases ho⟩⟩
  refine calls_of_wp hf hb (wp_mono (H ⟨fun _ => 0, hdr, fun _ => []⟩ _ w ⟨hU, by simp; omega, rfl, fun t v ht E' h' => ?_⟩ hH hC) ?_)
  · obtain ⟨_, h2⟩ := tfind_argTm args 0 t v ht
    have hlt : t < args.length := by
      have := (List.getElem?_eq_some_iff.1 h2).1
      omega
    show (vals ++ Array.replicate (fn.ntmps - vals.size) undef).getD t undef = _
    rw [hv E' h']
    simp only [Array.getD_eq_getD_getElem?, Array.getElem?_append, List.size_toArray, denL_length]
    rw [if_pos hlt]
    simp only [Nat.sub_zero] at h2
    simp [denL_get, h2]
  · rintro e a' w' ⟨ex, m', κ', h', E', rfl, ⟨t', en, h1, h2, rfl, rfl, rfl⟩, hS, hx, _⟩
    have hb2 : Below w.heap.size w w' := ⟨hx.os, hx.tape, hx.output, hx.size, fun b hb => hx.frame b hb fun k o h => by cases h⟩
    cases ex with
    | normal => cases h1
    | exit i => cases h1
    | ret =>
      cases h1
      have h2 : (hdN (hdL en.a)).B = true := h2
      have e : (lawT t).tm en = [(t, .bool (.sym true))] := by
        show [(t, AV.bool (.sym (hdN (hdL en.a)).B))] = _
        rw [h2]
      have hS' := hS.stU
      have hl : ∀ τ0, resA P ((lawT t).tm en ++ τ0) ((lawT t).heap en) fn.results.toList = some [.bool (.sym true)] := fun τ0 => by
        rw [hr]
        simp only [resA, e, List.cons_append, List.nil_append, tget, show Nat.beq t t = true from by simp]
      have hrun := results_run (P := P) (fn := fn) hS'.rel.here (hS'.tm E' (Agree.refl _ _)) (hl _)
      have : a'.defers = [] ∧ ∃ v', (results fn a'.tmps).run P w' = .ok v' w' ∧ (Ending.returned v' = .returned (.bool true) ∧ Below w.heap.size w w') :=
        ⟨hS.defers, _, hrun, rfl, hb2⟩
      exact this
end
end Go.Eng
