/- The engine, part Z: a call summarised by templates, at whatever keys its arguments lie.
   Conditions: none. -/
import Derived.Test.YtnfmdpelafaoaaaEngY
set_option linter.unusedSimpArgs false
set_option linter.unusedVariables false
namespace Go.Eng
open Go.RowKit
section
variable {P : Program} {T : Tab}

def TO.isBox : TO → Bool
  | .box _ => true
  | _ => false
def TO.isTok : TO → Bool
  | .tok => true
  | _ => false
def TO.owned : TO → Bool
  | .box _ => true
  | .lst _ _ (some _) => true
  | .lst _ _ none => false
  | .tok => true
/-- What the call uses up: lists that may be written behind, their tokens. -/
def TO.used : TO → Bool
  | .box _ => false
  | .lst _ _ (some _) => true
  | .lst _ _ none => false
  | .tok => true
def atT (g : Nat) (p : TO → Bool) (l : List (Nat × TO)) : Bool := l.any fun x => Nat.beq x.1 g && p x.2
def ownKeys (φ : List Nat) (l : List (Nat × TO)) : List Nat := (l.filter fun p => p.2.owned && !isNil (lkN φ p.1)).map fun p => lkN φ p.1
def kills (φ : List Nat) (l : List (Nat × TO)) : Heap := (l.filter fun p => p.2.used && !isNil (lkN φ p.1)).map fun p => (lkN φ p.1, none)
def keyOkB (m : Nat) (φ : List Nat) (k : Nat) : Bool := !(Nat.blt k m && isNil (lkN φ k))
def TV.cellOk (m : Nat) (φ : List Nat) : TV → Bool
  | .sl k => keyOkB m φ k
  | .ptr k _ => keyOkB m φ k
  | _ => true
def TA.cellOk (m : Nat) (φ : List Nat) : TA → Bool
  | .one t => t.cellOk m φ
  | .agg l => l.all (TV.cellOk m φ)
def postO (pre : TS) (post : TS) (φ : List Nat) (p : Nat × TO) : Bool := match p.2 with
  | .box cs => (Nat.ble pre.m p.1 || atT p.1 TO.isBox pre.hp) && cs.all (TV.cellOk pre.m φ)
  | .lst _ _ (some g) => Nat.ble pre.m p.1 && (Nat.ble pre.m g && atT g TO.isTok post.hp)
  | .lst _ _ none => false
  | .tok => Nat.ble pre.m p.1
def preO (l : List (Nat × TO)) (p : Nat × TO) : Bool := match p.2 with
  | .lst _ _ (some g) => atT g TO.isTok l
  | _ => true
def postB (pre : TS) (φ : List Nat) (post : TS) : Bool :=
  (List.range pre.m).all (fun j => memK j (pre.hp.map (·.1))) && pre.hp.all (preO pre.hp) && Nat.ble pre.m post.m && post.okB && post.hp.all (postO pre post φ) &&
    pre.hp.all (fun p => !p.2.isBox || memK p.1 (post.hp.map (·.1))) && post.vs.all (TA.cellOk pre.m φ)
/-- A summary: the state at the call, what it comes to. -/
def ctrSumm (pre : TS) (run : EN → Tree (TS × EN)) : Summ := ⟨fun args h key => match matS true 0 pre args h with
  | some q => mustAll q.ms (.defE q.en fun e => (run e).bind fun r => match postB pre q.φ r.1 && distB q.φ with
    | true => .leaf (ren (psi q.φ key) (resV (r.1.vals r.2)), (q.φ.filter fun k => !isNil k) ++ q.toks, wOf (psi q.φ key) (r.1.objs r.2) ++ kills q.φ pre.hp, key + (r.1.m - pre.m))
    | false => .fail "what a summary leaves")
  | none => .fail "a summary's arguments"⟩

theorem atT_ok {g : Nat} {p : TO → Bool} {l : List (Nat × TO)} (h : atT g p l = true) : ∃ t, (g, t) ∈ l ∧ p t = true := by
  obtain ⟨x, h1, h2⟩ := List.any_eq_true.1 h
  simp only [Bool.and_eq_true] at h2
  exact ⟨x.2, by rw [← Nat.eq_of_beq_eq_true h2.1]; exact h1, h2.2⟩
theorem wget_app_none {k : Nat} {W V : Heap} (h : wget k W = none) : wget k (W ++ V) = wget k V := by rw [wget_append, h]
theorem kills_get {φ : List Nat} {l : List (Nat × TO)} {k : Nat} {o : Option AObj} (h : wget k (kills φ l) = some o) : o = none ∧ ∃ p ∈ l, p.2.used = true ∧ isNil (lkN φ p.1) = false ∧ k = lkN φ p.1 := by
  have := wget_in h
  obtain ⟨p, h1, h2⟩ := List.mem_map.1 this
  obtain ⟨h3, h4⟩ := List.mem_filter.1 h1
  simp only [Bool.and_eq_true, Bool.not_eq_true'] at h4
  cases h2
  exact ⟨rfl, p, h3, h4.1, h4.2, rfl⟩
theorem kills_mem {φ : List Nat} {l : List (Nat × TO)} {k : Nat} {o : Option AObj} (h : (k, o) ∈ kills φ l) : o = none ∧ ∃ p ∈ l, p.2.used = true ∧ isNil (lkN φ p.1) = false ∧ k = lkN φ p.1 := by
  obtain ⟨p, h1, h2⟩ := List.mem_map.1 h
  obtain ⟨h3, h4⟩ := List.mem_filter.1 h1
  simp only [Bool.and_eq_true, Bool.not_eq_true'] at h4
  cases h2
  exact ⟨rfl, p, h3, h4.1, h4.2, rfl⟩
theorem kills_of {φ : List Nat} {l : List (Nat × TO)} {p : Nat × TO} (h1 : p ∈ l) (h2 : p.2.used = true) (h3 : isNil (lkN φ p.1) = false) : wget (lkN φ p.1) (kills φ l) = some none := by
  have hm : lkN φ p.1 ∈ wkeys (kills φ l) := List.mem_map.2 ⟨(lkN φ p.1, none), List.mem_map.2 ⟨p, List.mem_filter.2 ⟨h1, by simp [h2, h3]⟩, rfl⟩, rfl⟩
  cases hw : wget (lkN φ p.1) (kills φ l) with
  | none => exact absurd hm (wget_none_iff.1 hw)
  | some o => rw [(kills_get hw).1]
theorem used_owned {t : TO} (h : t.used = true) : t.owned = true := by
  cases t with
  | box cs => cases h
  | lst ln row own => cases own <;> first | exact h | rfl
  | tok => rfl

theorem TV.keys_ok {t : TV} {m : Nat} {φ : List Nat} (h : t.cellOk m φ = true) (x : Num) : ∀ k ∈ keysOf (t.inst x), keyOkB m φ k = true := by
  cases t <;> simp [TV.inst, keysOf, TV.cellOk] at h ⊢ <;> exact h
theorem instL_ok {m : Nat} {φ : List Nat} : ∀ {ts : List TV} (xs : List Num), ts.all (TV.cellOk m φ) = true → ∀ k ∈ keysL (instL ts xs), keyOkB m φ k = true
  | [], _, _, k, h => by cases h
  | t :: ts, xs, h, k, hk => by
    simp only [List.all_cons, Bool.and_eq_true] at h
    simp only [instL, keysL, List.mem_append] at hk
    exact hk.elim (TV.keys_ok h.1 _ k) (instL_ok _ h.2 k)
theorem instA_ok {m : Nat} {φ : List Nat} : ∀ {ts : List TA} (xs : List (List Num)), ts.all (TA.cellOk m φ) = true → ∀ k ∈ keysL (instA ts xs), keyOkB m φ k = true
  | [], _, _, k, h => by cases h
  | t :: ts, xs, h, k, hk => by
    simp only [List.all_cons, Bool.and_eq_true] at h
    simp only [instA, keysL, List.mem_append] at hk
    refine hk.elim (fun hk => ?_) (instA_ok _ h.2 k)
    cases t with
    | one t => exact TV.keys_ok h.1 _ k hk
    | agg l => exact instL_ok _ h.1 k hk
theorem keysOf_resV_mem {l : List AV} {k : Nat} (h : k ∈ keysOf (resV l)) : k ∈ keysL l := by
  match l with
  | [] => exact h
  | [a] => simpa [keysL, resV] using h
  | a :: b :: l => exact h
theorem instH_mem : ∀ {l : List (Nat × TO)} {xs : List ON} {p : Nat × AObj}, p ∈ instH l xs → ∃ t x, (p.1, t) ∈ l ∧ p.2 = t.inst x
  | [], xs, p, h => by cases h
  | q :: l, xs, p, h => by
    simp only [instH] at h
    rcases List.mem_cons.1 h with rfl | h
    · exact ⟨q.2, _, by simp, rfl⟩
    · obtain ⟨t, x, h1, h2⟩ := instH_mem h
      exact ⟨t, x, List.mem_cons_of_mem _ h1, h2⟩

theorem ctr_spec {f : FuncId} {pre post : TS} {args : List AV} {h : Heap} {q : Mat} {y : EN} (M : MatOk true 0 pre args h q) (hms : ∀ x ∈ q.ms, x = true) (hB : postB pre q.φ post = true) (hdist : distB q.φ = true) (hs : StdX P f pre q.en post y) (key : Nat) :
    CallSpec P f args (fun lk => ∀ k ∈ (q.φ.filter fun k => !isNil k) ++ q.toks, lk k = hget k h) key (key + (post.m - pre.m)) (ren (psi q.φ key) (resV (post.vals y))) (wOf (psi q.φ key) (post.objs y) ++ kills q.φ pre.hp) ∧
    WOK (lookOf h) key (key + (post.m - pre.m)) (wOf (psi q.φ key) (post.objs y) ++ kills q.φ pre.hp) := by
  simp only [postB, Bool.and_eq_true] at hB
  obtain ⟨⟨⟨⟨⟨⟨b1, b2⟩, b3⟩, b4⟩, b5⟩, b6⟩, b7⟩ := hB
  have b3 := Nat.le_of_ble_eq_true b3
  simp only [TS.okB, Bool.and_eq_true] at b4
  obtain ⟨⟨c1, c2⟩, c3⟩ := b4
  obtain ⟨d1, d2, d3⟩ := M.hp
  have hlen := M.len
  have pcov : ∀ j, j < pre.m → ∃ t, (j, t) ∈ pre.hp := fun j hj => by
    have := memK_iff.1 (List.all_eq_true.1 b1 j (by simpa using hj))
    obtain ⟨p, h1, h2⟩ := List.mem_map.1 this
    exact ⟨p.2, by rw [← h2]; exact h1⟩
  -- what lies under a key of the template
  have found : ∀ {j t}, (j, t) ∈ pre.hp → ∃ g, getO true (lkN q.φ) h j t = some g := by
    have : ∀ (l : List (Nat × TO)) (r : GotH), getOs true (lkN q.φ) h l = some r → ∀ {j t}, (j, t) ∈ l → ∃ g, getO true (lkN q.φ) h j t = some g := by
      intro l
      induction l with
      | nil => intro _ _ _ _ h; cases h
      | cons p l ih =>
        intro r e j t hm
        simp only [getOs] at e
        split at e
        · rename_i g hg
          split at e
          · rename_i s hs'
            rcases List.mem_cons.1 hm with e1 | hm
            · cases e1; exact ⟨g, hg⟩
            · exact ih s hs' hm
          · cases e
        · cases e
    exact fun {j t} hm => this _ _ M.o hm
  have boxNil : ∀ {j t}, (j, t) ∈ pre.hp → t.isBox = true → isNil (lkN q.φ j) = false := fun {j t} hm hb => by
    obtain ⟨g, hg⟩ := found hm
    cases hn : isNil (lkN q.φ j) with
    | false => rfl
    | true =>
      cases t <;> simp [TO.isBox] at hb
      simp [getO, hn] at hg
  have there : ∀ {j t}, (j, t) ∈ pre.hp → isNil (lkN q.φ j) = false → ∃ o g, hget (lkN q.φ j) h = some o ∧ t.get true (lkN q.φ) h o = some g := fun {j t} hm hn => by
    obtain ⟨g, hg⟩ := found hm
    simp only [getO, hn] at hg
    split at hg
    · rename_i o ho
      exact ⟨o, g, ho, hg⟩
    · cases hg
  have pm : ∀ {k t}, (k, t) ∈ post.hp → k < post.m ∧ t.okB post.m = true := fun hm => hpB_mem c2 hm
  have po : ∀ {k t}, (k, t) ∈ post.hp → postO pre post q.φ (k, t) = true := fun hm => List.all_eq_true.1 b5 _ hm
  let nb : List Nat := ownKeys q.φ pre.hp
  have hnb : ∀ {k}, k ∈ nb → ∃ j t, (j, t) ∈ pre.hp ∧ j < pre.m ∧ t.owned = true ∧ isNil (lkN q.φ j) = false ∧ k = lkN q.φ j := fun {k} hm => by
    obtain ⟨p, h1, h2⟩ := List.mem_map.1 hm
    obtain ⟨h3, h4⟩ := List.mem_filter.1 h1
    simp only [Bool.and_eq_true, Bool.not_eq_true'] at h4
    exact ⟨p.1, p.2, h3, (hpB_mem d1 h3).1, h4.1, h4.2, h2.symm⟩
  have nbOf : ∀ {j t}, (j, t) ∈ pre.hp → t.owned = true → isNil (lkN q.φ j) = false → lkN q.φ j ∈ nb := fun {j t} hm ho hn =>
    List.mem_map.2 ⟨(j, t), List.mem_filter.2 ⟨hm, by simp [ho, hn]⟩, rfl⟩
  have hlook : ∀ k, lookOf (restrict nb h) k = if k ∈ nb then hget k h else none := fun k => restrict_look h k nb
  have wk : ∀ g, (∃ t, (g, t) ∈ post.hp) → psi q.φ key g ∈ wkeys (wOf (psi q.φ key) (post.objs y)) := by
    rintro g ⟨t, hg⟩
    have hm : g ∈ (post.objs y).map (·.1) := by
      unfold TS.objs
      rw [instH_keys]
      exact List.mem_map.2 ⟨(g, t), hg, rfl⟩
    have hc := wget_cov (φ := psi q.φ key) hm
    cases hw : wget (psi q.φ key g) (wOf (psi q.φ key) (post.objs y)) with
    | none => exact absurd hw hc
    | some x => exact wget_mem hw
  have wkeysL : ∀ {g : Nat}, g ∈ wkeys (wOf (psi q.φ key) (post.objs y)) → g ∈ wkeys (wOf (psi q.φ key) (post.objs y) ++ kills q.φ pre.hp) := fun {g} hg => by
    unfold wkeys at hg ⊢
    rw [List.map_append]
    exact List.mem_append_left _ hg
  -- what is written
  have hWm : ∀ {k o}, (k, o) ∈ wOf (psi q.φ key) (post.objs y) ++ kills q.φ pre.hp → (∃ j t x, k = psi q.φ key j ∧ (j, t) ∈ post.hp ∧ o = some (renO (psi q.φ key) (t.inst x))) ∨ (o = none ∧ ∃ j t, (j, t) ∈ pre.hp ∧ t.owned = true ∧ isNil (lkN q.φ j) = false ∧ k = lkN q.φ j) := fun {k o} hm => by
    rcases List.mem_append.1 hm with hm | hm
    · obtain ⟨p, h1, h2, h3⟩ := wOf_mem hm
      obtain ⟨t, x, h4, h5⟩ := instH_mem h1
      exact .inl ⟨p.1, t, x, h2, h4, by rw [h3, h5]⟩
    · obtain ⟨h1, p, h2, h3, h4, h5⟩ := kills_mem hm
      exact .inr ⟨h1, p.1, p.2, h2, used_owned h3, h4, h5⟩
  have newOr : ∀ {j t}, (j, t) ∈ post.hp → j < pre.m → (∃ t', (j, t') ∈ pre.hp ∧ t'.isBox = true) := fun {j t} hm hj => by
    have := po hm
    unfold postO at this
    dsimp only at this
    split at this
    · simp only [Bool.and_eq_true, Bool.or_eq_true] at this
      rcases this.1 with h1 | h1
      · have := Nat.le_of_ble_eq_true h1; omega
      · exact atT_ok h1
    · simp only [Bool.and_eq_true] at this
      have := Nat.le_of_ble_eq_true this.1; omega
    · cases this
    · have := Nat.le_of_ble_eq_true this; omega
  have tokIn : ∀ {j t x l s r g}, (j, t) ∈ post.hp → t.inst x = AObj.lst l s r (some g) → pre.m ≤ j ∧ pre.m ≤ g ∧ ∃ t', (g, t') ∈ post.hp := fun {j t x l s r g} hm he => by
    have := po hm
    cases t <;> simp only [TO.inst] at he <;> try (cases he; done)
    rename_i ln row own
    cases he
    simp only [postO, Bool.and_eq_true] at this
    obtain ⟨t', h1, _⟩ := atT_ok this.2.2
    exact ⟨Nat.le_of_ble_eq_true this.1, Nat.le_of_ble_eq_true this.2.1, t', h1⟩
  refine ⟨?_, fun k o hm => ?_⟩
  · intro A E lk w vals hU hC hk hvals
    have hC : ∀ k ∈ (q.φ.filter fun k => !isNil k) ++ q.toks, lk k = hget k h := hC
    have hφ : ∀ j, j < pre.m → isNil (lkN q.φ j) = false → lk (lkN q.φ j) = hget (lkN q.φ j) h := fun j hj hn =>
      hC _ (List.mem_append_left _ (List.mem_filter.2 ⟨lkN_mem (by rw [hlen]; exact hj), by simp [hn]⟩))
    have hUs := M.relU hms hU hφ (fun g hg => hC g (List.mem_append_right _ hg))
    have hAφ : ∀ j, j < pre.m → isNil (lkN q.φ j) = false → A (lkN q.φ j) := fun j hj hn => by
      obtain ⟨t, ht⟩ := pcov j hj
      obtain ⟨o, _, ho, _⟩ := there ht hn
      exact hU.dom _ o ((hφ j hj hn).trans ho)
    have hold : ∀ k, A k → ¬ (key ≤ k ∧ k < key + (post.m - pre.m)) := fun k hA hn => hk k hn.1 hn.2 hA
    have hv : vals = (denL (viaN E (lkN q.φ)) (pre.vals q.en)).toArray := by
      rw [hvals E (Agree.refl _ _), getA_den M.a E]
      rfl
    rw [hv]
    refine (hs _ w hUs).mono ?_
    rintro e w' ⟨E1, rfl, hag, hU1, hx1⟩
    let I : Nat → Nat := psiI q.φ key (post.m - pre.m)
    let E2 : Env := ⟨fun k => if key ≤ k ∧ k < key + (post.m - pre.m) then E1.blk (I k) else E.blk k, fun k => if key ≤ k ∧ k < key + (post.m - pre.m) then E1.hdr (I k) else E.hdr k, fun k => if key ≤ k ∧ k < key + (post.m - pre.m) then E1.fp (I k) else E.fp k⟩
    have agA : Agree A E E2 := fun k hA => by
      have := hold k hA
      exact ⟨if_neg this, if_neg this, if_neg this⟩
    let M' : Nat → Prop := fun k => (k ∈ q.φ ∧ isNil k = false) ∨ (key ≤ k ∧ k < key + (post.m - pre.m))
    have idx : ∀ {k}, k ∈ q.φ → lkN q.φ (idxN k q.φ) = k ∧ idxN k q.φ < pre.m := fun {k} hm => by
      obtain ⟨h1, h2⟩ := lk_idxN hm
      exact ⟨h1, by rw [← hlen]; exact h2⟩
    have hAm : ∀ k, k ∈ q.φ → isNil k = false → A k := fun k hm hn => by
      obtain ⟨h1, h2⟩ := idx hm
      rw [← h1]
      exact hAφ _ h2 (by rw [h1]; exact hn)
    have agM : Agree M' (E1.via I) E2 := fun k hk => by
      by_cases hn : key ≤ k ∧ k < key + (post.m - pre.m)
      · exact ⟨if_pos hn, if_pos hn, if_pos hn⟩
      · obtain ⟨hm, hnil⟩ := hk.resolve_right hn
        obtain ⟨h1, h2⟩ := idx hm
        have hI : I k = idxN k q.φ := psiI_old hn
        obtain ⟨a1, a2, a3⟩ := hag _ h2
        simp only [Env.via, nilExt, h1, hnil] at a1 a2 a3
        refine ⟨(if_neg hn).trans ?_, (if_neg hn).trans ?_, (if_neg hn).trans ?_⟩
        · show _ = E1.blk (I k); rw [hI, a1]
        · show _ = E1.hdr (I k); rw [hI, a2]
        · show _ = E1.fp (I k); rw [hI, a3]
    have hM : ∀ k, M' k → rng A key (key + (post.m - pre.m)) k := fun k hk => hk.imp (fun h => hAm k h.1 h.2) id
    have hIψ : ∀ j, j < post.m → keyOkB pre.m q.φ j = true → I (psi q.φ key j) = j ∧ M' (psi q.φ key j) := fun j hj hok => by
      by_cases hlt : j < pre.m
      · have hnil : isNil (lkN q.φ j) = false := by
          unfold keyOkB at hok
          rw [show Nat.blt j pre.m = true from Nat.ble_eq_true_of_le hlt] at hok
          simpa using hok
        rw [psi_lt (by rw [hlen]; exact hlt)]
        exact ⟨(psiI_old (hold _ (hAφ j hlt hnil))).trans (idx_lkN hdist (by rw [hlen]; exact hlt)), .inl ⟨lkN_mem (by rw [hlen]; exact hlt), hnil⟩⟩
      · rw [psi_ge (by rw [hlen]; omega), hlen]
        refine ⟨(psiI_new (by omega) (by omega)).trans (by rw [hlen]; omega), .inr ⟨by omega, by omega⟩⟩
    have hψI : ∀ k, M' k → psi q.φ key (I k) = k ∧ I k < post.m := fun k hk => by
      by_cases hn : key ≤ k ∧ k < key + (post.m - pre.m)
      · have hI : I k = q.φ.length + (k - key) := psiI_new hn.1 hn.2
        rw [hI, psi_ge (by omega)]
        exact ⟨by omega, by omega⟩
      · obtain ⟨h1, h2⟩ := idx (hk.resolve_right hn).1
        have hI : I k = idxN k q.φ := psiI_old hn
        rw [hI, psi_lt (by rw [hlen]; exact h2)]
        exact ⟨h1, by omega⟩
    have okBox : ∀ {j t}, (j, t) ∈ post.hp → keyOkB pre.m q.φ j = true := fun {j t} hm => by
      unfold keyOkB
      cases hlt : Nat.blt j pre.m with
      | false => rfl
      | true =>
        obtain ⟨t', h1, h2⟩ := newOr hm (Nat.le_of_ble_eq_true hlt)
        rw [boxNil h1 h2]
        rfl
    have hsub : ∀ k o, lookOf (restrict nb h) k = some o → lk k = some o := by
      intro k o ho
      rw [hlook] at ho
      split at ho
      · rename_i hm
        obtain ⟨j, t, _, hj, _, hn, rfl⟩ := hnb hm
        rw [hφ j hj hn]; exact ho
      · cases ho
    have hget' : ∀ k o, lookOf ((wOf (psi q.φ key) (post.objs y) ++ kills q.φ pre.hp) ++ restrict nb h) k = some o → ∃ j t x, k = psi q.φ key j ∧ j < post.m ∧ (j, t) ∈ post.hp ∧ (j, t.inst x) ∈ post.objs y ∧ o = renO (psi q.φ key) (t.inst x) := by
      intro k o ho
      rw [lookOf_append] at ho
      unfold hupd at ho
      cases hw : wget k (wOf (psi q.φ key) (post.objs y)) with
      | some z =>
        rw [wget_append, hw] at ho
        dsimp only at ho
        subst ho
        obtain ⟨p, h1, h2, h3⟩ := wOf_mem (wget_wOf hw)
        obtain ⟨t, x, h4, h5⟩ := instH_mem h1
        refine ⟨p.1, t, x, h2, (pm h4).1, h4, by rw [← h5]; exact h1, ?_⟩
        rw [← h5]
        cases h3
        rfl
      | none =>
        rw [wget_append, hw] at ho
        dsimp only at ho
        cases hw2 : wget k (kills q.φ pre.hp) with
        | some z =>
          rw [hw2] at ho
          dsimp only at ho
          rw [(kills_get hw2).1] at ho
          cases ho
        | none =>
          rw [hw2] at ho
          dsimp only at ho
          rw [hlook] at ho
          split at ho
          · rename_i hm
            obtain ⟨j, t, h1, hj, h2, hn, rfl⟩ := hnb hm
            cases hu : t.used with
            | true =>
              rw [kills_of h1 hu hn] at hw2
              cases hw2
            | false =>
              have hbx : t.isBox = true := by
                cases t with
                | box cs => rfl
                | lst ln row own => cases own with
                  | none => cases h2
                  | some g => cases hu
                | tok => cases hu
              have h6 := List.all_eq_true.1 b6 _ h1
              simp only [hbx, Bool.not_true, Bool.false_or] at h6
              obtain ⟨p, h7, h8⟩ := List.mem_map.1 (memK_iff.1 h6)
              have := wget_none_iff.1 hw
              have h9 := wk j ⟨p.2, by have h8 : p.1 = j := h8; rw [← h8]; exact h7⟩
              rw [psi_lt (by rw [hlen]; exact hj)] at h9
              exact absurd h9 this
          · cases ho
    have hR2 : ResetH noNil M' I (mkHeap (post.objs y)) ((wOf (psi q.φ key) (post.objs y) ++ kills q.φ pre.hp) ++ restrict nb h) := by
      have main : ∀ k o, lookOf ((wOf (psi q.φ key) (post.objs y) ++ kills q.φ pre.hp) ++ restrict nb h) k = some o → M' k := by
        intro k o ho
        obtain ⟨j, t, x, rfl, hj, hm, _⟩ := hget' k o ho
        exact (hIψ j hj (okBox hm)).2
      refine ⟨fun k o ho => ?_, fun k k' o o' ho ho' e => ?_⟩
      · refine ⟨main k o ho, .inl ?_⟩
        obtain ⟨j, t, x, rfl, hj, hm, hin, rfl⟩ := hget' k o ho
        obtain ⟨i1, i2⟩ := hIψ j hj (okBox hm)
        refine ⟨t.inst x, ?_, ?_⟩
        · show hget (I (psi q.φ key j)) _ = _
          rw [i1]
          refine mk_uniq ?_ hin
          unfold TS.objs
          rw [instH_keys]
          exact c3
        · have hpo := po hm
          have hok := (pm hm).2
          cases t with
          | box cs =>
            simp only [postO, Bool.and_eq_true] at hpo
            have hk1 := instL_keys (m := post.m) x.xs (ts := cs) hok
            have hk2 := instL_ok (m := pre.m) (φ := q.φ) x.xs (ts := cs) hpo.2
            have cl : ∀ k ∈ keysL (instL cs x.xs), I (psi q.φ key k) = k ∧ M' (psi q.φ key k) := fun k hk => hIψ k (lt_of_all hk1 k hk) (hk2 k hk)
            refine ⟨by rw [allScalar_ren]; exact instL_scalar _ _, fun E _ => ?_, fun k hk => ?_⟩
            · rw [denL_ren, denL_ren]
              refine denL_cl (M := fun k => k ∈ keysL (instL cs x.xs)) (fun k hk => ?_) _ (fun _ h => h)
              have := (cl k hk).1
              exact ⟨by simp [Env.via, this], by simp [Env.via, this], by simp [Env.via, this]⟩
            · rw [keysL_ren] at hk
              obtain ⟨j, h1, rfl⟩ := List.mem_map.1 hk
              exact (cl j h1).2
          | tok => trivial
          | lst ln row own =>
            have hrow : row.all TV.keyless = true := by
              simp only [TO.okB, Bool.and_eq_true] at hok
              exact hok.1
            cases own with
            | none => simp [postO] at hpo
            | some g =>
              obtain ⟨_, hg1, t', hg2⟩ := tokIn (x := x) hm rfl
              obtain ⟨i3, i4⟩ := hIψ g (pm hg2).1 (okBox hg2)
              refine ⟨rfl, rfl, ?_, (fun z (hz : some (psi q.φ key g) = some z) => by cases hz; exact ⟨i4, rfl⟩), fun i _ => ⟨length_ren _ _, by rw [allScalar_ren]; exact instL_scalar _ _, fun E _ => ?_, fun k hk => ?_⟩⟩
              · show some g = some (I (psi q.φ key g))
                rw [i3]
              · rw [denL_ren, denL_ren]
                exact den_keyless (instL_keyless _ hrow) _ _
              · rw [keysL_ren, instR, instL_keyless _ hrow] at hk
                cases hk
      · rw [← (hψI k (main k o ho)).1, ← (hψI k' (main k' o' ho')).1]
        exact congrArg (psi q.φ key) e
    have h0 := hR2.relU (noNil_ok E1) hU1.here
    have hU2 : RelU (rng A key (key + (post.m - pre.m))) E2 (lookOf ((wOf (psi q.φ key) (post.objs y) ++ kills q.φ pre.hp) ++ restrict nb h)) w' := h0.move agM hM
    have hwx := hx1.trans (hR2.wext E1 (noNil_ok E1) w')
    have downL : ∀ k0 o0 b, lookOf (mkHeap (pre.objs q.en)) k0 = some o0 → owns (viaN E (lkN q.φ)) k0 o0 b → ∃ k1 o1, lookOf (restrict nb h) k1 = some o1 ∧ owns E k1 o1 b := by
      intro k0 o0 b h1 h2
      obtain ⟨t, g, hm, hg, he, _⟩ := getOs_mem M.o hms (k0, o0) (mkHeap_mem h1)
      have he : o0 = t.inst g.on := he
      subst he
      have hm : (k0, t) ∈ pre.hp := hm
      cases hn : isNil (lkN q.φ k0) with
      | true =>
        cases t with
        | box cs => have := boxNil hm rfl; rw [hn] at this; cases this
        | lst ln row ow => exact h2.elim
        | tok =>
          have h2 : b ∈ (nilExt E).fp (lkN q.φ k0) := h2
          simp only [nilExt, hn] at h2
          cases h2
      | false =>
        obtain ⟨o', g', ho', hg'⟩ := there hm hn
        have hown : t.owned = true := by
          cases t with
          | box cs => rfl
          | lst ln row ow => exact h2.elim
          | tok => rfl
        refine ⟨lkN q.φ k0, o', by rw [hlook, if_pos (nbOf hm hown hn)]; exact ho', ?_⟩
        cases t <;> cases o' <;> simp only [TO.get] at hg' <;> try (cases hg'; done)
        · have h2 : b ∈ (nilExt E).fp (lkN q.φ k0) := h2
          simp only [nilExt, hn] at h2
          exact h2
        · exact h2
        · have h2 : b ∈ (nilExt E).fp (lkN q.φ k0) := h2
          simp only [nilExt, hn] at h2
          exact h2
    have hx2 : Ext A E (lookOf (restrict nb h)) w E2 (lookOf ((wOf (psi q.φ key) (post.objs y) ++ kills q.φ pre.hp) ++ restrict nb h)) w' := by
      refine ⟨hwx.os, hwx.tape, hwx.output, hwx.size, agA, fun b hb hn => hwx.frame b hb fun k0 o0 h1 h2 => ?_, fun k o b ho hb => ?_, fun k hA ht => ?_, fun k len sz rows a ho hc ha => ?_⟩
      · obtain ⟨k1, o1, h3, h4⟩ := downL k0 o0 b h1 h2
        exact hn k1 o1 h3 h4
      · have hMk : M' k := by
          obtain ⟨j, t, x, rfl, hj, hm, _⟩ := hget' k o ho
          exact (hIψ j hj (okBox hm)).2
        rcases hwx.fresh k o b ho ((owns_agree agM hMk o b).1 hb) with ⟨k0, o0, h1, h2⟩ | h1
        · exact .inl (downL k0 o0 b h1 h2)
        · exact .inr h1
      · obtain ⟨j, t, x, h2, hj, hm, _, h5⟩ := hget' k _ ht
        cases t with
        | tok =>
          have := po hm
          simp only [postO] at this
          have := Nat.le_of_ble_eq_true this
          rw [psi_ge (by rw [hlen]; exact this), hlen] at h2
          exact absurd ⟨by omega, by omega⟩ (hold k hA)
        | box cs => cases h5
        | lst ln row own => cases h5
      · obtain ⟨j, t, x, h2, hj, hm, _, h5⟩ := hget' k _ ho
        cases t with
        | lst ln row own =>
          cases own with
          | none => have := po hm; simp [postO] at this
          | some g => cases h5
        | tok => cases h5
        | box cs => cases h5
    rw [lookOf_append] at hU2 hx2
    obtain ⟨g1, g2⟩ := hU.frame hsub (fun k len sz rows g hl htk => by
      rw [hlook] at hl ⊢
      split at hl
      · rename_i hm
        obtain ⟨j, t, h1, hj, h2, hn, rfl⟩ := hnb hm
        obtain ⟨o', g', ho', hg'⟩ := there h1 hn
        rw [hl] at ho'
        cases ho'
        cases t <;> simp only [TO.get] at hg' <;> try (cases hg'; done)
        rename_i ln row own
        split at hg'
        · rename_i tk e1 e2 e3
          cases own with
          | none => cases h2
          | some jt =>
            simp only [ownOk] at e3
            split at e3
            · rename_i e4 e5
              have hjg := Nat.eq_of_beq_eq_true e4
              have hpre := List.all_eq_true.1 b2 _ h1
              simp only [preO] at hpre
              obtain ⟨t2, hm2, ht2⟩ := atT_ok hpre
              have hn2 : isNil (lkN q.φ jt) = false := by rw [hjg]; exact e5
              have hin : g ∈ nb := by
                rw [← hjg]
                refine nbOf hm2 ?_ hn2
                cases t2 <;> first | rfl | cases ht2
              rw [if_pos hin]
              rw [← hjg] at htk ⊢
              rw [← hφ jt (hpB_mem d1 hm2).1 hn2]
              exact htk
            · cases e3
        · cases hg'
      · cases hl) hU2 hx2 (fun _ h => .inl h) (fun k o hm => by
      refine ⟨fun hA => ?_, fun len sz rows g ho => ?_⟩
      · rcases hWm hm with ⟨j, t, x, rfl, hmp, _⟩ | ⟨_, j, t, h1, h2, h3, rfl⟩
        · have hlt : j < pre.m := by
            cases Nat.lt_or_ge j pre.m with
            | inl h => exact h
            | inr h =>
              rw [psi_ge (by rw [hlen]; exact h), hlen] at hA
              have := (pm hmp).1
              exact absurd ⟨by omega, by omega⟩ (hold _ hA)
          obtain ⟨t', h1, h2⟩ := newOr hmp hlt
          have hn := boxNil h1 h2
          rw [psi_lt (by rw [hlen]; exact hlt), hlook, if_pos (nbOf h1 (by cases t' <;> first | rfl | cases h2) hn)]
          obtain ⟨o', _, ho', _⟩ := there h1 hn
          rw [ho']; simp
        · rw [hlook, if_pos (nbOf h1 h2 h3)]
          obtain ⟨o', _, ho', _⟩ := there h1 h3
          rw [ho']; simp
      · rcases hWm hm with ⟨j, t, x, rfl, hmp, h2⟩ | ⟨h1, _⟩
        · rw [ho] at h2
          cases t <;> simp only [TO.inst, renO] at h2 <;> try (cases h2; done)
          rename_i ln row own
          cases own with
          | none => cases h2
          | some gg =>
            cases h2
            obtain ⟨_, _, h3⟩ := tokIn (x := x) hmp rfl
            exact .inl (wkeysL (wk gg h3))
        · rw [h1] at ho; cases ho)
    refine ⟨_, E2, rfl, fun E' hE => ?_, g1, g2⟩
    have hk1 := instA_keys (m := post.m) y.a c1
    have hk2 := instA_ok (m := pre.m) (φ := q.φ) y.a b7
    rw [den_ren]
    refine (den_cl (M := fun j => j ∈ keysOf (resV (post.vals y))) (fun j hj => ?_) _ (fun _ h => h)).symm
    have hj2 := keysOf_resV_mem hj
    obtain ⟨i1, i2⟩ := hIψ j (lt_of_all hk1 j hj2) (hk2 j hj2)
    obtain ⟨a1, a2, a3⟩ := hE (psi q.φ key j) (hM _ i2)
    obtain ⟨b1, b2, b3⟩ := agM _ i2
    refine ⟨a1.trans (b1.trans ?_), a2.trans (b2.trans ?_), a3.trans (b3.trans ?_)⟩
    · show E1.blk (I (psi q.φ key j)) = _; rw [i1]
    · show E1.hdr (I (psi q.φ key j)) = _; rw [i1]
    · show E1.fp (I (psi q.φ key j)) = _; rw [i1]
  · rcases hWm hm with ⟨j, t, x, rfl, hmp, h2⟩ | ⟨h1, j, t, h2, h3, h4, rfl⟩
    · refine ⟨?_, fun len sz rows g ho => ?_⟩
      · cases Nat.lt_or_ge j pre.m with
        | inl hlt =>
          obtain ⟨t', h1, h2⟩ := newOr hmp hlt
          have hn := boxNil h1 h2
          obtain ⟨o', _, ho', _⟩ := there h1 hn
          left
          rw [psi_lt (by rw [hlen]; exact hlt)]
          show hget _ h ≠ none
          rw [ho']; simp
        | inr hge =>
          rw [psi_ge (by rw [hlen]; exact hge), hlen]
          have := (pm hmp).1
          exact .inr ⟨by omega, by omega⟩
      · rw [ho] at h2
        cases t <;> simp only [TO.inst, renO] at h2 <;> try (cases h2; done)
        rename_i ln row own
        cases own with
        | none => cases h2
        | some gg =>
          cases h2
          obtain ⟨_, _, h3⟩ := tokIn (x := x) hmp rfl
          exact .inl (wkeysL (wk gg h3))
    · refine ⟨.inl ?_, fun len sz rows g ho => ?_⟩
      · show hget _ h ≠ none
        obtain ⟨o', _, ho', _⟩ := there h2 h4
        rw [ho']; simp
      · rw [h1] at ho; cases ho

theorem ctr_ok {f : FuncId} {pre : TS} {run : EN → Tree (TS × EN)} (H : ∀ x r, (run x).sel = some r → StdX P f pre x r.1 r.2) : SummAll P f (ctrSumm pre run) := by
  have main : ∀ args h key r, ((ctrSumm pre run).run args h key).sel = some r → ∃ q s, MatOk true 0 pre args h q ∧ (∀ x ∈ q.ms, x = true) ∧ (run q.en).sel = some s ∧ postB pre q.φ s.1 = true ∧ distB q.φ = true ∧
      r = (ren (psi q.φ key) (resV (s.1.vals s.2)), (q.φ.filter fun k => !isNil k) ++ q.toks, wOf (psi q.φ key) (s.1.objs s.2) ++ kills q.φ pre.hp, key + (s.1.m - pre.m)) := by
    intro args h key r e
    simp only [ctrSumm] at e
    split at e
    · rename_i q hq
      obtain ⟨hms, e⟩ := mustAll_sel e
      have e : ((run q.en).bind fun r => _).sel = _ := e
      rw [bind_sel] at e
      obtain ⟨s, hs, e⟩ := obind_some e
      split at e
      · rename_i hb
        cases e
        simp only [Bool.and_eq_true] at hb
        exact ⟨q, s, matS_ok hq, hms, hs, hb.1, hb.2, rfl⟩
      · cases e
    · cases e
  refine ⟨fun args h key v R W key' e => ?_, fun args h key r e => ?_⟩
  · obtain ⟨q, s, M, hms, hs, hb, hd, e⟩ := main _ _ _ _ e
    cases e
    exact (ctr_spec M hms hb hd (H _ _ hs) key).1
  · obtain ⟨q, s, M, hms, hs, hb, hd, rfl⟩ := main _ _ _ _ e
    exact ⟨Nat.le_add_right _ _, (ctr_spec M hms hb hd (H _ _ hs) key).2⟩
/-- The same, the state at the call not named: for small ones. -/
def ctrSumm0 (pre : TS) (run : EN → Tree (TS × EN)) : Summ := ⟨fun args h key => match matS true 0 pre args h with
  | some q => mustAll q.ms ((run q.en).bind fun r => match postB pre q.φ r.1 && distB q.φ with
    | true => .leaf (ren (psi q.φ key) (resV (r.1.vals r.2)), (q.φ.filter fun k => !isNil k) ++ q.toks, wOf (psi q.φ key) (r.1.objs r.2) ++ kills q.φ pre.hp, key + (r.1.m - pre.m))
    | false => .fail "what a summary leaves")
  | none => .fail "a summary's arguments"⟩
theorem mustAll_eq {R : Type} : ∀ (l : List Bool) (t t' : Tree R), t.sel = t'.sel → (mustAll l t).sel = (mustAll l t').sel
  | [], _, _, h => h
  | b :: l, t, t', h => by
    cases b with
    | false => rfl
    | true => exact mustAll_eq l t t' h
theorem ctr0_sel (pre : TS) (run : EN → Tree (TS × EN)) (args : List AV) (h : Heap) (key : Nat) : ((ctrSumm0 pre run).run args h key).sel = ((ctrSumm pre run).run args h key).sel := by
  simp only [ctrSumm0, ctrSumm]
  cases matS true 0 pre args h with
  | none => rfl
  | some q => exact mustAll_eq _ _ _ rfl
theorem ctr0_ok {f : FuncId} {pre : TS} {run : EN → Tree (TS × EN)} (H : ∀ x r, (run x).sel = some r → StdX P f pre x r.1 r.2) : SummAll P f (ctrSumm0 pre run) := by
  obtain ⟨h1, h2⟩ := ctr_ok H
  exact ⟨fun args h key v R W key' e => h1 args h key v R W key' (by rw [← ctr0_sel]; exact e), fun args h key r e => h2 args h key r (by rw [← ctr0_sel]; exact e)⟩
end
end Go.Eng
