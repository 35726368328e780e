/- The engine, part V: code as a row of parts; a law with a loop.
   Conditions: none. -/
import Derived.Test.YtnfmdpelafaoaaaEngT
set_option linter.unusedSimpArgs false
set_option linter.unusedVariables false
namespace Go.Eng
open Go.RowKit
section
variable {P : Program} {T : Tab}
def flat : Code → List Code
  | .seq a b => flat a ++ flat b
  | c => [c]
def ofL : List Code → Code
  | [] => .skip
  | [c] => c
  | c :: d :: l => .seq c (ofL (d :: l))
theorem blocks_ofL : ∀ l : List Code, ∀ p ∈ blocksOf (ofL l), ∃ c ∈ l, p ∈ blocksOf c
  | [], p, h => by cases h
  | [c], p, h => ⟨c, by simp, h⟩
  | c :: d :: l, p, h => by
    simp only [ofL, blocksOf, List.mem_append] at h
    rcases h with h | h
    · exact ⟨c, by simp, h⟩
    · obtain ⟨x, h1, h2⟩ := blocks_ofL (d :: l) p h
      exact ⟨x, List.mem_cons_of_mem _ h1, h2⟩
theorem blocks_flat (c : Code) : ∀ x ∈ flat c, ∀ p ∈ blocksOf x, p ∈ blocksOf c := by
  induction c with
  | seq a b iha ihb =>
    intro x h p hp
    simp only [flat, List.mem_append] at h
    simp only [blocksOf, List.mem_append]
    rcases h with h | h
    · exact .inl (iha x h p hp)
    · exact .inr (ihb x h p hp)
  | _ =>
    intro x h p hp
    simp only [flat, List.mem_singleton] at h
    subst h
    exact hp
theorem within_flat {f : FuncId} {nt : Nat} {c : Code} (h : Within P f nt c) {l : List Code} (hl : ∀ x ∈ l, x ∈ flat c) : Within P f nt (ofL l) :=
  within_sub h fun p hp => by
    obtain ⟨x, h1, h2⟩ := blocks_ofL l p hp
    exact blocks_flat c x (hl x h1) p h2
theorem within_take {f : FuncId} {nt : Nat} {c : Code} (h : Within P f nt c) (k : Nat) : Within P f nt (ofL ((flat c).take k)) := within_flat h fun x hx => List.mem_of_mem_take hx
theorem within_drop {f : FuncId} {nt : Nat} {c : Code} (h : Within P f nt c) (k : Nat) : Within P f nt (ofL ((flat c).drop k)) := within_flat h fun x hx => List.mem_of_mem_drop hx
theorem within_at {f : FuncId} {nt : Nat} {c x : Code} (h : Within P f nt c) (k : Nat) (hx : (flat c)[k]? = some x) : Within P f nt x := within_sub h (blocks_flat c x (List.mem_of_getElem? hx))

/-- A row of parts, one behind the other. -/
def wpL (P : Program) : List Code → (Exit → Act → World → Prop) → Act → World → Prop
  | [], Q => Q .normal
  | c :: l, Q => c.wp P (Exit.then (wpL P l Q) Q)
theorem wpL_mono : ∀ {l : List Code} {Q Q' : Exit → Act → World → Prop} {a : Act} {w : World}, wpL P l Q a w → (∀ e a w, Q e a w → Q' e a w) → wpL P l Q' a w
  | [], Q, Q', a, w, h, hq => hq _ _ _ h
  | c :: l, Q, Q', a, w, h, hq => wp_mono (show c.wp P _ a w from h) fun e a' w' h' => by
    cases e <;> first | exact hq _ _ _ h' | exact wpL_mono (l := l) h' hq
theorem wpL_append (Q : Exit → Act → World → Prop) : ∀ (l1 l2 : List Code) (a : Act) (w : World), wpL P (l1 ++ l2) Q a w ↔ wpL P l1 (Exit.then (wpL P l2 Q) Q) a w
  | [], l2, a, w => Iff.rfl
  | c :: l, l2, a, w => by
    constructor
    · intro h
      refine wp_mono (show c.wp P _ a w from h) fun e a' w' h' => ?_
      cases e <;> first | exact h' | exact (wpL_append Q l l2 a' w').1 h'
    · intro h
      refine wp_mono (show c.wp P _ a w from h) fun e a' w' h' => ?_
      cases e <;> first | exact h' | exact (wpL_append Q l l2 a' w').2 h'
theorem wp_flat : ∀ (c : Code) (Q : Exit → Act → World → Prop) (a : Act) (w : World), wpL P (flat c) Q a w → c.wp P Q a w := by
  have one : ∀ (c : Code) (Q : Exit → Act → World → Prop) (a : Act) (w : World), wpL P [c] Q a w → c.wp P Q a w := fun c Q a w h =>
    wp_mono (show c.wp P _ a w from h) fun e a' w' h' => by cases e <;> exact h'
  intro c
  induction c with
  | seq x y ihx ihy =>
    intro Q a w h
    refine wp_seq (ihx _ a w (wpL_mono ((wpL_append Q (flat x) (flat y) a w).1 h) fun e a' w' h' => ?_))
    cases e <;> first | exact h' | exact ihy _ _ _ h'
  | _ => exact one _
abbrev HTL (P : Program) (nt b : Nat) (l : List Code) (m : Nat) (κ : Tm) (h : Heap) (Q : Ex → Nat → Tm → Heap → Prop) : Prop := HTg nt b (wpL P l) m κ h Q

theorem wpL_one {c : Code} {Q : Exit → Act → World → Prop} {a : Act} {w : World} (h : c.wp P Q a w) : wpL P [c] Q a w := wp_mono h fun e a' w' h' => by cases e <;> exact h'
/-- The run of a row of parts. -/
theorem codeD_soundL (hT : TabAll P T) (hm : P.follows .mixedOrders = true) {f : FuncId} {nt : Nat} : ∀ (l : List Code) (n : Nat) (τ : Tm) (h : Heap) (key : Nat) (s : St), l ≠ [] → Within P f nt (ofL l) → codeD P T n f nt (ofL l) τ h key = some s → RunSpec nt (wpL P l) τ h key s
  | [], _, _, _, _, _, hne, _, _ => absurd rfl hne
  | [c], n, τ, h, key, s, _, hin, e => fun A E a w Q hS hk hQ => wpL_one (codeD_sound hT hm n f nt c τ h key s hin e A E a w Q hS hk hQ)
  | c :: d :: l, 0, τ, h, key, s, _, hin, e => by cases e
  | c :: d :: l, n + 1, τ, h, key, s, _, hin, e => by
    have hx : Within P f nt c := within_sub hin fun p hp => by simp [ofL, blocksOf, hp]
    have hy : Within P f nt (ofL (d :: l)) := within_sub hin fun p hp => by simp only [ofL, blocksOf, List.mem_append]; exact .inr hp
    simp only [ofL, codeD] at e
    obtain ⟨s1, h1, e⟩ := obind_some e
    intro A E a w Q hS hk hQ
    have grows := fun c τ h key s e => (codeD_grows (P := P) (T := T) hT.toTabW n f nt c τ h key s e).1
    have g1 := grows _ _ _ _ _ h1
    have ih := codeD_sound hT hm n
    show c.wp P (Exit.then (wpL P (d :: l) Q) Q) a w
    cases hex : s1.ex with
    | normal =>
      rw [hex] at e
      have g2 := grows _ _ _ _ _ e
      refine (ih f nt c τ h key s1 hx h1).then g1 g2 hS hk fun a' w' E1 hS1 hk1 hfin => ?_
      rw [hex]
      exact codeD_soundL hT hm (d :: l) n _ _ _ s (by simp) hy e _ E1 a' w' Q hS1 hk1 fun a'' w'' E2 hS2 hx2 => hQ a'' w'' E2 (hfin a'' w'' E2 hS2 hx2).1 (hfin a'' w'' E2 hS2 hx2).2
    | exit id =>
      rw [hex] at e
      cases e
      refine ih f nt c τ h key s hx h1 A E a w _ hS hk fun a' w' E1 hS1 hx1 => ?_
      have := hQ a' w' E1 hS1 hx1
      rw [hex] at this ⊢
      exact this
    | ret =>
      rw [hex] at e
      cases e
      refine ih f nt c τ h key s hx h1 A E a w _ hS hk fun a' w' E1 hS1 hx1 => ?_
      have := hQ a' w' E1 hS1 hx1
      rw [hex] at this ⊢
      exact this

/-- Rows of parts. -/
theorem HTL.runF (hT : TabAll P T) (hm : P.follows .mixedOrders = true) {n : Nat} {f : FuncId} {nt b : Nat} {l : List Code} (hne : l ≠ []) (hin : Within P f nt (ofL l)) {m : Nat} {κ : Tm} {h : Heap} (rs ts ks fz : List Nat) {len : Nat} {Q : Ex → Nat → Tm → Heap → Prop} (hb : b ≤ m) (hlen : h.length = len)
    (H : ∀ τ0 : Tm, (codeT P T n f nt (ofL l) (κ ++ τ0) h m (outF rs ts ks fz len)).Holds fun o => ∃ m' φ κ' h', (∀ k, k < b → φ k = k) ∧ Reset isNil (· < m') φ o.tm (fzH o.ex fz h o.heap) κ' h' ∧ Q o.ex m' κ' h') : HTL P nt b l m κ h Q :=
  HTg.runF hT (fun _ _ _ s e => codeD_soundL hT hm l n _ _ _ s hne hin e) rs ts ks fz hb hlen H
theorem HTL.runR (hT : TabAll P T) (hm : P.follows .mixedOrders = true) {n : Nat} {f : FuncId} {nt b : Nat} {l : List Code} (hne : l ≠ []) (hin : Within P f nt (ofL l)) {m : Nat} {κ : Tm} {h : Heap} (rs rk ts ks fz : List Nat) {len : Nat} {Q : Ex → Nat → Tm → Heap → Prop} (hb : b ≤ m) (hlen : h.length = len)
    (H : ∀ τ0 : Tm, (codeT P T n f nt (ofL l) (κ ++ τ0) h m (outR rs rk ts ks fz len)).Holds fun o => ∃ m' φ κ' h', (∀ k, k < b → φ k = k) ∧ Reset isNil (· < m') φ o.tm (fzH o.ex fz h o.heap) κ' h' ∧ Q o.ex m' κ' h') : HTL P nt b l m κ h Q :=
  HTg.runR hT (fun _ _ _ s e => codeD_soundL hT hm l n _ _ _ s hne hin e) rs rk ts ks fz hb hlen H
theorem HTL.append {nt b : Nat} {l1 l2 : List Code} {m : Nat} {κ : Tm} {h : Heap} {R Q : Ex → Nat → Tm → Heap → Prop} (hx : HTL P nt b l1 m κ h R)
    (hy : ∀ m' κ' h', R .normal m' κ' h' → HTL P nt b l2 m' κ' h' Q) (ho : ∀ ex m' κ' h', R ex m' κ' h' → ¬ ExNormal ex → Q ex m' κ' h') : HTL P nt b (l1 ++ l2) m κ h Q := by
  intro E a w hS
  refine (wpL_append _ l1 l2 a w).2 (wpL_mono (hx E a w hS) ?_)
  rintro e a' w' ⟨ex, m', κ', h', E', rfl, q, s, g, ga⟩
  cases ex with
  | normal =>
    show wpL P l2 _ a' w'
    refine wpL_mono (hy _ _ _ q E' a' w' s) ?_
    rintro e2 a2 w2 ⟨ex2, m2, κ2, h2, E2, rfl, q2, s2, g2, ga2⟩
    exact ⟨ex2, m2, κ2, h2, E2, rfl, q2, s2, g.trans g2, ga.trans ga2 fun _ h => h⟩
  | exit id => exact ⟨.exit id, m', κ', h', E', rfl, ho _ _ _ _ q (fun h => h), s, g, ga⟩
  | ret => exact ⟨.ret, m', κ', h', E', rfl, ho _ _ _ _ q (fun h => h), s, g, ga⟩
theorem HTL.one {nt b : Nat} {c : Code} {m : Nat} {κ : Tm} {h : Heap} {Q : Ex → Nat → Tm → Heap → Prop} (hc : HT P nt b c m κ h Q) : HTL P nt b [c] m κ h Q := fun E a w hS => wpL_one (hc E a w hS)
theorem HTL.drop {nt b : Nat} {l : List Code} {m : Nat} {κ : Tm} {h : Heap} {Q : Ex → Nat → Tm → Heap → Prop} (hc : HTL P nt b l 0 [] [] Q) : HTL P nt b l m κ h Q := HTg.drop (WP := wpL P l) (fun h hq => wpL_mono h hq) hc
theorem HT.flat {nt b : Nat} {c : Code} {m : Nat} {κ : Tm} {h : Heap} {Q : Ex → Nat → Tm → Heap → Prop} (hc : HTL P nt b (Eng.flat c) m κ h Q) : HT P nt b c m κ h Q := fun E a w hS => wp_flat c _ a w (hc E a w hS)
/-- A row of code in two parts. -/
theorem HT.cut {nt b : Nat} {c : Code} {m : Nat} {κ : Tm} {h : Heap} {R Q : Ex → Nat → Tm → Heap → Prop} (k : Nat) (hx : HTL P nt b ((Eng.flat c).take k) m κ h R)
    (hy : ∀ m' κ' h', R .normal m' κ' h' → HTL P nt b ((Eng.flat c).drop k) m' κ' h' Q) (ho : ∀ ex m' κ' h', R ex m' κ' h' → ¬ ExNormal ex → Q ex m' κ' h') : HT P nt b c m κ h Q := by
  refine HT.flat ?_
  rw [← List.take_append_drop k (Eng.flat c)]
  exact HTL.append hx hy ho
theorem normal_no {ex : Ex} {p : Prop} (h : ex = .normal) (hn : ¬ ExNormal ex) : p := absurd (h ▸ trivial) hn

/-- A call of a law, out of its body's row. -/
theorem law_ht {f : FuncId} {fn : Func} {c : Code} (hf : P.funcs[f]? = some fn) (hb : fn.body = some c) {args : List AV} (hle : Nat.ble args.length fn.ntmps = true) {m : Nat} {l : List (Nat × AObj)} {t : Tmp} (hr : fn.results.toList = [.tmp t])
    {hdr : Nat → Option Addr × Nat × Nat} {w : World} {vals : Array Value} (hl : ∀ p ∈ l, p.1 < m ∧ ∃ len sz rows, p.2 = .lst len sz rows none ∧ sliceOf w (hdr p.1) len.v sz rows)
    (H : HT P fn.ntmps 0 c m (argTm 0 args) (mkHeap l) fun ex m' κ' h' => ex = .ret ∧ tfind t κ' = some (.bool (.lit true)))
    (hv : ∀ E', Agree (· < m) ⟨fun _ => 0, hdr, fun _ => []⟩ E' → vals = (denL E' args).toArray) :
    Calls P f vals w fun e w' => e = .returned (.bool true) ∧ Below w.heap.size w w' := by
  have := calls_of_ht hf hb hle (R := fun _ _ v => v = .bool (.lit true)) (H.mono ?_) (relU_lists hl) hv
  · refine this.mono ?_
    rintro e W' ⟨m', h', v, E', rfl, rfl, _, hx, _⟩
    exact ⟨rfl, below_of_wext hx⟩
  · rintro ex m κ h' ⟨rfl, h1⟩
    refine ⟨fun i => by simp, [.bool (.lit true)], fun τ0 => ?_, rfl⟩
    rw [hr]
    simp only [resA, tget_append, h1, Option.getD_some]
end
end Go.Eng
