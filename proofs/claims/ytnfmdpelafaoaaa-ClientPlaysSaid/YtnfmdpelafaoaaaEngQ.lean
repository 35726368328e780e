/- The engine, part Q: calls whose body holds loops; arguments opened: numbers, structs, slices of them.
   Conditions: none. -/
import Derived.Test.YtnfmdpelafaoaaaEngP
import Derived.Deep.Slices
import Derived.ChangeSame
import Derived.OpenShut
set_option linter.unusedSimpArgs false
set_option linter.unusedVariables false
namespace Go.Eng
open Go.RowKit Go.ChangeShapes Go.WideShapes Go.Deep
section
variable {P : Program} {T : Tab}

/- Within. -/
theorem within_body {f : FuncId} {fn : Func} {c : Code} (hf : P.funcs[f]? = some fn) (hb : fn.body = some c) : Within P f fn.ntmps c := ⟨fn, c, hf, hb, rfl, fun _ h => h⟩
theorem within_l {f : FuncId} {nt : Nat} {x y : Code} (h : Within P f nt (.seq x y)) : Within P f nt x := within_sub h fun p hp => by simp [blocksOf, hp]
theorem within_r {f : FuncId} {nt : Nat} {x y : Code} (h : Within P f nt (.seq x y)) : Within P f nt y := within_sub h fun p hp => by simp [blocksOf, hp]
theorem within_block {f : FuncId} {nt id : Nat} {x : Code} (h : Within P f nt (.block id x)) : Within P f nt x := within_sub h fun p hp => by simp [blocksOf, hp]
theorem within_loop {f : FuncId} {nt : Nat} {x : Code} (h : Within P f nt (.loop x)) : Within P f nt x := within_sub h fun p hp => by simpa [blocksOf] using hp

theorem tfind_argTm : ∀ (l : List AV) (i t : Nat) (v : AV), tfind t (argTm i l) = some v → i ≤ t ∧ l[t - i]? = some v
  | [], i, t, v, h => by cases h
  | x :: l, i, t, v, h => by
    simp only [argTm, tfind] at h
    by_cases hi : i = t
    · subst hi
      rw [show Nat.beq i i = true from by simp] at h
      cases h
      simp
    · rw [beq_ne hi] at h
      obtain ⟨h1, h2⟩ := tfind_argTm l (i + 1) t v h
      refine ⟨by omega, ?_⟩
      rw [show t - i = (t - (i + 1)) + 1 from by omega]
      exact h2

/-- A call, out of its body. -/
theorem calls_of_ht {f : FuncId} {fn : Func} {c : Code} (hf : P.funcs[f]? = some fn) (hb : fn.body = some c) {args : List AV} (hle : Nat.ble args.length fn.ntmps = true) {m : Nat} {h : Heap} {R : Nat → Heap → AV → Prop}
    {b : Nat} (H : HT P fn.ntmps b c m (argTm 0 args) h fun ex m' κ' h' => (∀ i, ex ≠ .exit i) ∧ ∃ l, (∀ τ0, resA P (κ' ++ τ0) h' fn.results.toList = some l) ∧ R m' h' (resV l))
    {E : Env} {w : World} {vals : Array Value} (hU : RelU (· < m) E (lookOf h) w) (hv : ∀ E', Agree (· < m) E E' → vals = (denL E' args).toArray) :
    Calls P f vals w fun e w' => ∃ m' h' v E', e = .returned (den E' v) ∧ R m' h' v ∧ RelU (· < m') E' (lookOf h') w' ∧ WExt E (lookOf h) w E' (lookOf h') w' ∧ Agree (· < b) E E' := by
  have hle := Nat.le_of_ble_eq_true hle
  have hvals : vals.size = args.length := by rw [hv E (Agree.refl _ E)]; simp [denL_length]
  refine calls_of_wp hf hb (wp_mono (H E _ w ⟨hU, by simp; omega, rfl, fun t v ht E' h' => ?_⟩) ?_)
  · obtain ⟨_, h2⟩ := tfind_argTm args 0 t v ht
    have hlt : t < args.length := by
      have := (List.getElem?_eq_some_iff.1 h2).1
      omega
    show (vals ++ Array.replicate (fn.ntmps - vals.size) undef).getD t undef = _
    rw [hv E' h']
    simp only [Array.getD_eq_getD_getElem?, Array.getElem?_append, List.size_toArray, denL_length]
    rw [if_pos hlt]
    simp only [Nat.sub_zero] at h2
    simp [denL_get, h2]
  · rintro e a' w' ⟨ex, m', κ', h', E', rfl, ⟨hex, l, hl, hR⟩, hS, hx⟩
    have hS' := hS.stU
    have hrun := results_run (P := P) (fn := fn) hS'.rel.here (hS'.tm E' (Agree.refl _ _)) (hl _)
    have : a'.defers = [] ∧ ∃ v', (results fn a'.tmps).run P w' = .ok v' w' ∧ ∃ m' h' v E', Ending.returned v' = .returned (den E' v) ∧ R m' h' v ∧ RelU (· < m') E' (lookOf h') w' ∧ WExt E (lookOf h) w E' (lookOf h') w' ∧ Agree (· < b) E E' :=
      ⟨hS.defers, _, hrun, m', h', _, E', rfl, hR, hS.rel, hx⟩
    cases ex with
    | exit id => exact absurd rfl (hex id)
    | normal => exact this
    | ret => exact this

/- A state told anew, by its lists. -/
def TmsOk (m : Nat) (φ : Nat → Nat) (τ : Tm) : Tm → Prop
  | [] => True
  | p :: l => ((∃ x, tfind p.1 τ = some x ∧ SameV isNil x (ren φ p.2)) ∧ (keysOf p.2).all (Nat.blt · m) = true) ∧ TmsOk m φ τ l
def ObjsOk (m : Nat) (φ : Nat → Nat) (h : Heap) : List (Nat × AObj) → Prop
  | [] => True
  | p :: l => (Nat.blt p.1 m = true ∧ ((∃ o', hget (φ p.1) h = some o' ∧ SameO isNil φ (· < m) o' p.2) ∨ (isNil (φ p.1) = true ∧ NilO (· < m) p.2))) ∧ ObjsOk m φ h l
def mkHeap : List (Nat × AObj) → Heap
  | [] => []
  | p :: l => (p.1, some p.2) :: mkHeap l
def distB : List Nat → Bool
  | [] => true
  | x :: l => match memK x l with
    | true => false
    | false => distB l
theorem TmsOk.of {m : Nat} {φ : Nat → Nat} {τ : Tm} : ∀ {κ : Tm}, TmsOk m φ τ κ → ∀ t v, tfind t κ = some v → (∃ x, tfind t τ = some x ∧ SameV isNil x (ren φ v)) ∧ ∀ k ∈ keysOf v, k < m
  | [], _, t, v, h => by cases h
  | p :: l, ⟨h1, h2⟩, t, v, h => by
    simp only [tfind] at h
    cases hb : Nat.beq p.1 t
    · rw [hb] at h; exact h2.of t v h
    · rw [hb] at h
      cases h
      rw [← Nat.eq_of_beq_eq_true hb]
      exact ⟨h1.1, fun k hk => Nat.le_of_ble_eq_true (List.all_eq_true.1 h1.2 k hk)⟩
theorem ObjsOk.of {m : Nat} {φ : Nat → Nat} {h : Heap} : ∀ {l : List (Nat × AObj)}, ObjsOk m φ h l → ∀ k o, hget k (mkHeap l) = some o → k < m ∧ ((∃ o', hget (φ k) h = some o' ∧ SameO isNil φ (· < m) o' o) ∨ (isNil (φ k) = true ∧ NilO (· < m) o))
  | [], _, k, o, e => by cases e
  | p :: l, ⟨h1, h2⟩, k, o, e => by
    simp only [mkHeap, hget] at e
    cases hb : Nat.beq p.1 k
    · rw [hb] at e; exact h2.of k o e
    · rw [hb] at e
      cases e
      rw [← Nat.eq_of_beq_eq_true hb]
      exact ⟨Nat.le_of_ble_eq_true h1.1, h1.2⟩
theorem mkHeap_mem {k : Nat} {o : AObj} : ∀ {l : List (Nat × AObj)}, hget k (mkHeap l) = some o → (k, o) ∈ l
  | [], e => by cases e
  | p :: l, e => by
    simp only [mkHeap, hget] at e
    cases hb : Nat.beq p.1 k
    · rw [hb] at e; exact List.mem_cons_of_mem _ (mkHeap_mem e)
    · rw [hb] at e
      cases e
      rw [← Nat.eq_of_beq_eq_true hb]
      exact List.mem_cons_self
theorem distB_inj {φ : Nat → Nat} : ∀ {l : List (Nat × AObj)}, distB (l.map fun p => φ p.1) = true → ∀ p ∈ l, ∀ q ∈ l, φ p.1 = φ q.1 → p = q
  | [], _, p, hp, _, _, _ => by cases hp
  | x :: l, h, p, hp, q, hq, e => by
    simp only [List.map_cons, distB] at h
    split at h
    · cases h
    · rename_i hm
      have no : ∀ y ∈ l, φ x.1 ≠ φ y.1 := fun y hy he => by
        have : memK (φ x.1) (l.map fun p => φ p.1) = true := memK_iff.2 (by rw [he]; exact List.mem_map.2 ⟨y, hy, rfl⟩)
        rw [this] at hm
        cases hm
      rcases List.mem_cons.1 hp with e1 | hp <;> rcases List.mem_cons.1 hq with e2 | hq
      · rw [e1, e2]
      · rw [e1] at e; exact absurd e (no q hq)
      · rw [e2] at e; exact absurd e.symm (no p hp)
      · exact distB_inj h p hp q hq e
theorem Reset.of {m : Nat} {φ : Nat → Nat} {τ : Tm} {h : Heap} {κ' : Tm} {l : List (Nat × AObj)} (h1 : TmsOk m φ τ κ') (h2 : ObjsOk m φ h l) (h3 : distB (l.map fun p => φ p.1) = true) : Reset isNil (· < m) φ τ h κ' (mkHeap l) where
  tm := h1.of
  obj := h2.of
  inj := fun k k' o o' hk hk' e => congrArg (·.1) (distB_inj h3 (k, o) (mkHeap_mem hk) (k', o') (mkHeap_mem hk') e)

theorem sameBox {z : Nat → Bool} {φ : Nat → Nat} {m : Nat} {cs' cs : List AV} (h1 : allScalar cs = true) (h2 : ∀ E, NilE z E → denL E cs' = denL E (renL φ cs)) (h3 : (keysL cs).all (Nat.blt · m) = true) : SameO z φ (· < m) (.box cs') (.box cs) :=
  ⟨h1, h2, fun k hk => Nat.le_of_ble_eq_true (List.all_eq_true.1 h3 k hk)⟩
theorem ren_nokeys {l : List AV} (h : keysL l = []) (φ : Nat → Nat) (E : Env) : denL E (renL φ l) = denL E l := by
  rw [denL_ren]
  exact denL_cl (M := fun _ => False) (E := E) (fun k hk => hk.elim) l (by rw [h]; simp)
/-- Rows of plain cells. -/
def PlainRows (rows : Nat → List AV) : Prop := ∀ i, allScalar (rows i) = true ∧ keysL (rows i) = []
theorem sameLst {z : Nat → Bool} {φ : Nat → Nat} {m : Nat} {len' len : SI} {sz : Nat} {rows : Nat → List AV} (h1 : len'.v = len.v) (h2 : PlainRows rows) : SameO z φ (· < m) (.lst len' sz rows none) (.lst len sz rows none) :=
  ⟨h1, rfl, rfl, (fun x (h : none = some x) => by cases h), fun i _ => ⟨rfl, (h2 i).1, fun E _ => (ren_nokeys (h2 i).2 φ E).symm, fun k hk => by rw [(h2 i).2] at hk; cases hk⟩⟩

/- Plain cells. -/
inductive PK where
  | bool
  | int (k : IntKind)
def PK.ok : PK → Value → Prop
  | .bool, v => ∃ b, v = .bool b
  | .int k, v => ∃ n, v = .int k n ∧ (Lit.int k n).wf = true
def oks : List PK → List Value → Prop
  | [], [] => True
  | k :: l, v :: cs => k.ok v ∧ oks l cs
  | _, _ => False
theorem oks_append : ∀ {l : List PK} {cs : List Value} {l' : List PK} {cs' : List Value}, oks l cs → oks l' cs' → oks (l ++ l') (cs ++ cs')
  | [], [], _, _, _, h => h
  | k :: l, v :: cs, _, _, h, h' => ⟨h.1, oks_append h.2 h'⟩
  | [], _ :: _, _, _, h, _ => h.elim
  | _ :: _, [], _, _, h, _ => h.elim
theorem oks_length : ∀ {l : List PK} {cs : List Value}, oks l cs → cs.length = l.length
  | [], [], _ => rfl
  | k :: l, v :: cs, h => by simp [oks_length h.2]
  | [], _ :: _, h => h.elim
  | _ :: _, [], h => h.elim
def pkFields (P : Program) (g : TypeId → Option (List PK)) : List Field → Nat → Option (List PK)
  | [], _ => some []
  | f :: fs, off => match g f.type, Nat.beq f.offset off with
    | some l, true => match Nat.beq l.length (P.cellsOf f.type), pkFields P g fs (off + l.length) with
      | true, some l' => some (l ++ l')
      | _, _ => none
    | _, _ => none
def pkT (P : Program) : Nat → TypeId → Option (List PK)
  | 0, _ => none
  | n + 1, t => match P.underlying t with
    | some .bool => some [.bool]
    | some (.int k) => some [.int k]
    | some (.struct fs) => match pkFields P (pkT P n) fs.toList 0 with
      | some l => match Nat.beq l.length (P.cellsOf t) with
        | true => some l
        | false => none
      | none => none
    | some (.array m e) => match pkT P n e with
      | some l => match Nat.beq l.length (P.cellsOf e), Nat.beq (m * l.length) (P.cellsOf t) with
        | true, true => some (List.replicate m l).flatten
        | _, _ => none
      | none => none
    | _ => none
variable {H : Type} {enc : TypeId × Value → H} {w : World} {base : Nat} {spare : Nat → Bool} {held : Bool}
theorem pkFields_ok {g : TypeId → Option (List PK)} {cs : List Value} : ∀ (fs : List Field) (off : Nat) (l : List PK), pkFields P g fs off = some l →
    (∀ f ∈ fs, ∀ l, g f.type = some l → oks l ((cs.drop f.offset).take (P.cellsOf f.type))) → oks l ((cs.drop off).take l.length)
  | [], off, l, e, _ => by
    cases e
    simp [oks]
  | f :: fs, off, l, e, h => by
    simp only [pkFields] at e
    split at e
    · rename_i l1 h1 h2
      split at e
      · rename_i l2 h3 h4
        cases e
        have i1 := h f (by simp) _ h1
        rw [← Nat.eq_of_beq_eq_true h3, Nat.eq_of_beq_eq_true h2] at i1
        have i2 := pkFields_ok fs _ _ h4 fun f hf => h f (by simp [hf])
        rw [List.length_append, List.take_add, List.drop_drop]
        exact oks_append i1 i2
      · cases e
    · cases e
theorem rep_ok {l : List PK} {cs : List Value} (c : Nat) (hc : l.length = c) : ∀ (m i : Nat), (∀ j, j < m → oks l ((cs.drop ((i + j) * c)).take c)) → oks (List.replicate m l).flatten ((cs.drop (i * c)).take (m * c))
  | 0, i, _ => by simp [oks]
  | m + 1, i, h => by
    have i1 := h 0 (by omega)
    rw [Nat.add_zero] at i1
    have i2 := rep_ok c hc m (i + 1) fun j hj => by
      have := h (j + 1) (by omega)
      rw [show i + (j + 1) = i + 1 + j from by omega] at this
      exact this
    rw [List.replicate_succ, List.flatten_cons, show (m + 1) * c = c + m * c from by rw [Nat.succ_mul]; omega, List.take_add, List.drop_drop, show i * c + c = (i + 1) * c from by rw [Nat.succ_mul]]
    exact oks_append i1 i2
theorem pkT_ok : ∀ (n : Nat) (t : TypeId) (l : List PK), pkT P n t = some l → ∀ (fuel : Nat) (cs : List Value) (x : DataW H × List MemPlace), DataW.trod enc P w base spare held fuel t cs = some x → oks l cs
  | 0, _, _, e, _, _, _, _ => by cases e
  | n + 1, t, l, e, fuel, cs, x, h => by
    simp only [pkT] at e
    split at e
    · rename_i hu
      cases e
      cases fuel with
      | zero => simp [DataW.trod] at h
      | succ fuel =>
        unfold DataW.trod at h
        rw [hu] at h
        split at h <;> simp_all [oks, PK.ok]
    · rename_i k hu
      cases e
      obtain ⟨a, rfl, _, wa⟩ := DataW.trod_int hu h
      exact ⟨⟨a, rfl, wa⟩, trivial⟩
    · rename_i fs hu
      split at e
      · rename_i l' hl'
        split at e
        · rename_i hb
          cases e
          obtain ⟨xs, m, rfl, rfl, hlen, hxs, hf⟩ := DataW.trod_struct hu h
          have := pkFields_ok (cs := cs) fs.toList 0 _ hl' fun f hf' l2 hl2 => by
            obtain ⟨i, hi, hfi⟩ := List.getElem_of_mem hf'
            have hi' : i < fs.size := by simpa using hi
            have h1 := hf i f (by simp [Array.getElem?_eq_getElem hi', ← hfi])
            have hx : xs[i]? = some (xs[i]'(by omega)) := List.getElem?_eq_getElem (by omega)
            exact pkT_ok n _ _ hl2 _ _ _ (h1.trans hx)
          rw [List.drop_zero, List.take_of_length_le (by rw [hlen, Nat.eq_of_beq_eq_true hb]; exact Nat.le_refl _)] at this
          exact this
        · cases e
      · cases e
    · rename_i m et hu
      split at e
      · rename_i l' hl'
        split at e
        · rename_i h1 h2
          cases e
          obtain ⟨xs, m', rfl, rfl, hlen, hxs, hf⟩ := DataW.trod_array hu h
          have hc := Nat.eq_of_beq_eq_true h1
          have := rep_ok (l := l') (cs := cs) (P.cellsOf et) hc m 0 fun j hj => by
            have h3 := hf j hj
            have hx : xs[j]? = some (xs[j]'(by omega)) := List.getElem?_eq_getElem (by omega)
            rw [Nat.zero_add]
            exact pkT_ok n _ _ hl' _ _ _ (h3.trans hx)
          rw [Nat.zero_mul, List.drop_zero, List.take_of_length_le (by rw [hlen, ← Nat.eq_of_beq_eq_true h2, hc]; exact Nat.le_refl _)] at this
          exact this
        · cases e
      · cases e
    · cases e

/-- A row of plain cells by its data. -/
def skel (n : Nat → Int) (b : Nat → Bool) : List PK → Nat → List AV
  | [], _ => []
  | .bool :: l, j => .bool (.sym (b j)) :: skel n b l (j + 1)
  | .int k :: l, j => .int k (.sym (n j)) :: skel n b l (j + 1)
def wfs (n : Nat → Int) : List PK → Nat → Prop
  | [], _ => True
  | .bool :: l, j => wfs n l (j + 1)
  | .int k :: l, j => (Lit.int k (n j)).wf = true ∧ wfs n l (j + 1)
theorem skel_plain (n : Nat → Int) (b : Nat → Bool) : ∀ (l : List PK) (j : Nat), (skel n b l j).length = l.length ∧ allScalar (skel n b l j) = true ∧ keysL (skel n b l j) = []
  | [], _ => ⟨rfl, rfl, rfl⟩
  | .bool :: l, j => by
    obtain ⟨h1, h2, h3⟩ := skel_plain n b l (j + 1)
    exact ⟨by simp [skel, h1], by simp [skel, allScalar, AV.scalar, h2], by simp [skel, keysL, keysOf, h3]⟩
  | .int k :: l, j => by
    obtain ⟨h1, h2, h3⟩ := skel_plain n b l (j + 1)
    exact ⟨by simp [skel, h1], by simp [skel, allScalar, AV.scalar, h2], by simp [skel, keysL, keysOf, h3]⟩
theorem oks_skel : ∀ (l : List PK) (cs : List Value) (j : Nat), oks l cs → ∃ n b, wfs n l j ∧ ∀ E, cs = denL E (skel n b l j)
  | [], [], _, _ => ⟨fun _ => 0, fun _ => false, trivial, fun _ => rfl⟩
  | .bool :: l, v :: cs, j, h => by
    obtain ⟨⟨x, rfl⟩, h2⟩ := h
    obtain ⟨n, b, h3, h4⟩ := oks_skel l cs (j + 1) h2
    have ext : ∀ (l : List PK) (i : Nat), j < i → skel n (fun i => if i = j then x else b i) l i = skel n b l i := by
      intro l
      induction l with
      | nil => intro i _; rfl
      | cons k l ih =>
        intro i hi
        cases k <;> simp [skel, ih (i + 1) (by omega), show i ≠ j from by omega]
    refine ⟨n, fun i => if i = j then x else b i, h3, fun E => ?_⟩
    simp only [skel, denL, den, SB.v, if_pos, ext l (j + 1) (by omega)]
    rw [← h4 E]
  | .int k :: l, v :: cs, j, h => by
    obtain ⟨⟨x, rfl, hx⟩, h2⟩ := h
    obtain ⟨n, b, h3, h4⟩ := oks_skel l cs (j + 1) h2
    have ext : ∀ (l : List PK) (i : Nat), j < i → skel (fun i => if i = j then x else n i) b l i = skel n b l i ∧ (wfs n l i → wfs (fun i => if i = j then x else n i) l i) := by
      intro l
      induction l with
      | nil => intro i _; exact ⟨rfl, fun h => h⟩
      | cons k l ih =>
        intro i hi
        obtain ⟨i1, i2⟩ := ih (i + 1) (by omega)
        cases k <;> simp [skel, wfs, i1, show i ≠ j from by omega]
        · exact i2
        · exact fun h h' => ⟨h, i2 h'⟩
    refine ⟨fun i => if i = j then x else n i, b, ⟨by simp [hx], (ext l (j + 1) (by omega)).2 h3⟩, fun E => ?_⟩
    simp only [skel, denL, den, SI.v, if_pos, (ext l (j + 1) (by omega)).1]
    rw [← h4 E]
  | [], _ :: _, _, h => h.elim
  | .bool :: _, [], _, h => h.elim
  | .int _ :: _, [], _, h => h.elim

/-- An argument of plain cells: a struct or an array by value. -/
theorem open_plain {t : TypeId} {fs : Array Field} {f : Nat} {l : List PK} {r : Reach} {b0 : Nat} {v : Value} {d : DataW H} {p : List MemPlace} (hs : P.underlying t = some (.struct fs)) (hl : pkT P f t = some l)
    (hv : Value.okWide P w r b0 t v) (h : DataW.Trod enc P w base spare held t v d p) : ∃ n b, wfs n l 0 ∧ ∀ E, v = den E (.agg (skel n b l 0)) := by
  obtain ⟨cs, rfl, _⟩ := okWide_struct hs hv
  obtain ⟨fuel, hf⟩ := h
  obtain ⟨n, b, h1, h2⟩ := oks_skel l _ 0 (pkT_ok f t l hl fuel _ _ hf)
  refine ⟨n, b, h1, fun E => ?_⟩
  have := h2 E
  simp only [Value.cells] at this
  simp [den, ← this]

/-- What a slice of plain rows says. -/
def sliceOf (w : World) (hd : Option Addr × Nat × Nat) (len : Int) (sz : Nat) (rows : Nat → List AV) : Prop :=
  (hd.2.1 : Int) = len ∧ hd.2.1 ≤ hd.2.2 ∧ (0 < hd.2.2 → ∃ B off, hd.1 = some ⟨B, off, none⟩ ∧ B < w.heap.size ∧ ∀ E, RowsAt E (fun o => w.cell? ⟨B, o, none⟩) off sz hd.2.1 rows)
theorem relU_lists {hdr : Nat → Option Addr × Nat × Nat} {m : Nat} {l : List (Nat × AObj)} (hh : ∀ p ∈ l, p.1 < m ∧ ∃ len sz rows, p.2 = .lst len sz rows none ∧ sliceOf w (hdr p.1) len.v sz rows) :
    RelU (· < m) ⟨fun _ => 0, hdr, fun _ => []⟩ (lookOf (mkHeap l)) w := by
  have get : ∀ k o, lookOf (mkHeap l) k = some o → k < m ∧ ∃ len sz rows, o = .lst len sz rows none ∧ sliceOf w (hdr k) len.v sz rows := fun k o ho => hh (k, o) (mkHeap_mem ho)
  refine ⟨fun k o ho => (get k o ho).1, fun k len sz rows g ho => ?_, fun E' hE => ⟨fun k o ho => ?_, fun k o k' o' b ho _ _ h1 _ => ?_, fun k len sz rows a k' o' ho hc ha ho' h2 => ?_⟩⟩
  · obtain ⟨_, _, _, _, e, _⟩ := get k _ ho
    cases e
  · obtain ⟨hk, len, sz, rows, rfl, h1, h2, h3⟩ := get k o ho
    have e : E'.hdr k = hdr k := (hE k hk).2.1
    refine ⟨by rw [e]; exact h1, by rw [e]; exact h2, fun hc => ?_⟩
    rw [e] at hc ⊢
    obtain ⟨B, off, g1, g2, g3⟩ := h3 hc
    exact ⟨B, off, g1, g2, g3 E'⟩
  · obtain ⟨_, _, _, _, rfl, _⟩ := get k o ho
    exact h1.elim
  · obtain ⟨_, _, _, _, rfl, _⟩ := get k' o' ho'
    exact h2.elim

theorem cell_lt {a : Addr} {v : Value} (h : w.cell? a = some v) : a.spot = none ∧ a.block < w.heap.size := by
  unfold World.cell? at h
  split at h
  · rename_i hb
    split at h
    · cases h
    · rename_i hs
      exact ⟨by simpa using hs, lt_of_get hb⟩
  · cases h
/-- An argument that is a slice of plain rows. -/
theorem open_rows {t e : TypeId} {f : Nat} {l : List PK} {r : Reach} {b0 : Nat} {v : Value} {d : DataW H} {p : List MemPlace} (ht : P.underlying t = some (.slice e)) (hl : pkT P f e = some l) (hsz : l.length = P.cellsOf e) (hpos : 0 < l.length)
    (hv : Value.okWide P w r b0 t v) (h : DataW.Trod enc P w 0 (fun _ => true) held t v d p) :
    ∃ (hd : Option Addr × Nat × Nat) (n : Nat → Nat → Int) (b : Nat → Nat → Bool), v = .slice hd.1 hd.2.1 hd.2.2 ∧ hd.2.1 ≤ maxLen ∧ sliceOf w hd hd.2.1 l.length (fun i => skel (n i) (b i) l 0) ∧ ∀ i, i < hd.2.1 → wfs (n i) l 0 := by
  obtain ⟨a0, len, cap, rfl⟩ := okWide_slice ht hv
  obtain ⟨fuel, hf⟩ := h
  rcases open_slice ht hf with ⟨hcs, _⟩ | ⟨a, len', cap', m, q, D, Pl, hcs, _, hlc, hcm, hm, _, hx⟩
  · simp [Value.cells] at hcs
    obtain ⟨rfl, rfl, rfl⟩ := hcs
    exact ⟨(none, 0, 0), fun _ _ => 0, fun _ _ => false, rfl, Nat.zero_le _, ⟨rfl, Nat.le_refl _, fun h => absurd h (Nat.lt_irrefl 0)⟩, fun i hi => absurd hi (Nat.not_lt_zero i)⟩
  · simp [Value.cells] at hcs
    obtain ⟨rfl, rfl, rfl⟩ := hcs
    simp only [if_pos] at hm
    subst hm
    have rows : ∀ i, ∃ nb : (Nat → Int) × (Nat → Bool), i < m → wfs nb.1 l 0 ∧ ∀ E, ∀ j, j < l.length → w.cell? (a.add (i * l.length + j)) = ((skel nb.1 nb.2 l 0)[j]?).map (den E) := by
      intro i
      by_cases hi : i < m
      · obtain ⟨cs', h1, h2⟩ := hx i hi
        obtain ⟨_, h3, h4⟩ := World.cells?_some h1
        obtain ⟨n, b, h5, h6⟩ := oks_skel l _ 0 (pkT_ok f e l hl _ _ _ h2)
        refine ⟨(n, b), fun _ => ⟨h5, fun E j hj => ?_⟩⟩
        have := h4 j (by omega)
        rw [Go.Deep.add_add] at this
        rw [hsz, this, h6 E, denL_get]
      · exact ⟨(fun _ => 0, fun _ => false), fun h => absurd h hi⟩
    obtain ⟨g, hg⟩ := Classical.axiomOfChoice rows
    refine ⟨(some a, len, m), fun i => (g i).1, fun i => (g i).2, rfl, Nat.le_trans hlc hcm, ⟨rfl, hlc, fun hc => ?_⟩, fun i hi => (hg i (by have : i < len := hi; omega)).1⟩
    have hc : 0 < m := hc
    have h0 : ∃ v, w.cell? a = some v := by
      have := (hg 0 hc).2 default 0 hpos
      have hsome : (skel (g 0).1 (g 0).2 l 0)[0]? ≠ none := by
        rw [List.getElem?_eq_getElem (by rw [(skel_plain _ _ l 0).1]; exact hpos)]
        simp
      rw [show a.add (0 * l.length + 0) = a from by simp [Addr.add]] at this
      rw [this]
      cases hq : (skel (g 0).1 (g 0).2 l 0)[0]? with
      | none => exact absurd hq hsome
      | some x => exact ⟨_, rfl⟩
    obtain ⟨v, h0⟩ := h0
    obtain ⟨hs, hb⟩ := cell_lt h0
    obtain ⟨B, off, spot⟩ := a
    have hs : spot = none := hs
    subst hs
    refine ⟨B, off, rfl, hb, fun E i hi => ?_⟩
    have hi : i < len := hi
    obtain ⟨s1, s2, _⟩ := skel_plain (g i).1 (g i).2 l 0
    have hi2 : i < m := by omega
    exact ⟨s1, s2, fun j hj => by
      have := (hg i hi2).2 E j hj
      have ha : (⟨B, off, none⟩ : Addr).add (i * l.length + j) = ⟨B, off + (i * l.length + j), none⟩ := by
        unfold Addr.add
        split
        · rename_i h0; rw [h0, Nat.add_zero]
        · rfl
      rw [ha] at this
      exact this⟩

/-- A slice of plain rows, in the heap of a call's own. -/
theorem plainRows_skel (n : Nat → Nat → Int) (b : Nat → Nat → Bool) (l : List PK) : PlainRows fun i => skel (n i) (b i) l 0 := fun i => (skel_plain (n i) (b i) l 0).2
theorem below_of_wext {hdr : Nat → Option Addr × Nat × Nat} {l : List (Nat × AObj)} {E' : Env} {lk' : Look} {w' : World} (hx : WExt ⟨fun _ => 0, hdr, fun _ => []⟩ (lookOf (mkHeap l)) w E' lk' w') : Below w.heap.size w w' :=
  ⟨hx.os, hx.tape, hx.output, hx.size, fun b hb => hx.frame b hb fun k o _ ho => by cases o <;> simp [owns] at ho⟩
end
end Go.Eng
