/- The engine, part Aa: bodies in parts, by templates; laws by templates; tables.
   Conditions: none. -/
import Derived.Test.YtnfmdpelafaoaaaEngZ
set_option linter.unusedSimpArgs false
set_option linter.unusedVariables false
namespace Go.Eng
open Go.RowKit
section
variable {P : Program} {T : Tab}

theorem HT.cutX {nt b : Nat} {c : Code} {m : Nat} {κ : Tm} {h : Heap} {t1 : TS} {rt p : Option TS} {R1 R : Ex → EN → Prop} (k : Nat) (hx : HTL P nt b ((Eng.flat c).take k) m κ h (QX ⟨some t1, [], rt⟩ R1))
    (hy : ∀ en, R1 .normal en → HTL P nt b ((Eng.flat c).drop k) t1.m (t1.tm en) (t1.heap en) (QX ⟨p, [], rt⟩ R)) (ho : ∀ en, R1 .ret en → R .ret en) : HT P nt b c m κ h (QX ⟨p, [], rt⟩ R) := by
  refine HT.cut k hx ?_ ?_
  · rintro m' κ' h' ⟨t, en, h1, h2, rfl, rfl, rfl⟩
    cases h1
    exact hy en h2
  · rintro ex m' κ' h' ⟨t, en, h1, h2, rfl, rfl, rfl⟩ hn
    cases ex with
    | normal => exact absurd trivial hn
    | exit i => cases h1
    | ret => exact ⟨t, en, h1, ho en h2, rfl, rfl, rfl⟩
theorem HTL.appX {nt b : Nat} {l1 l2 : List Code} {m : Nat} {κ : Tm} {h : Heap} {t1 : TS} {rt p : Option TS} {R1 R : Ex → EN → Prop} (hx : HTL P nt b l1 m κ h (QX ⟨some t1, [], rt⟩ R1))
    (hy : ∀ en, R1 .normal en → HTL P nt b l2 t1.m (t1.tm en) (t1.heap en) (QX ⟨p, [], rt⟩ R)) (ho : ∀ en, R1 .ret en → R .ret en) : HTL P nt b (l1 ++ l2) m κ h (QX ⟨p, [], rt⟩ R) := by
  refine HTL.append hx ?_ ?_
  · rintro m' κ' h' ⟨t, en, h1, h2, rfl, rfl, rfl⟩
    cases h1
    exact hy en h2
  · rintro ex m' κ' h' ⟨t, en, h1, h2, rfl, rfl, rfl⟩ hn
    cases ex with
    | normal => exact absurd trivial hn
    | exit i => cases h1
    | ret => exact ⟨t, en, h1, ho en h2, rfl, rfl, rfl⟩
/-- A loop in its block, then the rest. -/
theorem HTL.loopThen {nt b id : Nat} {x : Code} {l l2 : List Code} {m : Nat} {κ : Tm} {h : Heap} {t2 : TS} {rt p : Option TS} {RL R : Ex → EN → Prop} (e : l = [.block id (.loop x)] ++ l2) (hx : HT P nt b (.loop x) m κ h (QX ⟨none, [(id, t2)], rt⟩ RL))
    (hy : ∀ en, RL (.exit id) en → HTL P nt b l2 t2.m (t2.tm en) (t2.heap en) (QX ⟨p, [], rt⟩ R)) (ho : ∀ en, RL .ret en → R .ret en) : HTL P nt b l m κ h (QX ⟨p, [], rt⟩ R) := by
  subst e
  exact HTL.appX (HTL.one (HT.block (hx.mono fun ex m' κ' h' q => QX_block q))) hy ho
theorem QX.mono {p : Pk} {R R' : Ex → EN → Prop} {ex : Ex} {m : Nat} {κ : Tm} {h : Heap} (hR : ∀ e, R ex e → R' ex e) (q : QX p R ex m κ h) : QX p R' ex m κ h := by
  obtain ⟨t, en, h1, h2, h3⟩ := q
  exact ⟨t, en, h1, hR en h2, h3⟩

theorem must_sel {R : Type} {c : Bool} {t : Tree R} {r : R} (h : (Tree.must c t).sel = some r) : c = true ∧ t.sel = some r := by
  cases c with
  | true => exact ⟨rfl, h⟩
  | false => cases h
/- Laws. -/
/-- A law's result, in its temporary. -/
def lawT (t : Tmp) : TS := ⟨[t], [.one .b], [], 0⟩
def lawR : Ex → EN → Prop
  | .ret, en => (hdN (hdL en.a)).B = true
  | _, _ => False
theorem law_htX {f : FuncId} {fn : Func} {c : Code} (hf : P.funcs[f]? = some fn) (hb : fn.body = some c) {args : List AV} (hle : Nat.ble args.length fn.ntmps = true) {m : Nat} {l : List (Nat × AObj)} {t : Tmp} (hr : fn.results.toList = [.tmp t])
    {hdr : Nat → Option Addr × Nat × Nat} {w : World} {vals : Array Value} (hl : ∀ p ∈ l, p.1 < m ∧ ∃ len sz rows, p.2 = .lst len sz rows none ∧ sliceOf w (hdr p.1) len.v sz rows)
    (H : HT P fn.ntmps 0 c m (argTm 0 args) (mkHeap l) (QX ⟨none, [], some (lawT t)⟩ lawR))
    (hv : ∀ E', Agree (· < m) ⟨fun _ => 0, hdr, fun _ => []⟩ E' → vals = (denL E' args).toArray) :
    Calls P f vals w fun e w' => e = .returned (.bool true) ∧ Below w.heap.size w w' := by
  have := calls_of_ht hf hb hle (R := fun _ _ v => v = .bool (.sym true)) (H.mono ?_) (relU_lists hl) hv
  · refine this.mono ?_
    rintro e W' ⟨m', h', v, E', rfl, rfl, _, hx, _⟩
    exact ⟨rfl, below_of_wext hx⟩
  · rintro ex m κ h' ⟨t', en, h1, h2, rfl, rfl, rfl⟩
    cases ex with
    | normal => cases h1
    | exit i => cases h1
    | ret =>
      cases h1
      have h2 : (hdN (hdL en.a)).B = true := h2
      refine ⟨fun i => by simp, [.bool (.sym true)], fun τ0 => ?_, rfl⟩
      rw [hr]
      have e : (lawT t).tm en = [(t, .bool (.sym true))] := by
        show [(t, AV.bool (.sym (hdN (hdL en.a)).B))] = _
        rw [h2]
      simp only [resA, e, List.cons_append, List.nil_append, tget, show Nat.beq t t = true from by simp]
theorem good_out {b : Bool} (h : b = true) : lawR .ret ⟨[[.b b]], []⟩ := h
/-- A summary told by equation: for the tables. -/
theorem rowsB_of {row : List TV} {rows : Nat → List AV} {n : Nat} (h : ∀ i, rowOk row (rows i) = true) : rowsB row rows n = true := rowsB_iff.2 fun i _ => h i
theorem rowsB_lt {row : List TV} {rows : Nat → List AV} {n : Nat} (h : ∀ i, i < n → rowOk row (rows i) = true) : rowsB row rows n = true := rowsB_iff.2 h
theorem rowOk_inst {row : List TV} (h : row.all TV.keyless = true) : ∀ xs, rowOk row (instL row xs) = true := by
  have main : ∀ (row : List TV), row.all TV.keyless = true → ∀ xs, (getL id row (instL row xs)).isSome = true := by
    intro row
    induction row with
    | nil => intro _ xs; rfl
    | cons t row ih =>
      intro h xs
      simp only [List.all_cons, Bool.and_eq_true] at h
      have h1 : (t.get id (t.inst (hdN xs))).isSome = true := by
        cases t <;> simp [TV.keyless] at h <;> simp [TV.inst, TV.get]
      have h2 := ih h.2 (tlN xs)
      simp only [instL, getL]
      cases e1 : t.get id (t.inst (hdN xs)) with
      | none => rw [e1] at h1; cases h1
      | some x =>
        cases e2 : getL id row (instL row (tlN xs)) with
        | none => rw [e2] at h2; cases h2
        | some xs => rfl
  exact main row h
theorem rowsB_instR {row : List TV} (h : row.all TV.keyless = true) (r : Nat → List Num) (n : Nat) : rowsB row (instR row r) n = true := rowsB_of fun i => rowOk_inst h _
theorem rowsB_cat {row : List TV} {la : SI} {ra rc : Nat → List AV} {n : Nat} (h1 : ∀ i, i < la.v.toNat → rowOk row (ra i) = true) (h2 : ∀ i, i < n - la.v.toNat → rowOk row (rc i) = true) : rowsB row (catRows la ra rc) n = true := rowsB_iff.2 fun i hi => by
  unfold catRows
  cases hb : Nat.blt i la.v.toNat with
  | true => exact h1 i (Nat.le_of_ble_eq_true hb)
  | false =>
    refine h2 _ ?_
    have : ¬ i < la.v.toNat := fun h => by
      have h3 : Nat.blt i la.v.toNat = true := Nat.ble_eq_true_of_le h
      rw [h3] at hb; cases hb
    omega
theorem rowNums_cat {row : List TV} {la : SI} {ra rc : Nat → List AV} {i : Nat} : rowNums row (catRows la ra rc) i = if i < la.v.toNat then rowNums row ra i else rowNums row rc (i - la.v.toNat) := by
  unfold rowNums catRows
  by_cases h : i < la.v.toNat
  · rw [if_pos h, show Nat.blt i la.v.toNat = true from Nat.ble_eq_true_of_le h]
  · rw [if_neg h]
    have : Nat.blt i la.v.toNat = false := by
      cases hb : Nat.blt i la.v.toNat
      · rfl
      · exact absurd (Nat.le_of_ble_eq_true hb) h
    rw [this]
end
end Go.Eng
