/- The engine, part Ab: a call's body with loops as a summary; plain laws of rows that are looked through.
   Conditions: none. -/
import Derived.Test.YtnfmdpelafaoaaaEngAa
set_option linter.unusedSimpArgs false
set_option linter.unusedVariables false
namespace Go.Eng
open Go.RowKit
section
variable {P : Program} {T : Tab}
theorem tget_zip : ∀ {ts : List Nat} {vs : List AV} {t : Nat} {v : AV} {τ0 : Tm}, distB ts = true → (t, v) ∈ zipTm ts vs → tget t (zipTm ts vs ++ τ0) = v
  | [], vs, t, v, τ0, _, h => by cases vs <;> simp [zipTm] at h
  | _ :: _, [], t, v, τ0, _, h => by simp [zipTm] at h
  | a :: ts, x :: vs, t, v, τ0, hd, h => by
    simp only [distB] at hd
    split at hd
    · cases hd
    · rename_i hm
      simp only [zipTm, List.cons_append, tget]
      simp only [zipTm] at h
      rcases List.mem_cons.1 h with e | h
      · cases e
        rw [show Nat.beq a a = true from by simp]
      · have hne : a ≠ t := fun e => by
          have mem : ∀ {ts : List Nat} {vs : List AV}, (t, v) ∈ zipTm ts vs → t ∈ ts := by
            intro ts
            induction ts with
            | nil => intro vs h; cases vs <;> simp [zipTm] at h
            | cons b ts ih =>
              intro vs h
              cases vs with
              | nil => simp [zipTm] at h
              | cons y vs =>
                simp only [zipTm] at h
                rcases List.mem_cons.1 h with e | h
                · cases e; simp
                · exact List.mem_cons_of_mem _ (ih h)
          have : memK a ts = true := memK_iff.2 (by rw [e]; exact mem h)
          rw [this] at hm
          cases hm
        rw [beq_ne hne]
        exact tget_zip hd h
theorem resA_zip {h : Heap} {ts : List Nat} {vs : List AV} (hd : distB ts = true) (hl : vs.length = ts.length) (τ0 : Tm) : resA P (zipTm ts vs ++ τ0) h (ts.map .tmp) = some vs := by
  have main : ∀ (rs : List Nat) (us : List AV), us.length = rs.length → (∀ p ∈ zipTm rs us, p ∈ zipTm ts vs) → resA P (zipTm ts vs ++ τ0) h (rs.map .tmp) = some us := by
    intro rs
    induction rs with
    | nil => intro us hu _; rw [List.eq_nil_of_length_eq_zero hu]; rfl
    | cons t rs ih =>
      intro us hu hm
      cases us with
      | nil => cases hu
      | cons u us =>
        simp only [List.map_cons, resA]
        rw [ih us (by simpa using hu) (fun p hp => hm p (by simp [zipTm, hp]))]
        dsimp only
        rw [tget_zip hd (hm (t, u) (by simp [zipTm]))]
  exact main ts vs hl (fun _ h => h)
/-- A call, out of its body's row; its results lie in temporaries. -/
theorem stdX_htX {f : FuncId} {fn : Func} {c : Code} (hf : P.funcs[f]? = some fn) (hb : fn.body = some c) {t rt : TS} {x y : EN} (hle : Nat.ble t.vs.length fn.ntmps = true) (hargs : t.vs.all (TA.keyB t.m) = true)
    (hr : fn.results.toList = rt.tmps.map .tmp) (hd : distB rt.tmps = true) (hlen : rt.vs.length = rt.tmps.length)
    (H : HT P fn.ntmps t.m c t.m (argTm 0 (t.vals x)) (t.heap x) (QX ⟨none, [], some rt⟩ fun ex en => ex = .ret → rt.eqv en y)) : StdX P f t x rt y := by
  intro E w hU
  have e : (t.vals x).length = t.vs.length := instA_length _ _
  refine (calls_of_ht hf hb (by rw [e]; exact hle) (R := fun m2 h2 v2 => ∃ en, m2 = rt.m ∧ h2 = rt.heap en ∧ rt.eqv en y ∧ v2 = resV (rt.vals en)) (H.mono ?_) hU (fun E' hE => congrArg List.toArray (denL_cl hE (t.vals x) (lt_of_all (instA_keys _ hargs))).symm)).mono ?_
  · rintro ex m2 κ' h2 ⟨t', en, h1, h2, rfl, rfl, rfl⟩
    cases ex with
    | normal => cases h1
    | exit i => cases h1
    | ret =>
      cases h1
      refine ⟨fun i => by simp, rt.vals en, fun τ0 => ?_, en, rfl, rfl, h2 rfl, rfl⟩
      rw [hr]
      exact resA_zip hd (by rw [← hlen]; exact instA_length _ _) τ0
  · rintro e w' ⟨m2, h2, v2, E', rfl, ⟨en, rfl, rfl, h5, rfl⟩, hU', hx, hag⟩
    have hv : rt.vals en = rt.vals y := eqvA_inst h5.1
    exact ⟨E', by rw [hv], hag, eqvH_relU h5.2 hU', hx.trans (eqvH_wext h5.2)⟩
theorem StdX.pre {f : FuncId} {t t' : TS} {x x' y : EN} (h : t.eqv x x') (H : StdX P f t x' t' y) : StdX P f t x t' y := by
  intro E w hU
  have e : t.vals x = t.vals x' := eqvA_inst h.1
  have := H E w (eqvH_relU h.2 hU)
  rw [← e] at this
  refine this.mono ?_
  rintro e w' ⟨E1, h1, h2, h3, h4⟩
  exact ⟨E1, h1, h2, h3, (eqvH_wext h.2).trans h4⟩
end

/- Lists of numbers as rows. -/
def rowI (l : List Int) (i : Nat) : List Num := [.i (l.getD i 0)]
def lstI (n : Nat) (r : Nat → List Num) : List Int := (List.range n).map fun i => (hdN (r i)).I
@[simp] theorem lstI_length (n : Nat) (r : Nat → List Num) : (lstI n r).length = n := by simp [lstI]
theorem lstI_get {n : Nat} {r : Nat → List Num} {i : Nat} (h : i < n) : (lstI n r).getD i 0 = (hdN (r i)).I := by
  simp [lstI, List.getD, h]
@[simp] theorem rowI_I (l : List Int) (i : Nat) : (hdN (rowI l i)).I = l.getD i 0 := rfl
/-- Rows of numbers are alike where their numbers are. -/
theorem rowI_eqv {k : IntKind} {n : Nat} {r : Nat → List Num} {i : Nat} (h : i < n) : eqvL [.i k] (r i) (rowI (lstI n r) i) := ⟨(lstI_get h).symm, trivial⟩
theorem lstI_rowI (l : List Int) : lstI l.length (rowI l) = l := by
  refine List.ext_getElem (by simp) fun i h1 h2 => ?_
  simp [lstI, List.getD, h2]

/-- A row of numbers with one more behind. -/
theorem rows_app {k : IntKind} {l : List Int} {v : Int} {i : Nat} (h : i < l.length + 1) : eqvL [.i k] (rowNums [.i k] (catRows (.sym (l.length : Int)) (instR [.i k] (rowI l)) (chunk 1 [.int k (.sym v)])) i) (rowI (l ++ [v]) i) := by
  rw [rowNums_cat]
  refine ⟨?_, trivial⟩
  by_cases hi : i < l.length
  · rw [if_pos (by simpa using hi)]
    simp [rowNums, instR, instL, getL, TV.inst, TV.get, TV.eqv, rowI, hdN, Num.I, SI.v, List.getD, hi, List.getElem?_append_left hi]
  · rw [if_neg (by simpa using hi)]
    have : i = l.length := by omega
    subst this
    simp [rowNums, chunk, getL, TV.get, TV.eqv, rowI, hdN, Num.I, SI.v, List.getD]
theorem len_app (l : List Int) (v : Int) : ((l.length : Int) + 1).toNat = (l ++ [v]).length := by
  simp
theorem rows_appI {k : IntKind} {l : List Int} {v : Int} (i : Nat) (h : (i : Int) < ((l ++ [v]).length : Int)) : eqvL [.i k] (rowNums [.i k] (catRows (.sym (l.length : Int)) (instR [.i k] (rowI l)) (chunk 1 [.int k (.sym v)])) i) (rowI (l ++ [v]) i) := rows_app (by
  rw [List.length_append] at h
  simp at h
  omega)
theorem rowsB_app {k : IntKind} {l : List Int} {v : Int} {n : Nat} (h : n = l.length + 1) : rowsB [.i k] (catRows (.sym (l.length : Int)) (instR [.i k] (rowI l)) (chunk 1 [.int k (.sym v)])) n = true := by
  refine rowsB_cat (fun i _ => rowOk_inst rfl _) fun i hi => ?_
  have hi : i < n - l.length := by simpa using hi
  have : i = 0 := by omega
  subst this
  simp [rowOk, chunk, getL, TV.get]
theorem rowsB_i (k : IntKind) (r : Nat → List Num) (n : Nat) : rowsB [.i k] (instR [.i k] r) n = true := rowsB_instR rfl r n
theorem eqvL_getL : ∀ {row : List TV}, row.all TV.keyless = true → ∀ xs, eqvL row ((getL id row (instL row xs)).getD []) xs
  | [], _, _ => trivial
  | t :: row, h, xs => by
    simp only [List.all_cons, Bool.and_eq_true] at h
    have h1 : ∃ x, t.get id (t.inst (hdN xs)) = some x ∧ t.eqv x (hdN xs) := by
      cases t <;> simp [TV.keyless] at h <;> simp [TV.inst, TV.get, TV.eqv, Num.I, Num.B, Num.S, SI.v, SB.v, SS.v]
    obtain ⟨x, h1, h2⟩ := h1
    have h3 := eqvL_getL h.2 (tlN xs)
    have h4 := rowOk_inst h.2 (tlN xs)
    unfold rowOk at h4
    simp only [instL, getL, h1]
    cases e2 : getL id row (instL row (tlN xs)) with
    | none => rw [e2] at h4; cases h4
    | some ys =>
      rw [e2] at h3
      exact ⟨h2, h3⟩
theorem eqvL_rowNums {row : List TV} (h : row.all TV.keyless = true) (r : Nat → List Num) (i : Nat) : eqvL row (rowNums row (instR row r) i) (r i) := eqvL_getL h (r i)
/- Rows that are looked through. -/
def anyN (p : Nat → Bool) : Nat → Bool
  | 0 => false
  | n + 1 => anyN p n || p n
/-- The first place; -1 where there is none. -/
def fstN (p : Nat → Bool) : Nat → Int
  | 0 => -1
  | n + 1 => if 0 ≤ fstN p n then fstN p n else if p n then n else -1
theorem anyN_iff {p : Nat → Bool} : ∀ {n : Nat}, anyN p n = true ↔ ∃ i, i < n ∧ p i = true
  | 0 => by simp [anyN]
  | n + 1 => by
    simp only [anyN, Bool.or_eq_true, anyN_iff (n := n)]
    constructor
    · rintro (⟨i, h1, h2⟩ | h)
      · exact ⟨i, by omega, h2⟩
      · exact ⟨n, by omega, h⟩
    · rintro ⟨i, h1, h2⟩
      by_cases e : i = n
      · subst e; exact .inr h2
      · exact .inl ⟨i, by omega, h2⟩
theorem anyN_false {p : Nat → Bool} {n : Nat} : anyN p n = false ↔ ∀ i, i < n → p i = false := by
  constructor
  · intro h i hi
    cases hp : p i with
    | false => rfl
    | true =>
      have := anyN_iff.2 ⟨i, hi, hp⟩
      rw [this] at h; cases h
  · intro h
    cases ha : anyN p n with
    | false => rfl
    | true =>
      obtain ⟨i, h1, h2⟩ := anyN_iff.1 ha
      rw [h i h1] at h2; cases h2
theorem anyN_congr {p q : Nat → Bool} : ∀ {n : Nat}, (∀ i, i < n → p i = q i) → anyN p n = anyN q n
  | 0, _ => rfl
  | n + 1, h => by simp only [anyN, anyN_congr (n := n) (fun i hi => h i (by omega)), h n (by omega)]
theorem fstN_none {p : Nat → Bool} : ∀ {n : Nat}, anyN p n = false → fstN p n = -1
  | 0, _ => rfl
  | n + 1, h => by
    simp only [anyN, Bool.or_eq_false_iff] at h
    simp [fstN, fstN_none h.1, h.2]
theorem fstN_mono {p : Nat → Bool} {i : Nat} (h : 0 ≤ fstN p i) : ∀ {n : Nat}, i ≤ n → fstN p n = fstN p i
  | 0, hn => by have : i = 0 := by omega
                subst this; rfl
  | n + 1, hn => by
    by_cases e : i = n + 1
    · subst e; rfl
    · have := fstN_mono h (n := n) (by omega)
      simp only [fstN, this, if_pos h]
theorem fstN_hit {p : Nat → Bool} {i n : Nat} (h1 : anyN p i = false) (h2 : p i = true) (h3 : i < n) : fstN p n = i := by
  have e : fstN p (i + 1) = i := by simp [fstN, fstN_none h1, h2]
  rw [fstN_mono (by rw [e]; omega) (show i + 1 ≤ n from h3), e]
theorem fstN_ge {p : Nat → Bool} : ∀ {n : Nat}, decide (fstN p n ≥ 0) = anyN p n
  | 0 => rfl
  | n + 1 => by
    have ih := fstN_ge (p := p) (n := n)
    simp only [fstN, anyN, ← ih]
    by_cases h : 0 ≤ fstN p n
    · simp [h]
    · simp only [if_neg h]
      cases hp : p n <;> simp <;> omega
end Go.Eng
