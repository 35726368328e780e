/- The engine, part X: states by templates: what is fixed of a state (keys, kinds, literals), and its numbers.
   Conditions: none. -/
import Derived.Test.YtnfmdpelafaoaaaEngW
set_option linter.unusedSimpArgs false
set_option linter.unusedVariables false
namespace Go.Eng
open Go.RowKit

/-- A cell's template. -/
inductive TV where
  | i (k : IntKind)
  | b
  | s
  | il (k : IntKind) (n : Int)
  | bl (x : Bool)
  | ls (x : ByteArray)
  | sl (k : Nat)
  | ptr (k off : Nat)
  | nils
  | nilp
  | nilf
  | nili
def TV.inst : TV → Num → AV
  | .i k, x => .int k (.sym x.I)
  | .b, x => .bool (.sym x.B)
  | .s, x => .str (.sym x.S)
  | .ls x, _ => .str (.lit x)
  | .il k n, _ => .int k (.lit n)
  | .bl x, _ => .bool (.lit x)
  | .sl k, _ => .sl k
  | .ptr k o, _ => .ptr k o
  | .nils, _ => .nils
  | .nilp, _ => .nilp
  | .nilf, _ => .nilf
  | .nili, _ => .nili
def TV.get (φ : Nat → Nat) : TV → AV → Option Num
  | .i k, .int k' n => match decide (k = k') with
    | true => some (.i n.v)
    | false => none
  | .b, .bool x => some (.b x.v)
  | .s, .str x => some (.s x.v)
  | .ls x, .str (.lit y) => match eqU x.data.toList y.data.toList with
    | true => some .u
    | false => none
  | .il k n, .int k' (.lit n') => match decide (k = k'), decide (n = n') with
    | true, true => some .u
    | _, _ => none
  | .bl x, .bool (.lit y) => match Bool.xor x y with
    | false => some .u
    | true => none
  | .sl j, .sl k => match Nat.beq (φ j) k, isNil k with
    | true, false => some .u
    | _, _ => none
  | .sl j, .nils => match isNil (φ j) with
    | true => some .u
    | false => none
  | .ptr j o, .ptr k o' => match Nat.beq (φ j) k, Nat.beq o o' with
    | true, true => some .u
    | _, _ => none
  | .nils, .nils => some .u
  | .nilp, .nilp => some .u
  | .nilf, .nilf => some .u
  | .nili, .nili => some .u
  | _, _ => none
def TV.keyB (m : Nat) : TV → Bool
  | .sl k => Nat.blt k m
  | .ptr k _ => Nat.blt k m
  | _ => true
def TV.keyless : TV → Bool
  | .sl _ => false
  | .ptr _ _ => false
  | _ => true
def instL : List TV → List Num → List AV
  | [], _ => []
  | t :: ts, xs => t.inst (hdN xs) :: instL ts (tlN xs)
def getL (φ : Nat → Nat) : List TV → List AV → Option (List Num)
  | [], [] => some []
  | t :: ts, v :: vs => match t.get φ v with
    | some x => match getL φ ts vs with
      | some xs => some (x :: xs)
      | none => none
    | none => none
  | _, _ => none
abbrev viaN (E : Env) (φ : Nat → Nat) : Env := (nilExt E).via φ

theorem TV.keys_inst (t : TV) (x : Num) (m : Nat) : (keysOf (t.inst x)).all (Nat.blt · m) = t.keyB m := by
  cases t <;> simp [TV.inst, keysOf, TV.keyB]
theorem TV.scalar_inst (t : TV) (x : Num) : (t.inst x).scalar = true := by cases t <;> rfl
theorem TV.keyless_inst {t : TV} (h : t.keyless = true) (x : Num) : keysOf (t.inst x) = [] := by
  cases t <;> first | rfl | cases h
theorem instL_length : ∀ (ts : List TV) (xs : List Num), (instL ts xs).length = ts.length
  | [], _ => rfl
  | t :: ts, xs => by simp [instL, instL_length ts]
theorem instL_scalar : ∀ (ts : List TV) (xs : List Num), allScalar (instL ts xs) = true
  | [], _ => rfl
  | t :: ts, xs => by
    simp only [instL, allScalar, TV.scalar_inst]
    exact instL_scalar ts _
theorem instL_keys {m : Nat} : ∀ {ts : List TV} (xs : List Num), ts.all (TV.keyB m) = true → (keysL (instL ts xs)).all (Nat.blt · m) = true
  | [], _, _ => rfl
  | t :: ts, xs, h => by
    simp only [List.all_cons, Bool.and_eq_true] at h
    simp only [instL, keysL, List.all_append, Bool.and_eq_true]
    exact ⟨by rw [TV.keys_inst]; exact h.1, instL_keys _ h.2⟩
theorem instL_keyless : ∀ {ts : List TV} (xs : List Num), ts.all TV.keyless = true → keysL (instL ts xs) = []
  | [], _, _ => rfl
  | t :: ts, xs, h => by
    simp only [List.all_cons, Bool.and_eq_true] at h
    simp only [instL, keysL, TV.keyless_inst h.1, instL_keyless _ h.2, List.append_nil]

theorem TV.get_den {φ : Nat → Nat} {t : TV} {v : AV} {x : Num} (h : t.get φ v = some x) (E : Env) : den E v = den (viaN E φ) (t.inst x) := by
  unfold TV.get at h
  split at h
  · split at h
    · rename_i hk
      have := of_decide_eq_true hk
      cases h; subst this
      simp [TV.inst, den, Num.I, SI.v]
    · cases h
  · cases h; simp [TV.inst, den, Num.B, SB.v]
  · cases h; simp [TV.inst, den, Num.S, SS.v]
  · split at h
    · rename_i x y _ hb
      have : x = y := ByteArray.ext (Array.toList_inj.1 (eqU_iff.1 hb))
      subst this
      rfl
    · cases h
  · split at h
    · rename_i hk hn
      have h1 := of_decide_eq_true hk
      have h2 := of_decide_eq_true hn
      subst h1 h2
      rfl
    · cases h
  · rename_i x y
    split at h
    · rename_i hb
      have : x = y := by revert hb; cases x <;> cases y <;> simp
      subst this
      rfl
    · cases h
  · split at h
    · rename_i j k hb hn
      have := Nat.eq_of_beq_eq_true hb
      simp only [TV.inst, den, Env.via, nilExt, this, hn]
    · cases h
  · split at h
    · rename_i j hn
      simp only [TV.inst, den, Env.via, nilExt, hn]
    · cases h
  · split at h
    · rename_i j o k o' hb ho
      have h1 := Nat.eq_of_beq_eq_true hb
      have h2 := Nat.eq_of_beq_eq_true ho
      subst h2
      simp only [TV.inst, den, Env.via, nilExt, h1]
    · cases h
  · cases h; rfl
  · cases h; rfl
  · cases h; rfl
  · cases h; rfl
  · cases h
theorem getL_den {φ : Nat → Nat} : ∀ {ts : List TV} {vs : List AV} {xs : List Num}, getL φ ts vs = some xs → ∀ E, denL E vs = denL (viaN E φ) (instL ts xs)
  | [], [], xs, h, E => rfl
  | t :: ts, v :: vs, xs, h, E => by
    simp only [getL] at h
    split at h
    · rename_i x hx
      split at h
      · rename_i ys hy
        cases h
        simp only [instL, denL, hdN, tlN]
        rw [TV.get_den hx E, getL_den hy E]
      · cases h
    · cases h
  | [], _ :: _, xs, h, E => by simp [getL] at h
  | _ :: _, [], xs, h, E => by simp [getL] at h
theorem getL_length {φ : Nat → Nat} {ts : List TV} {vs : List AV} {xs : List Num} (h : getL φ ts vs = some xs) : vs.length = ts.length := by
  have := congrArg List.length (getL_den h default)
  rwa [denL_length, denL_length, instL_length] at this

/-- A value: a cell, or a row of cells. -/
inductive TA where
  | one (t : TV)
  | agg (l : List TV)
def TA.inst : TA → List Num → AV
  | .one t, xs => t.inst (hdN xs)
  | .agg l, xs => .agg (instL l xs)
def TA.get (φ : Nat → Nat) : TA → AV → Option (List Num)
  | .one t, v => match t.get φ v with
    | some x => some [x]
    | none => none
  | .agg l, .agg vs => getL φ l vs
  | _, _ => none
def TA.keyB (m : Nat) : TA → Bool
  | .one t => t.keyB m
  | .agg l => l.all (TV.keyB m)
theorem TA.keys_inst {t : TA} {m : Nat} (h : t.keyB m = true) (x : List Num) : (keysOf (t.inst x)).all (Nat.blt · m) = true := by
  cases t with
  | one t => simp only [TA.inst, TV.keys_inst]; exact h
  | agg l => exact instL_keys _ h
theorem TA.get_den {φ : Nat → Nat} {t : TA} {v : AV} {x : List Num} (h : t.get φ v = some x) (E : Env) : den E v = den (viaN E φ) (t.inst x) := by
  cases t with
  | one t =>
    simp only [TA.get] at h
    split at h
    · rename_i y hy
      cases h
      exact TV.get_den hy E
    · cases h
  | agg l =>
    cases v <;> simp only [TA.get] at h <;> try (cases h; done)
    simp only [TA.inst, den]
    rw [getL_den h E]
def instA : List TA → List (List Num) → List AV
  | [], _ => []
  | t :: ts, xs => t.inst (hdL xs) :: instA ts (tlL xs)
def getA (φ : Nat → Nat) : List TA → List AV → Option (List (List Num))
  | [], [] => some []
  | t :: ts, v :: vs => match t.get φ v with
    | some x => match getA φ ts vs with
      | some xs => some (x :: xs)
      | none => none
    | none => none
  | _, _ => none
theorem getA_den {φ : Nat → Nat} : ∀ {ts : List TA} {vs : List AV} {xs : List (List Num)}, getA φ ts vs = some xs → ∀ E, denL E vs = denL (viaN E φ) (instA ts xs)
  | [], [], xs, h, E => rfl
  | t :: ts, v :: vs, xs, h, E => by
    simp only [getA] at h
    split at h
    · rename_i x hx
      split at h
      · rename_i ys hy
        cases h
        simp only [instA, denL, hdL, tlL]
        rw [TA.get_den hx E, getA_den hy E]
      · cases h
    · cases h
  | [], _ :: _, xs, h, E => by simp [getA] at h
  | _ :: _, [], xs, h, E => by simp [getA] at h
theorem instA_keys {m : Nat} : ∀ {ts : List TA} (xs : List (List Num)), ts.all (TA.keyB m) = true → (keysL (instA ts xs)).all (Nat.blt · m) = true
  | [], _, _ => rfl
  | t :: ts, xs, h => by
    simp only [List.all_cons, Bool.and_eq_true] at h
    simp only [instA, keysL, List.all_append, Bool.and_eq_true]
    exact ⟨TA.keys_inst h.1 _, instA_keys _ h.2⟩
theorem instA_length : ∀ (ts : List TA) (xs : List (List Num)), (instA ts xs).length = ts.length
  | [], _ => rfl
  | t :: ts, xs => by simp [instA, instA_length ts]

/-- An object: a box; a list (of a known length, or not), its rows, its block's token where it may be written behind; a token. -/
inductive TO where
  | box (cs : List TV)
  | lst (ln : Option Int) (row : List TV) (own : Option Nat)
  | tok
def lnS : Option Int → Nat → SI
  | none, n => .sym (n : Int)
  | some n, _ => .lit n
def instR (row : List TV) (r : Nat → List Num) (i : Nat) : List AV := instL row (r i)
def TO.inst : TO → ON → AObj
  | .box cs, x => .box (instL cs x.xs)
  | .lst ln row own, x => .lst (lnS ln x.len) row.length (instR row x.rows) own
  | .tok, _ => .tok
def instH : List (Nat × TO) → List ON → List (Nat × AObj)
  | [], _ => []
  | p :: l, xs => (p.1, p.2.inst (hdO xs)) :: instH l (tlO xs)
def TO.okB (m : Nat) : TO → Bool
  | .box cs => cs.all (TV.keyB m)
  | .lst _ row own => row.all TV.keyless && (match own with | none => true | some g => Nat.blt g m)
  | .tok => true
def hpB (m : Nat) (l : List (Nat × TO)) : Bool := l.all fun p => Nat.blt p.1 m && p.2.okB m

def lnOk : Option Int → SI → Bool
  | none, _ => true
  | some n, .lit m => decide (n = m)
  | some _, .sym _ => false
/-- May a list that has a token of its own be told as one that is only read? Then its token counts. -/
def ownOk (ro : Bool) (φ : Nat → Nat) (h : Heap) : Option Nat → Option Nat → Option (List Nat)
  | none, none => some []
  | none, some g => match ro with
    | true => match hget g h with
      | some .tok => some [g]
      | _ => none
    | false => none
  | some j, some g => match Nat.beq (φ j) g, isNil g with
    | true, false => some []
    | _, _ => none
  | some _, none => none
def rowOk (row : List TV) (r : List AV) : Bool := (getL id row r).isSome
def rowNums (row : List TV) (rows : Nat → List AV) (i : Nat) : List Num := (getL id row (rows i)).getD []
def rowsB (row : List TV) (rows : Nat → List AV) : Nat → Bool
  | 0 => true
  | n + 1 => match rowOk row (rows n) with
    | true => rowsB row rows n
    | false => false
theorem rowsB_iff {row : List TV} {rows : Nat → List AV} : ∀ {n : Nat}, rowsB row rows n = true ↔ ∀ i, i < n → rowOk row (rows i) = true
  | 0 => by simp [rowsB]
  | n + 1 => by
    simp only [rowsB]
    constructor
    · intro h i hi
      split at h
      · rename_i h0
        by_cases e : i = n
        · subst e; exact h0
        · exact rowsB_iff.1 h i (by omega)
      · cases h
    · intro h
      rw [h n (by omega)]
      exact rowsB_iff.2 fun i hi => h i (by omega)
structure Got where
  on : ON
  toks : List Nat
  ms : List Bool
def TO.get (ro : Bool) (φ : Nat → Nat) (h : Heap) : TO → AObj → Option Got
  | .box cs, .box vs => match getL φ cs vs with
    | some xs => some ⟨.box xs, [], []⟩
    | none => none
  | .lst ln row own, .lst len sz rows g => match lnOk ln len, Nat.beq sz row.length, ownOk ro φ h own g with
    | true, true, some tk => match len with
      | .lit n => match rowsB row rows n.toNat with
        | true => some ⟨.lst n.toNat (rowNums row rows), tk, []⟩
        | false => none
      | .sym n => some ⟨.lst n.toNat (rowNums row rows), tk, [rowsB row rows n.toNat]⟩
    | _, _, _ => none
  | .tok, .tok => some ⟨.tok, [], []⟩
  | _, _ => none
def getO (ro : Bool) (φ : Nat → Nat) (h : Heap) (k : Nat) (t : TO) : Option Got :=
  match isNil (φ k) with
  | true => match t with
    | .lst none _ _ => some ⟨.lst 0 fun _ => [], [], []⟩
    | .lst (some n) _ _ => match decide (n = 0) with
      | true => some ⟨.lst 0 fun _ => [], [], []⟩
      | false => none
    | .tok => some ⟨.tok, [], []⟩
    | .box _ => none
  | false => match hget (φ k) h with
    | some o => t.get ro φ h o
    | none => none
structure GotH where
  o : List ON
  toks : List Nat
  ms : List Bool
def getOs (ro : Bool) (φ : Nat → Nat) (h : Heap) : List (Nat × TO) → Option GotH
  | [] => some ⟨[], [], []⟩
  | p :: l => match getO ro φ h p.1 p.2 with
    | some g => match getOs ro φ h l with
      | some r => some ⟨g.on :: r.o, g.toks ++ r.toks, g.ms ++ r.ms⟩
      | none => none
    | none => none

/-- A state's template: the temporaries that hold its values (none: arguments, results), its objects, the keys' bound. -/
structure TS where
  tmps : List Nat
  vs : List TA
  hp : List (Nat × TO)
  m : Nat
def TS.objs (t : TS) (en : EN) : List (Nat × AObj) := instH t.hp en.o
def TS.vals (t : TS) (en : EN) : List AV := instA t.vs en.a
def zipTm : List Nat → List AV → Tm
  | t :: ts, v :: vs => (t, v) :: zipTm ts vs
  | _, _ => []
def TS.tm (t : TS) (en : EN) : Tm := zipTm t.tmps (t.vals en)
def TS.okB (t : TS) : Bool := t.vs.all (TA.keyB t.m) && hpB t.m t.hp && distB (t.hp.map (·.1))

/- The keys of a state, found along its template. -/
def assoc (k : Nat) : List (Nat × Nat) → Option Nat
  | [] => none
  | p :: l => match Nat.beq p.1 k with
    | true => some p.2
    | false => assoc k l
def TV.pair : TV → AV → List (Nat × Nat) → List (Nat × Nat)
  | .sl j, .sl k, l => (j, k) :: l
  | .sl j, .nils, l => (j, nilK + j) :: l
  | .ptr j _, .ptr k _, l => (j, k) :: l
  | _, _, l => l
def pairL : List TV → List AV → List (Nat × Nat) → List (Nat × Nat)
  | t :: ts, v :: vs, l => pairL ts vs (t.pair v l)
  | _, _, l => l
def TA.pair : TA → AV → List (Nat × Nat) → List (Nat × Nat)
  | .one t, v, l => t.pair v l
  | .agg ts, .agg vs, l => pairL ts vs l
  | _, _, l => l
def pairA : List TA → List AV → List (Nat × Nat) → List (Nat × Nat)
  | t :: ts, v :: vs, l => pairA ts vs (t.pair v l)
  | _, _, l => l
def walk (h : Heap) : List (Nat × TO) → List (Nat × Nat) → List (Nat × Nat)
  | [], l => l
  | p :: rest, l => match assoc p.1 l with
    | none => walk h rest l
    | some k => match isNil k with
      | true => match p.2 with
        | .lst _ _ (some g) => walk h rest ((g, nilK + g) :: l)
        | _ => walk h rest l
      | false => match p.2, hget k h with
        | .box cs, some (.box vs) => walk h rest (pairL cs vs l)
        | .lst _ _ (some g), some (.lst _ _ _ (some g')) => walk h rest ((g, g') :: l)
        | _, _ => walk h rest l
def idPairs : Nat → List (Nat × Nat)
  | 0 => []
  | n + 1 => (n, n) :: idPairs n
def keyList (l : List (Nat × Nat)) : Nat → Nat → List Nat
  | 0, _ => []
  | n + 1, j => (match assoc j l with | some k => k | none => nilK + j) :: keyList l n (j + 1)
def forceL {α R : Type} : List α → (List α → R) → R
  | [], K => K []
  | x :: l, K => forceL l fun l => K (x :: l)
theorem forceL_eq {α R : Type} : ∀ (l : List α) (K : List α → R), forceL l K = K l
  | [], K => rfl
  | x :: l, K => by simp only [forceL, forceL_eq l]
def preB (φ : List Nat) : Nat → Bool
  | 0 => true
  | n + 1 => match Nat.beq (lkN φ n) n with
    | true => preB φ n
    | false => false
theorem preB_ok {φ : List Nat} : ∀ {n k : Nat}, preB φ n = true → k < n → lkN φ k = k
  | n + 1, k, h, hk => by
    simp only [preB] at h
    split at h
    · rename_i h0
      by_cases e : k = n
      · subst e; exact Nat.eq_of_beq_eq_true h0
      · exact preB_ok h (by omega)
    · cases h
structure Mat where
  φ : List Nat
  en : EN
  toks : List Nat
  ms : List Bool
def matS (ro : Bool) (b : Nat) (t : TS) (vals : List AV) (h : Heap) : Option Mat :=
  forceL (keyList (walk h t.hp (pairA t.vs vals (idPairs b))) t.m 0) fun φ =>
    match distB (t.hp.map fun p => lkN φ p.1), Nat.beq φ.length t.m, preB φ b, t.okB with
    | true, true, true, true => match getA (lkN φ) t.vs vals with
      | some a => match getOs ro (lkN φ) h t.hp with
        | some g => match meets g.toks φ with
          | false => some ⟨φ, ⟨a, g.o⟩, g.toks, g.ms⟩
          | true => none
        | none => none
      | none => none
    | _, _, _, _ => none
structure MatOk (ro : Bool) (b : Nat) (t : TS) (vals : List AV) (h : Heap) (q : Mat) : Prop where
  dist : distB (t.hp.map fun p => lkN q.φ p.1) = true
  len : q.φ.length = t.m
  pre : ∀ k, k < b → lkN q.φ k = k
  ok : t.okB = true
  a : getA (lkN q.φ) t.vs vals = some q.en.a
  o : getOs ro (lkN q.φ) h t.hp = some ⟨q.en.o, q.toks, q.ms⟩
  sep : meets q.toks q.φ = false
theorem matS_ok {ro : Bool} {b : Nat} {t : TS} {vals : List AV} {h : Heap} {q : Mat} (e : matS ro b t vals h = some q) : MatOk ro b t vals h q := by
  unfold matS at e
  rw [forceL_eq] at e
  split at e
  · rename_i h1 h2 h3 h4
    split at e
    · rename_i a ha
      split at e
      · rename_i g hg
        split at e
        · rename_i hs
          cases e
          exact ⟨h1, Nat.eq_of_beq_eq_true h2, fun k hk => preB_ok h3 hk, h4, ha, hg, hs⟩
        · cases e
      · cases e
    · cases e
  · cases e

/- What was found of the objects. -/
theorem getOs_mem {ro : Bool} {φ : Nat → Nat} {h : Heap} : ∀ {l : List (Nat × TO)} {r : GotH}, getOs ro φ h l = some r → (∀ x ∈ r.ms, x = true) → ∀ p ∈ instH l r.o, ∃ t g, (p.1, t) ∈ l ∧ getO ro φ h p.1 t = some g ∧ p.2 = t.inst g.on ∧ (∀ x ∈ g.toks, x ∈ r.toks) ∧ ∀ x ∈ g.ms, x = true
  | [], r, e, _, p, hp => by cases e; cases hp
  | q :: l, r, e, hm, p, hp => by
    simp only [getOs] at e
    split at e
    · rename_i g hg
      split at e
      · rename_i s hs
        cases e
        simp only [instH, hdO, tlO] at hp
        rcases List.mem_cons.1 hp with rfl | hp
        · exact ⟨q.2, g, by simp, hg, rfl, fun x hx => List.mem_append_left _ hx, fun x hx => hm x (List.mem_append_left _ hx)⟩
        · obtain ⟨t, g', h1, h2, h3, h4, h5⟩ := getOs_mem hs (fun x hx => hm x (List.mem_append_right _ hx)) p hp
          exact ⟨t, g', List.mem_cons_of_mem _ h1, h2, h3, fun x hx => List.mem_append_right _ (h4 x hx), h5⟩
      · cases e
    · cases e
theorem instH_keys : ∀ (l : List (Nat × TO)) (xs : List ON), (instH l xs).map (·.1) = l.map (·.1)
  | [], _ => rfl
  | p :: l, xs => by simp [instH, instH_keys l]
/-- How an instance stands to what was found: its keys' bound is kept; its number is a function of the cell's. -/
theorem viaN_cl {E E2 : Env} {φ : Nat → Nat} {m : Nat} (hE : Agree (· < m) (viaN E φ) E2) {v : AV} (hk : (keysOf v).all (Nat.blt · m) = true) : den E2 v = den (viaN E φ) v :=
  den_cl hE v (lt_of_all hk)
theorem viaN_clL {E E2 : Env} {φ : Nat → Nat} {m : Nat} (hE : Agree (· < m) (viaN E φ) E2) {v : List AV} (hk : (keysL v).all (Nat.blt · m) = true) : denL E2 v = denL (viaN E φ) v :=
  denL_cl hE v (lt_of_all hk)
theorem den_keyless {v : List AV} (h : keysL v = []) (E E' : Env) : denL E v = denL E' v :=
  denL_cl (M := fun _ => False) (fun k hk => hk.elim) v (by rw [h]; simp)
theorem rowNums_den {row : List TV} {rows : Nat → List AV} {i : Nat} (h : rowOk row (rows i) = true) (hk : row.all TV.keyless = true) (E : Env) : denL E (rows i) = denL E (instR row (rowNums row rows) i) ∧ (rows i).length = row.length := by
  unfold rowOk at h
  cases hg : getL id row (rows i) with
  | none => rw [hg] at h; cases h
  | some xs =>
    refine ⟨?_, getL_length hg⟩
    rw [getL_den hg E]
    show denL (viaN E id) (instL row xs) = denL E (instL row ((getL id row (rows i)).getD []))
    rw [hg]
    exact den_keyless (instL_keyless _ hk) _ _
section
variable {ro : Bool} {b : Nat} {t : TS} {vals : List AV} {h : Heap} {q : Mat}
theorem instH_mapKeys (f : Nat → Nat) : ∀ (l : List (Nat × TO)) (xs : List ON), (instH l xs).map (fun p => f p.1) = l.map fun p => f p.1
  | [], _ => rfl
  | p :: l, xs => by simp [instH, instH_mapKeys f l]
theorem MatOk.inj (M : MatOk ro b t vals h q) {j j' : Nat} {o o' : AObj} (h1 : lookOf (mkHeap (t.objs q.en)) j = some o) (h2 : lookOf (mkHeap (t.objs q.en)) j' = some o') (e : lkN q.φ j = lkN q.φ j') : j = j' := by
  have hd : distB ((t.objs q.en).map fun p => lkN q.φ p.1) = true := by
    unfold TS.objs
    rw [instH_mapKeys]
    exact M.dist
  exact congrArg (·.1) (distB_inj hd (j, o) (mkHeap_mem h1) (j', o') (mkHeap_mem h2) e)
theorem MatOk.hp (M : MatOk ro b t vals h q) : hpB t.m t.hp = true ∧ distB (t.hp.map (·.1)) = true ∧ t.vs.all (TA.keyB t.m) = true := by
  have := M.ok
  simp only [TS.okB, Bool.and_eq_true] at this
  exact ⟨this.1.2, this.2, this.1.1⟩
theorem hpB_mem {m : Nat} {l : List (Nat × TO)} (hb : hpB m l = true) {k : Nat} {t : TO} (hm : (k, t) ∈ l) : k < m ∧ t.okB m = true := by
  have := List.all_eq_true.1 hb _ hm
  simp only [Bool.and_eq_true] at this
  exact ⟨Nat.le_of_ble_eq_true this.1, this.2⟩
theorem mk_uniq {l : List (Nat × AObj)} (hd : distB (l.map (·.1)) = true) {k : Nat} {o : AObj} (hm : (k, o) ∈ l) : hget k (mkHeap l) = some o := hget_mk_mem hd hm

/-- A state told by its template. -/
theorem MatOk.relU (M : MatOk ro b t vals h q) (hms : ∀ x ∈ q.ms, x = true) {A : Nat → Prop} {E : Env} {lk : Look} {w : World} (hU : RelU A E lk w)
    (hC : ∀ j, j < t.m → isNil (lkN q.φ j) = false → lk (lkN q.φ j) = hget (lkN q.φ j) h) (hCt : ∀ g ∈ q.toks, lk g = hget g h) :
    RelU (· < t.m) (viaN E (lkN q.φ)) (lookOf (mkHeap (t.objs q.en))) w := by
  obtain ⟨hpb, hpd, _⟩ := M.hp
  have find : ∀ k o, lookOf (mkHeap (t.objs q.en)) k = some o → ∃ to g, (k, to) ∈ t.hp ∧ k < t.m ∧ to.okB t.m = true ∧ getO ro (lkN q.φ) h k to = some g ∧ o = to.inst g.on ∧ (∀ x ∈ g.toks, x ∈ q.toks) ∧ ∀ x ∈ g.ms, x = true := by
    intro k o ho
    obtain ⟨to, g, h1, h2, h3, h4, h5⟩ := getOs_mem M.o hms (k, o) (mkHeap_mem ho)
    obtain ⟨h6, h7⟩ := hpB_mem hpb h1
    exact ⟨to, g, h1, h6, h7, h2, h3, h4, h5⟩
  -- the object under the key
  have act : ∀ {k to g}, k < t.m → getO ro (lkN q.φ) h k to = some g → isNil (lkN q.φ k) = false → ∃ o, lk (lkN q.φ k) = some o ∧ to.get ro (lkN q.φ) h o = some g := by
    intro k to g hk hg hn
    simp only [getO, hn] at hg
    split at hg
    · rename_i o ho
      exact ⟨o, by rw [hC k hk hn]; exact ho, hg⟩
    · cases hg
  -- blocks that a key owns
  have own : ∀ {E2 : Env}, Agree (· < t.m) (viaN E (lkN q.φ)) E2 → ∀ k o b, lookOf (mkHeap (t.objs q.en)) k = some o → owns E2 k o b → ∃ o', isNil (lkN q.φ k) = false ∧ lk (lkN q.φ k) = some o' ∧ owns E (lkN q.φ k) o' b := by
    intro E2 hE k o b ho hb
    obtain ⟨to, g, _, hk, _, hg, rfl, _, _⟩ := find k o ho
    have hb := (owns_agree hE hk (to.inst g.on) b).1 hb
    cases hn : isNil (lkN q.φ k) with
    | true =>
      cases to with
      | box cs => simp [getO, hn] at hg
      | lst ln row ow => exact hb.elim
      | tok =>
        have hb : b ∈ (nilExt E).fp (lkN q.φ k) := hb
        simp only [nilExt, hn] at hb
        cases hb
    | false =>
      obtain ⟨o', h1, h2⟩ := act hk hg hn
      refine ⟨o', rfl, h1, ?_⟩
      cases to <;> cases o' <;> simp only [TO.get] at h2 <;> try (cases h2; done)
      · have hb : b ∈ (nilExt E).fp (lkN q.φ k) := hb
        simp only [nilExt, hn] at hb
        exact hb
      · exact hb
      · have hb : b ∈ (nilExt E).fp (lkN q.φ k) := hb
        simp only [nilExt, hn] at hb
        exact hb
  refine ⟨fun k o ho => ?_, fun k len sz rows g ho => ?_, fun E2 hE => ⟨fun k o ho => ?_, fun k o k' o' b ho ho' hne h1 h2 => ?_, fun k len sz rows a k' o' ho hc ha ho' h2 => ?_⟩⟩
  · obtain ⟨_, _, _, hk, _⟩ := find k o ho
    exact hk
  · obtain ⟨to, gt, _, hk, hok, hg, he, _, _⟩ := find k _ ho
    cases to <;> simp only [TO.inst] at he <;> try (cases he; done)
    cases he
    simp only [TO.okB, Bool.and_eq_true] at hok
    exact Nat.le_of_ble_eq_true hok.2
  · obtain ⟨to, g, hmem, hk, hok, hg, rfl, htk, hmm⟩ := find k o ho
    obtain ⟨e1, e2, e3⟩ := hE k hk
    have e1 : E2.blk k = E.blk (lkN q.φ k) := e1
    cases hn : isNil (lkN q.φ k) with
    | true =>
      have e2 : E2.hdr k = (none, 0, 0) := by rw [e2]; simp only [Env.via, nilExt, hn]
      have e3 : E2.fp k = [] := by rw [e3]; simp only [Env.via, nilExt, hn]
      cases to with
      | box cs => simp [getO, hn] at hg
      | tok => exact .inl e3
      | lst ln row ow =>
        have hl : (TO.lst ln row ow).inst g.on = .lst (lnS ln 0) row.length (instR row fun _ => []) ow ∧ (lnS ln 0).v = 0 := by
          cases ln with
          | none =>
            simp only [getO, hn] at hg
            cases hg
            exact ⟨rfl, rfl⟩
          | some n =>
            simp only [getO, hn] at hg
            split at hg
            · rename_i h0
              cases hg
              have := of_decide_eq_true h0
              subst this
              exact ⟨rfl, rfl⟩
            · cases hg
        rw [hl.1]
        refine ⟨by rw [e2, hl.2]; rfl, by rw [e2]; exact Nat.le_refl _, fun hc => ?_⟩
        rw [e2] at hc
        exact absurd hc (Nat.lt_irrefl 0)
    | false =>
      have e2 : E2.hdr k = E.hdr (lkN q.φ k) := by rw [e2]; simp only [Env.via, nilExt, hn]
      have e3 : E2.fp k = E.fp (lkN q.φ k) := by rw [e3]; simp only [Env.via, nilExt, hn]
      obtain ⟨o', a1, a2⟩ := act hk hg hn
      have hb := hU.here.obj _ _ a1
      cases to <;> cases o' <;> simp only [TO.get] at a2 <;> try (cases a2; done)
      · rename_i cs vs
        split at a2
        · rename_i xs hx
          cases a2
          obtain ⟨b1, b2, ty, b3⟩ := hb
          refine ⟨by rw [e3, b1, e1], instL_scalar _ _, ty, ?_⟩
          rw [e1, b3, getL_den hx E]
          rw [viaN_clL hE (instL_keys _ (by simpa [TO.okB] using hok))]
          rfl
        · cases a2
      · rename_i ln row ow len sz rows gr
        split at a2
        · rename_i tk h1 h2 h3
          have hsz := Nat.eq_of_beq_eq_true h2
          subst hsz
          simp only [TO.okB, Bool.and_eq_true] at hok
          have hrow : (∀ i, i < len.v.toNat → rowOk row (rows i) = true) ∧ g.on = .lst len.v.toNat (rowNums row rows) ∧ g.toks = tk := by
            cases len with
            | lit n =>
              dsimp only at a2
              split at a2
              · rename_i hr
                cases a2
                exact ⟨rowsB_iff.1 hr, rfl, rfl⟩
              · cases a2
            | sym n =>
              dsimp only at a2
              cases a2
              exact ⟨rowsB_iff.1 (hmm _ (by simp)), rfl, rfl⟩
          obtain ⟨r1, r2, r3⟩ := hrow
          obtain ⟨b1, b2, b3⟩ := hb
          have hlen : (lnS ln len.v.toNat).v = len.v := by
            cases ln with
            | none =>
              show ((len.v.toNat : Nat) : Int) = len.v
              omega
            | some n =>
              cases len with
              | lit m => simp only [lnOk] at h1; exact of_decide_eq_true h1
              | sym m => simp [lnOk] at h1
          rw [r2]
          refine ⟨by rw [e2, b1]; exact hlen.symm, by rw [e2]; exact b2, fun hc => ?_⟩
          rw [e2] at hc
          obtain ⟨B, off, c1, c2, c3⟩ := b3 hc
          refine ⟨B, off, by rw [e2]; exact c1, c2, ?_⟩
          have rows_ok : ∀ get : Nat → Option Value, RowsAt E get off row.length (E.hdr (lkN q.φ k)).2.1 rows → RowsAt E2 get off row.length (E.hdr (lkN q.φ k)).2.1 (instR row (rowNums row rows)) := by
            intro get hg i hi
            obtain ⟨g1, g2, g3⟩ := hg i hi
            have hi2 : i < len.v.toNat := by
              rw [← b1]
              simpa using hi
            obtain ⟨s1, s2⟩ := rowNums_den (r1 i hi2) hok.1 E
            refine ⟨instL_length _ _, instL_scalar _ _, fun j hj => ?_⟩
            have s3 : denL E2 (instR row (rowNums row rows) i) = denL E (instR row (rowNums row rows) i) := den_keyless (instL_keyless _ hok.1) E2 E
            rw [g3 j hj, ← denL_get, ← denL_get, s1, s3]
          rw [e2]
          cases ow with
          | none =>
            show RowsAt E2 _ off _ _ _
            cases gr with
            | none => exact rows_ok _ c3
            | some g' =>
              simp only [ownOk] at h3
              split at h3
              · split at h3
                · rename_i hgt
                  cases h3
                  have hlk : lk g' = some .tok := by rw [hCt g' (htk g' (by rw [r3]; simp))]; exact hgt
                  obtain ⟨d1, C, ty, d2, d3, d4⟩ := c3 hlk
                  exact (rows_ok _ d4).congr fun o => cell_at d2 o
                · cases h3
              · cases h3
          | some j =>
            show lookOf (mkHeap (t.objs q.en)) j = some .tok → _
            intro hj
            cases gr with
            | none => simp [ownOk] at h3
            | some g' =>
              simp only [ownOk] at h3
              split at h3
              · rename_i hb1 hb2
                have hjg := Nat.eq_of_beq_eq_true hb1
                obtain ⟨to2, g2, hm2, hk2, _, hg2, he2, _⟩ := find j _ hj
                have hn2 : isNil (lkN q.φ j) = false := by rw [hjg]; exact hb2
                obtain ⟨o2, f1, f2⟩ := act hk2 hg2 hn2
                cases to2 <;> simp only [TO.inst] at he2 <;> try (cases he2; done)
                cases o2 <;> simp only [TO.get] at f2 <;> try (cases f2; done)
                rw [hjg] at f1
                obtain ⟨d1, C, ty, d2, d3, d4⟩ := c3 f1
                have hfp : E2.fp j = E.fp g' := by
                  rw [(hE j hk2).2.2]
                  simp only [Env.via, nilExt, hjg, hb2]
                exact ⟨by rw [hfp]; exact d1, C, ty, d2, d3, rows_ok _ d4⟩
              · cases h3
        · cases a2
      · rcases hb with hb | ⟨b0, C, ty, hb1, hb2⟩
        · exact .inl (by rw [e3, hb])
        · exact .inr ⟨b0, C, ty, by rw [e3, hb1], hb2⟩
  · obtain ⟨o1, n1, l1, w1⟩ := own hE k o b ho h1
    obtain ⟨o2, n2, l2, w2⟩ := own hE k' o' b ho' h2
    obtain ⟨_, _, _, hk, _⟩ := find k o ho
    obtain ⟨_, _, _, hk', _⟩ := find k' o' ho'
    exact hU.here.apart _ o1 _ o2 b l1 l2 (fun e => hne (M.inj ho ho' e)) w1 w2
  · obtain ⟨to, g, hmem, hk, hok, hg, he, htk, hmm⟩ := find k _ ho
    obtain ⟨o2, n2, l2, w2⟩ := own hE k' o' a.block ho' h2
    have e2 := (hE k hk).2.1
    cases hn : isNil (lkN q.φ k) with
    | true =>
      rw [e2] at hc
      simp only [Env.via, nilExt, hn] at hc
      exact absurd hc (Nat.lt_irrefl 0)
    | false =>
      have e2 : E2.hdr k = E.hdr (lkN q.φ k) := by rw [e2]; simp only [Env.via, nilExt, hn]
      rw [e2] at hc ha
      obtain ⟨o1, a1, a2⟩ := act hk hg hn
      cases to <;> simp only [TO.inst] at he <;> try (cases he; done)
      cases o1 <;> simp only [TO.get] at a2 <;> try (cases a2; done)
      rename_i ln row ow len' sz' rows' gr
      split at a2
      · rename_i tk h1 h2' h3
        have how : ow = none := by cases he; rfl
        subst how
        cases gr with
        | none => exact hU.here.ro _ _ _ _ a _ o2 a1 hc ha l2 w2
        | some g' =>
          have htk2 : g.toks = tk := by
            split at a2
            · split at a2
              · cases a2; rfl
              · cases a2
            · cases a2; rfl
          simp only [ownOk] at h3
          split at h3
          · split at h3
            · rename_i hgt
              cases h3
              have hlk : lk g' = some .tok := by rw [hCt g' (htk g' (by rw [htk2]; simp))]; exact hgt
              obtain ⟨_, _, b3⟩ := hU.here.obj _ _ a1
              obtain ⟨B, off, c1, c2, c3⟩ := b3 hc
              obtain ⟨d1, _⟩ := c3 hlk
              rw [ha] at c1
              cases c1
              by_cases heq : g' = lkN q.φ k'
              · have m1 : g' ∈ q.toks := htk g' (by rw [htk2]; simp)
                obtain ⟨_, _, _, hk', _⟩ := find k' o' ho'
                have m2 : g' ∈ q.φ := by rw [heq]; exact lkN_mem (by rw [M.len]; exact hk')
                exact (meets_false M.sep m1 m2).elim
              · exact hU.here.apart g' .tok _ o2 B hlk l2 heq (by show B ∈ E.fp g'; rw [d1]; simp) w2
            · cases h3
          · cases h3
      · cases a2
end
end Go.Eng
