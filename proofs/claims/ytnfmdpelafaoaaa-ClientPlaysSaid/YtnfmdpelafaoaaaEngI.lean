/- The engine, part I: the tree, once each condition is what it is, is one run: the run as a function.
   Conditions: none. -/
import Derived.Test.YtnfmdpelafaoaaaEngH
set_option linter.unusedSimpArgs false
set_option linter.unusedVariables false
namespace Go.Eng

theorem force1_eq {R : Type} (v : AV) (K : AV → R) : force1 v K = K v := by
  unfold force1
  split
  · exact forceC_eq _ _
  · exact forceS_eq _ _
theorem forceD_eq {R : Type} : ∀ (l : List AV) (K : List AV → R), forceD l K = K l
  | [], _ => rfl
  | v :: l, K => by simp only [forceD, force1_eq, forceD_eq l]
theorem forceV_eq {R : Type} (v : AV) (K : AV → R) : forceV v K = K v := by
  unfold forceV
  split
  · exact forceD_eq _ _
  · exact force1_eq _ _
theorem forceW_eq {R : Type} : ∀ (W : Heap) (K : Heap → R), forceW W K = K W
  | [], _ => rfl
  | e :: W, K => by
    have ih := fun K => forceW_eq (R := R) W K
    unfold forceW
    split
    · rename_i h; cases h
    · rename_i h; cases h; rw [forceC_eq, ih]
    · rename_i h; cases h; rw [ih]
    · rename_i h; cases h; rw [ih]
    · rename_i h; cases h; rw [ih]

theorem nameS_sel {R : Type} (v : AV) (K : AV → Tree R) : (nameS v K).sel = (K v).sel := by
  unfold nameS
  split <;> rfl
theorem nameC_sel {R : Type} : ∀ (l : List AV) (K : List AV → Tree R), (nameC l K).sel = (K l).sel
  | [], _ => rfl
  | v :: l, K => by simp only [nameC, nameS_sel, nameC_sel l]
theorem name1_sel {R : Type} (v : AV) (K : AV → Tree R) : (name1 v K).sel = (K v).sel := by
  unfold name1
  split
  · exact nameC_sel _ _
  · exact nameS_sel _ _
theorem nameD_sel {R : Type} : ∀ (l : List AV) (K : List AV → Tree R), (nameD l K).sel = (K l).sel
  | [], _ => rfl
  | v :: l, K => by simp only [nameD, name1_sel, nameD_sel l]
theorem nameV_sel {R : Type} (v : AV) (K : AV → Tree R) : (nameV v K).sel = (K v).sel := by
  unfold nameV
  split
  · exact nameD_sel _ _
  · exact name1_sel _ _
theorem nameBS_sel {R : Type} (v : AV) (K : AV → Tree R) : (nameBS v K).sel = (K v).sel := by
  unfold nameBS
  split
  · rfl
  · exact nameS_sel _ _
theorem nameBC_sel {R : Type} : ∀ (l : List AV) (K : List AV → Tree R), (nameBC l K).sel = (K l).sel
  | [], _ => rfl
  | v :: l, K => by simp only [nameBC, nameBS_sel, nameBC_sel l]
theorem nameW_sel {R : Type} : ∀ (W : Heap) (K : Heap → Tree R), (nameW W K).sel = (K W).sel
  | [], _ => rfl
  | e :: W, K => by
    have ih := fun K => nameW_sel (R := R) W K
    unfold nameW
    split
    · rename_i h; cases h
    · rename_i h; cases h; rw [nameBC_sel, ih]
    · rename_i h; cases h; rw [ih]
    · rename_i h; cases h; exact ih _
    · rename_i h; cases h; rw [ih]
theorem nameO_sel {R : Type} (op : Op) (ρ : Operand → AV) (v : AV) (K : AV → Tree R) : (nameO op ρ v K).sel = (K v).sel := by
  unfold nameO
  split
  · exact nameV_sel _ _
  · rw [forceV_eq]

def guardD (ops : Array Oper) (o : Oper) (τ : Tm) : Option (Bool × Tm) :=
  match o.guard with
  | none => some (true, τ)
  | some (j, want) => match (ops[j]?).bind (·.dst) with
    | none => some (false, τ)
    | some t => match tget t τ with
      | .bool (.lit b) => some (b == want, τ)
      | .bool (.sym b) => some (b == want, (t, .bool (.lit b)) :: τ)
      | .raw (.tuple _) => some (false, τ)
      | _ => none
theorem guardT_sel {R : Type} (ops : Array Oper) (o : Oper) (τ : Tm) (yes no : Tm → Tree R) :
    (guardT ops o τ yes no).sel = (guardD ops o τ).bind fun q => match q.1 with | true => (yes q.2).sel | false => (no q.2).sel := by
  unfold guardT guardD
  cases o.guard with
  | none => rfl
  | some jw =>
    obtain ⟨j, want⟩ := jw
    dsimp only
    cases (ops[j]?).bind (·.dst) with
    | none => rfl
    | some t =>
      dsimp only
      cases tget t τ with
      | bool b => cases b with
        | lit b => cases b <;> cases want <;> rfl
        | sym b => cases b <;> cases want <;> rfl
      | raw v => cases v <;> rfl
      | _ => rfl
def pickD (op : Op) (τ : Tm) : Tm :=
  match op with
  | .pick (.tmp t) _ _ => match tget t τ with
    | .bool (.sym b) => (t, .bool (.lit b)) :: τ
    | _ => τ
  | _ => τ
theorem pickT_sel {R : Type} (op : Op) (τ : Tm) (go : Tm → Tree R) : (pickT op τ go).sel = (go (pickD op τ)).sel := by
  unfold pickT pickD
  cases op with
  | pick c a b => cases c with
    | tmp t =>
      dsimp only
      cases tget t τ with
      | bool b => cases b with
        | lit b => rfl
        | sym b => cases b <;> rfl
      | _ => rfl
    | _ => rfl
  | _ => rfl

abbrev CallD := FuncId → List AV → Heap → Nat → Option (AV × Heap × Nat)
abbrev CallT (R : Type) := FuncId → List AV → Heap → Nat → (AV → Heap → Nat → Tree R) → Tree R
def Nat1 {R : Type} (c : CallT R) (d : CallD) : Prop := ∀ f args h key K, (c f args h key K).sel = (d f args h key).bind fun q => (K q.1 q.2.1 q.2.2).sel

def opsD (P : Program) (T : Tab) (call : CallD) (nt : Nat) (ops : Array Oper) : List Oper → Tm → Heap → Nat → Option (Tm × Heap × Nat)
  | [], τ, h, key => some (τ, h, key)
  | o :: rest, τ, h, key =>
    match dstOk nt o.dst with
    | false => none
    | true => (guardD ops o τ).bind fun q => match q.1 with
      | true => match callOf P o.op (aeval (pickD o.op q.2)) with
        | some (f, args) => match T.sm f with
          | some S => (S.run args h key).sel.bind fun r => opsD P T call nt ops rest (tput o.dst r.1 (pickD o.op q.2)) (r.2.2.1 ++ h) r.2.2.2
          | none => (call f args h key).bind fun r => opsD P T call nt ops rest (tput o.dst r.1 (pickD o.op q.2)) r.2.1 r.2.2
        | none => (opA P o.op (aeval (pickD o.op q.2)) h key).sel.bind fun
          | .val v _ W => opsD P T call nt ops rest (tput o.dst v (pickD o.op q.2)) (W ++ h) (key + 2)
      | false => opsD P T call nt ops rest (tput o.dst (.raw undef) q.2) h key

theorem obind_congr {α β : Type} {x : Option α} {f g : α → Option β} (h : ∀ a, f a = g a) : x.bind f = x.bind g := by
  cases x with
  | none => rfl
  | some a => exact h a
theorem opsT_sel {R : Type} {P : Program} {T : Tab} {c : CallT R} {d : CallD} (hc : Nat1 c d) (nt : Nat) (ops : Array Oper) : ∀ (l : List Oper) (τ : Tm) (h : Heap) (key : Nat) (K : Tm → Heap → Nat → Tree R),
    (opsT P T c nt ops l τ h key K).sel = (opsD P T d nt ops l τ h key).bind fun q => (K q.1 q.2.1 q.2.2).sel := by
  intro l
  induction l with
  | nil => intro τ h key K; rfl
  | cons o rest ih =>
    intro τ h key K
    simp only [opsT, opsD]
    cases dstOk nt o.dst with
    | false => rfl
    | true =>
      dsimp only
      rw [guardT_sel, Option.bind_assoc]
      refine obind_congr fun q => ?_
      cases q.1 with
      | false => exact ih _ _ _ _
      | true =>
        dsimp only
        rw [pickT_sel]
        cases callOf P o.op (aeval (pickD o.op q.2)) with
        | none =>
          dsimp only
          rw [bind_sel, Option.bind_assoc]
          refine obind_congr fun r => ?_
          cases r with
          | val v R' W =>
            dsimp only
            rw [nameO_sel, forceW_eq]
            exact ih _ _ _ _
        | some fa =>
          obtain ⟨f, args⟩ := fa
          dsimp only
          cases T.sm f with
          | some S =>
            dsimp only
            rw [bind_sel, Option.bind_assoc]
            refine obind_congr fun r => ?_
            rw [nameV_sel, nameW_sel]
            exact ih _ _ _ _
          | none =>
            dsimp only
            rw [hc, Option.bind_assoc]
            exact obind_congr fun r => ih _ _ _ _

/-- One operation of a region that draws its order. -/
def drawStepD (P : Program) (T : Tab) (call : CallD) (o : Oper) (τ : Tm) (h : Heap) (key : Nat) : Option (AV × List Nat × Heap × Nat) :=
  match callOf P o.op (aeval τ) with
  | some (f, args) => match T.sm f with
    | some S => (S.run args h key).sel
    | none => match closedK (reach 100 (keysL args) [] h) h with
      | false => none
      | true => (call f args (restrict (reach 100 (keysL args) [] h) h) key).map fun r =>
          (r.1, reach 100 (keysL args) [] h, r.2.1.take (r.2.1.length - (reach 100 (keysL args) [] h).length), r.2.2)
  | none => (opA P o.op (aeval τ) h key).sel.map fun
    | .val v R W => (v, R, W, key + 2)

def drawD (P : Program) (T : Tab) (call : CallD) (nt : Nat) (ops : Array Oper) (bef : List Nat) : List Oper → Nat → List Cert → Tm → Heap → Nat → Option (Tm × Heap × Nat)
  | [], _, _, τ, h, key => some (τ, h, key)
  | o :: rest, i, cs, τ, h, key =>
    match dstOk nt o.dst && edgesOk o i with
    | false => none
    | true => (guardD ops o τ).bind fun q => match q.1 with
      | true => (drawStepD P T call o (pickD o.op q.2) h key).bind fun r =>
        match cs.any (clash ops (bef.getD i 0) o r.2.1 (wkeys r.2.2.1)) with
        | true => none
        | false => drawD P T call nt ops bef rest (i + 1) (⟨i, r.2.1, wkeys r.2.2.1⟩ :: cs) (tput o.dst r.1 (pickD o.op q.2)) (r.2.2.1 ++ h) r.2.2.2
      | false => match cs.any (clash ops (bef.getD i 0) o [] (wkeys [])) with
        | true => none
        | false => drawD P T call nt ops bef rest (i + 1) (⟨i, [], []⟩ :: cs) (tput o.dst (.raw undef) q.2) h key

theorem doneT_sel {R : Type} (ops : Array Oper) (bef : Nat) (o : Oper) (cs : List Cert) (Rk : List Nat) (W : Heap) (x : Tree R) :
    (doneT ops bef o cs Rk W x).sel = match cs.any (clash ops bef o Rk (wkeys W)) with | true => none | false => x.sel := by
  unfold doneT
  cases cs.any (clash ops bef o Rk (wkeys W)) <;> rfl
theorem ifb {R S : Type} (b : Bool) (x : Option R) (f : R → Option S) : (match b with | true => none | false => x).bind f = match b with | true => none | false => x.bind f := by cases b <;> rfl

theorem drawT_sel {R : Type} {P : Program} {T : Tab} {c : CallT R} {d : CallD} (hc : Nat1 c d) (nt : Nat) (ops : Array Oper) (bef : List Nat) : ∀ (l : List Oper) (i : Nat) (cs : List Cert) (τ : Tm) (h : Heap) (key : Nat) (K : Tm → Heap → Nat → Tree R),
    (drawT P T c nt ops bef l i cs τ h key K).sel = (drawD P T d nt ops bef l i cs τ h key).bind fun q => (K q.1 q.2.1 q.2.2).sel := by
  intro l
  induction l with
  | nil => intro i cs τ h key K; rfl
  | cons o rest ih =>
    intro i cs τ h key K
    simp only [drawT, drawD]
    cases dstOk nt o.dst && edgesOk o i with
    | false => rfl
    | true =>
      dsimp only
      rw [guardT_sel, Option.bind_assoc]
      refine obind_congr fun q => ?_
      cases q.1 with
      | false =>
        dsimp only
        rw [doneT_sel, ifb]
        congr 1
        funext _
        exact ih _ _ _ _ _ _
      | true =>
        dsimp only
        rw [pickT_sel]
        unfold drawStepD
        cases callOf P o.op (aeval (pickD o.op q.2)) with
        | none =>
          dsimp only
          rw [bind_sel, Option.bind_assoc, Option.bind_map]
          refine obind_congr fun r => ?_
          cases r with
          | val v R' W =>
            dsimp only [Function.comp]
            rw [nameO_sel, forceW_eq, doneT_sel, ifb]
            congr 1
            funext _
            exact ih _ _ _ _ _ _
        | some fa =>
          obtain ⟨f, args⟩ := fa
          dsimp only
          cases T.sm f with
          | some S =>
            dsimp only
            rw [bind_sel, Option.bind_assoc]
            refine obind_congr fun r => ?_
            rw [nameV_sel, nameW_sel, doneT_sel, ifb]
            congr 1
            funext _
            exact ih _ _ _ _ _ _
          | none =>
            dsimp only
            cases closedK (reach 100 (keysL args) [] h) h with
            | false => rfl
            | true =>
              dsimp only
              rw [hc, Option.bind_assoc, Option.bind_map]
              refine obind_congr fun r => ?_
              dsimp only [Function.comp]
              rw [doneT_sel, ifb]
              congr 1
              funext _
              exact ih _ _ _ _ _ _

def callWD (P : Program) (run : FuncId → Nat → Code → Tm → Heap → Nat → Option St) : CallD := fun g args h key =>
  match P.funcs[g]? with
  | some fn => match fn.body, Nat.ble args.length fn.ntmps with
    | some c, true => (run g fn.ntmps c (argTm 0 args) h key).bind fun s => match s.ex with
      | .exit _ => none
      | _ => (resA P s.tm s.heap fn.results.toList).map fun l => (resV l, s.heap, s.key)
    | _, _ => none
  | none => none

def codeD (P : Program) (T : Tab) : Nat → FuncId → Nat → Code → Tm → Heap → Nat → Option St
  | 0, _, _, _, _, _, _ => none
  | n + 1, f, nt, c, τ, h, key =>
    match c with
    | .skip => some ⟨.normal, τ, h, key⟩
    | .label _ => some ⟨.normal, τ, h, key⟩
    | .exit id => some ⟨.exit id, τ, h, key⟩
    | .ret => some ⟨.ret, τ, h, key⟩
    | .seq x y => (codeD P T n f nt x τ h key).bind fun s => match s.ex with
      | .normal => codeD P T n f nt y s.tm s.heap s.key
      | _ => some s
    | .cond c x y => match aeval τ c with
      | .bool (.lit true) => codeD P T n f nt x τ h key
      | .bool (.lit false) => codeD P T n f nt y τ h key
      | .bool (.sym b) => match c with
        | .tmp t => match b with
          | true => codeD P T n f nt x ((t, .bool (.lit true)) :: τ) h key
          | false => codeD P T n f nt y ((t, .bool (.lit false)) :: τ) h key
        | _ => none
      | _ => none
    | .block id x => match T.hk f id with
      | some H => (H.run τ h key).sel
      | none => (codeD P T n f nt x τ h key).bind fun s => match s.ex with
        | .exit i => match Nat.beq i id with
          | true => some ⟨.normal, s.tm, s.heap, s.key⟩
          | false => some s
        | _ => some s
    | .loop x => (codeD P T n f nt x τ h key).bind fun s => match s.ex with
      | .normal => codeD P T n f nt (.loop x) s.tm s.heap s.key
      | _ => some s
    | .region _ ops false => (opsD P T (callWD P (codeD P T n)) nt ops ops.toList τ h key).map fun q => ⟨.normal, q.1, q.2.1, q.2.2⟩
    | .region _ ops true => (drawD P T (callWD P (codeD P T n)) nt ops (Region.before ops).toList ops.toList 0 [] τ h key).map fun q => ⟨.normal, q.1, q.2.1, q.2.2⟩
    | _ => none

theorem callW_nat {R : Type} {P : Program} {run : FuncId → Nat → Code → Tm → Heap → Nat → (St → Tree R) → Tree R} {runD : FuncId → Nat → Code → Tm → Heap → Nat → Option St}
    (hr : ∀ f nt c τ h key K, (run f nt c τ h key K).sel = (runD f nt c τ h key).bind fun s => (K s).sel) : Nat1 (callW P run) (callWD P runD) := by
  intro g args h key K
  unfold callW callWD
  cases P.funcs[g]? with
  | none => rfl
  | some fn =>
    dsimp only
    cases fn.body with
    | none => rfl
    | some c =>
      cases Nat.ble args.length fn.ntmps with
      | false => rfl
      | true =>
        dsimp only
        rw [hr, Option.bind_assoc]
        refine obind_congr fun s => ?_
        cases s.ex with
        | exit _ => rfl
        | normal =>
          dsimp only
          cases resA P s.tm s.heap fn.results.toList <;> rfl
        | ret =>
          dsimp only
          cases resA P s.tm s.heap fn.results.toList <;> rfl

theorem codeT_sel {R : Type} {P : Program} {T : Tab} : ∀ (n : Nat) (f : FuncId) (nt : Nat) (c : Code) (τ : Tm) (h : Heap) (key : Nat) (K : St → Tree R),
    (codeT P T n f nt c τ h key K).sel = (codeD P T n f nt c τ h key).bind fun s => (K s).sel := by
  intro n
  induction n with
  | zero => intro f nt c τ h key K; rfl
  | succ n ih =>
    intro f nt c τ h key K
    have hcall : Nat1 (callW P (codeT (R := R) P T n)) (callWD P (codeD P T n)) := callW_nat ih
    cases c <;> simp only [codeT, codeD] <;> try rfl
    case seq x y =>
      rw [ih, Option.bind_assoc]
      refine obind_congr fun s => ?_
      cases he : s.ex <;> dsimp only
      · exact ih _ _ _ _ _ _ _
      · rfl
      · rfl
    case cond c x y =>
      cases hc : aeval τ c <;> try rfl
      rename_i b
      cases b with
      | lit b => cases b <;> exact ih _ _ _ _ _ _ _
      | sym b =>
        cases c <;> try rfl
        cases b <;> exact ih _ _ _ _ _ _ _
    case block id x =>
      cases T.hk f id with
      | some H => exact bind_sel _ _
      | none =>
        dsimp only
        rw [ih, Option.bind_assoc]
        refine obind_congr fun s => ?_
        cases s.ex <;> dsimp only <;> try rfl
        rename_i i
        cases Nat.beq i id <;> rfl
    case loop x =>
      rw [ih, Option.bind_assoc]
      refine obind_congr fun s => ?_
      cases s.ex <;> dsimp only
      · exact ih _ _ _ _ _ _ _
      · rfl
      · rfl
    case region id ops draw =>
      cases draw <;> simp only [codeT, codeD]
      · rw [opsT_sel hcall, Option.bind_map]; rfl
      · rw [drawT_sel hcall, Option.bind_map]; rfl
end Go.Eng
