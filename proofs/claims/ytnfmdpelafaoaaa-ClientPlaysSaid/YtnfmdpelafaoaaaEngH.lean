/- The engine, part H: every operation, as a whole.
   Conditions: none. -/
import Derived.Test.YtnfmdpelafaoaaaEngG
set_option linter.unusedSimpArgs false
set_option linter.unusedVariables false
namespace Go.Eng
section
variable {P : Program}

theorem toList_one {α : Type} {a : Array α} {x : α} (h : a.toList = [x]) : a = #[x] := by cases a; simp at h; subst h; rfl
theorem toList_two {α : Type} {a : Array α} {x y : α} (h : a.toList = [x, y]) : a = #[x, y] := by cases a; simp at h; subst h; rfl

theorem mapDen {E : Env} {ev : Operand → Value} {ρ : Operand → AV} : ∀ (l : List Operand), (∀ x ∈ l, ev x = den E (ρ x)) → l.map ev = denL E (l.map ρ)
  | [], _ => rfl
  | x :: l, h => by
    simp only [List.map_cons, denL, h x (by simp), mapDen l fun y hy => h y (by simp [hy])]

theorem opA_sound {op : Op} {ρ : Operand → AV} {h : Heap} {key : Nat} {v : AV} {R : List Nat} {W : Heap} (hs : (opA P op ρ h key).sel = some (.val v R W))
    {A : Nat → Prop} {E : Env} {lk : Look} {w : World} (hU : RelU A E lk w) (hk : ∀ k, key ≤ k → k < key + 2 → ¬ A k) (hR : ∀ k ∈ R, lk k = hget k h) (ev : Operand → Value)
    (hρ : ∀ E', Agree A E E' → ∀ x ∈ op.operands, ev x = den E' (ρ x)) (o : Oper) (ho : o.op = op) :
    Done A E lk w (plus A key) v (hupd lk W) ((execOp ev o).run P w) := by
  unfold execOp
  rw [ho]
  have rel := fun {E'} (h' : Agree A E E') => hU.rel E' h'
  cases op <;> simp only [opA] at hs <;> try (cases hs; done)
  all_goals try dsimp only
  case move x =>
    obtain ⟨rfl, rfl, rfl⟩ := leaf_val hs
    exact Done.pure hU (fun E' h' => hρ E' h' x (by simp [Op.operands])) rfl
  case assign x =>
    obtain ⟨rfl, rfl, rfl⟩ := leaf_val hs
    exact Done.pure hU (fun E' h' => hρ E' h' x (by simp [Op.operands])) rfl
  case pick c a b =>
    have hc := fun E' (h' : Agree A E E') => hρ E' h' c (by simp [Op.operands])
    have ha := fun E' (h' : Agree A E E') => hρ E' h' a (by simp [Op.operands])
    have hb := fun E' (h' : Agree A E E') => hρ E' h' b (by simp [Op.operands])
    split at hs
    · rename_i e
      obtain ⟨rfl, rfl, rfl⟩ := leaf_val hs
      refine Done.det hU fun E' h' => ?_
      rw [hc E' h', e]
      simp [den, asBool, SB.v, ha E' h']
    · rename_i e
      obtain ⟨rfl, rfl, rfl⟩ := leaf_val hs
      refine Done.det hU fun E' h' => ?_
      rw [hc E' h', e]
      simp [den, asBool, SB.v, hb E' h']
    · rename_i s e
      cases s
      · obtain ⟨rfl, rfl, rfl⟩ := leaf_val hs
        refine Done.det hU fun E' h' => ?_
        rw [hc E' h', e]
        simp [den, asBool, SB.v, hb E' h']
      · obtain ⟨rfl, rfl, rfl⟩ := leaf_val hs
        refine Done.det hU fun E' h' => ?_
        rw [hc E' h', e]
        simp [den, asBool, SB.v, ha E' h']
    · cases hs
  case alloc t =>
    split at hs
    · rename_i z hz
      split at hs
      · rename_i h1
        obtain ⟨rfl, rfl, rfl⟩ := leaf_val hs
        have := newBox (key := key) hU hk h1 (den E z).cells (fun E' h' => by
          rw [← den_cells E' h1]
          obtain ⟨i, v, _, _, rfl⟩ := tzero_info hz
          rw [den_ofV, den_ofV]) t
        refine cast ?_ this
        congr 1
        simp [Instr.alloc, zero_run hz E, newVar, newRow]
      · cases hs
    · cases hs
  case box t x =>
    have hx := fun E' (h' : Agree A E E') => hρ E' h' x (by simp [Op.operands])
    split at hs
    · rename_i h1
      obtain ⟨rfl, rfl, rfl⟩ := leaf_val hs
      exact newBox (key := key) hU hk h1 (ev x).cells (fun E' h' => by rw [hx E' h', den_cells E' h1]) t
    · cases hs
  case build t parts =>
    obtain ⟨y, hy, hs⟩ := ofOpt_sel hs
    obtain ⟨rfl, rfl, rfl⟩ := leaf_val hs
    refine Done.det hU fun E' h' => ?_
    obtain ⟨cs, rfl, hb⟩ := buildA_sound hy E'
    refine vrun (run_build w t _ _ ?_)
    rw [← hb]
    congr 1
    simp only [Array.toList_map, List.map_map]
    refine List.map_congr_left fun p hp => ?_
    simp only [Function.comp]
    rw [hρ E' h' p.2 (by simp [Op.operands]; exact ⟨p.1, by simpa using hp⟩)]
  case buildSlice t len parts =>
    refine buildSliceA_sound hs hU hk _ fun E' h' => ?_
    simp only [Array.toList_map, List.map_map]
    refine List.map_congr_left fun p hp => ?_
    simp only [Function.comp]
    rw [hρ E' h' p.2 (by simp [Op.operands]; exact ⟨p.1, by simpa using hp⟩)]
  case load t x =>
    have hx := fun E' (h' : Agree A E E') => hρ E' h' x (by simp [Op.operands])
    have hW := (loadA_sound (P := P) hs hU.here hR).1
    subst hW
    refine Done.det hU fun E' h' => ?_
    rw [hx E' h']
    exact vrun (loadA_sound hs (rel h') hR).2
  case store t x y =>
    exact storeA_sound hs hU hR _ _ (fun E' h' => hρ E' h' x (by simp [Op.operands])) (fun E' h' => hρ E' h' y (by simp [Op.operands]))
  case nilCheck x =>
    have hx := fun E' (h' : Agree A E E') => hρ E' h' x (by simp [Op.operands])
    split at hs
    · rename_i k off e
      obtain ⟨rfl, rfl, rfl⟩ := leaf_val hs
      refine Done.det hU fun E' h' => ?_
      rw [hx E' h', e]
      rfl
    · rename_i k i sz off e
      obtain ⟨rfl, rfl, rfl⟩ := leaf_val hs
      refine Done.det hU fun E' h' => ?_
      rw [hx E' h', e]
      rfl
    · rename_i g a b e
      obtain ⟨rfl, rfl, rfl⟩ := leaf_val hs
      refine Done.det hU fun E' h' => ?_
      rw [hx E' h', e]
      rfl
    · cases hs
  case binOp op t x y yt =>
    have hx := fun E' (h' : Agree A E E') => hρ E' h' x (by simp [Op.operands])
    have hy := fun E' (h' : Agree A E E') => hρ E' h' y (by simp [Op.operands])
    have hW := (binA_run (P := P) hs E w x y).1
    subst hW
    refine Done.det hU fun E' h' => ?_
    rw [hx E' h', hy E' h']
    exact vrun (binA_run hs E' w x y).2
  case unOp op t x =>
    have hx := fun E' (h' : Agree A E E') => hρ E' h' x (by simp [Op.operands])
    have hW := (unA_run (P := P) hs E w).1
    subst hW
    refine Done.det hU fun E' h' => ?_
    rw [hx E' h']
    exact vrun (unA_run hs E' w).2
  case convert s t x =>
    have hx := fun E' (h' : Agree A E E') => hρ E' h' x (by simp [Op.operands])
    split at hs
    · rename_i k1 k2 k3 n h1 h2 e
      obtain ⟨rfl, rfl, rfl⟩ := leaf_val hs
      refine Done.det hU fun E' h' => ?_
      rw [hx E' h', e]
      refine vrun ?_
      simp [convert, run_underlying h1, run_underlying h2, den, Conv.intToInt, SI.un_v]
    · cases hs
  case makeFunc fn first cap =>
    obtain ⟨rfl, rfl, rfl⟩ := leaf_val hs
    refine Done.det hU fun E' h' => ?_
    refine vrun ?_
    have h1 := mapDen (E := E') (ev := ev) (ρ := ρ) first.toList fun x hx => hρ E' h' x (by simp [Op.operands]; exact .inl (by simpa using hx))
    have h2 := mapDen (E := E') (ev := ev) (ρ := ρ) cap.toList fun x hx => hρ E' h' x (by simp [Op.operands]; exact .inr (by simpa using hx))
    simp only [Instr.makeFunc, den, Sem.run_pure]
    congr 2
    · apply Array.ext'; simpa using h1
    · apply Array.ext'; simpa using h2
  case slice t x lo hi mx =>
    split at hs
    · refine sliceA_sound hs hU hk hR _ _ _ (fun E' h' => hρ E' h' x (by simp [Op.operands])) (fun E' h' => ?_) (fun E' h' => ?_)
      · cases lo with
        | none => rfl
        | some l => simp [hρ E' h' l (by simp [Op.operands])]
      · cases hi with
        | none => rfl
        | some l => simp [hρ E' h' l (by cases lo <;> simp [Op.operands])]
    · rename_i m
      split at hs
      · rename_i hi
        refine sliceZA_sound hs hU hk hR _ _ _ _ (fun E' h' => hρ E' h' x (by simp [Op.operands])) (fun E' h' => ?_) (fun E' h' => hρ E' h' hi (by cases lo <;> simp [Op.operands])) (fun E' h' => hρ E' h' m (by cases lo <;> simp [Op.operands]))
        cases lo with
        | none => rfl
        | some l => simp [hρ E' h' l (by simp [Op.operands])]
      · cases hs
  case fieldAddr s x f =>
    have hx := fun E' (h' : Agree A E E') => hρ E' h' x (by simp [Op.operands])
    have hW := (fieldAddrA_sound (P := P) hs E w).1
    subst hW
    refine Done.det hU fun E' h' => ?_
    rw [hx E' h']
    exact vrun (fieldAddrA_sound hs E' w).2
  case field t x f =>
    have hx := fun E' (h' : Agree A E E') => hρ E' h' x (by simp [Op.operands])
    have hW := (fieldA_sound (P := P) hs E w).1
    subst hW
    refine Done.det hU fun E' h' => ?_
    rw [hx E' h']
    exact vrun (fieldA_sound hs E' w).2
  case indexAddr t x i =>
    have hx := fun E' (h' : Agree A E E') => hρ E' h' x (by simp [Op.operands])
    have hi := fun E' (h' : Agree A E E') => hρ E' h' i (by simp [Op.operands])
    have hW := (indexAddrA_sound (P := P) hs hU.here hR).1
    subst hW
    refine Done.det hU fun E' h' => ?_
    rw [hx E' h', hi E' h']
    exact vrun (indexAddrA_sound hs (rel h') hR).2
  case index t x i =>
    have hx := fun E' (h' : Agree A E E') => hρ E' h' x (by simp [Op.operands])
    have hi := fun E' (h' : Agree A E E') => hρ E' h' i (by simp [Op.operands])
    have hW := (indexA_sound (P := P) hs E w).1
    subst hW
    refine Done.det hU fun E' h' => ?_
    rw [hx E' h', hi E' h']
    exact vrun (indexA_sound hs E' w).2
  case extract t i =>
    have hx := fun E' (h' : Agree A E E') => hρ E' h' t (by simp [Op.operands])
    split at hs
    · rename_i l e
      obtain ⟨y, hy, hs⟩ := ofOpt_sel hs
      obtain ⟨rfl, rfl, rfl⟩ := leaf_val hs
      refine Done.det hU fun E' h' => ?_
      rw [hx E' h', e]
      refine vrun ?_
      simp [Instr.extract, den, denL_get, hy]
    · cases hs
  case call c =>
    unfold callA at hs
    split at hs
    · cases hs
    · cases hs
    · rename_i b hcb
      have hops : ∀ x ∈ c.args.toList, x ∈ (Op.call c).operands := fun x hx => by
        simp [Op.operands, Call.operands, hcb]; simpa using hx
      have hmap : ∀ E', Agree A E E' → c.args.toList.map ev = denL E' (c.args.toList.map ρ) := fun E' h' => mapDen _ fun x hx => hρ E' h' x (hops x hx)
      simp only [resolve, hcb, Sem.run_bind, Sem.run_pure, Result.andThen_ok, invoke]
      split at hs
      · -- len
        rename_i x t hx ht
        have hargs := toList_one hx
        have hts := toList_one ht
        have e1 : (c.args.map ev) = #[ev x] := by rw [hargs]; simp
        have hW := (lenA_sound (P := P) (ty := o.type) (ts := []) hs hU.here hR).1
        subst hW
        refine Done.det hU fun E' h' => ?_
        rw [e1, hts, hρ E' h' x (hops x (by simp [hx]))]
        exact vrun (lenA_sound (ts := []) hs (rel h') hR).2
      · -- append
        rename_i x y t u hx ht
        have hargs := toList_two hx
        have hts := toList_two ht
        split at hs
        · rename_i e2 hu2
          have e1 : (c.args.map ev) = #[ev x, ev y] := by rw [hargs]; simp
          rw [e1, hts]
          exact appendA_sound hs hu2 hU hk hR _ _ (fun E' h' => hρ E' h' x (hops x (by simp [hx]))) (fun E' h' => hρ E' h' y (hops y (by simp [hx])))
        · cases hs
      · -- min
        rename_i x xs hx
        split at hs
        · rename_i k n e
          obtain ⟨y, hy, hs⟩ := ofOpt_sel hs
          obtain ⟨rfl, rfl, rfl⟩ := leaf_val hs
          refine Done.det hU fun E' h' => ?_
          refine vrun ?_
          have h1 := minA_sound (P := P) false (fun y x => decide (y < x)) rfl E' w (xs.map ρ) _ _ hy ⟨k, n, rfl⟩
          have h2 := hmap E' h'
          rw [hx] at h2
          simp only [List.map_cons, denL, List.cons.injEq] at h2
          simp only [Builtin.min_, Array.toList_map, hx, List.map_cons]
          rw [h2.1, h2.2, denL_map, e]
          exact h1
        · cases hs
      · -- max
        rename_i x xs hx
        split at hs
        · rename_i k n e
          obtain ⟨y, hy, hs⟩ := ofOpt_sel hs
          obtain ⟨rfl, rfl, rfl⟩ := leaf_val hs
          refine Done.det hU fun E' h' => ?_
          refine vrun ?_
          have h1 := minA_sound (P := P) true (fun y x => decide (y > x)) rfl E' w (xs.map ρ) _ _ hy ⟨k, n, rfl⟩
          have h2 := hmap E' h'
          rw [hx] at h2
          simp only [List.map_cons, denL, List.cons.injEq] at h2
          simp only [Builtin.max_, Array.toList_map, hx, List.map_cons]
          rw [h2.1, h2.2, denL_map, e]
          exact h1
        · cases hs
      · cases hs

theorem callable_run {g : FuncId} (h : callable P g = true) (args : Array Value) (w : World) : (callFunc g args).run P w = .ok (.enter g args) w := by
  unfold callable at h
  split at h
  · rename_i fn hf
    simp only [Bool.and_eq_true, Bool.not_eq_true'] at h
    have h2 : fn.body.isNone = false := by cases hb : fn.body <;> simp_all
    simp only [callFunc, Sem.run_bind, run_program, Result.andThen_ok, hf, h.1, Bool.false_eq_true, if_false, h2, Sem.run_pure]
  · cases h

theorem callOf_run {op : Op} {ρ : Operand → AV} {g : FuncId} {args : List AV} (hs : callOf P op ρ = some (g, args))
    {A : Nat → Prop} {E : Env} (w : World) (ev : Operand → Value) (hρ : ∀ E', Agree A E E' → ∀ x ∈ op.operands, ev x = den E' (ρ x)) (o : Oper) (ho : o.op = op) :
    ∃ vals, (execOp ev o).run P w = .ok (.enter g vals) w ∧ ∀ E', Agree A E E' → vals = (denL E' args).toArray := by
  unfold callOf at hs
  split at hs
  · rename_i c
    split at hs
    · rename_i f hcf
      split at hs
      · rename_i g' first cap e
        split at hs
        · rename_i hc
          cases hs
          have hops : ∀ x ∈ c.args.toList, x ∈ (Op.call c).operands := fun x hx => by
            simp [Op.operands, Call.operands]; exact .inr (by simpa using hx)
          have hf : f ∈ (Op.call c).operands := by simp [Op.operands, Call.operands, hcf]
          refine ⟨(denL E (first ++ (c.args.toList.map ρ ++ cap))).toArray, ?_, fun E' h' => ?_⟩
          · have hmap := mapDen (E := E) (ev := ev) (ρ := ρ) c.args.toList fun x hx => hρ E (Agree.refl A E) x (hops x hx)
            unfold execOp
            rw [ho]
            simp only [resolve, hcf, Deferred.ofValue, Sem.run_bind, hρ E (Agree.refl A E) f hf, e, den, Sem.run_pure, Result.andThen_ok, invoke]
            rw [callable_run hc]
            congr 2
            apply Array.ext'
            simp only [Array.toList_append, Array.toList_map, hmap, denL_append, List.append_assoc]
          · congr 1
            have hmap := mapDen (E := E) (ev := ev) (ρ := ρ) c.args.toList fun x hx => hρ E (Agree.refl A E) x (hops x hx)
            have hmap' := mapDen (E := E') (ev := ev) (ρ := ρ) c.args.toList fun x hx => hρ E' h' x (hops x hx)
            have hff := (hρ E (Agree.refl A E) f hf).symm.trans (hρ E' h' f hf)
            rw [e] at hff
            simp only [den] at hff
            injection hff with _ h1 h2
            rw [denL_append, denL_append, denL_append, denL_append, ← hmap, hmap', Array.toList_inj.2 h1 |> fun h => (by simpa using h : denL E first = denL E' first), (by simpa using Array.toList_inj.2 h2 : denL E cap = denL E' cap)]
        · cases hs
      · cases hs
    · cases hs
  · cases hs
end
end Go.Eng
