/- SynodPlays: every row of starts, promises, acceptances: what each brings about.
   Conditions: none. -/
import Derived.Test.YtlcgnjcfihablaaSq
import Derived.Carry
set_option linter.unusedSimpArgs false
set_option linter.unusedVariables false
namespace Go.Proofs.Ytlcgnjcfihablaa
open Go.Eng Go.RowKit Go.ChangeShapes Go.WideShapes
set_option maxRecDepth 100000
theorem body5_eq : Try.f5.body = some body5 := by kernel_rfl
theorem in5 : Within Try.prog 5 Try.f5.ntmps body5 := within_body Try.func5 body5_eq
theorem lp5 : (flat body5).drop 7 = [.block 0 (.loop x5)] ++ (flat body5).drop 8 := by kernel_rfl
theorem in5x : Within Try.prog 5 Try.f5.ntmps x5 := by
  have h : (flat body5)[7]? = some (.block 0 (.loop x5)) := by kernel_rfl
  exact within_loop (within_block (within_at in5 7 h))
theorem rowsB_st (r : Nat → List Num) (n : Nat) : rowsB [.i .i64, .i .u8, .b, .i .u32, .i .u8, .i .u32, .i .u8, .i .u8, .i .u8, .i .i64, .b] (instR [.i .i64, .i .u8, .b, .i .u32, .i .u8, .i .u32, .i .u8, .i .u8, .i .u8, .i .i64, .b] r) n = true := rowsB_instR rfl r n
abbrev SpD := PrS × RfS × Int
def spI (len : Nat) (d : SpD) : Prop := SpR d.1 d.2.1 ∧ 0 ≤ d.2.2 ∧ d.2.2 ≤ len
def spQ : Ex → EN → Prop
  | .exit _, _ => True
  | .ret, e => lawR .ret e
  | .normal, _ => True
section
variable (len : Nat) (s : Nat → List Num) (hs : ∀ i, i < len → (0 ≤ (hdN (tlN (s i))).I) ∧ 0 ≤ (hdN (tlN (tlN (tlN (s i))))).I ∧ (hdN (tlN (tlN (tlN (s i))))).I < 4294967296)
include hs in
set_option maxHeartbeats 40000000 in
theorem sp_loop (hl : len ≤ 60) (d : SpD) (hd : spI len d) : HT Try.prog Try.f5.ntmps 0 (.loop x5) 7 (spL.tm (spN len s d.1 d.2.1 d.2.2)) (spL.heap (spN len s d.1 d.2.1 d.2.2)) (QX ⟨none, [(0, spE)], some (lawT 6)⟩ spQ) := by
  refine HT.loopX sdTab mixed (n := 300) in5x spL _ _ (fun d : SpD => spN len s d.1 d.2.1 d.2.2) (spI len) (fun d => ((len : Int) - d.2.2).toNat) (fun _ => spQ) (Nat.zero_le _) ?_ d hd
  rintro ⟨p, r, i⟩ ⟨R, h0, h1⟩ τ0
  dsimp only at R h0 h1
  refine holds_of_eq (sp_x len s p r i τ0) (holds_ite (fun hlt => ?_) fun hge => holds_leaf trivial)
  have hlt : i < (len : Int) := of_decide_eq_true hlt
  have hm : decide (0 ≤ i ∧ i < (len : Int)) = true := decide_eq_true ⟨h0, hlt⟩
  have hsi := hs i.toNat (by omega)
  have e1 : IntKind.i64.wrap (i + 1) = i + 1 := IntWalk.i64_in _ (by omega)
  have fin : ∀ (p' : PrS) (r' : RfS), SpR p' r' → ∀ en, spL.eqv en (spN len s p' r' (i + 1)) → ∃ d' : SpD, spI len d' ∧ ((len : Int) - d'.2.2).toNat < ((len : Int) - i).toNat ∧ spL.eqv en (spN len s d'.1 d'.2.1 d'.2.2) ∧ ∀ ex e, spQ ex e → spQ ex e :=
    fun p' r' R' en he => ⟨(p', r', i + 1), ⟨R', by show 0 ≤ i + 1; omega, by show i + 1 ≤ (len : Int); omega⟩, by show ((len : Int) - (i + 1)).toNat < ((len : Int) - i).toNat; omega, he, fun _ _ h => h⟩
  refine holds_must hm (holds_must hm ?_)
  refine holds_defI fun z0 _ => holds_defI fun z1 ez1 => holds_defI fun z2 ez2 => holds_defI fun z3 _ => holds_defI fun z4 _ => holds_defI fun z5 _ => holds_defI fun z6 _ => holds_defI fun z7 _ => holds_defI fun z8 _ => ?_
  rw [← ez1, ← ez2] at hsi
  obtain ⟨hz1, hz2⟩ := hsi
  have hrb : 0 ≤ r.b.1 ∧ r.b.1 < 4294967296 := by rw [R.b]; exact ⟨R.b0, R.bM⟩
  refine holds_ite (fun _ => ?_) (fun _ => ?_)
  · skip
    refine holds_ite (fun _ => ?_) (fun _ => holds_ite (fun _ => ?_) (fun _ => ?_))
    · skip
      refine holds_must (rowsB_i _ _ _) (holds_must (rowsB_i _ _ _) (holds_defE fun e he => ?_))
      have hp : prOf e = p := by rw [he]; exact prOf_on _ p
      have ha : e.ai 1 0 = r.b.1 := by rw [he]; rfl
      have hb : e.ai 1 1 = r.b.2 := by rw [he]; rfl
      simp only [hp, ha, hb]
      clear he hp ha hb e
      (repeat' with_reducible (first | refine holds_inI ?_ | refine holds_inB ?_))
      refine holds_defE fun e he => ?_
      have hp : rfOf e = r := by rw [he]; exact rfOf_on _ r
      have ha : e.ai 1 0 = r.b.1 := by rw [he]; rfl
      have hb : e.ai 1 1 = r.b.2 := by rw [he]; rfl
      simp only [hp, ha, hb]
      clear he hp ha hb e
      have R2 := R.start (o := (r.b.1, r.b.2)) hrb
      have f0 : topN r.b.1 r.b.1 = topN r.b.1 p.b.1 := by rw [R.b]
      have f1 := R.who
      have f2 := R2.b
      have f3 := R2.valued
      have f4 := R2.value
      have f5 := R2.ever
      have f6 := R2.dec
      (repeat' with_reducible (first | refine holds_must hm ?_ | refine holds_must (rowsB_i _ _ _) ?_ | refine holds_must (rowsB_st _ _) ?_ | refine holds_inI ?_ | refine holds_inB ?_ | refine holds_ite (fun _ => ?_) (fun _ => ?_)))
      all_goals refine holds_leaf ?_
      all_goals first
        | (refine fin (p.start (r.b.1, r.b.2)) (r.start (r.b.1, r.b.2)) R2 _ ⟨⟨trivial, trivial, trivial, e1, trivial⟩, ?_⟩
           (repeat' (first | exact trivial | exact rfl | exact TS.eqv_refl _ _ | exact len_app _ _ | exact rows_appI | exact fun _ _ => eqvL_refl _ _ | exact fun i _ => eqvL_rowNums rfl _ i | apply And.intro))
           done)
        | (exfalso; clear R R2 hm fin; simp_all; done)
    · skip
      obtain ⟨hc, R2⟩ := R.promise hz1 (r.b.1, r.b.2) (z4, z5) (z6, z7, z8) (hdN (tlN (tlN (tlN (tlN (tlN (tlN (tlN (tlN (tlN (tlN (s i.toNat)))))))))))).B
      rcases hp1 : p.promise z1 (r.b.1, r.b.2) (z4, z5) (z6, z7, z8) (hdN (tlN (tlN (tlN (tlN (tlN (tlN (tlN (tlN (tlN (tlN (s i.toNat)))))))))))).B with ⟨c, p2⟩
      rcases hr1 : r.promise z1 (r.b.1, r.b.2) (z4, z5) (z6, z7, z8) (hdN (tlN (tlN (tlN (tlN (tlN (tlN (tlN (tlN (tlN (tlN (s i.toNat)))))))))))).B with ⟨c2, r2⟩
      rw [hp1, hr1] at hc R2
      dsimp only at hc R2
      subst hc
      refine holds_must (rowsB_i _ _ _) (holds_must (rowsB_i _ _ _) (holds_defE fun e he => ?_))
      have hq : promE e = (c, p2) := by rw [he]; exact (promE_on p _ z1 (r.b.1) (r.b.2) z4 z5 z6 z7 z8 _).trans hp1
      refine holds_must (decide_eq_true (by rw [he]; exact Nat.le_trans (Nat.le_of_eq (congrArg (fun p : PrS => p.pl.length) (prOf_on _ p))) (Nat.le_trans R.plL (by decide)))) ?_
      simp only [hq]
      clear he hq e
      (repeat' with_reducible (first | refine holds_inI ?_ | refine holds_inB ?_))
      refine holds_defE fun e he => ?_
      have hq : rpromE e = (c, r2) := by rw [he]; exact (rpromE_on r _ z1 (r.b.1) (r.b.2) z4 z5 z6 z7 z8 _).trans hr1
      refine holds_must (decide_eq_true (by rw [he]; exact hz1)) ?_
      simp only [hq]
      clear he hq e
      have f2 := R2.b
      have f3 := R2.valued
      have f4 := R2.value
      have f5 := R2.ever
      have f6 := R2.dec
      (repeat' with_reducible (first | refine holds_must hm ?_ | refine holds_must (rowsB_i _ _ _) ?_ | refine holds_must (rowsB_st _ _) ?_ | refine holds_inI ?_ | refine holds_inB ?_ | refine holds_ite (fun _ => ?_) (fun _ => ?_)))
      all_goals refine holds_leaf ?_
      all_goals first
        | (refine fin p2 r2 R2 _ ⟨⟨trivial, trivial, trivial, e1, trivial⟩, ?_⟩
           (repeat' (first | exact trivial | exact rfl | exact TS.eqv_refl _ _ | exact len_app _ _ | exact rows_appI | exact fun _ _ => eqvL_refl _ _ | exact fun i _ => eqvL_rowNums rfl _ i | apply And.intro))
           done)
        | (exfalso; clear R R2 hm fin hp1 hr1; simp_all; done)
    · skip
      obtain ⟨hc, R2⟩ := R.accept hz1 (r.b.1, r.b.2)
      rcases hp1 : p.accept z1 (r.b.1, r.b.2) with ⟨c, p2⟩
      rcases hr1 : r.accept z1 (r.b.1, r.b.2) with ⟨c2, r2⟩
      rw [hp1, hr1] at hc R2
      dsimp only at hc R2
      subst hc
      refine holds_must (rowsB_i _ _ _) (holds_must (rowsB_i _ _ _) (holds_defE fun e he => ?_))
      have hq : accE e = (c, p2) := by rw [he]; exact (accE_on p _ z1 (r.b.1) (r.b.2)).trans hp1
      refine holds_must (decide_eq_true (by rw [he]; exact Nat.le_trans (Nat.le_of_eq (congrArg (fun p : PrS => p.al.length) (prOf_on _ p))) (Nat.le_trans R.alL (by decide)))) ?_
      simp only [hq]
      clear he hq e
      (repeat' with_reducible (first | refine holds_inI ?_ | refine holds_inB ?_))
      refine holds_defE fun e he => ?_
      have hq : raccE e = (c, r2) := by rw [he]; exact (raccE_on r _ z1 (r.b.1) (r.b.2)).trans hr1
      refine holds_must (decide_eq_true (by rw [he]; exact hz1)) ?_
      simp only [hq]
      clear he hq e
      have f2 := R2.b
      have f3 := R2.valued
      have f4 := R2.value
      have f5 := R2.ever
      have f6 := R2.dec
      (repeat' with_reducible (first | refine holds_must hm ?_ | refine holds_must (rowsB_i _ _ _) ?_ | refine holds_must (rowsB_st _ _) ?_ | refine holds_inI ?_ | refine holds_inB ?_ | refine holds_ite (fun _ => ?_) (fun _ => ?_)))
      all_goals refine holds_leaf ?_
      all_goals first
        | (refine fin p2 r2 R2 _ ⟨⟨trivial, trivial, trivial, e1, trivial⟩, ?_⟩
           (repeat' (first | exact trivial | exact rfl | exact TS.eqv_refl _ _ | exact len_app _ _ | exact rows_appI | exact fun _ _ => eqvL_refl _ _ | exact fun i _ => eqvL_rowNums rfl _ i | apply And.intro))
           done)
        | (exfalso; clear R R2 hm fin hp1 hr1; simp_all; done)
  · skip
    refine holds_ite (fun _ => ?_) (fun _ => holds_ite (fun _ => ?_) (fun _ => ?_))
    · skip
      refine holds_must (rowsB_i _ _ _) (holds_must (rowsB_i _ _ _) (holds_defE fun e he => ?_))
      have hp : prOf e = p := by rw [he]; exact prOf_on _ p
      have ha : e.ai 1 0 = z2 := by rw [he]; rfl
      have hb : e.ai 1 1 = z3 := by rw [he]; rfl
      simp only [hp, ha, hb]
      clear he hp ha hb e
      (repeat' with_reducible (first | refine holds_inI ?_ | refine holds_inB ?_))
      refine holds_defE fun e he => ?_
      have hp : rfOf e = r := by rw [he]; exact rfOf_on _ r
      have ha : e.ai 1 0 = z2 := by rw [he]; rfl
      have hb : e.ai 1 1 = z3 := by rw [he]; rfl
      simp only [hp, ha, hb]
      clear he hp ha hb e
      have R2 := R.start (o := (z2, z3)) hz2
      have f0 : topN z2 r.b.1 = topN z2 p.b.1 := by rw [R.b]
      have f1 := R.who
      have f2 := R2.b
      have f3 := R2.valued
      have f4 := R2.value
      have f5 := R2.ever
      have f6 := R2.dec
      (repeat' with_reducible (first | refine holds_must hm ?_ | refine holds_must (rowsB_i _ _ _) ?_ | refine holds_must (rowsB_st _ _) ?_ | refine holds_inI ?_ | refine holds_inB ?_ | refine holds_ite (fun _ => ?_) (fun _ => ?_)))
      all_goals refine holds_leaf ?_
      all_goals first
        | (refine fin (p.start (z2, z3)) (r.start (z2, z3)) R2 _ ⟨⟨trivial, trivial, trivial, e1, trivial⟩, ?_⟩
           (repeat' (first | exact trivial | exact rfl | exact TS.eqv_refl _ _ | exact len_app _ _ | exact rows_appI | exact fun _ _ => eqvL_refl _ _ | exact fun i _ => eqvL_rowNums rfl _ i | apply And.intro))
           done)
        | (exfalso; clear R R2 hm fin; simp_all; done)
    · skip
      obtain ⟨hc, R2⟩ := R.promise hz1 (z2, z3) (z4, z5) (z6, z7, z8) (hdN (tlN (tlN (tlN (tlN (tlN (tlN (tlN (tlN (tlN (tlN (s i.toNat)))))))))))).B
      rcases hp1 : p.promise z1 (z2, z3) (z4, z5) (z6, z7, z8) (hdN (tlN (tlN (tlN (tlN (tlN (tlN (tlN (tlN (tlN (tlN (s i.toNat)))))))))))).B with ⟨c, p2⟩
      rcases hr1 : r.promise z1 (z2, z3) (z4, z5) (z6, z7, z8) (hdN (tlN (tlN (tlN (tlN (tlN (tlN (tlN (tlN (tlN (tlN (s i.toNat)))))))))))).B with ⟨c2, r2⟩
      rw [hp1, hr1] at hc R2
      dsimp only at hc R2
      subst hc
      refine holds_must (rowsB_i _ _ _) (holds_must (rowsB_i _ _ _) (holds_defE fun e he => ?_))
      have hq : promE e = (c, p2) := by rw [he]; exact (promE_on p _ z1 (z2) (z3) z4 z5 z6 z7 z8 _).trans hp1
      refine holds_must (decide_eq_true (by rw [he]; exact Nat.le_trans (Nat.le_of_eq (congrArg (fun p : PrS => p.pl.length) (prOf_on _ p))) (Nat.le_trans R.plL (by decide)))) ?_
      simp only [hq]
      clear he hq e
      (repeat' with_reducible (first | refine holds_inI ?_ | refine holds_inB ?_))
      refine holds_defE fun e he => ?_
      have hq : rpromE e = (c, r2) := by rw [he]; exact (rpromE_on r _ z1 (z2) (z3) z4 z5 z6 z7 z8 _).trans hr1
      refine holds_must (decide_eq_true (by rw [he]; exact hz1)) ?_
      simp only [hq]
      clear he hq e
      have f2 := R2.b
      have f3 := R2.valued
      have f4 := R2.value
      have f5 := R2.ever
      have f6 := R2.dec
      (repeat' with_reducible (first | refine holds_must hm ?_ | refine holds_must (rowsB_i _ _ _) ?_ | refine holds_must (rowsB_st _ _) ?_ | refine holds_inI ?_ | refine holds_inB ?_ | refine holds_ite (fun _ => ?_) (fun _ => ?_)))
      all_goals refine holds_leaf ?_
      all_goals first
        | (refine fin p2 r2 R2 _ ⟨⟨trivial, trivial, trivial, e1, trivial⟩, ?_⟩
           (repeat' (first | exact trivial | exact rfl | exact TS.eqv_refl _ _ | exact len_app _ _ | exact rows_appI | exact fun _ _ => eqvL_refl _ _ | exact fun i _ => eqvL_rowNums rfl _ i | apply And.intro))
           done)
        | (exfalso; clear R R2 hm fin hp1 hr1; simp_all; done)
    · skip
      obtain ⟨hc, R2⟩ := R.accept hz1 (z2, z3)
      rcases hp1 : p.accept z1 (z2, z3) with ⟨c, p2⟩
      rcases hr1 : r.accept z1 (z2, z3) with ⟨c2, r2⟩
      rw [hp1, hr1] at hc R2
      dsimp only at hc R2
      subst hc
      refine holds_must (rowsB_i _ _ _) (holds_must (rowsB_i _ _ _) (holds_defE fun e he => ?_))
      have hq : accE e = (c, p2) := by rw [he]; exact (accE_on p _ z1 (z2) (z3)).trans hp1
      refine holds_must (decide_eq_true (by rw [he]; exact Nat.le_trans (Nat.le_of_eq (congrArg (fun p : PrS => p.al.length) (prOf_on _ p))) (Nat.le_trans R.alL (by decide)))) ?_
      simp only [hq]
      clear he hq e
      (repeat' with_reducible (first | refine holds_inI ?_ | refine holds_inB ?_))
      refine holds_defE fun e he => ?_
      have hq : raccE e = (c, r2) := by rw [he]; exact (raccE_on r _ z1 (z2) (z3)).trans hr1
      refine holds_must (decide_eq_true (by rw [he]; exact hz1)) ?_
      simp only [hq]
      clear he hq e
      have f2 := R2.b
      have f3 := R2.valued
      have f4 := R2.value
      have f5 := R2.ever
      have f6 := R2.dec
      (repeat' with_reducible (first | refine holds_must hm ?_ | refine holds_must (rowsB_i _ _ _) ?_ | refine holds_must (rowsB_st _ _) ?_ | refine holds_inI ?_ | refine holds_inB ?_ | refine holds_ite (fun _ => ?_) (fun _ => ?_)))
      all_goals refine holds_leaf ?_
      all_goals first
        | (refine fin p2 r2 R2 _ ⟨⟨trivial, trivial, trivial, e1, trivial⟩, ?_⟩
           (repeat' (first | exact trivial | exact rfl | exact TS.eqv_refl _ _ | exact len_app _ _ | exact rows_appI | exact fun _ _ => eqvL_refl _ _ | exact fun i _ => eqvL_rowNums rfl _ i | apply And.intro))
           done)
        | (exfalso; clear R R2 hm fin hp1 hr1; simp_all; done)

end
def rfNew (w : Int) (x : I3) : RfS := ⟨w, x, (0, 0), false, false, false, (0, 0), (0, 0, 0), false, (0, 0, 0), false, false, false, false, false, (0, 0, 0), false⟩
theorem spR_new (w : Int) (x : I3) : SpR (prNew w x) (rfNew w x) where
  who := rfl
  want := rfl
  b := rfl
  bz := fun _ => rfl
  b0 := Int.le_refl _
  bM := show (0 : Int) < 4294967296 by decide
  has := rfl
  best := fun h => by cases h
  valued := rfl
  value := fun h => by cases h
  pl := fun _ => .inl ⟨rfl, rfl, rfl, rfl⟩
  told := rfl
  al := fun _ => .inl ⟨rfl, rfl, rfl, rfl⟩
  ever := rfl
  dec := fun h => by cases h
  plL := Nat.zero_le _
  alL := Nat.zero_le _
section
variable (len : Nat) (s : Nat → List Num) (hs : ∀ i, i < len → (0 ≤ (hdN (tlN (s i))).I) ∧ 0 ≤ (hdN (tlN (tlN (tlN (s i))))).I ∧ (hdN (tlN (tlN (tlN (s i))))).I < 4294967296)
def spZ (w : Int) (x : I3) (len : Nat) (s : Nat → List Num) : Ex → EN → Prop
  | .normal, e => len ≤ 60 ∧ spL.eqv e (spN len s (prNew w x) (rfNew w x) 0)
  | .ret, e => lawR .ret e
  | .exit _, _ => True
include hs in
theorem sp_ht (w : Int) (x : I3) : HT Try.prog Try.f5.ntmps 0 body5 1 (spT.tm ⟨[[.i w], [.i x.1, .i x.2.1, .i x.2.2], []], [.lst len s]⟩) (spT.heap ⟨[[.i w], [.i x.1, .i x.2.1, .i x.2.2], []], [.lst len s]⟩) (QX ⟨none, [], some (lawT 6)⟩ lawR) := by
  refine HT.cutX 7 (t1 := spL) (R1 := spZ w x len s) (HTL.runX sdTab mixed (n := 300) (by decide) (within_take in5 7) (Nat.zero_le _) fun τ0 => holds_of_eq (sp_pre w x len s τ0) (holds_ite (fun h => holds_leaf rfl) (fun h => holds_must (rowsB_st _ _) (holds_leaf ⟨?_, ?_⟩)))) ?_ ?_
  · have := of_decide_eq_false h
    omega
  · (repeat' (first | exact trivial | exact rfl | exact TS.eqv_refl _ _ | exact len_app _ _ | exact rows_appI | exact fun _ _ => eqvL_refl _ _ | exact fun i _ => eqvL_rowNums rfl _ i | apply And.intro)); all_goals exact fun i hi => absurd hi (by simp [lnS, ON.len, hdO, tlO, spN, prNew, PrS.on])
  · rintro en ⟨hl, he⟩
    refine HTg.pre (WP := wpL Try.prog _) (fun h hq => wpL_mono h hq) he (HTL.loopThen lp5 (sp_loop len s hs hl (prNew w x, rfNew w x, 0) ⟨spR_new w x, Int.le_refl _, Int.natCast_nonneg _⟩) ?_ ?_)
    · intro en _
      exact HTL.runX sdTab mixed (n := 300) (by decide) (within_drop in5 8) (Nat.zero_le _) fun τ0 => holds_of_eq (sp_tail τ0) (holds_leaf rfl)
    · exact fun en h => h
  · exact fun en h => h
end
theorem pk23 : pkT Try.prog 8 23 = some [.int .u8, .int .u8, .int .i64] := by kernel_rfl
theorem pk45 : pkT Try.prog 8 45 = some [.int .i64, .int .u8, .bool, .int .u32, .int .u8, .int .u32, .int .u8, .int .u8, .int .u8, .int .i64, .bool] := by kernel_rfl
def stR (n : Nat → Nat → Int) (b : Nat → Nat → Bool) : Nat → List Num := fun i => [.i (n i 0), .i (n i 1), .b (b i 2), .i (n i 3), .i (n i 4), .i (n i 5), .i (n i 6), .i (n i 7), .i (n i 8), .i (n i 9), .b (b i 10)]
theorem sp_c (W : World) (w : Int) (x : Nat → Int) (hd : Option Addr × Nat × Nat) (n : Nat → Nat → Int) (b : Nat → Nat → Bool) (hs : sliceOf W hd hd.2.1 11 (fun i => skel (n i) (b i) [.int .i64, .int .u8, .bool, .int .u32, .int .u8, .int .u32, .int .u8, .int .u8, .int .u8, .int .i64, .bool] 0)) (hr : ∀ i, i < hd.2.1 → 0 ≤ n i 1 ∧ 0 ≤ n i 3 ∧ n i 3 < 4294967296) :
    Calls Try.prog 5 #[.int .u8 w, den default (.agg (skel x (fun _ => false) [.int .u8, .int .u8, .int .i64] 0)), .slice hd.1 hd.2.1 hd.2.2] W fun e W' => e = .returned (.bool true) ∧ Below W.heap.size W W' :=
  law_htX (args := [.int .u8 (.sym w), .agg [.int .u8 (.sym (x 0)), .int .u8 (.sym (x 1)), .int .i64 (.sym (x 2))], .sl 0]) (l := spT.objs ⟨[[.i w], [], []], [.lst hd.2.1 (stR n b)]⟩) (m := 1) (hdr := fun _ => hd) Try.func5 body5_eq (by kernel_rfl) (by kernel_rfl)
    (fun p hp => by rw [List.mem_singleton.1 hp]; exact ⟨Nat.zero_lt_one, _, _, _, rfl, hs⟩) (sp_ht hd.2.1 (stR n b) hr w (x 0, x 1, x 2)) (fun E' hE => by simp [denL, den, SI.v, (hE 0 Nat.zero_lt_one).2.1, skel])
set_option maxRecDepth 100000 in
theorem plays_lifted (os : Os) (started : os.Started) (H : Type) (enc : TypeId × Value → H) :
    ReturnsInHanded {} Try.checked os 5 .any (Rows.synodPlaysSpec.pre6 enc Try.prog Try.f5 Rows.synodPlaysRow.domain false) (Rows.synodPlaysSpec.post enc Try.prog Try.f5 false true false false) := by
  refine law_lifted (C := Try.checked) Try.own started (by kernel_rfl) Try.func5
    (ChangeSpec.witness6 (enc := enc) (C := Try.checked) false ⟨#[], #[.int .u8 0, .agg #[.int .u8 0, .int .u8 0, .int .i64 0], .slice none 0 0], []⟩ 8 (by kernel_rfl) (by kernel_rfl) (by kernel_rfl) (by kernel_rfl))
    Try.laidOut ?_ (B := 4) (by kernel_rfl) (by kernel_rfl) rfl ?_ ?_
  · intro t ht
    rw [Try.params5] at ht
    have : t = 5 ∨ t = 23 ∨ t = 39 := by
      simp at ht
      first | exact ht | omega
    rcases this with rfl | rfl | rfl <;> exact ⟨by kernel_rfl, of_decide_eq_true (by kernel_rfl)⟩
  · intro ds h
    rw [Try.params5] at h
    match ds, h with
    | [d1, d2, d3], _ => rfl
  · intro W base args ds p hval hA hlt
    rw [Try.params5] at hA hval
    obtain ⟨v0, v1, v2, d0, d1, d2, p0, p1, p2, rfl, rfl, rfl, h0, h1, h2⟩ := trodAll_three hA
    obtain ⟨w, rfl, _, _, ww⟩ := open_int Try.underlying5 (hval 0 5 v0 rfl rfl) h0
    obtain ⟨x, xb, _, hx⟩ := open_plain Try.underlying23 pk23 (hval 1 23 v1 rfl rfl) h1
    obtain ⟨hd, n, b, rfl, _, hs, hwf⟩ := open_rows Try.underlying39 pk45 (by kernel_rfl) (by decide) (hval 2 39 v2 rfl rfl) h2
    rw [hx default]
    exact sp_c W w x hd n b hs fun i hi => ⟨(wf_u8 (hwf i hi).2.1).1, wf_u32 (hwf i hi).2.2.1⟩

theorem synodPlays_holds : Rows.SynodPlaysSaid :=
  OpenClaim.holds_of_wide 5 Try.f5 rfl rfl rfl rfl rfl rfl rfl ⟨rfl, rfl, rfl, rfl, rfl⟩ rfl rfl rfl rfl rfl (by kernel_rfl) Try.func5 (by kernel_rfl)
    (of_decide_eq_true (by kernel_rfl)) (by unfold Func.isWrapper; rw [if_neg (by decide +kernel)]; exact ⟨rfl, rfl⟩)
    (fun os started H enc _ => plays_lifted os started H enc)
end Go.Proofs.Ytlcgnjcfihablaa
