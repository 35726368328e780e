/- BallotPlays: every row of ballots that are prepared and accepted: what each is told, what is promised, accepted.
   Conditions: none. -/
import Derived.Test.YtobknnmalnfknaaBf
set_option linter.unusedSimpArgs false
set_option linter.unusedVariables false
namespace Go.Proofs.Ytobknnmalnfknaa
open Go.Eng Go.RowKit Go.ChangeShapes Go.WideShapes
set_option maxRecDepth 100000

theorem holds_of_eq {R : Type} {t t' : Tree R} {Q : R → Prop} (h : t = t') (k : t'.Holds Q) : t.Holds Q := h ▸ k

/-- Both acceptors' state. -/
structure Ac where
  pn : Int
  pw : Int
  an : Int
  aw : Int
  k : Int
  o : Int
  v : Int
  has : Bool
def Ac.inv (d : Ac) : Prop := d.has = !(d.an == 0 && d.aw == 0)
section
variable (len : Int) (n : Nat → Nat → Int) (b : Nat → Nat → Bool)
def K3 (i : Int) : Tm := [(0, .sl 0), (2, .bool (.lit false)), (3, .ptr 1 0), (4, .ptr 2 0), (5, .int .i64 (.sym i))]
def L3 (d : Ac) : List (Nat × AObj) := [(0, lstO len n b), (1, .box (box7 d.pn d.pw d.an d.aw d.k d.o d.v)), (2, .box (box8 d.pn d.pw d.an d.aw d.k d.o d.v d.has))]
abbrev At3 (i : Int) (d : Ac) (m : Nat) (κ : Tm) (h : Heap) : Prop := m = 3 ∧ κ = K3 i ∧ h = mkHeap (L3 len n b d)

theorem in3 : Within Try.prog 3 Try.f3.ntmps (.seq (cl body3) (.seq c3A (.seq c3B (.seq c3R5 (.seq (.seq c3R6 (.block 0 (.loop c3X))) c3T))))) := within_body Try.func3 body3_eq
theorem in3X : Within Try.prog 3 Try.f3.ntmps (.seq c3X1 (.seq (.block 1 (.seq c3R9 (.seq c3X3 c3X4))) c3R8)) := c3X_eq ▸ within_loop (within_block (within_r (within_l (within_r (within_r (within_r (within_r in3)))))))

theorem same3 (n : Nat → Nat → Int) (b : Nat → Nat → Bool) (φ : Nat → Nat) (m : Nat) (len : Int) : SameO φ (· < m) (.lst (.sym len) 6 (stepRows n b) none) (lstO len n b) := sameLst rfl (plainRows_skel n b pkStep)

theorem x1_ht (i : Int) (d : Ac) : HT Try.prog Try.f3.ntmps c3X1 3 (K3 i) (mkHeap (L3 len n b d)) fun ex m κ h => At3 len n b i d m κ h ∧ (ex = .normal ∧ i < len ∨ ex = .exit 0) := by
  refine HT.run bdTab mixed (n := 300) (within_l in3X) [0, 2, 3, 4, 5] [0, 1, 2] fun τ0 => holds_of_eq (p3_X1 len n b i d.pn d.pw d.an d.aw d.k d.o d.v d.has τ0) ?_
  refine holds_ite (fun h => holds_leaf ?_) fun h => holds_leaf ?_
  · exact ⟨3, id, _, _, Reset.of (l := L3 len n b d) (κ' := K3 i) ⟨⟨⟨_, rfl, fun _ => rfl⟩, rfl⟩, ⟨⟨_, rfl, fun _ => rfl⟩, rfl⟩, ⟨⟨_, rfl, fun _ => rfl⟩, rfl⟩, ⟨⟨_, rfl, fun _ => rfl⟩, rfl⟩, ⟨⟨_, rfl, fun _ => rfl⟩, rfl⟩, trivial⟩
      ⟨⟨rfl, _, rfl, same3 n b id 3 len⟩, ⟨rfl, _, rfl, Eng.sameBox rfl (fun _ => rfl) rfl⟩, ⟨rfl, _, rfl, Eng.sameBox rfl (fun _ => rfl) rfl⟩, trivial⟩ rfl, ⟨rfl, rfl, rfl⟩, .inl ⟨rfl, by simpa using h⟩⟩
  · exact ⟨3, id, _, _, Reset.of (l := L3 len n b d) (κ' := K3 i) ⟨⟨⟨_, rfl, fun _ => rfl⟩, rfl⟩, ⟨⟨_, rfl, fun _ => rfl⟩, rfl⟩, ⟨⟨_, rfl, fun _ => rfl⟩, rfl⟩, ⟨⟨_, rfl, fun _ => rfl⟩, rfl⟩, ⟨⟨_, rfl, fun _ => rfl⟩, rfl⟩, trivial⟩
      ⟨⟨rfl, _, rfl, same3 n b id 3 len⟩, ⟨rfl, _, rfl, Eng.sameBox rfl (fun _ => rfl) rfl⟩, ⟨rfl, _, rfl, Eng.sameBox rfl (fun _ => rfl) rfl⟩, trivial⟩ rfl, ⟨rfl, rfl, rfl⟩, .inr rfl⟩

def K3s (i : Int) : Tm := [(0, .sl 0), (2, .bool (.lit false)), (3, .ptr 1 0), (4, .ptr 2 0), (5, .int .i64 (.sym i)), (6, .ptr 3 0)]
def L3s (d : Ac) (s0 : Bool) (s1 s2 s3 s4 s5 : Int) : List (Nat × AObj) := [(0, lstO len n b), (1, .box (box7 d.pn d.pw d.an d.aw d.k d.o d.v)), (2, .box (box8 d.pn d.pw d.an d.aw d.k d.o d.v d.has)),
  (3, .box [.bool (.sym s0), .int .u32 (.sym s1), .int .u8 (.sym s2), .int .u8 (.sym s3), .int .u8 (.sym s4), .int .i64 (.sym s5)])]

theorem x9_ht (i : Int) (d : Ac) (h0 : 0 ≤ i) (h1 : i < len) : HT Try.prog Try.f3.ntmps c3R9 3 (K3 i) (mkHeap (L3 len n b d)) fun ex m κ h => ex = .normal ∧ m = 4 ∧ κ = K3s i ∧ ∃ s0 s1 s2 s3 s4 s5, h = mkHeap (L3s len n b d s0 s1 s2 s3 s4 s5) := by
  refine HT.run bdTab mixed (n := 300) (within_l (within_block (within_l (within_r in3X)))) [0, 2, 3, 4, 5, 6] [0, 1, 2, 5, 7, 9, 11, 13] fun τ0 => holds_of_eq (p3_R9 len n b i d.pn d.pw d.an d.aw d.k d.o d.v d.has τ0) ?_
  refine holds_must (by simp; omega) (holds_must (by simp; omega) (holds_leaf ?_))
  exact ⟨4, lkN [0, 1, 2, 11], _, _, Reset.of (l := L3s len n b d (b i.toNat 0) (n i.toNat 1) (n i.toNat 2) (n i.toNat 3) (n i.toNat 4) (n i.toNat 5)) (κ' := K3s i) ⟨⟨⟨_, rfl, fun _ => rfl⟩, rfl⟩, ⟨⟨_, rfl, fun _ => rfl⟩, rfl⟩, ⟨⟨_, rfl, fun _ => rfl⟩, rfl⟩, ⟨⟨_, rfl, fun _ => rfl⟩, rfl⟩, ⟨⟨_, rfl, fun _ => rfl⟩, rfl⟩, ⟨⟨_, rfl, fun _ => rfl⟩, rfl⟩, trivial⟩ ⟨⟨rfl, _, rfl, same3 n b (lkN [0, 1, 2, 11]) 4 len⟩, ⟨rfl, _, rfl, Eng.sameBox rfl (fun _ => rfl) rfl⟩, ⟨rfl, _, rfl, Eng.sameBox rfl (fun _ => rfl) rfl⟩, ⟨rfl, _, rfl, Eng.sameBox rfl (fun _ => rfl) rfl⟩, trivial⟩ rfl, rfl, rfl, rfl, b i.toNat 0, n i.toNat 1, n i.toNat 2, n i.toNat 3, n i.toNat 4, n i.toNat 5, rfl⟩

theorem prCode_ok {pn pw n w : Int} (h : (prCode pn pw n w == 0) = true) : prOk pn pw n w = true := by
  unfold prCode at h
  unfold prOk
  cases h1 : isB n w <;> cases h2 : lessB n w pn pw <;> simp_all
theorem x3_ht (i : Int) (d : Ac) (hd : d.inv) (s0 : Bool) (s1 s2 s3 s4 s5 : Int) : HT Try.prog Try.f3.ntmps c3X3 4 (K3s i) (mkHeap (L3s len n b d s0 s1 s2 s3 s4 s5)) fun ex m κ h => ex = .normal ∧ ∃ d' : Ac, d'.inv ∧ At3 len n b i d' m κ h := by
  refine HT.run bdTab mixed (n := 300) (within_l (within_r (within_block (within_l (within_r in3X))))) [0, 2, 3, 4, 5] [0, 1, 2] fun τ0 => holds_of_eq (p3_X3 len n b i d.pn d.pw d.an d.aw d.k d.o d.v d.has s0 s1 s2 s3 s4 s5 τ0) ?_
  have pre : ∃ m' φ κ' h', Reset (· < m') φ [(0, .sl 0), (2, .bool (.lit false)), (3, .ptr 1 0), (4, .ptr 2 0), (5, .int .i64 (.sym i))] [(0, some (lstO len n b)), (1, some (.box (preBox d.pn d.pw d.an d.aw d.k d.o d.v s1 s2))), (2, some (.box (preBox8 d.pn d.pw d.an d.aw d.k d.o d.v s1 s2 d.has)))] κ' h' ∧ Ex.normal = Ex.normal ∧ ∃ d' : Ac, d'.inv ∧ At3 len n b i d' m' κ' h' :=
    ⟨3, id, _, _, Reset.of (l := L3 len n b ⟨cond (prOk d.pn d.pw s1 s2) s1 d.pn, cond (prOk d.pn d.pw s1 s2) s2 d.pw, d.an, d.aw, d.k, d.o, d.v, d.has⟩) (κ' := K3 i) ⟨⟨⟨_, rfl, fun _ => rfl⟩, rfl⟩, ⟨⟨_, rfl, fun _ => rfl⟩, rfl⟩, ⟨⟨_, rfl, fun _ => rfl⟩, rfl⟩, ⟨⟨_, rfl, fun _ => rfl⟩, rfl⟩, ⟨⟨_, rfl, fun _ => rfl⟩, rfl⟩, trivial⟩ ⟨⟨rfl, _, rfl, same3 n b id 3 len⟩, ⟨rfl, _, rfl, Eng.sameBox rfl (fun _ => rfl) rfl⟩, ⟨rfl, _, rfl, Eng.sameBox rfl (fun _ => rfl) rfl⟩, trivial⟩ rfl, rfl, ⟨cond (prOk d.pn d.pw s1 s2) s1 d.pn, cond (prOk d.pn d.pw s1 s2) s2 d.pw, d.an, d.aw, d.k, d.o, d.v, d.has⟩, hd, rfl, rfl, rfl⟩
  refine holds_ite (fun _ => holds_ite (fun h => by simp at h) fun _ => holds_leaf ?_) fun _ => holds_ite (fun h => by simp at h) fun _ => holds_ite (fun hp => ?_) fun _ => holds_leaf pre
  · refine ⟨3, id, _, _, Reset.of (l := L3 len n b ⟨cond (acOk d.pn d.pw s1 s2 s3 s4 s5) s1 d.pn, cond (acOk d.pn d.pw s1 s2 s3 s4 s5) s2 d.pw, cond (acOk d.pn d.pw s1 s2 s3 s4 s5) s1 d.an, cond (acOk d.pn d.pw s1 s2 s3 s4 s5) s2 d.aw, cond (acOk d.pn d.pw s1 s2 s3 s4 s5) s3 d.k, cond (acOk d.pn d.pw s1 s2 s3 s4 s5) s4 d.o, cond (acOk d.pn d.pw s1 s2 s3 s4 s5) s5 d.v, acOk d.pn d.pw s1 s2 s3 s4 s5 || d.has⟩) (κ' := K3 i) ⟨⟨⟨_, rfl, fun _ => rfl⟩, rfl⟩, ⟨⟨_, rfl, fun _ => rfl⟩, rfl⟩, ⟨⟨_, rfl, fun _ => rfl⟩, rfl⟩, ⟨⟨_, rfl, fun _ => rfl⟩, rfl⟩, ⟨⟨_, rfl, fun _ => rfl⟩, rfl⟩, trivial⟩ ⟨⟨rfl, _, rfl, same3 n b id 3 len⟩, ⟨rfl, _, rfl, Eng.sameBox rfl (fun _ => rfl) rfl⟩, ⟨rfl, _, rfl, Eng.sameBox rfl (fun _ => rfl) rfl⟩, trivial⟩ rfl, rfl, ⟨cond (acOk d.pn d.pw s1 s2 s3 s4 s5) s1 d.pn, cond (acOk d.pn d.pw s1 s2 s3 s4 s5) s2 d.pw, cond (acOk d.pn d.pw s1 s2 s3 s4 s5) s1 d.an, cond (acOk d.pn d.pw s1 s2 s3 s4 s5) s2 d.aw, cond (acOk d.pn d.pw s1 s2 s3 s4 s5) s3 d.k, cond (acOk d.pn d.pw s1 s2 s3 s4 s5) s4 d.o, cond (acOk d.pn d.pw s1 s2 s3 s4 s5) s5 d.v, acOk d.pn d.pw s1 s2 s3 s4 s5 || d.has⟩, ?_, rfl, rfl, rfl⟩
    cases hc : acOk d.pn d.pw s1 s2 s3 s4 s5
    · simpa [Ac.inv] using hd
    · simp [acOk, isB] at hc
      simp [Ac.inv]
      omega
  · have hq := prCode_ok hp
    unfold Ac.inv at hd
    refine holds_ite (fun h => by simp [hq] at h) fun _ => holds_ite (fun h => by simp [hq] at h) fun _ => holds_ite (fun h => by simp [hq, hd] at h) fun _ => holds_leaf pre

theorem x4_ht (i : Int) (d : Ac) (hd : d.inv) : HT Try.prog Try.f3.ntmps c3X4 3 (K3 i) (mkHeap (L3 len n b d)) fun ex m κ h => ex = .normal ∧ At3 len n b i d m κ h := by
  refine HT.run bdTab mixed (n := 300) (within_r (within_r (within_block (within_l (within_r in3X))))) [0, 2, 3, 4, 5] [0, 1, 2] fun τ0 => holds_of_eq (p3_X4 len n b i d.pn d.pw d.an d.aw d.k d.o d.v d.has τ0) ?_
  unfold Ac.inv at hd
  refine holds_ite (fun h => by simp at h) fun _ => holds_ite (fun h => by simp at h) fun _ => holds_ite (fun h => by simp at h) fun _ => holds_ite (fun h => by simp [hd] at h) fun _ => holds_leaf ?_
  exact ⟨3, id, _, _, Reset.of (l := L3 len n b d) (κ' := K3 i) ⟨⟨⟨_, rfl, fun _ => rfl⟩, rfl⟩, ⟨⟨_, rfl, fun _ => rfl⟩, rfl⟩, ⟨⟨_, rfl, fun _ => rfl⟩, rfl⟩, ⟨⟨_, rfl, fun _ => rfl⟩, rfl⟩, ⟨⟨_, rfl, fun _ => rfl⟩, rfl⟩, trivial⟩ ⟨⟨rfl, _, rfl, same3 n b id 3 len⟩, ⟨rfl, _, rfl, Eng.sameBox rfl (fun _ => rfl) rfl⟩, ⟨rfl, _, rfl, Eng.sameBox rfl (fun _ => rfl) rfl⟩, trivial⟩ rfl, rfl, rfl, rfl, rfl⟩

theorem x8_ht (i : Int) (d : Ac) (h0 : 0 ≤ i) (h1 : i < 60) : HT Try.prog Try.f3.ntmps c3R8 3 (K3 i) (mkHeap (L3 len n b d)) fun ex m κ h => ex = .normal ∧ At3 len n b (i + 1) d m κ h := by
  refine HT.run bdTab mixed (n := 300) (within_r (within_r in3X)) [0, 2, 3, 4, 5] [0, 1, 2] fun τ0 => holds_of_eq (p3_R8 len n b i d.pn d.pw d.an d.aw d.k d.o d.v d.has τ0) (holds_leaf ?_)
  have e : IntKind.i64.wrap (i + 1) = i + 1 := by
    simp [IntKind.wrap, IntKind.bits]
    omega
  exact ⟨3, id, _, _, Reset.of (l := L3 len n b d) (κ' := K3 (i + 1)) ⟨⟨⟨_, rfl, fun _ => rfl⟩, rfl⟩, ⟨⟨_, rfl, fun _ => rfl⟩, rfl⟩, ⟨⟨_, rfl, fun _ => rfl⟩, rfl⟩, ⟨⟨_, rfl, fun _ => rfl⟩, rfl⟩, ⟨⟨_, rfl, fun _ => by rw [e]; rfl⟩, rfl⟩, trivial⟩ ⟨⟨rfl, _, rfl, same3 n b id 3 len⟩, ⟨rfl, _, rfl, Eng.sameBox rfl (fun _ => rfl) rfl⟩, ⟨rfl, _, rfl, Eng.sameBox rfl (fun _ => rfl) rfl⟩, trivial⟩ rfl, rfl, rfl, rfl, rfl⟩

theorem loop3_ht (hl : len ≤ 60) (i : Int) (d : Ac) (hi : 0 ≤ i) (hd : d.inv) : HT Try.prog Try.f3.ntmps (.loop c3X) 3 (K3 i) (mkHeap (L3 len n b d)) fun ex _ _ _ => ex = .exit 0 := by
  refine HT.loop (D := Int × Ac) (fun q => (len - q.1).toNat) (fun _ => 3) (fun q => K3 q.1) (fun q => mkHeap (L3 len n b q.2)) (fun q => 0 ≤ q.1 ∧ q.2.inv) (fun _ ex _ _ _ => ex = .exit 0) ?_ (i, d) ⟨hi, hd⟩
  rintro ⟨i, d⟩ ⟨hi, hd⟩
  dsimp only at hi hd ⊢
  rw [c3X_eq]
  refine HT.seq (x1_ht len n b i d) ?_ ?_
  · rintro m κ h ⟨⟨rfl, rfl, rfl⟩, h1⟩
    have h1 : i < len := by
      rcases h1 with ⟨_, h1⟩ | h1
      · exact h1
      · cases h1
    refine HT.seq (R := fun ex m κ h => ex = .normal ∧ ∃ d' : Ac, d'.inv ∧ At3 len n b i d' m κ h) (HT.block (HT.seq (x9_ht len n b i d hi h1) ?_ ?_)) ?_ ?_
    · rintro m κ h ⟨_, rfl, rfl, s0, s1, s2, s3, s4, s5, rfl⟩
      refine HT.seq (x3_ht len n b i d hd s0 s1 s2 s3 s4 s5) ?_ ?_
      · rintro m κ h ⟨_, d', hd', rfl, rfl, rfl⟩
        refine (x4_ht len n b i d' hd').mono ?_
        rintro ex m κ h ⟨rfl, h2⟩
        exact ⟨rfl, d', hd', h2⟩
      · rintro ex m κ h ⟨rfl, _⟩ hn
        exact absurd trivial hn
    · rintro ex m κ h ⟨rfl, _⟩ hn
      exact absurd trivial hn
    · rintro m κ h ⟨_, d', hd', rfl, rfl, rfl⟩
      refine (x8_ht len n b i d' hi (by omega)).mono ?_
      rintro ex m κ h ⟨rfl, rfl, rfl, rfl⟩
      exact ⟨(i + 1, d'), ⟨by show 0 ≤ i + 1; omega, hd'⟩, by show (len - (i + 1)).toNat < (len - i).toNat; omega, rfl, rfl, rfl, fun _ _ _ _ h => h⟩
    · rintro ex m κ h ⟨rfl, _⟩ hn
      exact absurd trivial hn
  · rintro ex m κ h ⟨_, h1⟩ hn
    rcases h1 with ⟨rfl, _⟩ | rfl
    · exact absurd trivial hn
    · rfl
end
end Go.Proofs.Ytobknnmalnfknaa
