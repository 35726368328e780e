/- Texts of this claim, laid together (part 3).
   Conditions: none. -/
import Derived.LoopN
import Derived.Below
import Derived.ProofKit
import Derived.Deep.Slices
import Derived.ChangeSame
import Derived.OpenShut
import Derived.IntWalk
import Derived.Test.YtddmgdclmkgpeaaGreatRows
import Derived.Test.YtddmgdclmkgpeaaGreatZkb
set_option linter.unusedSimpArgs false
set_option linter.unusedVariables false
set_option linter.unusedSimpArgs false
set_option linter.unusedVariables false
namespace Go.Eng
section
variable {P:Program} {T:Tab}
structure DRec where
  τ:Tm
  h:Aq
  key:Nat
  b:Bool
  τ2:Tm
  v:AV
  R:List Nat
  W:Aq
  key':Nat
instance:Inhabited DRec:=⟨⟨[],[],0,false,[],.nilp,[],[],0⟩⟩
structure RecOK (P:Program) (nt:Nat) (ops:Array Oper) (i:Nat) (o:Oper) (r:DRec):Prop where
  dst:dstOk nt o.dst=true
  edges:edgesOk o i=true
  guard:∃ τ1,guardD ops o r.τ=some (r.b,τ1)∧TmEq r.τ r.τ2
  skip:r.b=false→r.v = .raw undef∧r.W=[]∧r.key'=r.key
  step:r.b=true→StepSpec P o r.τ2 (fun lk=>∀ k∈r.R,lk k=hget k r.h) r.key r.key' r.v r.W
  le:r.key≤r.key'
def Recs (P:Program) (nt:Nat) (ops:Array Oper) (bef:List Nat) (l:List Oper) (i:Nat) (cs:List Cert) (τ:Tm) (h:Aq) (key:Nat) (q:Tm×Aq×Nat):Prop :=
  ∃ rs : List DRec, rs.length = l.length ∧
      (∀ j o r,l[j]? = some o→rs[j]? = some r→RecOK P nt ops (i+j) o r∧(∀ c∈cs,clash ops (bef.getD (i+j) 0) o r.R (wkeys r.W) c=false) ∧
        (∀ j' r',j'<j→rs[j']? = some r'→clash ops (bef.getD (i+j) 0) o r.R (wkeys r.W) ⟨i+j',r'.R,wkeys r'.W⟩=false)) ∧
      (∀ r,rs[0]? = some r→r.τ=τ∧r.h=h∧r.key=key) ∧
      (∀ j r r' o,rs[j]? = some r→rs[j+1]? = some r'→l[j]? = some o→r'.τ=tput o.dst r.v r.τ2∧r'.h=r.W++r.h∧r'.key=r.key') ∧
      (∀ r o,rs.getLast? = some r→l.getLast? = some o→q=(tput o.dst r.v r.τ2,r.W++r.h,r.key'))∧(rs=[]→q=(τ,h,key))
theorem drawD_recs (hT : TabOK P T) {call : CallD} (hc : CallOK P call) (hg : CallG call) (nt : Nat) (ops : Array Oper) (bef : List Nat) : ∀ (l : List Oper) (i : Nat) (cs : List Cert) (τ : Tm) (h : Aq) (key : Nat) (q : Tm × Aq × Nat),
    drawD P T call nt ops bef l i cs τ h key=some q→Recs P nt ops bef l i cs τ h key q:=by
  intro l
  induction l with
  | nil =>
    intro i cs τ h key q e
    cases e
    exact ⟨[],rfl,fun j o r h1=>by simp at h1,fun r h1=>by simp at h1,fun j r r' o h1=>by simp at h1,fun r o h1=>by simp at h1,fun _=>rfl⟩
  | cons o rest ih =>
    intro i cs τ h key q e
    simp only [drawD] at e
    split at e
    · cases e
    · rename_i hd
      simp only [Bool.and_eq_true] at hd
      obtain ⟨⟨b,τ1⟩,hgd,e⟩:=BC e
      have go : ∀ (r : DRec), r.τ = τ → r.h = h → r.key = key → RecOK P nt ops i o r → cs.any (clash ops (bef.getD i 0) o r.R (wkeys r.W)) = false →
          drawD P T call nt ops bef rest (i+1) (⟨i,r.R,wkeys r.W⟩::cs) (tput o.dst r.v r.τ2) (r.W++r.h) r.key'=some q→Recs P nt ops bef (o::rest) i cs τ h key q:=by
        intro r e1 e2 e3 hok hcl e4
        obtain ⟨rs,a1,a2,a3,a4,a5,a6⟩:=ih _ _ _ _ _ _ e4
        have hcl':∀ c∈cs,clash ops (bef.getD i 0) o r.R (wkeys r.W) c=false:=by
          intro c hc'
          have:=List.any_eq_false.1 hcl c hc'
          simpa using this
        refine ⟨r::rs,by simp [a1],?_,?_,?_,?_,?_⟩
        · intro j o' r' h1 h2
          cases j with
          | zero =>
            simp only [List.getElem?_cons_zero,Option.some.injEq] at h1 h2
            subst h1; subst h2
            exact ⟨hok,hcl',fun j' r'' hj=>by omega⟩
          | succ j =>
            simp only [List.getElem?_cons_succ] at h1 h2
            obtain ⟨b1,b2,b3⟩:=a2 j o' r' h1 h2
            have e5:i+1+j=i+(j+1):=by omega
            rw [e5] at b1 b2 b3
            refine ⟨b1,fun c hc'=>b2 c (List.mem_cons_of_mem _ hc'),fun j' r'' hj h3=>?_⟩
            cases j' with
            | zero =>
              simp only [List.getElem?_cons_zero,Option.some.injEq] at h3
              subst h3
              exact b2 _ List.mem_cons_self
            | succ j' =>
              simp only [List.getElem?_cons_succ] at h3
              have:=b3 j' r'' (by omega) h3
              rwa [show i+1+j'=i+(j'+1) by omega] at this
        · intro r' h1
          simp only [List.getElem?_cons_zero,Option.some.injEq] at h1
          subst h1
          exact ⟨e1,e2,e3⟩
        · intro j r' r'' o' h1 h2 h3
          cases j with
          | zero =>
            simp only [List.getElem?_cons_zero,List.getElem?_cons_succ,Option.some.injEq,Nat.zero_add] at h1 h2 h3
            subst h1; subst h3
            exact a3 r'' h2
          | succ j =>
            simp only [List.getElem?_cons_succ] at h1 h2 h3
            exact a4 j r' r'' o' h1 h2 h3
        · intro r' o' h1 h2
          cases rs with
          | nil =>
            cases rest with
            | nil =>
              simp only [List.getLast?_singleton,Option.some.injEq] at h1 h2
              subst h1; subst h2
              exact a6 rfl
            | cons=>simp at a1
          | cons r2 rs =>
            cases rest with
            | nil=>simp at a1
            | cons o2 rest =>
              rw [List.getLast?_cons_cons] at h1 h2
              exact a5 r' o' h1 h2
        · intro h1; cases h1
      split at e
      · rename_i hb
        have hb:b=true:=hb
        subst hb
        obtain ⟨⟨v,R,W,key2⟩,hr,e⟩:=BC e
        split at e
        · cases e
        · rename_i hcl
          have hcl:cs.any (clash ops (bef.getD i 0) o R (wkeys W))=false:=hcl
          have hgr:=drawStepD_grows hT.toTabW hg hr
          have hτ:TmEq τ (pickD o.op τ1):=by
            refine TmEq.trans ?_ (pickD_eq o.op τ1)
            intro E t
            unfold guardD at hgd
            split at hgd
            · cases hgd; rfl
            · split at hgd
              · cases hgd
              · split at hgd
                · simp only [Option.some.injEq,Prod.mk.injEq] at hgd; rw [hgd.2]
                · rename_i hs
                  simp only [Option.some.injEq,Prod.mk.injEq] at hgd
                  rw [← hgd.2]
                  exact tmEq_known hs E t
                · cases hgd
                · cases hgd
          have hstep:StepSpec P o (pickD o.op τ1) (fun lk=>∀ k∈R,lk k=hget k h) key key2 v W:=by
            unfold drawStepD at hr
            split at hr
            · rename_i f args hcall
              split at hr
              · rename_i S hS
                exact step_call hcall (hT.smOK f S hS _ _ _ _ _ _ _ hr)
              · split at hr
                · cases hr
                · rename_i hclosed
                  obtain ⟨⟨v',h2,key2'⟩,hx,hr⟩:=Option.map_eq_some_iff.1 hr
                  obtain ⟨_,W',hW',_⟩:=hg _ _ _ _ _ _ _ hx
                  have hW2:h2=W'++restrict (reach 100 (keysL args) [] h) h:=hW'
                  subst hW2
                  simp only [Prod.mk.injEq] at hr
                  obtain ⟨rfl,rfl,rfl,rfl⟩:=hr
                  rw [← restrict_length (reach 100 (keysL args) [] h) h,take_new]
                  exact step_call hcall (call_part hc hg hx rfl hclosed)
            · obtain ⟨x,hx,hr⟩:=Option.map_eq_some_iff.1 hr
              cases x with
              | val v' R' W' =>
                simp only [Prod.mk.injEq] at hr
                obtain ⟨rfl,rfl,rfl,rfl⟩:=hr
                exact step_op hx
          exact go ⟨τ,h,key,true,pickD o.op τ1,v,R,W,key2⟩ rfl rfl rfl
            ⟨hd.1,hd.2,⟨τ1,hgd,hτ⟩,(fun h=>nomatch (show true=false from h)),fun _=>hstep,hgr.1⟩ hcl e
      · rename_i hb
        have hb:b=false:=hb
        subst hb
        split at e
        · cases e
        · rename_i hcl
          have hτ:TmEq τ τ1:=by
            intro E t
            unfold guardD at hgd
            split at hgd
            · cases hgd
            · split at hgd
              · cases hgd; rfl
              · split at hgd
                · simp only [Option.some.injEq,Prod.mk.injEq] at hgd; rw [hgd.2]
                · rename_i hs
                  simp only [Option.some.injEq,Prod.mk.injEq] at hgd
                  rw [← hgd.2]
                  exact tmEq_known hs E t
                · cases hgd; rfl
                · cases hgd
          exact go ⟨τ,h,key,false,τ1,.raw undef,[],[],key⟩ rfl rfl rfl
            ⟨hd.1,hd.2,⟨τ1,hgd,hτ⟩,fun _=>⟨rfl,rfl,rfl⟩,(fun h=>nomatch (show false=true from h)),Nat.le_refl _⟩ hcl e
theorem before_foldl (ops : List Oper) : ∀ (l : List Oper) (acc : Array Nat) (pre : List Oper), ops = pre ++ l → acc.size = pre.length →
    (∀ j i,Nat.testBit (acc.getD j 0) i=true→∃ o,ops[j]? = some o∧∃ e∈o.after.toList,Region.binds .any e=true∧(e.on=i∨(e.on<j∧Nat.testBit (acc.getD e.on 0) i=true))) →
    ∀ j i,Nat.testBit ((l.foldl (fun acc o=>acc.push (o.after.foldl (fun s e=>if Region.binds .any e then s ||| 2 ^ e.on ||| acc.getD e.on 0 else s) 0)) acc).getD j 0) i=true →
      ∃ o,ops[j]? = some o∧∃ e∈o.after.toList,Region.binds .any e=true∧(e.on=i∨(e.on<j∧Nat.testBit ((l.foldl (fun acc o=>acc.push (o.after.foldl (fun s e=>if Region.binds .any e then s ||| 2 ^ e.on ||| acc.getD e.on 0 else s) 0)) acc).getD e.on 0) i=true))
  | [],acc,pre,h1,h2,h3,j,i,h4=>h3 j i h4
  | o::l,acc,pre,h1,h2,h3,j,i,h4=>by
    simp only [List.foldl_cons] at h4 ⊢
    have bits:∀ (i:Nat) (es:List Edge) (s:Nat),Nat.testBit (es.foldl (fun s e=>if Region.binds .any e then s ||| 2 ^ e.on ||| acc.getD e.on 0 else s) s) i=true→Nat.testBit s i=true∨∃ e∈es,Region.binds .any e=true∧(e.on=i∨Nat.testBit (acc.getD e.on 0) i=true):=by
      intro i es
      induction es with
      | nil=>intro s h; exact .inl h
      | cons e es ih =>
        intro s h
        simp only [List.foldl_cons] at h
        rcases ih _ h with h | ⟨e',he,h⟩
        · split at h
          · rename_i hb
            simp only [Nat.testBit_or,Bool.or_eq_true] at h
            rcases h with (h | h) | h
            · exact .inl h
            · refine .inr ⟨e,by simp,hb,.inl ?_⟩
              rw [Nat.testBit_two_pow] at h
              simpa using h
            · exact .inr ⟨e,by simp,hb,.inr h⟩
          · exact .inl h
        · exact .inr ⟨e',by simp [he],h⟩
    refine before_foldl ops l _ (pre++[o]) (by simp [h1]) (by simp [h2]) ?_ j i h4
    intro j i hb
    have getP : ∀ k, (acc.push (o.after.foldl (fun s e => if Region.binds .any e then s ||| 2 ^ e.on ||| acc.getD e.on 0 else s) 0)).getD k 0 =
        if k=acc.size then (o.after.foldl (fun s e=>if Region.binds .any e then s ||| 2 ^ e.on ||| acc.getD e.on 0 else s) 0) else acc.getD k 0:=by
      intro k
      simp only [Array.getD_eq_getD_getElem?,Array.getElem?_push]
      split <;> rfl
    have small:∀ k i,Nat.testBit (acc.getD k 0) i=true→k<acc.size:=by
      intro k i hk
      cases Nat.lt_or_ge k acc.size with
      | inl h=>exact h
      | inr h =>
        simp only [Array.getD_eq_getD_getElem?,Array.getElem?_eq_none h,Option.getD_none,Nat.zero_testBit] at hk
        cases hk
    rw [getP] at hb
    by_cases hj:j=acc.size
    · rw [if_pos hj,← Array.foldl_toList] at hb
      refine ⟨o,by rw [h1,hj,h2]; simp,?_⟩
      rcases bits i _ 0 hb with hb | ⟨e,he,hbe,hor⟩
      · simp at hb
      · refine ⟨e,he,hbe,hor.imp id fun hor=>?_⟩
        have:=small e.on i hor
        rw [getP,if_neg (by omega)]
        exact ⟨by omega,hor⟩
    · rw [if_neg hj] at hb
      obtain ⟨o',ho',e,he,hbe,hor⟩:=h3 j i hb
      have hlt:=small j i hb
      refine ⟨o',ho',e,he,hbe,hor.imp id fun hor=>⟨hor.1,?_⟩⟩
      rw [getP,if_neg (by omega)]
      exact hor.2
theorem before_closed {ops : Array Oper} {D : Nat → Prop} (hD : ∀ j, D j → ∀ o, ops[j]? = some o → ∀ e ∈ o.after.toList, Region.binds .any e = true → D e.on) :
    ∀ (n j i:Nat),j≤n→Nat.testBit ((Region.before ops).getD j 0) i=true→(∀ o,ops[j]? = some o→∀ e∈o.after.toList,Region.binds .any e=true→D e.on)→D i:=by
  have hb:∀ j i,Nat.testBit ((Region.before ops).getD j 0) i=true→∃ o,ops[j]? = some o∧∃ e∈o.after.toList,Region.binds .any e=true∧(e.on=i∨(e.on<j∧Nat.testBit ((Region.before ops).getD e.on 0) i=true)):=by
    intro j i h
    have:=before_foldl ops.toList ops.toList #[] [] rfl rfl (fun j i h=>by simp at h) j i (by
      unfold Region.before at h
      rw [← Array.foldl_toList] at h
      exact h)
    unfold Region.before
    rw [← Array.foldl_toList]
    obtain ⟨o,ho,e,he,h1,h2⟩:=this
    exact ⟨o,by simpa using ho,e,he,h1,h2⟩
  intro n
  induction n with
  | zero =>
    intro j i hj h hp
    obtain ⟨o,ho,e,he,h1,h2⟩:=hb j i h
    rcases h2 with h2 | h2
    · exact h2 ▸ hp o ho e he h1
    · omega
  | succ n ih =>
    intro j i hj h hp
    obtain ⟨o,ho,e,he,h1,h2⟩:=hb j i h
    rcases h2 with h2 | ⟨h2,h3⟩
    · exact h2 ▸ hp o ho e he h1
    · exact ih e.on i (by omega) h3 (hD e.on (hp o ho e he h1))
def lkF (rec:Nat→DRec) (lk:Look) (D:Nat→Bool):Nat→Look
  | 0=>lk
  | m+1=>match D m with
    | true=>hupd (lkF rec lk D m) (rec m).W
    | false=>lkF rec lk D m
def tmF (rec:Nat→DRec) (dst:Nat→Option Tmp) (τ:Tm) (D:Nat→Bool):Nat→Tm
  | 0=>τ
  | m+1=>match D m with
    | true=>tput (dst m) (rec m).v (tmF rec dst τ D m)
    | false=>tmF rec dst τ D m
theorem hupd_ne {lk:Look} {W:Aq} {k:Nat} (h:k ∉ wkeys W):hupd lk W k=lk k:=by
  unfold hupd
  rw [wget_none h]
theorem hupd_in {lk lk':Look} {W:Aq} {k:Nat} (h:k∈wkeys W):hupd lk W k=hupd lk' W k:=by
  unfold hupd
  cases hw:wget k W with
  | none=>exact absurd h (wget_none_iff.1 hw)
  | some o=>rfl
theorem lkF_congr (rec:Nat→DRec) (lk:Look) (D D':Nat→Bool) (k:Nat):∀ m,(∀ j,j<m→k∈wkeys (rec j).W→D j=D' j)→lkF rec lk D m k=lkF rec lk D' m k
  | 0,_=>rfl
  | m+1,h=>by
    have ih:=lkF_congr rec lk D D' k m fun j hj=>h j (by omega)
    simp only [lkF]
    by_cases hk:k∈wkeys (rec m).W
    · rw [h m (by omega) hk]
      cases D' m with
      | true=>exact hupd_in hk
      | false=>exact ih
    · cases D m <;> cases D' m <;> simp only [hupd_ne hk] <;> exact ih
theorem tmF_congr (rec:Nat→DRec) (dst:Nat→Option Tmp) (τ:Tm) (D D':Nat→Bool) (t:Nat):∀ m,(∀ j,j<m→dst j=some t→D j=D' j)→tget t (tmF rec dst τ D m)=tget t (tmF rec dst τ D' m)
  | 0,_=>rfl
  | m+1,h=>by
    have ih:=tmF_congr rec dst τ D D' t m fun j hj=>h j (by omega)
    simp only [tmF]
    by_cases hk:dst m=some t
    · rw [h m (by omega) hk]
      cases D' m with
      | true=>simp [tget_put,hk]
      | false=>exact ih
    · cases D m <;> cases D' m <;> simp only [tget_put,hk,if_false] <;> exact ih
theorem lkF_stop (rec:Nat→DRec) (lk:Look) (D:Nat→Bool) (i:Nat) (hD:∀ j,i≤j→D j=false):∀ m,i≤m→lkF rec lk D m=lkF rec lk D i
  | 0, h => by have : i = 0 := by omega
               subst this; rfl
  | m+1,h=>by
    by_cases hm:i=m+1
    · subst hm; rfl
    · simp only [lkF]
      rw [hD m (by omega)]
      exact lkF_stop rec lk D i hD m (by omega)
theorem tmF_stop (rec:Nat→DRec) (dst:Nat→Option Tmp) (τ:Tm) (D:Nat→Bool) (i:Nat) (hD:∀ j,i≤j→D j=false):∀ m,i≤m→tmF rec dst τ D m=tmF rec dst τ D i
  | 0, h => by have : i = 0 := by omega
               subst this; rfl
  | m+1,h=>by
    by_cases hm:i=m+1
    · subst hm; rfl
    · simp only [tmF]
      rw [hD m (by omega)]
      exact tmF_stop rec dst τ D i hD m (by omega)
end
end Go.Eng
set_option linter.unusedSimpArgs false
set_option linter.unusedVariables false
namespace Go.Eng
section
variable {P:Program} {T:Tab}
theorem countP_lt {α:Type} {p q:α→Bool} : ∀ {l:List α},(∀ x∈l,p x=true→q x=true)→(∃ x∈l,q x=true∧p x=false)→l.countP p<l.countP q
  | [],_,h=>by obtain ⟨x,hx,_⟩:=h; cases hx
  | y::l,h1,h2=>by
    have h1':∀ x∈l,p x=true→q x=true:=fun x hx=>h1 x (List.mem_cons_of_mem _ hx)
    have hle:l.countP p≤l.countP q:=by
      clear h2 h1
      induction l with
      | nil=>simp
      | cons z l ih =>
        have:=ih fun x hx=>h1' x (List.mem_cons_of_mem _ hx)
        have hz:=h1' z List.mem_cons_self
        rw [List.countP_cons,List.countP_cons]
        cases hp:p z
        · simp; omega
        · simp [hz hp]; omega
    rw [List.countP_cons,List.countP_cons]
    obtain ⟨x,hx,hq,hp⟩:=h2
    rcases List.mem_cons.1 hx with rfl | hx
    · simp [hq,hp]; omega
    · have:=countP_lt h1' ⟨x,hx,hq,hp⟩
      have hy:=h1 y List.mem_cons_self
      cases hpy:p y
      · simp; omega
      · simp [hy hpy]; omega
theorem lkF_insert (rc : Nat → DRec) (lk : Look) {D D' : Nat → Bool} {i n : Nat} (hi : i < n) (hD : D' i = true) (hne : ∀ j, j ≠ i → D' j = D j)
    (hw:∀ j k,i<j→D j=true→k∈wkeys (rc i).W→k∈wkeys (rc j).W→False):lkF rc lk D' n=hupd (lkF rc lk D n) (rc i).W:=by
  funext k
  by_cases hk:k∈wkeys (rc i).W
  · have h1 := lkF_congr rc lk D' (fun j => D' j && decide (j ≤ i)) k n (fun j _ hkj => by
      by_cases hj:j≤i
      · simp [hj]
      · have : D' j = false := by
          rw [hne j (by omega)]
          cases hDj:D j
          · rfl
          · exact (hw j k (by omega) hDj hk hkj).elim
        simp [this])
    rw [h1,lkF_stop rc lk (fun j=>D' j&&decide (j≤i)) (i+1) (fun j hj=>by simp; intro _; omega) n (by omega)]
    simp only [lkF,hD,Nat.le_refl,decide_true,Bool.and_self]
    exact hupd_in hk
  · rw [hupd_ne hk]
    exact lkF_congr rc lk D' D k n fun j _ hkj=>hne j (fun e=>hk (e ▸ hkj))
theorem tmF_insert (rc : Nat → DRec) (dst : Nat → Option Tmp) (τ : Tm) {D D' : Nat → Bool} {i n : Nat} (hi : i < n) (hD : D' i = true) (hne : ∀ j, j ≠ i → D' j = D j)
    (hw:∀ j t,i<j→D j=true→dst i=some t→dst j=some t→False) (t:Nat):tget t (tmF rc dst τ D' n)=tget t (tput (dst i) (rc i).v (tmF rc dst τ D n)):=by
  rw [tget_put]
  by_cases hk:dst i=some t
  · rw [if_pos hk]
    have h1:=tmF_congr rc dst τ D' (fun j=>D' j&&decide (j≤i)) t n (fun j _ hkj=>by
      by_cases hj:j≤i
      · simp [hj]
      · have : D' j = false := by
          rw [hne j (by omega)]
          cases hDj:D j
          · rfl
          · exact (hw j t (by omega) hDj hk hkj).elim
        simp [this])
    rw [h1,tmF_stop rc dst τ (fun j=>D' j&&decide (j≤i)) (i+1) (fun j hj=>by simp; intro _; omega) n (by omega)]
    simp only [tmF,hD,Nat.le_refl,decide_true,Bool.and_self]
    rw [tget_put,if_pos hk]
  · rw [if_neg hk]
    exact tmF_congr rc dst τ D' D t n fun j _ hkj=>hne j (fun e=>hk (e ▸ hkj))
theorem memK_iff {g:Nat} : ∀ {ks:List Nat},memK g ks=true↔g∈ks
  | []=>by simp [memK]
  | j::ks=>by
    simp only [memK,List.mem_cons]
    by_cases hj:j=g
    · subst hj; simp
    · rw [beq_ne hj]
      simp [memK_iff (ks:=ks),Ne.symm hj]
theorem meets_false {a b:List Nat} (h:meets a b=false) {k:Nat} (ha:k∈a) (hb:k∈b):False:=by
  have:=List.any_eq_false.1 h k ha
  exact this (memK_iff.2 hb)
theorem clash_false {ops : Array Oper} {bef : Nat} {o x : Oper} {R W : List Nat} {c : Cert} (h : clash ops bef o R W c = false) (hb : Nat.testBit bef c.i = false) (hx : ops[c.i]? = some x) :
    Oper.apart ops x o=true∧meets c.W R=false∧meets c.W W=false∧meets W c.R=false:=by
  unfold clash at h
  rw [hb,hx] at h
  dsimp only at h
  split at h
  · rename_i h1 h2 h3 h4
    exact ⟨h1,h2,h3,h4⟩
  · cases h
theorem draw_sound (hT : TabOK P T) (hm : P.follows .mixedOrders = true) {call : CallD} (hc : CallOK P call) (hg : CallG call) (nt id : Nat) (ops : Array Oper) (τ : Tm) (h : Aq) (key : Nat) (q : Tm × Aq × Nat)
    (e:drawD P T call nt ops (Region.before ops).toList ops.toList 0 [] τ h key=some q) (A:Nat→Prop) (E:Env) (a0:Act) (w0:World) (Q:Exit→Act→World→Prop) (hS:StU A E nt τ (AO h) a0 w0)
    (hk:∀ k,key≤k→k<q.2.2→¬ A k)
    (hQ:∀ a' w' E1,StU (rng A key q.2.2) E1 nt q.1 (AO q.2.1) a' w'→Ext A E (AO h) w0 E1 (AO q.2.1) w'→Q .normal a' w') :
    (Code.region id ops true).wp P Q a0 w0:=by
  obtain ⟨rs,r1,r2,r3,r4,r5,r6⟩:=drawD_recs hT hc hg nt ops _ _ _ _ _ _ _ _ e
  have hn:rs.length=ops.size:=by simpa using r1
  let rc:Nat→DRec:=fun j=>rs.getD j default
  let dst:Nat→Option Tmp:=fun j=>(ops[j]?).bind (·.dst)
  have hrec:∀ j,j<ops.size→rs[j]? = some (rc j):=fun j hj=>by
    simp [rc,List.getD,List.getElem?_eq_getElem (show j<rs.length by omega)]
  have ho:∀ j (hj:j<ops.size),ops[j]? = some ops[j]:=fun j hj=>Array.getElem?_eq_getElem hj
  have hol:∀ j (hj:j<ops.size),ops.toList[j]? = some ops[j]:=fun j hj=>by simp [hj]
  have hdst:∀ j (hj:j<ops.size),dst j=ops[j].dst:=fun j hj=>by simp [dst,ho j hj]
  have ok:∀ j (hj:j<ops.size),RecOK P nt ops j ops[j] (rc j):=fun j hj=>by
    have:=(r2 j _ _ (hol j hj) (hrec j hj)).1
    simpa using this
  have noclash:∀ j (hj:j<ops.size) j',j'<j→clash ops ((Region.before ops).getD j 0) ops[j] (rc j).R (wkeys (rc j).W) ⟨j',(rc j').R,wkeys (rc j').W⟩=false:=fun j hj j' hj'=>by
    have:=(r2 j _ _ (hol j hj) (hrec j hj)).2.2 j' _ hj' (hrec j' (by omega))
    simp only [Nat.zero_add] at this
    have eb:(Region.before ops).toList.getD j 0=(Region.before ops).getD j 0:=by
      simp [Array.getD_eq_getD_getElem?,List.getD]
    rwa [eb] at this
  have next:∀ j,j+1<ops.size→(rc (j+1)).τ=tput (dst j) (rc j).v (rc j).τ2∧(rc (j+1)).h=(rc j).W++(rc j).h∧(rc (j+1)).key=(rc j).key':=fun j hj=>by
    rw [hdst j (by omega)]
    exact r4 j _ _ _ (hrec j (by omega)) (hrec (j+1) hj) (hol j (by omega))
  have zero:0<ops.size→(rc 0).τ=τ∧(rc 0).h=h∧(rc 0).key=key:=fun hp=>r3 _ (hrec 0 hp)
  have last:0<ops.size→q=(tput (dst (ops.size - 1)) (rc (ops.size - 1)).v (rc (ops.size - 1)).τ2,(rc (ops.size - 1)).W++(rc (ops.size - 1)).h,(rc (ops.size - 1)).key'):=fun hp=>by
    rw [hdst _ (by omega)]
    refine r5 _ _ ?_ ?_
    · rw [List.getLast?_eq_getElem?,hn]; exact hrec _ (by omega)
    · rw [List.getLast?_eq_getElem?,Array.length_toList]; exact hol _ (by omega)
  have nil:ops.size=0→q=(τ,h,key):=fun hz=>r6 (List.eq_nil_of_length_eq_zero (by omega))
  let all:Nat→Bool:=fun _=>true
  have lex:∀ i,i<ops.size→AO (rc i).h=lkF rc (AO h) all i∧TmEq (tmF rc dst τ all i) (rc i).τ:=by
    intro i
    induction i with
    | zero=>intro hi; obtain ⟨h1,h2,_⟩:=zero hi; exact ⟨by rw [h2]; rfl,by rw [h1]; exact TmEq.refl _⟩
    | succ i ih =>
      intro hi
      obtain ⟨h1,h2⟩:=ih (by omega)
      obtain ⟨h3,h4,_⟩:=next i hi
      refine ⟨?_,?_⟩
      · rw [h4,lookOf_append,h1]; rfl
      · rw [h3]
        intro E t
        obtain ⟨τ1,_,hτ⟩:=(ok i (by omega)).guard
        have:=(h2.trans hτ) E t
        simp only [tmF,all,tget_put]
        split
        · rfl
        · exact this
  have keys:∀ i,i<ops.size→key≤(rc i).key∧(rc i).key≤(rc i).key'∧(rc i).key'≤q.2.2:=by
    have lo:∀ i,i<ops.size→key≤(rc i).key:=by
      intro i
      induction i with
      | zero=>intro hi; rw [(zero hi).2.2]; exact Nat.le_refl _
      | succ i ih =>
        intro hi
        have h1:=ih (by omega)
        have h2:=(ok i (by omega)).le
        rw [(next i hi).2.2]
        omega
    have hi':∀ m i,i+m+1=ops.size→(rc i).key'≤q.2.2:=by
      intro m
      induction m with
      | zero =>
        intro i hi
        have hl:=last (by omega)
        have:ops.size - 1=i:=by omega
        rw [this] at hl
        rw [hl]
        exact Nat.le_refl _
      | succ m ih =>
        intro i hi
        have h1:=ih (i+1) (by omega)
        have h2:=(ok (i+1) (by omega)).le
        have h3:=(next i (by omega)).2.2
        omega
    exact fun i hi=>⟨lo i hi,(ok i hi).le,hi' (ops.size - i - 1) i (by omega)⟩
  have apartKeys:∀ j i,j<i→i<ops.size→(rc j).key'≤(rc i).key:=by
    intro j i hji hi
    induction i with
    | zero=>omega
    | succ i ih =>
      by_cases hj:j=i
      · subst hj; rw [(next j hi).2.2]; exact Nat.le_refl _
      · have h1:=ih (by omega) (by omega)
        have h2:=(ok i (by omega)).le
        rw [(next i hi).2.2]
        omega
  have final:AO q.2.1=lkF rc (AO h) all ops.size∧TmEq (tmF rc dst τ all ops.size) q.1:=by
    by_cases hz:ops.size=0
    · rw [nil hz,hz]; exact ⟨rfl,TmEq.refl _⟩
    · obtain ⟨m,hmm⟩:∃ m,ops.size=m+1:=⟨ops.size - 1,by omega⟩
      have hl:=last (by omega)
      have hm1:ops.size - 1=m:=by omega
      rw [hm1] at hl
      obtain ⟨h1,h2⟩:=lex m (by omega)
      rw [hl,hmm]
      refine ⟨?_,?_⟩
      · dsimp only; rw [lookOf_append,h1]; rfl
      · intro E t
        obtain ⟨τ1,_,hτ⟩:=(ok m (by omega)).guard
        have:=(h2.trans hτ) E t
        simp only [tmF,all,tget_put]
        split
        · rfl
        · exact this
  let Dn:Array Bool→Nat→Bool:=fun listed j=>listed.getD j false
  let AD:(Nat→Bool)→Nat→Prop:=fun D k=>A k∨∃ j,j<ops.size∧D j=true∧(rc j).key≤k∧k<(rc j).key'
  let Inv:Array Bool→Act→World→Prop:=fun listed a w=>listed.size=ops.size ∧
    (∀ j,Dn listed j=true→∀ o,ops[j]? = some o→∀ e∈o.after.toList,Region.binds .any e=true→Dn listed e.on=true) ∧
    ∃ E1,StU (AD (Dn listed)) E1 nt (tmF rc dst τ (Dn listed) ops.size) (lkF rc (AO h) (Dn listed) ops.size) a w∧Ext A E (AO h) w0 E1 (lkF rc (AO h) (Dn listed) ops.size) w
  have main:∀ fuel listed a w,Inv listed a w→(List.range ops.size).countP (fun j=>!Dn listed j)≤fuel→wpAny P .any ops Q fuel listed a w:=by
    have done:∀ listed a w,Inv listed a w→(∀ j,j<ops.size→Dn listed j=true)→Region.ready .any ops listed=[]∧Q .normal a w:=by
      rintro listed a w ⟨hsz,_,E1,hst,hx⟩ hall
      refine ⟨?_,?_⟩
      · cases hr:Region.ready .any ops listed with
        | nil=>rfl
        | cons j js =>
          obtain ⟨h1,o,h2,_⟩:=mem_ready.1 (show j∈Region.ready .any ops listed by rw [hr]; simp)
          have hj:j<ops.size:=(Array.getElem?_eq_some_iff.1 h2).1
          have:=hall j hj
          simp only [Dn,Array.getD_eq_getD_getElem?,Array.getElem?_eq_getElem (show j<listed.size by omega),Option.getD_some] at this h1
          rw [this] at h1
          cases h1
      · have el : lkF rc (AO h) (Dn listed) ops.size = AO q.2.1 := by
          rw [final.1]
          funext k
          exact lkF_congr _ _ _ _ k _ fun j hj _=>by rw [hall j hj]
        have et:TmEq (tmF rc dst τ (Dn listed) ops.size) q.1:=by
          refine TmEq.trans ?_ final.2
          intro E t
          rw [tmF_congr rc dst τ (Dn listed) all t _ fun j hj _=>by rw [hall j hj]]
        rw [el] at hst hx
        refine hQ a w E1 ((hst.tmEq et).same ?_) hx
        rintro k (h1 | ⟨j,h1,_,h3,h4⟩)
        · exact .inl h1
        · have:=keys j h1
          exact .inr ⟨by omega,by omega⟩
    have step : ∀ listed a w i, Inv listed a w → i ∈ Region.ready .any ops listed → ∀ K : Act → World → Prop,
        (∀ a' w',Inv (listed.setIfInBounds i true) a' w'→K a' w')→wpOp P ops Q i K a w:=by
      rintro listed a w i ⟨hsz,hcl,E1,hst,hx⟩ hri K hK
      obtain ⟨hun,o,hoi,hpre⟩:=mem_ready.1 hri
      have hi:i<ops.size:=(Array.getElem?_eq_some_iff.1 hoi).1
      have hoe:ops[i]=o:=(Array.getElem?_eq_some_iff.1 hoi).2
      have hDi:Dn listed i=false:=by
        simp only [Dn,Array.getD_eq_getD_getElem?,Array.getElem?_eq_getElem (show i<listed.size by omega),Option.getD_some] at hun ⊢
        exact hun
      have hpre':∀ o',ops[i]? = some o'→∀ e∈o'.after.toList,Region.binds .any e=true→Dn listed e.on=true:=by
        intro o' ho' e he hb
        rw [hoi] at ho'
        cases ho'
        exact hpre e (by simpa using he) hb
      have before1:∀ j,Nat.testBit ((Region.before ops).getD i 0) j=true→Dn listed j=true:=fun j hj =>
        before_closed (D:=fun j=>Dn listed j=true) hcl i i j (Nat.le_refl _) hj hpre'
      have before2:∀ j,Dn listed j=true→Nat.testBit ((Region.before ops).getD j 0) i=false:=by
        intro j hj
        cases hb:Nat.testBit ((Region.before ops).getD j 0) i with
        | false=>rfl
        | true =>
          have:=before_closed (D:=fun j=>Dn listed j=true) hcl j j i (Nat.le_refl _) hb (hcl j hj)
          rw [hDi] at this
          cases this
      have early:∀ j,j<i→Dn listed j=false→Oper.apart ops (ops.getD j default) o=true∧meets (wkeys (rc j).W) (rc i).R=false∧meets (wkeys (rc j).W) (wkeys (rc i).W)=false∧meets (wkeys (rc i).W) (rc j).R=false:=by
        intro j hji hDj
        have hb:Nat.testBit ((Region.before ops).getD i 0) j=false:=by
          cases hb:Nat.testBit ((Region.before ops).getD i 0) j with
          | false=>rfl
          | true=>rw [before1 j hb] at hDj; cases hDj
        have hx:ops[j]? = some (ops.getD j default):=by simp [Array.getD_eq_getD_getElem?,Array.getElem?_eq_getElem (show j<ops.size by omega)]
        have:=clash_false (noclash i hi j hji) hb hx
        rw [hoe] at this
        exact this
      have later:∀ j,i<j→Dn listed j=true→j<ops.size∧Oper.apart ops o (ops.getD j default)=true∧meets (wkeys (rc i).W) (rc j).R=false∧meets (wkeys (rc i).W) (wkeys (rc j).W)=false∧meets (wkeys (rc j).W) (rc i).R=false:=by
        intro j hji hDj
        have hj:j<ops.size:=by
          cases Nat.lt_or_ge j ops.size with
          | inl h=>exact h
          | inr h=>simp [Dn,Array.getD_eq_getD_getElem?,Array.getElem?_eq_none (show listed.size≤j by omega)] at hDj
        have:=clash_false (noclash j hj i hji) (before2 j hDj) hoi
        have hgd:ops.getD j default=ops[j]:=by simp [Array.getD_eq_getD_getElem?,Array.getElem?_eq_getElem hj]
        rw [hgd]
        exact ⟨hj,this⟩
      have hgdst:∀ j,j<ops.size→(ops.getD j default).dst=dst j:=fun j hj=>by
        rw [hdst j hj]; simp [Array.getD_eq_getD_getElem?,Array.getElem?_eq_getElem hj]
      have reads:∀ k∈(rc i).R,lkF rc (AO h) (Dn listed) ops.size k=hget k (rc i).h:=by
        intro k hkR
        have h1:=lkF_congr rc (AO h) (Dn listed) (fun j=>decide (j<i)) k ops.size (fun j hj hkW=>by
          by_cases hji:j<i
          · simp only [hji,decide_true]
            cases hDj:Dn listed j with
            | true=>rfl
            | false=>exact (meets_false (early j hji hDj).2.1 hkW hkR).elim
          · simp only [hji,decide_false]
            cases hDj:Dn listed j with
            | false=>rfl
            | true =>
              by_cases hje:j=i
              · subst hje; rw [hDi] at hDj; cases hDj
              · exact (meets_false (later j (by omega) hDj).2.2.2.2 hkW hkR).elim)
        rw [h1,lkF_stop rc (AO h) (fun j=>decide (j<i)) i (fun j hj=>by simp; omega) ops.size (by omega)]
        have h2:=lkF_congr rc (AO h) (fun j=>decide (j<i)) all k i (fun j hj _=>by simp [hj,all])
        rw [h2,← (lex i hi).1]
        rfl
      have looks:∀ t∈o.looksAt ops,∀ E':Env,den E' (tget t (tmF rc dst τ (Dn listed) ops.size))=den E' (tget t (rc i).τ):=by
        intro t ht E'
        have h1:=tmF_congr rc dst τ (Dn listed) (fun j=>decide (j<i)) t ops.size (fun j hj hdj=>by
          by_cases hji:j<i
          · simp only [hji,decide_true]
            cases hDj:Dn listed j with
            | true=>rfl
            | false =>
              have:=(Oper.apart_spec (early j hji hDj).1).1 t (by rw [hgdst j hj]; exact hdj)
              exact absurd ht this
          · simp only [hji,decide_false]
            cases hDj:Dn listed j with
            | false=>rfl
            | true =>
              by_cases hje:j=i
              · subst hje; rw [hDi] at hDj; cases hDj
              · have:=(Oper.apart_spec (later j (by omega) hDj).2.1).2.2 t (by rw [hgdst j hj]; exact hdj)
                exact absurd ht this)
        rw [h1,tmF_stop rc dst τ (fun j=>decide (j<i)) i (fun j hj=>by simp; omega) ops.size (by omega)]
        have h2:=tmF_congr rc dst τ (fun j=>decide (j<i)) all t i (fun j hj _=>by simp [hj,all])
        rw [h2]
        exact ((lex i hi).2 E' t).symm
      have oki:=ok i hi
      rw [hoe] at oki
      obtain ⟨τ1,hgd,hτ⟩:=oki.guard
      have hgs:=guardD_spec hgd (E:=E1) (a:=a) (fun t=>by
        split
        · trivial
        · rename_i j wnt hgo
          intro he
          rw [hst.tm E1 (Ae.refl _ _) t]
          refine looks t ?_ E1
          unfold Oper.looksAt
          rw [hgo]
          simp [he])
      have hset:∀ j,Dn (listed.setIfInBounds i true) j=if j=i then true else Dn listed j:=by
        intro j
        simp only [Dn,Array.getD_eq_getD_getElem?]
        by_cases hji:j=i
        · subst hji; simp [show j<listed.size by omega]
        · rw [Array.getElem?_setIfInBounds_ne (Ne.symm hji),if_neg hji]
      have hDi':Dn (listed.setIfInBounds i true) i=true:=by rw [hset,if_pos rfl]
      have hne':∀ j,j≠i→Dn (listed.setIfInBounds i true) j=Dn listed j:=fun j hj=>by rw [hset,if_neg hj]
      have elk:lkF rc (AO h) (Dn (listed.setIfInBounds i true)) ops.size=hupd (lkF rc (AO h) (Dn listed) ops.size) (rc i).W :=
        lkF_insert rc _ hi hDi' hne' fun j k hj hDj h1 h2=>meets_false (later j hj hDj).2.2.2.1 h1 h2
      have etm:∀ t,tget t (tmF rc dst τ (Dn (listed.setIfInBounds i true)) ops.size)=tget t (tput o.dst (rc i).v (tmF rc dst τ (Dn listed) ops.size)):=by
        intro t
        have:=tmF_insert rc dst τ hi hDi' hne' (fun j t hj hDj h1 h2=>by
          have hl:=later j hj hDj
          have:=(Oper.apart_spec hl.2.1).2.1 t (by rw [← hoe,← hdst i hi]; exact h1)
          exact this (by rw [hgdst j hl.1]; exact h2)) t
        rw [this,hdst i hi,hoe]
      have fresh:∀ k,(rc i).key≤k→k<(rc i).key'→¬ AD (Dn listed) k:=by
        rintro k h1 h2 (h3 | ⟨j,h3,h4,h5,h6⟩)
        · have:=keys i hi
          exact hk k (by omega) (by omega) h3
        · by_cases hji:j=i
          · subst hji; rw [hDi] at h4; cases h4
          · rcases Nat.lt_or_ge j i with hlt | hge
            · have:=apartKeys j i hlt hi; omega
            · have:=apartKeys i j (by omega) h3; omega
      have inv' : ∀ a' w' E2, StU (rng (AD (Dn listed)) (rc i).key (rc i).key') E2 nt (tput o.dst (rc i).v (tmF rc dst τ (Dn listed) ops.size)) (hupd (lkF rc (AO h) (Dn listed) ops.size) (rc i).W) a' w' →
          Ext A E (AO h) w0 E2 (hupd (lkF rc (AO h) (Dn listed) ops.size) (rc i).W) w'→Inv (listed.setIfInBounds i true) a' w':=by
        intro a' w' E2 hst' hx'
        refine ⟨by simpa using hsz,?_,E2,?_,?_⟩
        · intro j hj o' ho' e he hb
          rw [hset] at hj ⊢
          split
          · rfl
          · split at hj
            · rename_i hji; subst hji; exact hpre' o' ho' e he hb
            · exact hcl j hj o' ho' e he hb
        · rw [elk]
          have:StU (AD (Dn (listed.setIfInBounds i true))) E2 nt (tput o.dst (rc i).v (tmF rc dst τ (Dn listed) ops.size)) (hupd (lkF rc (AO h) (Dn listed) ops.size) (rc i).W) a' w':=by
            refine hst'.same ?_
            rintro k ((h1 | ⟨j,h1,h2,h3⟩) | h1)
            · exact .inl h1
            · refine .inr ⟨j,h1,?_,h3⟩
              rw [hset]
              split
              · rfl
              · exact h2
            · exact .inr ⟨i,hi,hDi',h1⟩
          refine this.tmEq fun E t=>?_
          rw [etm]
        · rw [elk]; exact hx'
      unfold wpOp
      rw [hoi]
      dsimp only
      rw [hgs.1]
      have hdok:=oki.dst
      cases hb:(rc i).b with
      | false =>
        simp only [Bool.false_eq_true,if_false]
        obtain ⟨s1,s2,s3⟩:=oki.skip hb
        refine hK _ w (inv' _ w E1 ?_ ?_)
        · rw [s2,hupd_nil]
          exact hst.put (Ae.refl _ _) (fun _ h=>.inl h) (hst.rel.same fun _ h=>.inl h) hdok (val:=undef) (fun _ _=>by rw [s1]; rfl)
        · rw [s2,hupd_nil]; exact hx
      | true =>
        simp only [if_true]
        refine .inl ?_
        refine oki.step hb (AD (Dn listed)) E1 _ w a K Q hst.rel reads fresh (fun E' h' x hxo=>?_) (fun val w' E2 hv hr hx2=>?_)
        · cases x with
          | tmp t =>
            show a.tmps.getD t undef=den E' (tget t (rc i).τ2)
            rw [hst.tm E' h' t,hτ E' t]
            refine looks t ?_ E'
            unfold Oper.looksAt
            refine List.mem_append_left _ (List.mem_filterMap.2 ⟨.tmp t,by simpa using hxo,rfl⟩)
          | const v=>simp [Act.eval,aeval,den_ofV]
          | global g=>rfl
          | func f=>rfl
        · exact hK _ w' (inv' _ w' E2 (hst.put hx2.agree (fun _ h=>.inl h) hr hdok hv) (hx.trans hx2 fun _ h=>.inl h))
    intro fuel
    induction fuel with
    | zero =>
      intro listed a w hinv hcnt
      refine done listed a w hinv fun j hj=>?_
      have h0:(List.range ops.size).countP (fun j=>!Dn listed j)=0:=by omega
      rw [List.countP_eq_zero] at h0
      have:=h0 j (List.mem_range.2 hj)
      simpa using this
    | succ fuel ih =>
      intro listed a w hinv hcnt
      refine ⟨fun hr=>?_,fun i hi=>?_⟩
      · refine (done listed a w hinv fun j hj=>?_).2
        have:∀ n j,j≤n→j<ops.size→Dn listed j=true:=by
          intro n
          induction n with
          | zero =>
            intro j hjn hj
            have:j=0:=by omega
            subst this
            cases hD:Dn listed 0 with
            | true=>rfl
            | false =>
              have:0∈Region.ready .any ops listed:=mem_ready.2 ⟨by
                simp only [Dn,Array.getD_eq_getD_getElem?,Array.getElem?_eq_getElem (show 0<listed.size by have:=hinv.1; omega),Option.getD_some] at hD ⊢
                exact hD,_,ho 0 hj,fun e he hb=>by
                have:=List.all_eq_true.1 (ok 0 hj).edges e (by simpa using he)
                rw [hb] at this
                simp [Nat.blt] at this⟩
              rw [hr] at this
              cases this
          | succ n ihn =>
            intro j hjn hj
            by_cases hjn':j≤n
            · exact ihn j hjn' hj
            · cases hD:Dn listed j with
              | true=>rfl
              | false =>
                have:j∈Region.ready .any ops listed:=mem_ready.2 ⟨by
                  simp only [Dn,Array.getD_eq_getD_getElem?,Array.getElem?_eq_getElem (show j<listed.size by have:=hinv.1; omega),Option.getD_some] at hD ⊢
                  exact hD,_,ho j hj,fun e he hb=>by
                  have:=List.all_eq_true.1 (ok j hj).edges e (by simpa using he)
                  rw [hb] at this
                  have hlt:e.on+1≤j:=by simpa [Nat.blt] using this
                  exact ihn e.on (by omega) (by omega)⟩
                rw [hr] at this
                cases this
        exact this j j (Nat.le_refl _) hj
      · refine step listed a w i hinv hi _ fun a' w' hinv'=>ih _ a' w' hinv' ?_
        obtain ⟨hun,o,hoi,_⟩:=mem_ready.1 hi
        have hi':i<ops.size:=(Array.getElem?_eq_some_iff.1 hoi).1
        have hsz:=hinv.1
        have hDi:Dn listed i=false:=by
          simp only [Dn,Array.getD_eq_getD_getElem?,Array.getElem?_eq_getElem (show i<listed.size by omega),Option.getD_some] at hun ⊢
          exact hun
        have hset:∀ j,Dn (listed.setIfInBounds i true) j=if j=i then true else Dn listed j:=by
          intro j
          simp only [Dn,Array.getD_eq_getD_getElem?]
          by_cases hji:j=i
          · subst hji; simp [show j<listed.size by omega]
          · rw [Array.getElem?_setIfInBounds_ne (Ne.symm hji),if_neg hji]
        have:=countP_lt (l:=List.range ops.size) (p:=fun j=>!Dn (listed.setIfInBounds i true) j) (q:=fun j=>!Dn listed j) (fun x _ hx=>by
          simp only [hset] at hx
          split at hx
          · simp at hx
          · exact hx) ⟨i,List.mem_range.2 hi',by simp [hDi],by simp [hset]⟩
        omega
  refine wp_region_any hm ?_
  have hw0:RelU A E (AO h) { w0 with drawn:=w0.drawn+1 }:=hS.rel.world (Nat.le_refl _) (fun _ _=>rfl)
  have hD0:∀ j,Dn (Array.replicate ops.size false) j=false:=by
    intro j
    simp only [Dn,Array.getD_eq_getD_getElem?]
    cases hg:(Array.replicate ops.size false)[j]? with
    | none=>rfl
    | some b =>
      rw [Array.getElem?_replicate] at hg
      split at hg
      · cases hg; rfl
      · cases hg
  have l0:lkF rc (AO h) (Dn (Array.replicate ops.size false)) ops.size=AO h:=lkF_stop rc (AO h) _ 0 (fun j _=>hD0 j) ops.size (Nat.zero_le _)
  have t0:tmF rc dst τ (Dn (Array.replicate ops.size false)) ops.size=τ:=tmF_stop rc dst τ _ 0 (fun j _=>hD0 j) ops.size (Nat.zero_le _)
  refine main ops.size _ a0 _ ⟨by simp,(fun j hj=>by rw [hD0] at hj; cases hj),E,?_,?_⟩ (by
    refine Nat.le_trans (List.countP_le_length) (by simp))
  · rw [l0,t0]
    exact ⟨hw0.same fun _ h=>.inl h,hS.size,hS.defers,fun E' h' t=>hS.tm E' (h'.mono fun _ h=>.inl h) t⟩
  · rw [l0]
    exact ⟨rfl,rfl,rfl,Nat.le_refl _,Ae.refl _ _,fun _ _ _=>rfl,fun k o b h1 h2=>.inl ⟨k,o,h1,h2⟩,fun _ _ h=>⟨h,fun _ _=>rfl⟩,fun k len sz rows a h1 h2 h3=>.inl ⟨k,len,sz,rows,a,h1,h2,h3,rfl⟩⟩
def exOf:Ex→Exit
  | .normal=>.normal
  | .exit id=>.exit id
  | .ret=>.ret
def CodeSpec (P:Program) (nt:Nat) (c:Code) (τ:Tm) (h:Aq) (key:Nat) (s:St):Prop :=
  ∀ (A:Nat→Prop) (E:Env) (a:Act) (w:World) (Q:Exit→Act→World→Prop),StU A E nt τ (AO h) a w→(∀ k,key≤k→k<s.key→¬ A k) →
    (∀ a' w' E1,StU (rng A key s.key) E1 nt s.tm (AO s.heap) a' w'→Ext A E (AO h) w E1 (AO s.heap) w'→Q (exOf s.ex) a' w')→c.wp P Q a w
def blocksOf:Code→List (Nat×Code)
  | .seq a b=>blocksOf a++blocksOf b
  | .cond _ a b=>blocksOf a++blocksOf b
  | .block id x=>(id,x)::blocksOf x
  | .loop x=>blocksOf x
  | _=>[]
def BT (P:Program) (f:FuncId) (nt:Nat) (c:Code):Prop:=∃ fn c0,P.funcs[f]? = some fn∧fn.body=some c0∧fn.ntmps=nt∧∀ p∈blocksOf c,p∈blocksOf c0
structure TabAll (P:Program) (T:Tab):Prop extends TabOK P T where
  hkOK:∀ f id H,T.hk f id=some H→∀ nt x,BT P f nt (.block id x)→∀ τ h key s,(H.run τ h key).sel=some s→CodeSpec P nt (.block id x) τ h key s
theorem rng_trans {A:Nat→Prop} {k0 k1 k2:Nat} (h1:k0≤k1) (h2:k1≤k2):∀ k,rng (rng A k0 k1) k1 k2 k→rng A k0 k2 k:=by
  rintro k ((h | h) | h)
  · exact .inl h
  · exact .inr ⟨h.1,by omega⟩
  · exact .inr ⟨by omega,h.2⟩
theorem CodeSpec.then {nt : Nat} {c : Code} {τ : Tm} {h : Aq} {key : Nat} {s s2 : St} (hc : CodeSpec P nt c τ h key s) (g1 : key ≤ s.key) (g2 : s.key ≤ s2.key)
    {A:Nat→Prop} {E:Env} {a:Act} {w:World} {Q:Exit→Act→World→Prop} (hS:StU A E nt τ (AO h) a w) (hk:∀ k,key≤k→k<s2.key→¬ A k)
    (hQ:∀ a' w' E1,StU (rng A key s.key) E1 nt s.tm (AO s.heap) a' w'→(∀ k,s.key≤k→k<s2.key→¬ rng A key s.key k) →
      (∀ a'' w'' E2,StU (rng (rng A key s.key) s.key s2.key) E2 nt s2.tm (AO s2.heap) a'' w''→Ext (rng A key s.key) E1 (AO s.heap) w' E2 (AO s2.heap) w'' →
        StU (rng A key s2.key) E2 nt s2.tm (AO s2.heap) a'' w''∧Ext A E (AO h) w E2 (AO s2.heap) w'')→Q (exOf s.ex) a' w'):c.wp P Q a w:=by
  refine hc A E a w Q hS (fun k h1 h2=>hk k h1 (by omega)) fun a' w' E1 hS1 hx1=>hQ a' w' E1 hS1 (fun k h1 h2=>?_) fun a'' w'' E2 hS2 hx2=>?_
  · rintro (h3 | h3)
    · exact hk k (by omega) h2 h3
    · omega
  · exact ⟨hS2.same (rng_trans g1 g2),hx1.trans hx2 fun _ h=>.inl h⟩
def resOne (tmps:Array Value):ResultVar→Sem Value
  | .tmp t=>Pure.pure (tmps.getD t undef)
  | .cell x t=>do loadVar t (← asAddr (tmps.getD x undef))
theorem results_sound {τ : Tm} {h : Aq} {E : Env} {lk : Look} {w : World} {a : Act} (hr : Rel E lk w) (hl : lk = AO h) (ht : ∀ t, a.tmps.getD t undef = den E (tget t τ)) : ∀ (rs : List ResultVar) (l : List AV), resA P τ h rs = some l →
    (rs.mapM (resOne a.tmps)).run P w = .ok (BM E l) w
  | [],l,e=>by
    simp only [resA,Option.some.injEq] at e
    subst e
    rfl
  | .tmp t::rest,l,e=>by
    simp only [resA] at e
    split at e
    · rename_i l' hl'
      cases e
      have ih:=results_sound hr hl ht rest l' hl'
      rw [List.mapM_cons]
      simp only [resOne,Sem.run_bind,Sem.run_pure,Result.andThen_ok,ih,BM,ht]
    · cases e
  | .cell x t::rest,l,e=>by
    simp only [resA] at e
    split at e
    · rename_i k off hx
      split at e
      · rename_i cs hk
        split at e
        · rename_i v l' hv hl'
          cases e
          have ih:=results_sound hr hl ht rest l' hl'
          obtain ⟨_,_,ty,hb⟩:=hr.obj k _ (by rw [hl]; exact hk)
          have:=loadVar_sound (P:=P) (E:=E) (w:=w) (B:=E.blk k) (o:=0) hv (fun j hj=>by
            rw [cell_of_row w _ _ _ ty _ hb]
            simp [denL_get])
          simp only [Nat.zero_add] at this
          rw [List.mapM_cons]
          simp only [resOne,Sem.run_bind,Sem.run_pure,ht,hx,den,asAddr,Result.andThen_ok,this,ih,BM]
        · cases e
      · cases e
    · cases e
theorem results_run {fn : Func} {τ : Tm} {h : Aq} {E : Env} {w : World} {a : Act} (hr : Rel E (AO h) w) (ht : ∀ t, a.tmps.getD t undef = den E (tget t τ)) {l : List AV} (hl : resA P τ h fn.results.toList = some l) :
    (results fn a.tmps).run P w = .ok (den E (resV l)) w:=by
  have:=results_sound (P:=P) (a:=a) hr rfl ht _ l hl
  have e0 : results fn a.tmps = (do
      let vs ← fn.results.mapM (resOne a.tmps)
      Pure.pure (if h:vs.size=1 then vs[0] else .tuple vs)):=by
    unfold results
    congr 1
  rw [e0,Array.mapM_eq_mapM_toList]
  simp only [Sem.run_bind,Sem.run_map,this,Result.andThen_ok,Sem.run_pure]
  congr 1
  match l with
  | []=>rfl
  | [v]=>simp [BM,resV]
  | v::v2::l =>
    rw [dif_neg (by simp [BM])]
    rfl
theorem argTm_get:∀ (l:List AV) (i t:Nat),tget t (argTm i l)=if i≤t then l.getD (t - i) (.raw undef) else .raw undef
  | [],i,t=>by simp [argTm,tget]
  | v::l,i,t=>by
    simp only [argTm,tget]
    by_cases h:i=t
    · subst h; simp
    · rw [beq_ne h]
      dsimp only
      rw [argTm_get l (i+1) t]
      by_cases h2:i≤t
      · rw [if_pos (by omega),if_pos h2]
        have:t - i=(t - (i+1))+1:=by omega
        rw [this]
        simp
      · rw [if_neg (by omega),if_neg h2]
theorem callWD_sound {run:FuncId→Nat→Code→Tm→Aq→Nat→Option St} (hr:∀ f nt c τ h key s,BT P f nt c→run f nt c τ h key=some s→CodeSpec P nt c τ h key s):CallOK P (callWD P run):=by
  intro f args h key v h' key' W e hW A E lk w vals hU hC hk hv
  have hC:lk=AO h:=hC
  subst hC
  unfold callWD at e
  split at e
  · rename_i fn hf
    split at e
    · rename_i c hb hle
      obtain ⟨s,hs,e⟩:=BC e
      have hle:=Nat.le_of_ble_eq_true hle
      have hvals:vals.size=args.length:=by rw [hv E (Ae.refl A E)]; simp [BL]
      refine calls_of_wp hf hb ?_
      refine hr f fn.ntmps c _ h key s ⟨fn,c,hf,hb,rfl,fun _ h=>h⟩ hs A E _ w _ ⟨hU,by simp; omega,rfl,fun E' h' t=>?_⟩ ?_ ?_
      · show (vals++Array.replicate (fn.ntmps - vals.size) undef).getD t undef=_
        rw [argTm_get,if_pos (Nat.zero_le _),Nat.sub_zero,hv E' h']
        simp only [Array.getD_eq_getD_getElem?,Array.getElem?_append,List.size_toArray,BL]
        by_cases hlt:t<args.length
        · rw [if_pos hlt]
          simp [denL_get,List.getD,List.getElem?_eq_getElem hlt]
        · rw [if_neg hlt]
          have h1:args.getD t (.raw undef) = .raw undef:=by simp [List.getD,List.getElem?_eq_none (Nat.le_of_not_lt hlt)]
          rw [h1]
          simp only [den]
          cases hg:(Array.replicate (fn.ntmps - args.length) undef)[t - args.length]? with
          | none=>rfl
          | some x =>
            rw [Array.getElem?_replicate] at hg
            split at hg
            · cases hg; rfl
            · cases hg
      · intro k h1 h2
        split at e
        · cases e
        · obtain ⟨l,_,e⟩:=Option.map_eq_some_iff.1 e
          cases e
          exact hk k h1 h2
      · intro a' w' E1 hS1 hx1
        have fin : ∀ l, resA P s.tm s.heap fn.results.toList = some l → (resV l, s.heap, s.key) = (v, h', key') →
            a'.defers=[]∧∃ v',(results fn a'.tmps).run P w' = .ok v' w'∧∃ val E1,Ending.returned v' = .returned val∧(∀ E',Ae (rng A key key') E1 E'→val=den E' v)∧RelU (rng A key key') E1 (hupd (AO h) W) w'∧Ext A E (AO h) w E1 (hupd (AO h) W) w':=by
          intro l hl e
          simp only [Prod.mk.injEq] at e
          obtain ⟨rfl,rfl,rfl⟩:=e
          have hrun:=fun E' (h':Ae (rng A key s.key) E1 E')=>results_run (P:=P) (fn:=fn) (hS1.rel.rel E' h') (hS1.tm E' h') hl
          refine ⟨hS1.defers,_,hrun E1 (Ae.refl _ _),_,E1,rfl,fun E' h'=>?_,?_,?_⟩
          · have:=(hrun E1 (Ae.refl _ _)).symm.trans (hrun E' h')
            injection this
          · rw [← lookOf_append,← hW]; exact hS1.rel
          · rw [← lookOf_append,← hW]; exact hx1
        cases hex:s.ex with
        | exit id=>rw [hex] at e; cases e
        | normal =>
          rw [hex] at e
          obtain ⟨l,hl,e⟩:=Option.map_eq_some_iff.1 e
          exact fin l hl e
        | ret =>
          rw [hex] at e
          obtain ⟨l,hl,e⟩:=Option.map_eq_some_iff.1 e
          exact fin l hl e
    · cases e
  · cases e
theorem within_sub {f:FuncId} {nt:Nat} {c c':Code} (h:BT P f nt c) (hs:∀ p∈blocksOf c',p∈blocksOf c):BT P f nt c':=by
  obtain ⟨fn,c0,h1,h2,h3,h4⟩:=h
  exact ⟨fn,c0,h1,h2,h3,fun p hp=>h4 p (hs p hp)⟩
def SoundAt (P:Program) (T:Tab) (n:Nat):Prop :=
  ∀ (f:FuncId) (nt:Nat) (c:Code) (τ:Tm) (h:Aq) (key:Nat) (s:St),BT P f nt c→codeD P T n f nt c τ h key=some s→CodeSpec P nt c τ h key s
theorem rounds_sound (hT : TabAll P T) {n : Nat} (hs : ∀ m, m ≤ n → SoundAt P T m) {f : FuncId} {nt : Nat} {x : Code} (hin : BT P f nt x) : ∀ (m : Nat), m ≤ n + 1 → ∀ (τ : Tm) (h : Aq) (key : Nat) (s : St), codeD P T m f nt (.loop x) τ h key = some s →
    ∀ (A:Nat→Prop) (E:Env) (a:Act) (w:World) (Q:Exit→Act→World→Prop),StU A E nt τ (AO h) a w→(∀ k,key≤k→k<s.key→¬ A k) →
    (∀ a' w' E1,StU (rng A key s.key) E1 nt s.tm (AO s.heap) a' w'→Ext A E (AO h) w E1 (AO s.heap) w'→Q (exOf s.ex) a' w')→Code.rounds P x Q m a w:=by
  intro m
  induction m with
  | zero=>intro _ τ h key s e; cases e
  | succ m ih =>
    intro hm τ h key s e A E a w Q hS hk hQ
    simp only [codeD] at e
    obtain ⟨s1,h1,e⟩:=BC e
    rw [rounds_succ]
    have hx:=hs m (by omega) f nt x τ h key s1 hin h1
    have g1:=(codeD_grows (P:=P) (T:=T) hT.toTabW m f nt x τ h key s1 h1).1
    cases hex:s1.ex with
    | normal =>
      rw [hex] at e
      have g2:=(codeD_grows (P:=P) (T:=T) hT.toTabW m f nt _ _ _ _ s e).1
      refine hx.then g1 g2 hS hk fun a' w' E1 hS1 hk1 hfin=>?_
      rw [hex]
      exact ih (by omega) _ _ _ s e _ E1 a' w' Q hS1 hk1 fun a'' w'' E2 hS2 hx2=>hQ a'' w'' E2 (hfin a'' w'' E2 hS2 hx2).1 (hfin a'' w'' E2 hS2 hx2).2
    | exit id =>
      rw [hex] at e
      cases e
      refine hx A E a w _ hS hk fun a' w' E1 hS1 hx1=>?_
      have:=hQ a' w' E1 hS1 hx1
      rw [hex] at this ⊢
      exact this
    | ret =>
      rw [hex] at e
      cases e
      refine hx A E a w _ hS hk fun a' w' E1 hS1 hx1=>?_
      have:=hQ a' w' E1 hS1 hx1
      rw [hex] at this ⊢
      exact this
theorem codeD_step (hT : TabAll P T) (hm : P.follows .mixedOrders = true) {n : Nat} (hs : ∀ m, m ≤ n → SoundAt P T m) : SoundAt P T (n + 1) := by
    intro f nt c τ h key s hin e
    have ih:=hs n (Nat.le_refl n)
    have eAll:=e
    have hcall:CallOK P (callWD P (codeD P T n)):=callWD_sound ih
    have hgrow:CallG (callWD P (codeD P T n)):=callWD_grows (codeD_grows hT.toTabW n)
    have grows:=fun f nt c τ h key s e=>(codeD_grows (P:=P) (T:=T) hT.toTabW n f nt c τ h key s e).1
    cases c <;> simp only [codeD] at e <;> try (cases e; done)
    case skip =>
      cases e
      intro A E a w Q hS hk hQ
      exact wp_skip (hQ a w E (hS.same fun _ h=>.inl h) (Ext.refl _ _ _ _))
    case label l =>
      cases e
      intro A E a w Q hS hk hQ
      exact wp_label (hQ a w E (hS.same fun _ h=>.inl h) (Ext.refl _ _ _ _))
    case exit id =>
      cases e
      intro A E a w Q hS hk hQ
      exact wp_exit (hQ a w E (hS.same fun _ h=>.inl h) (Ext.refl _ _ _ _))
    case ret =>
      cases e
      intro A E a w Q hS hk hQ
      exact wp_ret (hQ a w E (hS.same fun _ h=>.inl h) (Ext.refl _ _ _ _))
    case seq x y =>
      have hx:=within_sub hin (c':=x) fun p hp=>by simp [blocksOf,hp]
      have hy:=within_sub hin (c':=y) fun p hp=>by simp [blocksOf,hp]
      obtain ⟨s1,h1,e⟩:=BC e
      intro A E a w Q hS hk hQ
      refine wp_seq ?_
      have g1:=grows _ _ _ _ _ _ _ h1
      cases hex:s1.ex with
      | normal =>
        rw [hex] at e
        have g2:=grows _ _ _ _ _ _ _ e
        refine (ih f nt x τ h key s1 hx h1).then g1 g2 hS hk fun a' w' E1 hS1 hk1 hfin=>?_
        rw [hex]
        exact ih f nt y _ _ _ s hy e _ E1 a' w' Q hS1 hk1 fun a'' w'' E2 hS2 hx2=>hQ a'' w'' E2 (hfin a'' w'' E2 hS2 hx2).1 (hfin a'' w'' E2 hS2 hx2).2
      | exit id =>
        rw [hex] at e
        cases e
        refine ih f nt x τ h key s hx h1 A E a w _ hS hk fun a' w' E1 hS1 hx1=>?_
        have:=hQ a' w' E1 hS1 hx1
        rw [hex] at this ⊢
        exact this
      | ret =>
        rw [hex] at e
        cases e
        refine ih f nt x τ h key s hx h1 A E a w _ hS hk fun a' w' E1 hS1 hx1=>?_
        have:=hQ a' w' E1 hS1 hx1
        rw [hex] at this ⊢
        exact this
    case cond c x y =>
      have hx:=within_sub hin (c':=x) fun p hp=>by simp [blocksOf,hp]
      have hy:=within_sub hin (c':=y) fun p hp=>by simp [blocksOf,hp]
      intro A E a w Q hS hk hQ
      have hev:=tmEval (hS.tm E (Ae.refl A E)) c
      split at e
      · rename_i hc
        rw [hc] at hev
        exact wp_cond_true hev (ih f nt x τ h key s hx e A E a w Q hS hk hQ)
      · rename_i hc
        rw [hc] at hev
        exact wp_cond_false hev (ih f nt y τ h key s hy e A E a w Q hS hk hQ)
      · rename_i b hc
        rw [hc] at hev
        split at e
        · rename_i t
          have hq:TmEq τ ((t,.bool (.lit b))::τ):=tmEq_known hc
          cases b
          · exact wp_cond_false hev (ih f nt y _ h key s hy e A E a w Q (hS.tmEq hq) hk hQ)
          · exact wp_cond_true hev (ih f nt x _ h key s hx e A E a w Q (hS.tmEq hq) hk hQ)
        · cases e
      · cases e
    case block id x =>
      have hx:=within_sub hin (c':=x) fun p hp=>by simp [blocksOf,hp]
      split at e
      · rename_i H hH
        exact hT.hkOK f id H hH nt x hin τ h key s e
      · obtain ⟨s1,h1,e⟩:=BC e
        intro A E a w Q hS hk hQ
        refine wp_block ?_
        cases hex:s1.ex with
        | normal =>
          rw [hex] at e
          cases e
          refine ih f nt x τ h key s hx h1 A E a w _ hS hk fun a' w' E1 hS1 hx1=>?_
          have:=hQ a' w' E1 hS1 hx1
          rw [hex] at this ⊢
          exact this
        | ret =>
          rw [hex] at e
          cases e
          refine ih f nt x τ h key s hx h1 A E a w _ hS hk fun a' w' E1 hS1 hx1=>?_
          have:=hQ a' w' E1 hS1 hx1
          rw [hex] at this ⊢
          exact this
        | exit i =>
          rw [hex] at e
          dsimp only at e
          split at e
          · rename_i hi
            have hi:=Nat.eq_of_beq_eq_true hi
            cases e
            refine ih f nt x τ h key s1 hx h1 A E a w _ hS hk fun a' w' E1 hS1 hx1=>?_
            rw [hex]
            simp only [exOf,Exit.inBlock,hi,if_true]
            exact hQ a' w' E1 hS1 hx1
          · rename_i hi
            cases e
            have hne:i≠id:=fun h=>by subst h; simp at hi
            refine ih f nt x τ h key s hx h1 A E a w _ hS hk fun a' w' E1 hS1 hx1=>?_
            have:=hQ a' w' E1 hS1 hx1
            rw [hex] at this ⊢
            simp only [exOf,Exit.inBlock,hne,if_false]
            exact this
    case loop x =>
      have hx:=within_sub hin (c':=x) fun p hp=>by simp [blocksOf,hp]
      intro A E a w Q hS hk hQ
      exact wp_loop_rounds (n+1) (rounds_sound hT hs hx (n+1) (Nat.le_refl _) τ h key s eAll A E a w Q hS hk hQ)
    case region id ops draw =>
      intro A E a w Q hS hk hQ
      cases draw <;> simp only [codeD] at e
      · obtain ⟨q,hq,rfl⟩:=Option.map_eq_some_iff.1 e
        exact region_sound hT.toTabOK hcall hgrow nt id ops τ h key q hq A E a w Q hS hk hQ
      · obtain ⟨q,hq,rfl⟩:=Option.map_eq_some_iff.1 e
        exact draw_sound hT.toTabOK hm hcall hgrow nt id ops τ h key q hq A E a w Q hS hk hQ
theorem codeD_sound (hT:TabAll P T) (hm:P.follows .mixedOrders=true) (n:Nat):SoundAt P T n:=by
  induction n using Nat.strongRecOn with
  | _ n ih =>
    cases n with
    | zero=>intro f nt c τ h key s _ e; cases e
    | succ n=>exact codeD_step hT hm fun m hm'=>ih m (by omega)
theorem call_sound (hT:TabAll P T) (hm:P.follows .mixedOrders=true) (n:Nat):CallOK P (callWD P (codeD P T n)):=callWD_sound (codeD_sound hT hm n)
theorem call_grows (hT:TabAll P T) (n:Nat):CallG (callWD P (codeD P T n)):=callWD_grows (codeD_grows hT.toTabW n)
theorem Ao (P:Program):TabAll P noTab where
  sm:=fun _ _ h=>by cases h
  hk:=fun _ _ _ h=>by cases h
  smOK:=fun _ _ h=>by cases h
  hkOK:=fun _ _ _ h=>by cases h
end
end Go.Eng
set_option linter.unusedSimpArgs false
set_option linter.unusedVariables false
namespace Go.Eng
open Go.RowKit
section
variable {P:Program} {T:Tab}
def runV (P:Program) (T:Tab) (n:Nat) (g:FuncId) (args:List AV):Ah AV:=BR P (Am P T n) g args [] 0 fun v _ _=>.leaf v
theorem runV_sel {n:Nat} {g:FuncId} {args:List AV} {v:AV} (h:(runV P T n g args).sel=some v):∃ h' key',callWD P (codeD P T n) g args [] 0=some (v,h',key'):=by
  unfold runV at h
  rw [callW_nat (runD:=codeD P T n) (fun f nt c τ h key K=>codeT_sel n f nt c τ h key K)] at h
  obtain ⟨⟨v',h',key'⟩,h1,h2⟩:=BC h
  cases h2
  exact ⟨h',key',h1⟩
theorem relU_nil (A:Nat→Prop) (E:Env) (w:World):RelU A E (AO []) w :=
  ⟨fun _ _ h=>(nomatch h),fun _ _ _ h=>(nomatch h),fun _ _=>⟨fun _ _ h=>(nomatch h),fun _ _ _ _ _ h=>(nomatch h),fun _ _ _ _ _ _ _ h=>(nomatch h)⟩⟩
instance:Inhabited Env:=⟨⟨fun _=>0,fun _=>(none,0,0),fun _=>[]⟩⟩
theorem below_of_ext {A:Nat→Prop} {E E':Env} {lk':Look} {w w':World} (h:Ext A E (AO []) w E' lk' w'):Below w.heap.size w w' :=
  ⟨h.os,h.tape,h.output,h.size,fun k hk=>h.frame k hk fun _ _ h=>by cases h⟩
theorem pure_calls (hT : TabAll P T) (hm : P.follows .mixedOrders = true) {n : Nat} {g : FuncId} {args : List AV} {v : AV} (h : (runV P T n g args).sel = some v) (w : World) (vals : Array Value) (hv : ∀ E, vals = (BM E args).toArray) :
    Calls P g vals w fun e w'=>(∃ E,e = .returned (den E v))∧Below w.heap.size w w':=by
  obtain ⟨h',key',hc⟩:=runV_sel h
  have:=call_sound hT hm n g args [] 0 v h' key' h' hc (by simp) (fun _=>False) default (AO []) w vals (relU_nil _ _ _) rfl (fun _ _ _=>id) (fun E _=>hv E)
  refine this.mono ?_
  rintro e w' ⟨val,E1,rfl,h1,_,h3⟩
  exact ⟨⟨E1,by rw [h1 E1 (Ae.refl _ _)]⟩,below_of_ext h3⟩
theorem spec_of_pure {f : FuncId} {args : List AV} {key : Nat} {v : AV} (h : ∀ (E : Env) (w : World), Calls P f (BM E args).toArray w fun e w' => e = .returned (den E v) ∧ Below w.heap.size w w')
    (hv:∀ E E',BM E args=BM E' args→den E v=den E' v) (C:Look→Prop):CallSpec P f args C key key v []:=by
  intro A E lk w vals hU _ _ hvals
  have h0:=hvals E (Ae.refl A E)
  subst h0
  refine (h E w).mono ?_
  rintro e w' ⟨rfl,hb⟩
  refine ⟨_,E,rfl,fun E' h'=>hv E E' ?_,?_,?_⟩
  · have:=hvals E' (h'.mono fun _ h=>.inl h)
    simpa using this
  · rw [hupd_nil]
    exact (hU.world hb.size hb.block).same fun _ h=>.inl h
  · rw [hupd_nil]
    exact ⟨hb.os,hb.tape,hb.output,hb.size,Ae.refl _ _,fun b hb' _=>hb.block b hb',fun k o b h1 h2=>.inl ⟨k,o,h1,h2⟩,
      fun k hA ht=>⟨ht,fun b hb'=>hb.block b ((hU.here.obj k _ ht).lt (b:=b) hb')⟩,fun k len sz rows a h1 h2 h3=>.inl ⟨k,len,sz,rows,a,h1,h2,h3,rfl⟩⟩
def smTab (sm:FuncId→Option Summ):Tab:=⟨sm,fun _ _=>none⟩
theorem smTab_all {sm:FuncId→Option Summ} (h:∀ f S,sm f=some S→SummOK P f S∧∀ args h key r,(S.run args h key).sel=some r→key≤r.2.2.2∧WOK (AO h) key r.2.2.2 r.2.2.1):TabAll P (smTab sm) where
  sm:=fun f S hS=>(h f S hS).2
  hk:=fun _ _ _ h=>by cases h
  smOK:=fun f S hS=>(h f S hS).1
  hkOK:=fun _ _ _ h=>by cases h
structure Ah.Holds {R:Type} (t:Ah R) (Q:R→Prop):Prop where
  out:∃ r,t.sel=some r∧Q r
theorem AE {R:Type} {r:R} {Q:R→Prop} (h:Q r):(Ah.leaf r).Holds Q:=⟨r,rfl,h⟩
theorem AG {R:Type} {b:Bool} {t e:Ah R} {Q:R→Prop} (h1:b=true→t.Holds Q) (h2:b=false→e.Holds Q):(Ah.ite b t e).Holds Q:=by
  cases b
  · exact ⟨(h2 rfl).out⟩
  · exact ⟨(h1 rfl).out⟩
theorem Ac {R:Type} {x:Int} {k:Int→Ah R} {Q:R→Prop} (h:∀ z,z=x→(k z).Holds Q):(Ah.defI x k).Holds Q:=⟨(h x rfl).out⟩
theorem AB {R:Type} {x:Int} {k:Int→Ah R} {Q:R→Prop} (h:(k x).Holds Q):(Ah.defI x k).Holds Q:=⟨h.out⟩
theorem AM {R:Type} {x:Bool} {k:Bool→Ah R} {Q:R→Prop} (h:(k x).Holds Q):(Ah.defB x k).Holds Q:=⟨h.out⟩
theorem An {R:Type} {x:EN} {k:EN→Ah R} {Q:R→Prop} (h:∀ z,z=x→(k z).Holds Q):(Ah.defE x k).Holds Q:=⟨(h x rfl).out⟩
theorem AK {R:Type} {x:EN} {k:EN→Ah R} {Q:R→Prop} (h:(k x).Holds Q):(Ah.defE x k).Holds Q:=⟨h.out⟩
theorem AL {R:Type} {t t':Ah R} {Q:R→Prop} (h:t=t') (h':t'.Holds Q):t.Holds Q:=h ▸ h'
theorem AA {R:Type} {b:Bool} {t:Ah R} {Q:R→Prop} (h1:b=true) (h2:t.Holds Q):(Ah.must b t).Holds Q:=by
  subst h1; exact ⟨h2.out⟩
end
end Go.Eng
set_option linter.unusedSimpArgs false
set_option linter.unusedVariables false
namespace Go.Eng
open Go.RowKit Go.ChangeShapes Go.WideShapes
section
variable {H:Type} {enc:TypeId×Value→H} {P:Program}
theorem trodAll_below (hl : laidOutB P = true) {W W' : World} (hb : Below W.heap.size W W') : (ts : List TypeId) → (∀ t ∈ ts, P.readableRec t = true ∧ t < P.types.size) → (vs : List Value) → (ds : List (DataW H)) → (ps : List MemPlace) →
    DataW.TrodAll enc P W 0 (fun _=>true) true ts vs ds ps→(∀ x∈ps,x.block<W.heap.size)→DataW.TrodAll enc P W' 0 (fun b=>decide (b<W.heap.size)) true ts vs ds ps
  | [],_,[],[],_,h,_=>h
  | t::ts,ht,v::vs,d::ds,ps,h,hlt=>by
    obtain ⟨p,q,h1,h2,rfl⟩:=h
    exact ⟨p,q,Below.trod hl (ht t (by simp)).1 (ht t (by simp)).2 h1 hb (fun x hx=>hlt x (by simp [hx])),trodAll_below hl hb ts (fun x hx=>ht x (by simp [hx])) vs ds q h2 (fun x hx=>hlt x (by simp [hx])),rfl⟩
  | [],_,_::_,_,_,h,_=>h.elim
  | [],_,[],_::_,_,h,_=>h.elim
  | _::_,_,[],_,_,h,_=>h.elim
  | _::_,_,_::_,[],_,h,_=>h.elim
theorem trodAll_length {w:World} {base:Nat} {sp:Nat→Bool} {held:Bool} : (ts:List TypeId)→(vs:List Value)→(ds:List (DataW H))→(ps:List MemPlace)→DataW.TrodAll enc P w base sp held ts vs ds ps→ds.length=ts.length
  | [],[],[],_,_=>rfl
  | _::ts,_::vs,_::ds,_,h=>by
    obtain ⟨p,q,_,h2,_⟩:=h
    simp [trodAll_length ts vs ds q h2]
  | [],_::_,_,_,h=>h.elim
  | [],[],_::_,_,h=>h.elim
  | _::_,[],_,_,h=>h.elim
  | _::_,_::_,[],_,h=>h.elim
theorem law_lifted {C : Checked} {os : Os} {f : FuncId} {fn : Func} {s : ChangeSpec} {conds : List PathCond} {B : TypeId}
    (own:ownKnob C.prog.godebug=none) (started:os.Started) (noInit:C.prog.inits.idxOf? f=none) (hfn:C.prog.funcs[f]? = some fn)
    (witness:∃ (w:World) (tape:Tape) (i:Input),w.os=os∧(w.forCall tape i).Shaped C.prog∧i.vars=[]∧Input.okWide C.prog (w.forCall tape i) .any w.heap.size f i ∧
      s.pre6 enc C.prog fn conds false (w.forCall tape i).memory i.args∧({} : Assume).holds C.prog (lone (Frame.enter C.prog f i.args .normal) [] (w.forCall tape i)))
    (hl:laidOutB C.prog=true) (hrd:∀ t∈fn.params.toList,C.prog.readableRec t=true∧t<C.prog.types.size) (hB:C.prog.underlying B=some .bool) (hrt:fn.resultTypes = #[B])
    (hv:s.vars=[]) (hs:∀ ds:List (DataW H),ds.length=fn.params.toList.length→s.fn H ds = { results:=[.lit (.bool true)],args:=ds })
    (walk:∀ (W:World) (base:Nat) (args:Array Value) (ds:List (DataW H)) (p:List MemPlace),
      (∀ (j:Nat) t v,fn.params.toList[j]? = some t→args[j]? = some v→Value.okWide C.prog W .any base t v) →
      DataW.TrodAll enc C.prog W 0 (fun _=>true) true fn.params.toList args.toList ds p→(∀ x∈p,x.block<W.heap.size) →
      Calls C.prog f args W fun e W'=>e = .returned (.bool true)∧Below W.heap.size W W') :
    ReturnsInHanded {} C os f .any (s.pre6 enc C.prog fn conds false) (s.post enc C.prog fn false true false false):=by
  refine returnsInHanded_of_change own started noInit hfn witness ?_
  intro W base args ds gs before hval hW _ _
  have hW':=hW
  obtain ⟨p,q,hA,hV,rfl,_,_⟩:=hW
  rw [hv] at hV
  obtain ⟨rfl,rfl⟩:=trodVars_none hV
  have hlt:∀ x∈p,x.block<W.heap.size:=fun x hx=>hW'.lt x (by simp [hx])
  refine (walk W base args ds p (fun j t v h1 h2=>hval j t v (by simpa using h1) h2) hA hlt).mono fun e W' ⟨he,hb⟩=>?_
  subst he
  have hsd:=hs ds (trodAll_length _ _ _ _ hA)
  refine ⟨_,rfl,ds,[],p++[],[],p,[],hW',?_,?_,?_,hb.frame _,fun h=>by cases h⟩
  · rw [List.append_nil,hsd,hrt]
    exact trodAll_mk1 (shut_bool hB true)
  · rw [List.append_nil,hsd]
    exact trodAll_below hl hb _ hrd _ _ _ hA hlt
  · rw [List.append_nil,hsd,hv]
    rfl
end
end Go.Eng
set_option linter.unusedSimpArgs false
set_option linter.unusedVariables false
namespace Go.Eng
section
variable {P:Program} {T:Tab}
mutual
def ren (φ:Nat→Nat):AV→AV
  | .ptr k off=>.ptr (φ k) off
  | .elp k i sz off=>.elp (φ k) i sz off
  | .sl k=>.sl (φ k)
  | .mref k=>.mref (φ k)
  | .fn f a b=>.fn f (renL φ a) (renL φ b)
  | .ifc t v=>.ifc t (ren φ v)
  | .agg l=>.agg (renL φ l)
  | .tup l=>.tup (renL φ l)
  | .bool b=>.bool b
  | .int k n=>.int k n
  | .str s=>.str s
  | .slIf b k h=>.slIf b (φ k) h
  | .slN k=>.slN (φ k)
  | .nilp=>.nilp
  | .nils=>.nils
  | .nilf=>.nilf
  | .nili=>.nili
  | .raw v=>.raw v
def renL (φ:Nat→Nat):List AV→List AV
  | []=>[]
  | v::l=>ren φ v::renL φ l
end
def Env.via (E:Env) (φ:Nat→Nat):Env:=⟨fun k=>E.blk (φ k),fun k=>E.hdr (φ k),fun k=>E.fp (φ k)⟩
mutual
theorem den_ren (E:Env) (φ:Nat→Nat):∀ v:AV,den E (ren φ v)=den (E.via φ) v
  | .ptr _ _=>rfl
  | .elp _ _ _ _=>rfl
  | .sl _=>rfl
  | .mref _=>rfl
  | .fn f a b=>by simp only [ren,den,denL_ren E φ a,denL_ren E φ b]
  | .ifc t v=>by simp only [ren,den,den_ren E φ v]
  | .agg l=>by simp only [ren,den,denL_ren E φ l]
  | .tup l=>by simp only [ren,den,denL_ren E φ l]
  | .bool _=>rfl
  | .int _ _=>rfl
  | .str _=>rfl
  | .slIf b _ _=>by cases b <;> rfl
  | .slN _=>rfl
  | .nilp=>rfl
  | .nils=>rfl
  | .nilf=>rfl
  | .nili=>rfl
  | .raw _=>rfl
theorem denL_ren (E:Env) (φ:Nat→Nat):∀ l:List AV,BM E (renL φ l)=BM (E.via φ) l
  | []=>rfl
  | v::l=>by simp only [renL,BM,den_ren E φ v,denL_ren E φ l]
end
mutual
theorem den_cl {E E':Env} {M:Nat→Prop} (h:Ae M E E'):∀ v:AV,(∀ k∈keysOf v,M k)→den E' v=den E v
  | .ptr k _,hv=>by
    have:=h k (hv k (by simp [keysOf]))
    simp only [den,this.1]
  | .elp k _ _ _,hv=>by
    have:=h k (hv k (by simp [keysOf]))
    simp only [den,Env.elem,this.2.1]
  | .sl k,hv=>by
    have:=h k (hv k (by simp [keysOf]))
    simp only [den,this.2.1]
  | .mref k,hv=>by
    have:=h k (hv k (by simp [keysOf]))
    simp only [den,this.1]
  | .fn f a b,hv=>by
    simp only [den,denL_cl h a (fun k hk=>hv k (by simp [keysOf,hk])),denL_cl h b (fun k hk=>hv k (by simp [keysOf,hk]))]
  | .ifc t v,hv=>by simp only [den,den_cl h v (fun k hk=>hv k (by simpa [keysOf] using hk))]
  | .agg l,hv=>by simp only [den,denL_cl h l (fun k hk=>hv k (by simpa [keysOf] using hk))]
  | .tup l,hv=>by simp only [den,denL_cl h l (fun k hk=>hv k (by simpa [keysOf] using hk))]
  | .bool _,_=>rfl
  | .int _ _,_=>rfl
  | .str _,_=>rfl
  | .slIf b k _,hv=>by
    have:=h k (hv k (by simp [keysOf]))
    simp only [den,this.2.1]
  | .slN k,hv=>by
    have:=h k (hv k (by simp [keysOf]))
    simp only [den,this.2.1]
  | .nilp,_=>rfl
  | .nils,_=>rfl
  | .nilf,_=>rfl
  | .nili,_=>rfl
  | .raw _,_=>rfl
theorem denL_cl {E E':Env} {M:Nat→Prop} (h:Ae M E E'):∀ l:List AV,(∀ k∈keysL l,M k)→BM E' l=BM E l
  | [],_=>rfl
  | v::l,hv=>by simp only [BM,den_cl h v (fun k hk=>hv k (by simp [keysL,hk])),denL_cl h l (fun k hk=>hv k (by simp [keysL,hk]))]
end
def tfind (t:Nat):Tm→Option AV
  | []=>none
  | (j,v)::l=>match Nat.beq j t with
    | true=>some v
    | false=>tfind t l
theorem tget_append (t:Nat) (τ0:Tm):∀ κ:Tm,tget t (κ++τ0)=(tfind t κ).getD (tget t τ0)
  | []=>rfl
  | (j,x)::l=>by
    simp only [List.cons_append,tget,tfind]
    cases hb:Nat.beq j t
    · exact tget_append t τ0 l
    · rfl
structure SSt (m:Nat) (E:Env) (nt:Nat) (κ:Tm) (h:Aq) (a:Act) (w:World):Prop where
  rel:RelU (· < m) E (AO h) w
  size:a.tmps.size=nt
  defers:a.defers=[]
  tm:∀ t v,tfind t κ=some v→∀ E',Ae (· < m) E E'→a.tmps.getD t undef=den E' v
def junk (a:Act):Nat→Tm
  | 0=>[]
  | n+1=>(n,.raw (a.tmps.getD n undef))::junk a n
theorem junk_get (a:Act) (t:Nat):∀ n,tget t (junk a n)=if t<n then .raw (a.tmps.getD t undef) else .raw undef
  | 0=>rfl
  | n+1=>by
    simp only [junk,tget]
    by_cases h:n=t
    · subst h
      rw [show Nat.beq n n=true from by simp]
      simp
    · rw [beq_ne h]
      dsimp only
      rw [junk_get a t n]
      by_cases h1:t<n
      · rw [if_pos h1,if_pos (by omega)]
      · rw [if_neg h1,if_neg (by omega)]
theorem SSt.stU {m nt:Nat} {E:Env} {κ:Tm} {h:Aq} {a:Act} {w:World} (hS:SSt m E nt κ h a w):StU (· < m) E nt (κ++junk a nt) (AO h) a w:=by
  refine ⟨hS.rel,hS.size,hS.defers,fun E' h' t=>?_⟩
  rw [tget_append]
  cases hf:tfind t κ with
  | some v=>exact hS.tm t v hf E' h'
  | none =>
    show _=den E' (tget t (junk a nt))
    rw [junk_get]
    split
    · rfl
    · rename_i hlt
      simp only [den,Array.getD_eq_getD_getElem?]
      rw [Array.getElem?_eq_none (by rw [hS.size]; omega)]
      rfl
structure WExt (E:Env) (lk:Look) (w:World) (E':Env) (lk':Look) (w':World):Prop where
  os:w'.os=w.os
  tape:w'.tape=w.tape
  output:w'.output=w.output
  size:w.heap.size≤w'.heap.size
  frame:∀ b,b<w.heap.size→(∀ k o,lk k=some o→¬ owns E k o b)→w'.heap[b]? = w.heap[b]?
  fresh:∀ k o b,lk' k=some o→owns E' k o b→(∃ k0 o0,lk k0=some o0∧owns E k0 o0 b)∨w.heap.size≤b
  rof:∀ k len sz rows a,lk' k=some (.lst len sz rows none)→0<(E'.hdr k).2.2→(E'.hdr k).1=some a →
    (∃ k0 len0 sz0 rows0 a0,lk k0=some (.lst len0 sz0 rows0 none)∧0<(E.hdr k0).2.2∧(E.hdr k0).1=some a0∧a0.block=a.block)∨w.heap.size≤a.block
theorem Ext.wext {A:Nat→Prop} {E E':Env} {lk lk':Look} {w w':World} (h:Ext A E lk w E' lk' w'):WExt E lk w E' lk' w':=⟨h.os,h.tape,h.output,h.size,h.frame,h.fresh,h.rof⟩
theorem WExt.refl (E:Env) (lk:Look) (w:World):WExt E lk w E lk w :=
  ⟨rfl,rfl,rfl,Nat.le_refl _,fun _ _ _=>rfl,fun k o _ h ho=>.inl ⟨k,o,h,ho⟩,fun k len sz rows a h hc ha=>.inl ⟨k,len,sz,rows,a,h,hc,ha,rfl⟩⟩
theorem WExt.trans {E E' E'':Env} {lk lk' lk'':Look} {w w' w'':World} (h:WExt E lk w E' lk' w') (h':WExt E' lk' w' E'' lk'' w''):WExt E lk w E'' lk'' w'' where
  os:=h'.os.trans h.os
  tape:=h'.tape.trans h.tape
  output:=h'.output.trans h.output
  size:=Nat.le_trans h.size h'.size
  frame:=fun b hb hn=>by
    rw [h'.frame b (Nat.lt_of_lt_of_le hb h.size) (fun k o ho hown=>by
      rcases h.fresh k o b ho hown with ⟨k0,o0,h0,h1⟩ | h1
      · exact hn k0 o0 h0 h1
      · omega),h.frame b hb hn]
  fresh:=fun k o b ho hown=>by
    rcases h'.fresh k o b ho hown with ⟨k0,o0,h0,h1⟩ | h1
    · exact h.fresh k0 o0 b h0 h1
    · exact .inr (Nat.le_trans h.size h1)
  rof:=fun k len sz rows a h1 h2 h3=>by
    rcases h'.rof k len sz rows a h1 h2 h3 with ⟨k0,len0,sz0,rows0,a0,h4,h5,h6,h7⟩ | h4
    · rcases h.rof k0 len0 sz0 rows0 a0 h4 h5 h6 with ⟨k1,len1,sz1,rows1,a1,g4,g5,g6,g7⟩ | g4
      · exact .inl ⟨k1,len1,sz1,rows1,a1,g4,g5,g6,g7.trans h7⟩
      · exact .inr (h7 ▸ g4)
    · exact .inr (Nat.le_trans h.size h4)
def nilK:Nat:=1000000000
def isNil (k:Nat):Bool:=Nat.ble nilK k
def noNil (_:Nat):Bool:=false
def NilE (z:Nat→Bool) (E:Env):Prop:=∀ k,z k=true→E.hdr k=(none,0,0)∧E.fp k=[]
theorem noNil_ok (E:Env):NilE noNil E:=fun _ h=>by cases h
def SameV (z:Nat→Bool) (x y:AV):Prop:=∀ E,NilE z E→den E x=den E y
def SameO (z:Nat→Bool) (φ:Nat→Nat) (M:Nat→Prop):Ai→Ai→Prop
  | .box cs',.box cs=>Ap cs=true∧(∀ E,NilE z E→BM E cs'=BM E (renL φ cs))∧(∀ k∈keysL cs,M k)
  | .tok,.tok=>True
  | .lst len' sz' rows' g', .lst len sz rows g => len'.v = len.v ∧ sz' = sz ∧ g' = g.map φ ∧ (∀ x, g = some x → M x ∧ z (φ x) = false) ∧
      ∀ i:Nat,(i:Int)<len.v→(rows i).length=(rows' i).length∧Ap (rows i)=true∧(∀ E,NilE z E→BM E (rows' i)=BM E (renL φ (rows i)))∧∀ k∈keysL (rows i),M k
  | .opq R',.opq R=>R'=R
  | .mp b' n' v',.mp b n v=>b'.v=b.v∧n'.v=n.v∧∀ i:Nat,(i:Int)<n.v→(∀ E,NilE z E→den E (v' i)=den E (ren φ (v i)))∧∀ k∈keysOf (v i),M k
  | .own t' R' d' g',.own t R d g=>R'=R∧d'=d∧t'=t∧g'=φ g∧M g∧z (φ g)=false
  | _,_=>False
def NilO (M:Nat→Prop):Ai→Prop
  | .tok=>True
  | .lst len _ _ g=>len.v=0∧∀ x,g=some x→M x
  | _=>False
structure ResetH (z:Nat→Bool) (M:Nat→Prop) (φ:Nat→Nat) (h:Aq) (h':Aq):Prop where
  obj:∀ k o,hget k h'=some o→M k∧((∃ o',hget (φ k) h=some o'∧SameO z φ M o' o)∨(z (φ k)=true∧NilO M o))
  inj:∀ k k' o o',hget k h'=some o→hget k' h'=some o'→φ k=φ k'→k=k'
theorem SameO.owns {z:Nat→Bool} {φ:Nat→Nat} {M:Nat→Prop} {k b:Nat} {o' o:Ai} {E:Env} (h:SameO z φ M o' o) (ho:owns (E.via φ) k o b):owns E (φ k) o' b:=by
  cases o' <;> cases o <;> simp only [SameO] at h <;> simp only [Eng.owns,Env.via] at ho ⊢ <;> first | exact ho | exact h.elim | skip
theorem NilO.owns {z:Nat→Bool} {φ:Nat→Nat} {M:Nat→Prop} {k b:Nat} {o:Ai} {E:Env} (hz:NilE z E) (hk:z (φ k)=true) (h:NilO M o) (ho:Eng.owns (E.via φ) k o b):False:=by
  cases o <;> simp only [NilO] at h <;> simp only [Eng.owns,Env.via] at ho
  rw [(hz _ hk).2] at ho
  cases ho
theorem ResetH.objRel {z : Nat → Bool} {M : Nat → Prop} {φ : Nat → Nat} {h : Aq} {h' : Aq} (hR : ResetH z M φ h h') {E E2 : Env} (hz : NilE z E) {w : World} (hr : Rel E (AO h) w) (hE : Ae M (E.via φ) E2)
    (k:Nat) (o:Ai) (hk:AO h' k=some o):Eng.objRel E2 (AO h') w k o:=by
  obtain ⟨hkm,ho'⟩:=hR.obj k o hk
  obtain ⟨e1,e2,e3⟩:=hE k hkm
  have e1:E2.blk k=E.blk (φ k):=e1
  have e2:E2.hdr k=E.hdr (φ k):=e2
  have e3:E2.fp k=E.fp (φ k):=e3
  rcases ho' with ⟨o',ho',hs⟩ | ⟨hzk,hn⟩
  · have hb:=hr.obj (φ k) o' ho'
    cases o' <;> cases o <;> simp only [SameO] at hs <;> try exact hs.elim
    · rename_i cs' cs
      obtain ⟨h1,h2,ty,h3⟩:=hb
      refine ⟨by rw [e3,h1,e1],hs.1,ty,?_⟩
      rw [e1,h3,hs.2.1 E hz,denL_ren,denL_cl hE cs hs.2.2]
    · intro b hbb
      rw [e3] at hbb
      exact hb b hbb
    · rename_i len' sz' rows' g' len sz rows g
      obtain ⟨s1,rfl,rfl,s3,s4⟩:=hs
      obtain ⟨h1,h2,h3⟩:=hb
      refine ⟨by rw [e2,h1,s1],by rw [e2]; exact h2,fun hc=>?_⟩
      rw [e2] at hc
      obtain ⟨B,off,b1,b2,b3⟩:=h3 hc
      refine ⟨B,off,by rw [e2]; exact b1,b2,?_⟩
      have rows_ok:∀ get:Nat→Option Value,RowsAt E get off sz' (E.hdr (φ k)).2.1 rows'→RowsAt E2 get off sz' (E.hdr (φ k)).2.1 rows:=by
        intro get hg i hi
        obtain ⟨g1,g2,g3⟩:=hg i hi
        obtain ⟨r1,r2,r3,r4⟩:=s4 i (by rw [← s1,← h1]; exact_mod_cast hi)
        refine ⟨by rw [r1,g1],r2,fun j hj=>?_⟩
        rw [g3 j hj,← denL_get,← denL_get,r3 E hz,denL_ren,denL_cl hE _ r4]
      rw [e2]
      cases g with
      | none=>exact rows_ok _ b3
      | some x =>
        intro hx
        have hx':AO h (φ x)=some .tok:=by
          obtain ⟨_,⟨o'',q1,q2⟩ | ⟨q1,_⟩⟩:=hR.obj x .tok hx
          · cases o'' <;> simp only [SameO] at q2
            exact q1
          · rw [(s3 x rfl).2] at q1; cases q1
        obtain ⟨c1,C,ty,c2,c3,c4⟩:=b3 hx'
        have hxm:=(hE x (s3 x rfl).1).2.2
        exact ⟨by rw [hxm]; exact c1,C,ty,c2,c3,rows_ok _ c4⟩
    · rename_i R' R
      subst hs
      obtain ⟨h1,h2⟩:=hb
      refine ⟨by rw [e3]; exact h1,fun w' hw=>?_⟩
      rw [e1,e3]
      exact h2 w' (by rw [e3] at hw; exact hw)
    · rename_i b' n' v' b n v
      obtain ⟨s1,s2,s3⟩:=hs
      obtain ⟨h1,es,cl,h2,h3,h4⟩:=hb
      refine ⟨by rw [e3,h1,e1],es,cl,by rw [e1]; exact h2,by rw [h3,s2],fun i e hi=>?_⟩
      obtain ⟨k1,k2⟩:=h4 i e hi
      have hlt:=(Array.getElem?_eq_some_iff.1 hi).1
      obtain ⟨r1,r2⟩:=s3 i (by rw [← s2,← h3]; exact_mod_cast hlt)
      exact ⟨by rw [k1,s1],by rw [k2,r1 E hz,den_ren,den_cl hE _ r2]⟩
    · rename_i t' R' d' g' t R d g
      obtain ⟨rfl,rfl,rfl,rfl,s5,s6⟩:=hs
      intro hg w' hsz hw
      have hg':AO h (φ g)=some .tok:=by
        obtain ⟨_,⟨o'',q1,q2⟩ | ⟨q1,_⟩⟩:=hR.obj g .tok hg
        · cases o'' <;> simp only [SameO] at q2
          exact q1
        · rw [s6] at q1; cases q1
      have hxm:E2.fp g=E.fp (φ g):=(hE g s5).2.2
      rw [e1,hxm]
      exact hb hg' w' hsz (by rw [hxm] at hw; exact hw)
  · obtain ⟨n1,n2⟩:=hz _ hzk
    rw [n1] at e2
    rw [n2] at e3
    cases o <;> simp only [NilO] at hn
    · intro b hbb
      rw [e3] at hbb
      cases hbb
    · refine ⟨by rw [e2,hn.1]; rfl,by rw [e2]; exact Nat.le_refl _,fun hc=>?_⟩
      rw [e2] at hc
      exact absurd hc (Nat.lt_irrefl 0)
theorem ResetH.relU {z:Nat→Bool} {M:Nat→Prop} {φ:Nat→Nat} {h:Aq} {h':Aq} (hR:ResetH z M φ h h') {E:Env} (hz:NilE z E) {w:World} (hr:Rel E (AO h) w):RelU M (E.via φ) (AO h') w:=by
  refine ⟨fun k o hk=>(hR.obj k o hk).1,fun k o g hk hog=>?_,fun E2 hE=>⟨fun k o hk=>hR.objRel hz hr hE k o hk,fun k o k' o' b hk hk' hne h1 h2=>?_,fun k len sz rows a k' o' hk hc ha hk' h2=>?_⟩⟩
  · obtain ⟨_,⟨o',_,hs⟩ | ⟨_,hn⟩⟩:=hR.obj k _ hk
    · cases o' <;> cases o <;> simp only [SameO] at hs <;> simp only [Ai.grp] at hog <;> try (first | exact hs.elim | (cases hog; done))
      · exact (hs.2.2.2.1 g hog).1
      · cases hog; exact hs.2.2.2.2.1
    · cases o <;> simp only [NilO] at hn <;> simp only [Ai.grp] at hog <;> try (cases hog; done)
      exact hn.2 g hog
  · obtain ⟨m1,q1⟩:=hR.obj k o hk
    obtain ⟨m2,q2⟩:=hR.obj k' o' hk'
    have h1:=(BP hE m1 o b).1 h1
    have h2:=(BP hE m2 o' b).1 h2
    rcases q1 with ⟨o1,q1,s1⟩ | ⟨z1,n1⟩
    · rcases q2 with ⟨o2,q2,s2⟩ | ⟨z2,n2⟩
      · exact hr.apart (φ k) o1 (φ k') o2 b q1 q2 (fun e=>hne (hR.inj k k' o o' hk hk' e)) (s1.owns h1) (s2.owns h2)
      · exact n2.owns hz z2 h2
    · exact n1.owns hz z1 h1
  · obtain ⟨m1,q1⟩:=hR.obj k _ hk
    obtain ⟨m2,q2⟩:=hR.obj k' o' hk'
    have e2:E2.hdr k=E.hdr (φ k):=(hE k m1).2.1
    have h2:=(BP hE m2 o' a.block).1 h2
    rw [e2] at hc ha
    rcases q1 with ⟨o1,q1,s1⟩ | ⟨z1,_⟩
    · rcases q2 with ⟨o2,q2,s2⟩ | ⟨z2,n2⟩
      · cases o1 <;> simp only [SameO] at s1
        obtain ⟨_,_,rfl,_⟩:=s1
        exact hr.ro (φ k) _ _ _ a (φ k') o2 q1 hc ha q2 (s2.owns h2)
      · exact n2.owns hz z2 h2
    · rw [(hz _ z1).1] at hc
      exact absurd hc (Nat.lt_irrefl 0)
theorem ResetH.wext {z:Nat→Bool} {M:Nat→Prop} {φ:Nat→Nat} {h:Aq} {h':Aq} (hR:ResetH z M φ h h') (E:Env) (hz:NilE z E) (w:World):WExt E (AO h) w (E.via φ) (AO h') w:=by
  refine ⟨rfl,rfl,rfl,Nat.le_refl _,fun _ _ _=>rfl,fun k o b hk ho=>?_,fun k len sz rows a hk hc ha=>?_⟩
  · obtain ⟨_,⟨o',q,s⟩ | ⟨z1,n1⟩⟩:=hR.obj k o hk
    · exact .inl ⟨φ k,o',q,s.owns ho⟩
    · exact (n1.owns hz z1 ho).elim
  · obtain ⟨_,⟨o',q,s⟩ | ⟨z1,n1⟩⟩:=hR.obj k _ hk
    · cases o' <;> simp only [SameO] at s
      obtain ⟨_,_,rfl,_⟩:=s
      exact .inl ⟨φ k,_,_,_,a,q,hc,ha,rfl⟩
    · have hc:0<(E.hdr (φ k)).2.2:=hc
      rw [(hz _ z1).1] at hc
      exact absurd hc (Nat.lt_irrefl 0)
def nilExt (E:Env):Env:=⟨E.blk,fun k=>match isNil k with | true=>(none,0,0) | false=>E.hdr k,fun k=>match isNil k with | true=>[] | false=>E.fp k⟩
theorem nilExt_ok (E:Env):NilE isNil (nilExt E):=fun k hk=>by
  simp only [nilExt,hk]
  exact ⟨trivial,trivial⟩
theorem isNil_lt {k:Nat} (h:k<nilK):isNil k=false:=by
  unfold isNil
  cases hb:Nat.ble nilK k
  · rfl
  · have:=Nat.le_of_ble_eq_true hb
    omega
theorem nilExt_agree {A:Nat→Prop} {E:Env} (h:∀ k,A k→k<nilK):Ae A E (nilExt E):=fun k hk=>by
  have:=isNil_lt (h k hk)
  simp only [nilExt,this]
  exact ⟨trivial,trivial,trivial⟩
theorem wext_agree {A:Nat→Prop} {E E':Env} {lk:Look} {w:World} (h:RelU A E lk w) (ha:Ae A E E'):WExt E lk w E' lk w :=
  ⟨rfl,rfl,rfl,Nat.le_refl _,fun _ _ _=>rfl,fun k o b hk ho=>.inl ⟨k,o,hk,(BP ha (h.dom k o hk) o b).1 ho⟩,
   fun k len sz rows a hk hc hadr=>by
    have:=(ha k (h.dom k _ hk)).2.1
    exact .inl ⟨k,len,sz,rows,a,hk,by rw [← this]; exact hc,by rw [← this]; exact hadr,rfl⟩⟩
def HTg (nt b:Nat) (WP:(Exit→Act→World→Prop)→Act→World→Prop) (m:Nat) (κ:Tm) (h:Aq) (Q:Ex→Nat→Tm→Aq→Prop):Prop :=
  ∀ E a w,SSt m E nt κ h a w→WP (fun e a' w'=>∃ ex m' κ' h' E',e=exOf ex∧Q ex m' κ' h'∧SSt m' E' nt κ' h' a' w'∧WExt E (AO h) w E' (AO h') w'∧Ae (· < b) E E') a w
abbrev HT (P:Program) (nt b:Nat) (c:Code) (m:Nat) (κ:Tm) (h:Aq) (Q:Ex→Nat→Tm→Aq→Prop):Prop:=HTg nt b (c.wp P) m κ h Q
theorem HT.mono {nt b:Nat} {c:Code} {m:Nat} {κ:Tm} {h:Aq} {Q Q':Ex→Nat→Tm→Aq→Prop} (hc:HT P nt b c m κ h Q) (hq:∀ ex m' κ' h',Q ex m' κ' h'→Q' ex m' κ' h'):HT P nt b c m κ h Q':=by
  intro E a w hS
  refine wp_mono (hc E a w hS) ?_
  rintro e a' w' ⟨ex,m',κ',h',E',rfl,q,s,x⟩
  exact ⟨ex,m',κ',h',E',rfl,hq _ _ _ _ q,s,x⟩
def ExNormal:Ex→Prop
  | .normal=>True
  | _=>False
def exBlock (id:Nat):Ex→Ex
  | .exit i=>match Nat.beq i id with
    | true=>.normal
    | false=>.exit i
  | e=>e
theorem HT.block {nt id b:Nat} {x:Code} {m:Nat} {κ:Tm} {h:Aq} {Q:Ex→Nat→Tm→Aq→Prop} (hx:HT P nt b x m κ h fun ex m' κ' h'=>Q (exBlock id ex) m' κ' h'):HT P nt b (.block id x) m κ h Q:=by
  intro E a w hS
  refine wp_block (wp_mono (hx E a w hS) ?_)
  rintro e a' w' ⟨ex,m',κ',h',E',rfl,q,s,g⟩
  cases ex with
  | normal=>exact ⟨.normal,m',κ',h',E',rfl,q,s,g⟩
  | ret=>exact ⟨.ret,m',κ',h',E',rfl,q,s,g⟩
  | exit i =>
    simp only [exBlock] at q
    show Exit.inBlock id _ (.exit i) a' w'
    unfold Exit.inBlock
    by_cases hi:i=id
    · subst hi
      rw [show Nat.beq i i=true from by simp] at q
      dsimp only
      rw [if_pos rfl]
      exact ⟨.normal,m',κ',h',E',rfl,q,s,g⟩
    · rw [beq_ne hi] at q
      dsimp only
      rw [if_neg hi]
      exact ⟨.exit i,m',κ',h',E',rfl,q,s,g⟩
theorem HT.loop {nt b : Nat} {x : Code} {D : Type} (μ : D → Nat) (mm : D → Nat) (κκ : D → Tm) (hh : D → Aq) (I : D → Prop) (Q : D → Ex → Nat → Tm → Aq → Prop)
    (round:∀ d,I d→HT P nt b x (mm d) (κκ d) (hh d) fun ex m' κ' h' =>
      match ex with
      | .normal=>∃ d',I d'∧μ d'<μ d∧m'=mm d'∧κ'=κκ d'∧h'=hh d'∧∀ ex m2 κ2 h2,Q d' ex m2 κ2 h2→Q d ex m2 κ2 h2
      | ex=>Q d ex m' κ' h')
    (d:D) (hd:I d):HT P nt b (.loop x) (mm d) (κκ d) (hh d) (Q d):=by
  intro E a w hS
  refine wp_loop_rounds (μ d+1) ?_
  have main : ∀ n d, μ d < n → I d → ∀ E0 w0 E a w (R : Ex → Nat → Tm → Aq → Prop), (∀ ex m2 κ2 h2, Q d ex m2 κ2 h2 → R ex m2 κ2 h2) → SSt (mm d) E nt (κκ d) (hh d) a w → ∀ lk0, WExt E0 lk0 w0 E (AO (hh d)) w → Ae (· < b) E0 E →
      Code.rounds P x (fun e a' w'=>∃ ex m' κ' h' E',e=exOf ex∧R ex m' κ' h'∧SSt m' E' nt κ' h' a' w'∧WExt E0 lk0 w0 E' (AO h') w'∧Ae (· < b) E0 E') n a w:=by
    intro n
    induction n with
    | zero=>intro d h; omega
    | succ n ih =>
      intro d hn hd E0 w0 E a w R hR hS lk0 hw hag
      rw [rounds_succ]
      refine wp_mono (round d hd E a w hS) ?_
      rintro e a' w' ⟨ex,m',κ',h',E',rfl,q,s,g,ga⟩
      have hag':=hag.trans ga fun _ h=>h
      cases ex with
      | normal =>
        obtain ⟨d',i',hlt,rfl,rfl,rfl,hq⟩:=q
        exact ih d' (by omega) i' E0 w0 E' a' w' R (fun ex m2 κ2 h2 h=>hR _ _ _ _ (hq _ _ _ _ h)) s lk0 (hw.trans g) hag'
      | exit id=>exact ⟨.exit id,m',κ',h',E',rfl,hR _ _ _ _ q,s,hw.trans g,hag'⟩
      | ret=>exact ⟨.ret,m',κ',h',E',rfl,hR _ _ _ _ q,s,hw.trans g,hag'⟩
  exact main _ d (by omega) hd E w E a w _ (fun _ _ _ _ h=>h) hS _ (WExt.refl _ _ _) (Ae.refl _ _)
def forceO {R:Type} (o:Option Ai) (K:Option Ai→R):R :=
  match o with
  | some (.box cs)=>forceC cs fun cs=>K (some (.box cs))
  | some (.lst (.lit n) sz rows g)=>K (some (.lst (.lit n) sz rows g))
  | some (.lst (.sym n) sz rows g)=>K (some (.lst (.sym n) sz rows g))
  | some (.mp b n v)=>forceI b fun b=>forceI n fun n=>K (some (.mp b n v))
  | o=>K o
def forceH {R:Type} (h:Aq):List Nat→(Aq→R)→R
  | [],K=>K []
  | k::ks,K=>forceO (hget k h) fun o=>forceH h ks fun l=>K ((k,o)::l)
theorem forceO_eq {R:Type} (o:Option Ai) (K:Option Ai→R):forceO o K=K o:=by
  unfold forceO
  split
  · rw [forceC_eq]
  · rfl
  · rfl
  · rw [forceI_eq,forceI_eq]
  · rfl
theorem forceH_eq {R:Type} (h:Aq):∀ (ks:List Nat) (K:Aq→R),forceH h ks K=K (ks.map fun k=>(k,hget k h))
  | [],K=>rfl
  | k::ks,K=>by simp only [forceH,forceO_eq,forceH_eq h ks,List.map_cons]
def RunSpec (nt:Nat) (WP:(Exit→Act→World→Prop)→Act→World→Prop) (τ:Tm) (h:Aq) (key:Nat) (s:St):Prop :=
  ∀ (A:Nat→Prop) (E:Env) (a:Act) (w:World) (Q:Exit→Act→World→Prop),StU A E nt τ (AO h) a w→(∀ k,key≤k→k<s.key→¬ A k) →
    (∀ a' w' E1,StU (rng A key s.key) E1 nt s.tm (AO s.heap) a' w'→Ext A E (AO h) w E1 (AO s.heap) w'→Q (exOf s.ex) a' w')→WP Q a w
end
end Go.Eng
set_option linter.unusedSimpArgs false
set_option linter.unusedVariables false
namespace Go.Eng
open Go.RowKit Go.ChangeShapes Go.WideShapes Go.Deep
section
variable {P:Program} {T:Tab}
theorem within_body {f:FuncId} {fn:Func} {c:Code} (hf:P.funcs[f]? = some fn) (hb:fn.body=some c):BT P f fn.ntmps c:=⟨fn,c,hf,hb,rfl,fun _ h=>h⟩
theorem within_block {f:FuncId} {nt id:Nat} {x:Code} (h:BT P f nt (.block id x)):BT P f nt x:=within_sub h fun p hp=>by simp [blocksOf,hp]
theorem within_loop {f:FuncId} {nt:Nat} {x:Code} (h:BT P f nt (.loop x)):BT P f nt x:=within_sub h fun p hp=>by simpa [blocksOf] using hp
theorem tfind_argTm:∀ (l:List AV) (i t:Nat) (v:AV),tfind t (argTm i l)=some v→i≤t∧l[t - i]? = some v
  | [],i,t,v,h=>by cases h
  | x::l,i,t,v,h=>by
    simp only [argTm,tfind] at h
    by_cases hi:i=t
    · subst hi
      rw [show Nat.beq i i=true from by simp] at h
      cases h
      simp
    · rw [beq_ne hi] at h
      obtain ⟨h1,h2⟩:=tfind_argTm l (i+1) t v h
      refine ⟨by omega,?_⟩
      rw [show t - i=(t - (i+1))+1 from by omega]
      exact h2
theorem calls_of_ht {f : FuncId} {fn : Func} {c : Code} (hf : P.funcs[f]? = some fn) (hb : fn.body = some c) {args : List AV} (hle : Nat.ble args.length fn.ntmps = true) {m : Nat} {h : Aq} {R : Nat → Aq → AV → Prop}
    {b:Nat} (H:HT P fn.ntmps b c m (argTm 0 args) h fun ex m' κ' h'=>(∀ i,ex ≠ .exit i)∧∃ l,(∀ τ0,resA P (κ'++τ0) h' fn.results.toList=some l)∧R m' h' (resV l))
    {E:Env} {w:World} {vals:Array Value} (hU:RelU (· < m) E (AO h) w) (hv:∀ E',Ae (· < m) E E'→vals=(BM E' args).toArray) :
    Calls P f vals w fun e w'=>∃ m' h' v E',e = .returned (den E' v)∧R m' h' v∧RelU (· < m') E' (AO h') w'∧WExt E (AO h) w E' (AO h') w'∧Ae (· < b) E E':=by
  have hle:=Nat.le_of_ble_eq_true hle
  have hvals:vals.size=args.length:=by rw [hv E (Ae.refl _ E)]; simp [BL]
  refine calls_of_wp hf hb (wp_mono (H E _ w ⟨hU,by simp; omega,rfl,fun t v ht E' h'=>?_⟩) ?_)
  · obtain ⟨_,h2⟩:=tfind_argTm args 0 t v ht
    have hlt:t<args.length:=by
      have:=(List.getElem?_eq_some_iff.1 h2).1
      omega
    show (vals++Array.replicate (fn.ntmps - vals.size) undef).getD t undef=_
    rw [hv E' h']
    simp only [Array.getD_eq_getD_getElem?,Array.getElem?_append,List.size_toArray,BL]
    rw [if_pos hlt]
    simp only [Nat.sub_zero] at h2
    simp [denL_get,h2]
  · rintro e a' w' ⟨ex,m',κ',h',E',rfl,⟨hex,l,hl,hR⟩,hS,hx⟩
    have hS':=hS.stU
    have hrun:=results_run (P:=P) (fn:=fn) hS'.rel.here (hS'.tm E' (Ae.refl _ _)) (hl _)
    have:a'.defers=[]∧∃ v',(results fn a'.tmps).run P w' = .ok v' w'∧∃ m' h' v E',Ending.returned v' = .returned (den E' v)∧R m' h' v∧RelU (· < m') E' (AO h') w'∧WExt E (AO h) w E' (AO h') w'∧Ae (· < b) E E' :=
      ⟨hS.defers,_,hrun,m',h',_,E',rfl,hR,hS.rel,hx⟩
    cases ex with
    | exit id=>exact absurd rfl (hex id)
    | normal=>exact this
    | ret=>exact this
def ObjsOk (m:Nat) (φ:Nat→Nat) (h:Aq):List (Nat×Ai)→Prop
  | []=>True
  | p::l=>(Nat.blt p.1 m=true∧((∃ o',hget (φ p.1) h=some o'∧SameO isNil φ (· < m) o' p.2)∨(isNil (φ p.1)=true∧NilO (· < m) p.2)))∧ObjsOk m φ h l
def Ad:List (Nat×Ai)→Aq
  | []=>[]
  | p::l=>(p.1,some p.2)::Ad l
def distB:List Nat→Bool
  | []=>true
  | x::l=>match memK x l with
    | true=>false
    | false=>distB l
theorem BS {k:Nat} {o:Ai} : ∀ {l:List (Nat×Ai)},hget k (Ad l)=some o→(k,o)∈l
  | [],e=>by cases e
  | p::l,e=>by
    simp only [Ad,hget] at e
    cases hb:Nat.beq p.1 k
    · rw [hb] at e; exact List.mem_cons_of_mem _ (BS e)
    · rw [hb] at e
      cases e
      rw [← Nat.eq_of_beq_eq_true hb]
      exact List.mem_cons_self
theorem distB_inj {φ:Nat→Nat} : ∀ {l:List (Nat×Ai)},distB (l.map fun p=>φ p.1)=true→∀ p∈l,∀ q∈l,φ p.1=φ q.1→p=q
  | [],_,p,hp,_,_,_=>by cases hp
  | x::l,h,p,hp,q,hq,e=>by
    simp only [List.map_cons,distB] at h
    split at h
    · cases h
    · rename_i hm
      have no:∀ y∈l,φ x.1≠φ y.1:=fun y hy he=>by
        have:memK (φ x.1) (l.map fun p=>φ p.1)=true:=memK_iff.2 (by rw [he]; exact List.mem_map.2 ⟨y,hy,rfl⟩)
        rw [this] at hm
        cases hm
      rcases List.mem_cons.1 hp with e1 | hp <;> rcases List.mem_cons.1 hq with e2 | hq
      · rw [e1,e2]
      · rw [e1] at e; exact absurd e (no q hq)
      · rw [e2] at e; exact absurd e.symm (no p hp)
      · exact distB_inj h p hp q hq e
def PlainRows (rows:Nat→List AV):Prop:=∀ i,Ap (rows i)=true∧keysL (rows i)=[]
inductive PK where
  | bool
  | int (k:IntKind)
def PK.ok:PK→Value→Prop
  | .bool,v=>∃ b,v = .bool b
  | .int k,v=>∃ n,v = .int k n∧(Lit.int k n).wf=true
def oks:List PK→List Value→Prop
  | [],[]=>True
  | k::l,v::cs=>k.ok v∧oks l cs
  | _,_=>False
theorem oks_append:∀ {l:List PK} {cs:List Value} {l':List PK} {cs':List Value},oks l cs→oks l' cs'→oks (l++l') (cs++cs')
  | [],[],_,_,_,h=>h
  | k::l,v::cs,_,_,h,h'=>⟨h.1,oks_append h.2 h'⟩
  | [],_::_,_,_,h,_=>h.elim
  | _::_,[],_,_,h,_=>h.elim
def pkFields (P:Program) (g:TypeId→Option (List PK)):List Field→Nat→Option (List PK)
  | [],_=>some []
  | f::fs,off=>match g f.type,Nat.beq f.offset off with
    | some l,true=>match Nat.beq l.length (P.cellsOf f.type),pkFields P g fs (off+l.length) with
      | true,some l'=>some (l++l')
      | _,_=>none
    | _,_=>none
def pkT (P:Program):Nat→TypeId→Option (List PK)
  | 0,_=>none
  | n+1,t=>match P.underlying t with
    | some .bool=>some [.bool]
    | some (.int k)=>some [.int k]
    | some (.struct fs)=>match pkFields P (pkT P n) fs.toList 0 with
      | some l=>match Nat.beq l.length (P.cellsOf t) with
        | true=>some l
        | false=>none
      | none=>none
    | some (.array m e)=>match pkT P n e with
      | some l=>match Nat.beq l.length (P.cellsOf e),Nat.beq (m * l.length) (P.cellsOf t) with
        | true,true=>some (List.replicate m l).flatten
        | _,_=>none
      | none=>none
    | _=>none
variable {H:Type} {enc:TypeId×Value→H} {w:World} {base:Nat} {spare:Nat→Bool} {held:Bool}
theorem pkFields_ok {g : TypeId → Option (List PK)} {cs : List Value} : ∀ (fs : List Field) (off : Nat) (l : List PK), pkFields P g fs off = some l →
    (∀ f∈fs,∀ l,g f.type=some l→oks l ((cs.drop f.offset).take (P.cellsOf f.type)))→oks l ((cs.drop off).take l.length)
  | [],off,l,e,_=>by
    cases e
    simp [oks]
  | f::fs,off,l,e,h=>by
    simp only [pkFields] at e
    split at e
    · rename_i l1 h1 h2
      split at e
      · rename_i l2 h3 h4
        cases e
        have i1:=h f (by simp) _ h1
        rw [← Nat.eq_of_beq_eq_true h3,Nat.eq_of_beq_eq_true h2] at i1
        have i2:=pkFields_ok fs _ _ h4 fun f hf=>h f (by simp [hf])
        rw [List.length_append,List.take_add,List.drop_drop]
        exact oks_append i1 i2
      · cases e
    · cases e
theorem rep_ok {l:List PK} {cs:List Value} (c:Nat) (hc:l.length=c):∀ (m i:Nat),(∀ j,j<m→oks l ((cs.drop ((i+j) * c)).take c))→oks (List.replicate m l).flatten ((cs.drop (i * c)).take (m * c))
  | 0,i,_=>by simp [oks]
  | m+1,i,h=>by
    have i1:=h 0 (by omega)
    rw [Nat.add_zero] at i1
    have i2:=rep_ok c hc m (i+1) fun j hj=>by
      have:=h (j+1) (by omega)
      rw [show i+(j+1)=i+1+j from by omega] at this
      exact this
    rw [List.replicate_succ,List.flatten_cons,show (m+1) * c=c+m * c from by rw [Nat.succ_mul]; omega,List.take_add,List.drop_drop,show i * c+c=(i+1) * c from by rw [Nat.succ_mul]]
    exact oks_append i1 i2
theorem pkT_ok:∀ (n:Nat) (t:TypeId) (l:List PK),pkT P n t=some l→∀ (fuel:Nat) (cs:List Value) (x:DataW H×List MemPlace),DataW.trod enc P w base spare held fuel t cs=some x→oks l cs
  | 0,_,_,e,_,_,_,_=>by cases e
  | n+1,t,l,e,fuel,cs,x,h=>by
    simp only [pkT] at e
    split at e
    · rename_i hu
      cases e
      cases fuel with
      | zero=>simp [DataW.trod] at h
      | succ fuel =>
        unfold DataW.trod at h
        rw [hu] at h
        split at h <;> simp_all [oks,PK.ok]
    · rename_i k hu
      cases e
      obtain ⟨a,rfl,_,wa⟩:=DataW.trod_int hu h
      exact ⟨⟨a,rfl,wa⟩,trivial⟩
    · rename_i fs hu
      split at e
      · rename_i l' hl'
        split at e
        · rename_i hb
          cases e
          obtain ⟨xs,m,rfl,rfl,hlen,hxs,hf⟩:=DataW.trod_struct hu h
          have:=pkFields_ok (cs:=cs) fs.toList 0 _ hl' fun f hf' l2 hl2=>by
            obtain ⟨i,hi,hfi⟩:=List.getElem_of_mem hf'
            have hi':i<fs.size:=by simpa using hi
            have h1:=hf i f (by simp [Array.getElem?_eq_getElem hi',← hfi])
            have hx:xs[i]? = some (xs[i]'(by omega)):=List.getElem?_eq_getElem (by omega)
            exact pkT_ok n _ _ hl2 _ _ _ (h1.trans hx)
          rw [List.drop_zero,List.take_of_length_le (by rw [hlen,Nat.eq_of_beq_eq_true hb]; exact Nat.le_refl _)] at this
          exact this
        · cases e
      · cases e
    · rename_i m et hu
      split at e
      · rename_i l' hl'
        split at e
        · rename_i h1 h2
          cases e
          obtain ⟨xs,m',rfl,rfl,hlen,hxs,hf⟩:=DataW.trod_array hu h
          have hc:=Nat.eq_of_beq_eq_true h1
          have:=rep_ok (l:=l') (cs:=cs) (P.cellsOf et) hc m 0 fun j hj=>by
            have h3:=hf j hj
            have hx:xs[j]? = some (xs[j]'(by omega)):=List.getElem?_eq_getElem (by omega)
            rw [Nat.zero_add]
            exact pkT_ok n _ _ hl' _ _ _ (h3.trans hx)
          rw [Nat.zero_mul,List.drop_zero,List.take_of_length_le (by rw [hlen,← Nat.eq_of_beq_eq_true h2,hc]; exact Nat.le_refl _)] at this
          exact this
        · cases e
      · cases e
    · cases e
def skel (n:Nat→Int) (b:Nat→Bool):List PK→Nat→List AV
  | [],_=>[]
  | .bool::l,j=>.bool (.sym (b j))::skel n b l (j+1)
  | .int k::l,j=>.int k (.sym (n j))::skel n b l (j+1)
def wfs (n:Nat→Int):List PK→Nat→Prop
  | [],_=>True
  | .bool::l,j=>wfs n l (j+1)
  | .int k::l,j=>(Lit.int k (n j)).wf=true∧wfs n l (j+1)
theorem oks_skel:∀ (l:List PK) (cs:List Value) (j:Nat),oks l cs→∃ n b,wfs n l j∧∀ E,cs=BM E (skel n b l j)
  | [],[],_,_=>⟨fun _=>0,fun _=>false,trivial,fun _=>rfl⟩
  | .bool::l,v::cs,j,h=>by
    obtain ⟨⟨x,rfl⟩,h2⟩:=h
    obtain ⟨n,b,h3,h4⟩:=oks_skel l cs (j+1) h2
    have ext:∀ (l:List PK) (i:Nat),j<i→skel n (fun i=>if i=j then x else b i) l i=skel n b l i:=by
      intro l
      induction l with
      | nil=>intro i _; rfl
      | cons k l ih =>
        intro i hi
        cases k <;> simp [skel,ih (i+1) (by omega),show i≠j from by omega]
    refine ⟨n,fun i=>if i=j then x else b i,h3,fun E=>?_⟩
    simp only [skel,BM,den,SB.v,if_pos,ext l (j+1) (by omega)]
    rw [← h4 E]
  | .int k::l,v::cs,j,h=>by
    obtain ⟨⟨x,rfl,hx⟩,h2⟩:=h
    obtain ⟨n,b,h3,h4⟩:=oks_skel l cs (j+1) h2
    have ext:∀ (l:List PK) (i:Nat),j<i→skel (fun i=>if i=j then x else n i) b l i=skel n b l i∧(wfs n l i→wfs (fun i=>if i=j then x else n i) l i):=by
      intro l
      induction l with
      | nil=>intro i _; exact ⟨rfl,fun h=>h⟩
      | cons k l ih =>
        intro i hi
        obtain ⟨i1,i2⟩:=ih (i+1) (by omega)
        cases k <;> simp [skel,wfs,i1,show i≠j from by omega]
        · exact i2
        · exact fun h h'=>⟨h,i2 h'⟩
    refine ⟨fun i=>if i=j then x else n i,b,⟨by simp [hx],(ext l (j+1) (by omega)).2 h3⟩,fun E=>?_⟩
    simp only [skel,BM,den,SI.v,if_pos,(ext l (j+1) (by omega)).1]
    rw [← h4 E]
  | [],_::_,_,h=>h.elim
  | .bool::_,[],_,h=>h.elim
  | .int _::_,[],_,h=>h.elim
theorem open_plain {t : TypeId} {fs : Array Field} {f : Nat} {l : List PK} {r : Reach} {b0 : Nat} {v : Value} {d : DataW H} {p : List MemPlace} (hs : P.underlying t = some (.struct fs)) (hl : pkT P f t = some l)
    (hv:Value.okWide P w r b0 t v) (h:DataW.Trod enc P w base spare held t v d p):∃ n b,wfs n l 0∧∀ E,v=den E (.agg (skel n b l 0)):=by
  obtain ⟨cs,rfl,_⟩:=okWide_struct hs hv
  obtain ⟨fuel,hf⟩:=h
  obtain ⟨n,b,h1,h2⟩:=oks_skel l _ 0 (pkT_ok f t l hl fuel _ _ hf)
  refine ⟨n,b,h1,fun E=>?_⟩
  have:=h2 E
  simp only [Value.cells] at this
  simp [den,← this]
end
end Go.Eng
set_option linter.unusedSimpArgs false
set_option linter.unusedVariables false
namespace Go.Eng
section
variable {P:Program} {T:Tab}
def allLit:List SI→Bool
  | []=>true
  | .lit _::l=>allLit l
  | .sym _::_=>false
def mkB (l:List SI) (b:Bool):AV:=match allLit l with
  | true=>.bool (.lit b)
  | false=>.bool (.sym b)
def Ak (P:Program) (f:FuncId) (S:Summ):Prop:=SummOK P f S∧∀ args h key r,(S.run args h key).sel=some r→key≤r.2.2.2∧WOK (AO h) key r.2.2.2 r.2.2.1
def tabOf:List (FuncId×Summ)→FuncId→Option Summ
  | [],_=>none
  | p::l,f=>match Nat.beq f p.1 with
    | true=>some p.2
    | false=>tabOf l f
theorem tabOf_ok {l:List (FuncId×Summ)} (h:∀ p∈l,Ak P p.1 p.2):∀ f S,tabOf l f=some S→Ak P f S:=by
  induction l with
  | nil=>intro f S e; cases e
  | cons p l ih =>
    intro f S e
    simp only [tabOf] at e
    split at e
    · rename_i hb
      cases e
      have:=Nat.eq_of_beq_eq_true hb
      subst this
      exact h p (by simp)
    · exact ih (fun q hq=>h q (by simp [hq])) f S e
def AllOk (P:Program):List (FuncId×Summ)→Prop
  | []=>True
  | p::l=>Ak P p.1 p.2∧AllOk P l
theorem AllOk.mem:∀ {l:List (FuncId×Summ)},AllOk P l→∀ p∈l,Ak P p.1 p.2
  | [],_,_,h=>by cases h
  | q::l,⟨h1,h2⟩,p,h=>by
    rcases List.mem_cons.1 h with e | h
    · rw [e]; exact h1
    · exact h2.mem p h
theorem tab_ok {l:List (FuncId×Summ)} (h:AllOk P l):TabAll P (smTab (tabOf l)):=smTab_all (tabOf_ok h.mem)
end
end Go.Eng
set_option linter.unusedSimpArgs false
set_option linter.unusedVariables false
namespace Go.Eng
section
variable {P:Program} {T:Tab}
def StdN (P:Program) (f:FuncId) (m:Nat) (h:List (Nat×Ai)) (args:List AV) (m':Nat) (h':List (Nat×Ai)) (v:AV):Prop :=
  ∀ E w,RelU (· < m) E (AO (Ad h)) w→Calls P f (BM E args).toArray w fun e w'=>∃ E1,e = .returned (den E1 v)∧Ae (· < m) E E1∧RelU (· < m') E1 (AO (Ad h')) w'∧WExt E (AO (Ad h)) w E1 (AO (Ad h')) w'
def outC (ks:List Nat) (v:AV) (h:Aq) (key:Nat):Ah (AV×Aq):=match Nat.ble key nilK with
  | true=>forceV v fun v=>forceH h ks fun h=>.leaf (v,h)
  | false=>.fail "keys"
theorem Az {m:Nat} {l:List Nat} (h:l.all (Nat.blt · m)=true):∀ k∈l,k<m:=fun k hk=>Nat.le_of_ble_eq_true (List.all_eq_true.1 h k hk)
def renO (φ:Nat→Nat):Ai→Ai
  | .box cs=>.box (renL φ cs)
  | .tok=>.tok
  | .lst len sz rows g=>.lst len sz (fun i=>renL φ (rows i)) (g.map φ)
  | .opq R=>.opq R
  | .mp b n v=>.mp b n (fun i=>ren φ (v i))
  | .own t R d g=>.own t R d (φ g)
  | .als b lo hi sz of=>.als (φ b) lo hi sz (φ of)
def lkN (l:List Nat) (j:Nat):Nat:=l.getD j 0
def idxN (k:Nat):List Nat→Nat
  | []=>0
  | x::l=>match Nat.beq x k with
    | true=>0
    | false=>idxN k l+1
def wOf (φ:Nat→Nat):List (Nat×Ai)→Aq
  | []=>[]
  | p::l=>(φ p.1,some (renO φ p.2))::wOf φ l
theorem idx_lkN:∀ {l:List Nat} {j:Nat},distB l=true→j<l.length→idxN (lkN l j) l=j
  | [],_,_,h=>absurd h (Nat.not_lt_zero _)
  | x::l,0,_,_=>by simp [lkN,idxN]
  | x::l,j+1,hd,h=>by
    simp only [distB] at hd
    split at hd
    · cases hd
    · rename_i hm
      have hj:j<l.length:=by simpa using h
      have e:lkN (x::l) (j+1)=lkN l j:=rfl
      have hne:x≠lkN l j:=fun he=>by
        have:memK x l=true:=memK_iff.2 (by rw [he]; simp [lkN,List.getD,List.getElem?_eq_getElem hj])
        rw [this] at hm
        cases hm
      simp only [idxN]
      rw [e,beq_ne hne]
      dsimp only
      rw [idx_lkN hd hj]
theorem lk_idxN:∀ {l:List Nat} {k:Nat},k∈l→lkN l (idxN k l)=k∧idxN k l<l.length
  | x::l,k,h=>by
    simp only [idxN]
    by_cases hx:x=k
    · subst hx
      rw [show Nat.beq x x=true from by simp]
      exact ⟨rfl,by simp⟩
    · rw [beq_ne hx]
      rcases List.mem_cons.1 h with h | h
      · exact absurd h.symm hx
      · obtain ⟨h1,h2⟩:=lk_idxN h
        exact ⟨h1,by simpa using h2⟩
theorem lkN_mem {l:List Nat} {j:Nat} (h:j<l.length):lkN l j∈l:=by simp [lkN,List.getD,List.getElem?_eq_getElem h]
mutual
theorem keysOf_ren (φ:Nat→Nat):∀ v:AV,keysOf (ren φ v)=(keysOf v).map φ
  | .ptr _ _=>rfl
  | .elp _ _ _ _=>rfl
  | .sl _=>rfl
  | .mref _=>rfl
  | .fn f a b=>by simp [ren,keysOf,keysL_ren φ a,keysL_ren φ b]
  | .ifc t v=>by simp [ren,keysOf,keysOf_ren φ v]
  | .agg l=>by simp [ren,keysOf,keysL_ren φ l]
  | .tup l=>by simp [ren,keysOf,keysL_ren φ l]
  | .bool _=>rfl
  | .int _ _=>rfl
  | .str _=>rfl
  | .slIf _ _ _=>rfl
  | .slN _=>rfl
  | .nilp=>rfl
  | .nils=>rfl
  | .nilf=>rfl
  | .nili=>rfl
  | .raw _=>rfl
theorem keysL_ren (φ:Nat→Nat):∀ l:List AV,keysL (renL φ l)=(keysL l).map φ
  | []=>rfl
  | v::l=>by simp [renL,keysL,keysOf_ren φ v,keysL_ren φ l]
end
theorem scalar_ren (φ:Nat→Nat) (v:AV):(ren φ v).scalar=v.scalar:=by cases v <;> rfl
theorem allScalar_ren (φ:Nat→Nat):∀ l:List AV,Ap (renL φ l)=Ap l
  | []=>rfl
  | v::l=>by
    simp only [renL,Ap,scalar_ren φ v,allScalar_ren φ l]
theorem length_ren (φ:Nat→Nat):∀ l:List AV,(renL φ l).length=l.length
  | []=>rfl
  | v::l=>by simp [renL,length_ren φ l]
theorem wOf_mem {φ:Nat→Nat} {k:Nat} {o:Option Ai} : ∀ {l:List (Nat×Ai)},(k,o)∈wOf φ l→∃ p∈l,k=φ p.1∧o=some (renO φ p.2)
  | [],h=>by cases h
  | p::l,h=>by
    simp only [wOf] at h
    rcases List.mem_cons.1 h with h | h
    · cases h; exact ⟨p,by simp,rfl,rfl⟩
    · obtain ⟨q,h1,h2⟩:=wOf_mem h
      exact ⟨q,by simp [h1],h2⟩
theorem wget_wOf {φ:Nat→Nat} {k:Nat} {o:Option Ai} : ∀ {l:List (Nat×Ai)},wget k (wOf φ l)=some o→(k,o)∈wOf φ l
  | [],h=>by cases h
  | p::l,h=>by
    simp only [wOf,wget] at h ⊢
    cases hb:Nat.beq (φ p.1) k
    · rw [hb] at h; exact List.mem_cons_of_mem _ (wget_wOf h)
    · rw [hb] at h
      cases h
      rw [Nat.eq_of_beq_eq_true hb]
      exact List.mem_cons_self
theorem wget_cov {φ:Nat→Nat} {j:Nat} : ∀ {l:List (Nat×Ai)},j∈l.map (·.1)→wget (φ j) (wOf φ l)≠none
  | [],h=>by cases h
  | p::l,h=>by
    simp only [wOf,wget]
    cases hb:Nat.beq (φ p.1) (φ j)
    · dsimp only
      rcases List.mem_cons.1 h with h | h
      · rw [h] at hb
        simp at hb
      · exact wget_cov h
    · simp
theorem hget_mk_mem {k:Nat} {o:Ai} : ∀ {l:List (Nat×Ai)},distB (l.map (·.1))=true→(k,o)∈l→hget k (Ad l)=some o
  | [],_,h=>by cases h
  | p::l,hd,h=>by
    simp only [List.map_cons,distB] at hd
    split at hd
    · cases hd
    · rename_i hm
      simp only [Ad,hget]
      rcases List.mem_cons.1 h with e | h
      · rw [← e]
        rw [show Nat.beq k k=true from by simp]
      · have hne : p.1 ≠ k := fun e => by
          have:memK p.1 (l.map (·.1))=true:=memK_iff.2 (by rw [e]; exact List.mem_map.2 ⟨(k,o),h,rfl⟩)
          rw [this] at hm
          cases hm
        rw [beq_ne hne]
        exact hget_mk_mem hd h
end
end Go.Eng
set_option linter.unusedSimpArgs false
set_option linter.unusedVariables false
namespace Go.Eng
section
variable {P:Program} {T:Tab}
def psi (φ:List Nat) (key j:Nat):Nat:=match Nat.blt j φ.length with
  | true=>lkN φ j
  | false=>key+(j - φ.length)
def psiI (φ:List Nat) (key n k:Nat):Nat:=match Nat.ble key k&&Nat.blt k (key+n) with
  | true=>φ.length+(k - key)
  | false=>idxN k φ
def isBox:Ai→Bool
  | .box _=>true
  | _=>false
theorem psi_lt {φ:List Nat} {key j:Nat} (h:j<φ.length):psi φ key j=lkN φ j:=by
  unfold psi
  rw [show Nat.blt j φ.length=true from Nat.ble_eq_true_of_le h]
theorem psi_ge {φ:List Nat} {key j:Nat} (h:φ.length≤j):psi φ key j=key+(j - φ.length):=by
  unfold psi
  have:Nat.blt j φ.length=false:=by
    cases hb:Nat.blt j φ.length
    · rfl
    · have:j+1≤φ.length:=Nat.le_of_ble_eq_true hb
      omega
  rw [this]
theorem psiI_new {φ:List Nat} {key n k:Nat} (h1:key≤k) (h2:k<key+n):psiI φ key n k=φ.length+(k - key):=by
  unfold psiI
  rw [show Nat.ble key k=true from Nat.ble_eq_true_of_le h1,show Nat.blt k (key+n)=true from Nat.ble_eq_true_of_le h2]
  rfl
theorem psiI_old {φ:List Nat} {key n k:Nat} (h:¬ (key≤k∧k<key+n)):psiI φ key n k=idxN k φ:=by
  unfold psiI
  have:(Nat.ble key k&&Nat.blt k (key+n))=false:=by
    cases hb:(Nat.ble key k&&Nat.blt k (key+n))
    · rfl
    · simp only [Bool.and_eq_true] at hb
      exact absurd ⟨Nat.le_of_ble_eq_true hb.1,Nat.le_of_ble_eq_true hb.2⟩ h
  rw [this]
theorem cell_at {w:World} {B:Nat} {C:Array Value} {ty:TypeId} (h:w.heap[B]? = some (.cells C ty (0,0))) (o:Nat):w.cell? ⟨B,o,none⟩=C[o]?:=by
  simp [World.cell?,h]
end
end Go.Eng
set_option linter.unusedSimpArgs false
set_option linter.unusedVariables false
namespace Go.Eng
open Go.RowKit Go.ChangeShapes Go.WideShapes Go.Deep
def GoodV (v:AV):Prop:=∃ b:SB,v = .bool b∧b.v=true
theorem GoodV.den {v:AV} (h:GoodV v) (E:Env):Eng.den E v = .bool true:=by
  obtain ⟨b,rfl,hb⟩:=h
  simp [Eng.den,hb]
theorem good_sym {b:Bool} (h:b=true):(Ah.leaf (AV.bool (.sym b))).Holds GoodV:=AE ⟨_,rfl,h⟩
theorem tmod_in {n:Int} (m:Int) (h:0≤n) (hm:0<m):0≤n.tmod m∧n.tmod m<m:=by
  rw [Int.tmod_eq_emod_of_nonneg h]
  exact ⟨Int.emod_nonneg _ (by omega),Int.emod_lt_of_pos _ hm⟩
theorem wf_in {k:IntKind} {n:Int} (h:(Lit.int k n).wf=true):k.min≤n∧n≤k.max:=by
  simp [Lit.wf] at h
  omega
theorem wf_u8 {n:Int} (h:(Lit.int .u8 n).wf=true):0≤n∧n<256:=by
  have:=wf_in h
  have e1:IntKind.u8.min=0:=rfl
  have e2:IntKind.u8.max=255:=rfl
  omega
theorem wf_u32 {n:Int} (h:(Lit.int .u32 n).wf=true):0≤n∧n<4294967296:=by
  have:=wf_in h
  have e1:IntKind.u32.min=0:=rfl
  have e2:IntKind.u32.max=4294967295:=rfl
  omega
section
variable {P:Program} {T:Tab}
theorem law_c (hT : TabAll P T) (hm : P.follows .mixedOrders = true) {n : Nat} {g : FuncId} {args : List AV} (h : (runV P T n g args).Holds GoodV) (w : World) {vals : Array Value} (hv : ∀ E, vals = (BM E args).toArray) :
    Calls P g vals w fun e w'=>e = .returned (.bool true)∧Below w.heap.size w w':=by
  obtain ⟨v,h1,h2⟩:=h
  refine (pure_calls hT hm h1 w _ hv).mono ?_
  rintro e w' ⟨⟨E,rfl⟩,hb⟩
  exact ⟨by rw [h2.den],hb⟩
variable {H:Type} {enc:TypeId×Value→H} {w:World} {base:Nat} {spare:Nat→Bool} {held:Bool}
end
end Go.Eng
set_option linter.unusedSimpArgs false
set_option linter.unusedVariables false
namespace Go.Eng
open Go.RowKit
section
variable {P:Program} {T:Tab}
def flat:Code→List Code
  | .seq a b=>flat a++flat b
  | c=>[c]
def ofL:List Code→Code
  | []=>.skip
  | [c]=>c
  | c::d::l=>.seq c (ofL (d::l))
theorem blocks_ofL:∀ l:List Code,∀ p∈blocksOf (ofL l),∃ c∈l,p∈blocksOf c
  | [],p,h=>by cases h
  | [c],p,h=>⟨c,by simp,h⟩
  | c::d::l,p,h=>by
    simp only [ofL,blocksOf,List.mem_append] at h
    rcases h with h | h
    · exact ⟨c,by simp,h⟩
    · obtain ⟨x,h1,h2⟩:=blocks_ofL (d::l) p h
      exact ⟨x,List.mem_cons_of_mem _ h1,h2⟩
theorem blocks_flat (c:Code):∀ x∈flat c,∀ p∈blocksOf x,p∈blocksOf c:=by
  induction c with
  | seq a b iha ihb =>
    intro x h p hp
    simp only [flat,List.mem_append] at h
    simp only [blocksOf,List.mem_append]
    rcases h with h | h
    · exact .inl (iha x h p hp)
    · exact .inr (ihb x h p hp)
  | _ =>
    intro x h p hp
    simp only [flat,List.mem_singleton] at h
    subst h
    exact hp
theorem within_flat {f:FuncId} {nt:Nat} {c:Code} (h:BT P f nt c) {l:List Code} (hl:∀ x∈l,x∈flat c):BT P f nt (ofL l) :=
  within_sub h fun p hp=>by
    obtain ⟨x,h1,h2⟩:=blocks_ofL l p hp
    exact blocks_flat c x (hl x h1) p h2
theorem within_take {f:FuncId} {nt:Nat} {c:Code} (h:BT P f nt c) (k:Nat):BT P f nt (ofL ((flat c).take k)):=within_flat h fun x hx=>List.mem_of_mem_take hx
theorem within_drop {f:FuncId} {nt:Nat} {c:Code} (h:BT P f nt c) (k:Nat):BT P f nt (ofL ((flat c).drop k)):=within_flat h fun x hx=>List.mem_of_mem_drop hx
theorem within_at {f:FuncId} {nt:Nat} {c x:Code} (h:BT P f nt c) (k:Nat) (hx:(flat c)[k]? = some x):BT P f nt x:=within_sub h (blocks_flat c x (List.mem_of_getElem? hx))
def wpL (P:Program):List Code→(Exit→Act→World→Prop)→Act→World→Prop
  | [],Q=>Q .normal
  | c::l,Q=>c.wp P (Exit.then (wpL P l Q) Q)
theorem wpL_mono:∀ {l:List Code} {Q Q':Exit→Act→World→Prop} {a:Act} {w:World},wpL P l Q a w→(∀ e a w,Q e a w→Q' e a w)→wpL P l Q' a w
  | [],Q,Q',a,w,h,hq=>hq _ _ _ h
  | c::l,Q,Q',a,w,h,hq=>wp_mono (show c.wp P _ a w from h) fun e a' w' h'=>by
    cases e <;> first | exact hq _ _ _ h' | exact wpL_mono (l:=l) h' hq
theorem wpL_append (Q:Exit→Act→World→Prop):∀ (l1 l2:List Code) (a:Act) (w:World),wpL P (l1++l2) Q a w↔wpL P l1 (Exit.then (wpL P l2 Q) Q) a w
  | [],l2,a,w=>Iff.rfl
  | c::l,l2,a,w=>by
    constructor
    · intro h
      refine wp_mono (show c.wp P _ a w from h) fun e a' w' h'=>?_
      cases e <;> first | exact h' | exact (wpL_append Q l l2 a' w').1 h'
    · intro h
      refine wp_mono (show c.wp P _ a w from h) fun e a' w' h'=>?_
      cases e <;> first | exact h' | exact (wpL_append Q l l2 a' w').2 h'
theorem wp_flat:∀ (c:Code) (Q:Exit→Act→World→Prop) (a:Act) (w:World),wpL P (flat c) Q a w→c.wp P Q a w:=by
  have one:∀ (c:Code) (Q:Exit→Act→World→Prop) (a:Act) (w:World),wpL P [c] Q a w→c.wp P Q a w:=fun c Q a w h =>
    wp_mono (show c.wp P _ a w from h) fun e a' w' h'=>by cases e <;> exact h'
  intro c
  induction c with
  | seq x y ihx ihy =>
    intro Q a w h
    refine wp_seq (ihx _ a w (wpL_mono ((wpL_append Q (flat x) (flat y) a w).1 h) fun e a' w' h'=>?_))
    cases e <;> first | exact h' | exact ihy _ _ _ h'
  | _=>exact one _
abbrev HTL (P:Program) (nt b:Nat) (l:List Code) (m:Nat) (κ:Tm) (h:Aq) (Q:Ex→Nat→Tm→Aq→Prop):Prop:=HTg nt b (wpL P l) m κ h Q
theorem wpL_one {c:Code} {Q:Exit→Act→World→Prop} {a:Act} {w:World} (h:c.wp P Q a w):wpL P [c] Q a w:=wp_mono h fun e a' w' h'=>by cases e <;> exact h'
theorem codeD_soundL (hT:TabAll P T) (hm:P.follows .mixedOrders=true) {f:FuncId} {nt:Nat} : ∀ (l:List Code) (n:Nat) (τ:Tm) (h:Aq) (key:Nat) (s:St),l≠[]→BT P f nt (ofL l)→codeD P T n f nt (ofL l) τ h key=some s→RunSpec nt (wpL P l) τ h key s
  | [],_,_,_,_,_,hne,_,_=>absurd rfl hne
  | [c],n,τ,h,key,s,_,hin,e=>fun A E a w Q hS hk hQ=>wpL_one (codeD_sound hT hm n f nt c τ h key s hin e A E a w Q hS hk hQ)
  | c::d::l,0,τ,h,key,s,_,hin,e=>by cases e
  | c::d::l,n+1,τ,h,key,s,_,hin,e=>by
    have hx:BT P f nt c:=within_sub hin fun p hp=>by simp [ofL,blocksOf,hp]
    have hy:BT P f nt (ofL (d::l)):=within_sub hin fun p hp=>by simp only [ofL,blocksOf,List.mem_append]; exact .inr hp
    simp only [ofL,codeD] at e
    obtain ⟨s1,h1,e⟩:=BC e
    intro A E a w Q hS hk hQ
    have grows:=fun c τ h key s e=>(codeD_grows (P:=P) (T:=T) hT.toTabW n f nt c τ h key s e).1
    have g1:=grows _ _ _ _ _ h1
    have ih:=codeD_sound hT hm n
    show c.wp P (Exit.then (wpL P (d::l) Q) Q) a w
    cases hex:s1.ex with
    | normal =>
      rw [hex] at e
      have g2:=grows _ _ _ _ _ e
      refine (ih f nt c τ h key s1 hx h1).then g1 g2 hS hk fun a' w' E1 hS1 hk1 hfin=>?_
      rw [hex]
      exact codeD_soundL hT hm (d::l) n _ _ _ s (by simp) hy e _ E1 a' w' Q hS1 hk1 fun a'' w'' E2 hS2 hx2=>hQ a'' w'' E2 (hfin a'' w'' E2 hS2 hx2).1 (hfin a'' w'' E2 hS2 hx2).2
    | exit id =>
      rw [hex] at e
      cases e
      refine ih f nt c τ h key s hx h1 A E a w _ hS hk fun a' w' E1 hS1 hx1=>?_
      have:=hQ a' w' E1 hS1 hx1
      rw [hex] at this ⊢
      exact this
    | ret =>
      rw [hex] at e
      cases e
      refine ih f nt c τ h key s hx h1 A E a w _ hS hk fun a' w' E1 hS1 hx1=>?_
      have:=hQ a' w' E1 hS1 hx1
      rw [hex] at this ⊢
      exact this
theorem HTL.append {nt b : Nat} {l1 l2 : List Code} {m : Nat} {κ : Tm} {h : Aq} {R Q : Ex → Nat → Tm → Aq → Prop} (hx : HTL P nt b l1 m κ h R)
    (hy:∀ m' κ' h',R .normal m' κ' h'→HTL P nt b l2 m' κ' h' Q) (ho:∀ ex m' κ' h',R ex m' κ' h'→¬ ExNormal ex→Q ex m' κ' h'):HTL P nt b (l1++l2) m κ h Q:=by
  intro E a w hS
  refine (wpL_append _ l1 l2 a w).2 (wpL_mono (hx E a w hS) ?_)
  rintro e a' w' ⟨ex,m',κ',h',E',rfl,q,s,g,ga⟩
  cases ex with
  | normal =>
    show wpL P l2 _ a' w'
    refine wpL_mono (hy _ _ _ q E' a' w' s) ?_
    rintro e2 a2 w2 ⟨ex2,m2,κ2,h2,E2,rfl,q2,s2,g2,ga2⟩
    exact ⟨ex2,m2,κ2,h2,E2,rfl,q2,s2,g.trans g2,ga.trans ga2 fun _ h=>h⟩
  | exit id=>exact ⟨.exit id,m',κ',h',E',rfl,ho _ _ _ _ q (fun h=>h),s,g,ga⟩
  | ret=>exact ⟨.ret,m',κ',h',E',rfl,ho _ _ _ _ q (fun h=>h),s,g,ga⟩
theorem HTL.one {nt b:Nat} {c:Code} {m:Nat} {κ:Tm} {h:Aq} {Q:Ex→Nat→Tm→Aq→Prop} (hc:HT P nt b c m κ h Q):HTL P nt b [c] m κ h Q:=fun E a w hS=>wpL_one (hc E a w hS)
theorem HT.flat {nt b:Nat} {c:Code} {m:Nat} {κ:Tm} {h:Aq} {Q:Ex→Nat→Tm→Aq→Prop} (hc:HTL P nt b (Eng.flat c) m κ h Q):HT P nt b c m κ h Q:=fun E a w hS=>wp_flat c _ a w (hc E a w hS)
theorem HT.cut {nt b : Nat} {c : Code} {m : Nat} {κ : Tm} {h : Aq} {R Q : Ex → Nat → Tm → Aq → Prop} (k : Nat) (hx : HTL P nt b ((Eng.flat c).take k) m κ h R)
    (hy:∀ m' κ' h',R .normal m' κ' h'→HTL P nt b ((Eng.flat c).drop k) m' κ' h' Q) (ho:∀ ex m' κ' h',R ex m' κ' h'→¬ ExNormal ex→Q ex m' κ' h'):HT P nt b c m κ h Q:=by
  refine HT.flat ?_
  rw [← List.take_append_drop k (Eng.flat c)]
  exact HTL.append hx hy ho
end
end Go.Eng
set_option linter.unusedSimpArgs false
set_option linter.unusedVariables false
namespace Go.Eng
open Go.RowKit
section
variable {P:Program} {T:Tab}
def SB.condI (c:SB) (a b:SI):SI:=match c with
  | .lit true=>a
  | .lit false=>b
  | .sym c=>match a,b with
    | .lit x,.lit y=>.sym (cond c x y)
    | .sym x,.lit y=>.sym (cond c x y)
    | .lit x,.sym y=>.sym (cond c x y)
    | .sym x,.sym y=>.sym (cond c x y)
def SB.condB (c:SB) (a b:SB):SB:=match c with
  | .lit true=>a
  | .lit false=>b
  | .sym c=>match a,b with
    | .lit x,.lit y=>.sym (cond c x y)
    | .sym x,.lit y=>.sym (cond c x y)
    | .lit x,.sym y=>.sym (cond c x y)
    | .sym x,.sym y=>.sym (cond c x y)
def SB.or (a b:SB):SB:=match a,b with
  | .lit false,b=>b
  | .lit true,_=>.lit true
  | .sym a,.lit false=>.sym a
  | .sym _,.lit true=>.lit true
  | .sym a,.sym b=>.sym (a||b)
def SI.eqL (a:SI) (n:Int):SB:=SI.cmp (fun x y=>x==y) a (.lit n)
@[simp] theorem SI.lit_v (n:Int):(SI.lit n).v=n:=rfl
@[simp] theorem SI.sym_v (n:Int):(SI.sym n).v=n:=rfl
@[simp] theorem SB.lit_v (n:Bool):(SB.lit n).v=n:=rfl
@[simp] theorem SB.sym_v (n:Bool):(SB.sym n).v=n:=rfl
@[simp] theorem SB.condI_v (c:SB) (a b:SI):(c.condI a b).v=cond c.v a.v b.v:=by
  rcases c with (_ | _) | c <;> rcases a with a | a <;> rcases b with b | b <;> rfl
@[simp] theorem SB.condB_v (c:SB) (a b:SB):(c.condB a b).v=cond c.v a.v b.v:=by
  rcases c with (_ | _) | c <;> rcases a with a | a <;> rcases b with b | b <;> rfl
@[simp] theorem SB.or_v (a b:SB):(a.or b).v=(a.v||b.v):=by
  rcases a with (_ | _) | a <;> rcases b with (_ | _) | b <;> simp [SB.or,SB.v]
attribute [simp] SB.and_v
attribute [simp] SB.not_v
attribute [simp] SI.cmp_v
attribute [simp] SI.bin_v
@[simp] theorem SI.eqL_v (a:SI) (n:Int):(a.eqL n).v=(a.v==n):=by
  rcases a with a | a <;> rfl
def mkSB (l:List SI) (b:Bool):SB:=match allLit l with
  | true=>.lit b
  | false=>.sym b
@[simp] theorem mkSB_v (l:List SI) (b:Bool):(mkSB l b).v=b:=by unfold mkSB; split <;> rfl
def pureSummT (f:List AV→Option (Ah AV)):Summ:=⟨fun args _ key=>match f args with
  | some t=>t.bind fun v=>.leaf (v,[],[],key)
  | none=>.fail "summary"⟩
theorem pureSummT_ok {f : FuncId} {s : List AV → Option (Ah AV)} (h : ∀ args t v, s args = some t → t.sel = some v → (∀ (E : Env) (w : World), Calls P f (BM E args).toArray w fun e w' => e = .returned (den E v) ∧ Below w.heap.size w w') ∧ ∀ E E', BM E args = BM E' args → den E v = den E' v) :
    Ak P f (pureSummT s):=by
  refine ⟨fun args hp key v R W key' e=>?_,fun args hp key r e=>?_⟩
  · simp only [pureSummT] at e
    split at e
    · rename_i t ht
      rw [bind_sel] at e
      obtain ⟨v',hv,e⟩:=BC e
      cases e
      obtain ⟨h1,h2⟩:=h args t _ ht hv
      exact spec_of_pure h1 h2 _
    · cases e
  · simp only [pureSummT] at e
    split at e
    · rw [bind_sel] at e
      obtain ⟨v',hv,e⟩:=BC e
      cases e; exact ⟨Nat.le_refl _,WOK.nil _ _ _⟩
    · cases e
end
end Go.Eng
set_option linter.unusedSimpArgs false
set_option linter.unusedVariables false
namespace Go.Eng
open Go.RowKit
inductive TV where
  | i (k:IntKind)
  | b
  | s
  | il (k:IntKind) (n:Int)
  | bl (x:Bool)
  | ls (x:ByteArray)
  | sl (k:Nat)
  | ptr (k off:Nat)
  | nils
  | nilp
  | nilf
  | nili
  | fnv (f:Nat)
def TV.inst:TV→Num→AV
  | .i k,x=>.int k (.sym x.I)
  | .b,x=>.bool (.sym x.B)
  | .s,x=>.str (.sym x.S)
  | .ls x,_=>.str (.lit x)
  | .il k n,_=>.int k (.lit n)
  | .bl x,_=>.bool (.lit x)
  | .sl k,_=>.sl k
  | .ptr k o,_=>.ptr k o
  | .nils,_=>.nils
  | .nilp,_=>.nilp
  | .nilf,_=>.nilf
  | .nili,_=>.nili
  | .fnv f,_=>.fn (.func f) [] []
def TV.get (φ:Nat→Nat):TV→AV→Option Num
  | .i k,.int k' n=>match decide (k=k') with
    | true=>some (.i n.v)
    | false=>none
  | .b,.bool x=>some (.b x.v)
  | .s,.str x=>some (.s x.v)
  | .ls x,.str (.lit y)=>match eqU x.data.toList y.data.toList with
    | true=>some .u
    | false=>none
  | .il k n,.int k' (.lit n')=>match decide (k=k'),decide (n=n') with
    | true,true=>some .u
    | _,_=>none
  | .bl x,.bool (.lit y)=>match Bool.xor x y with
    | false=>some .u
    | true=>none
  | .sl j,.sl k=>match Nat.beq (φ j) k,isNil k with
    | true,false=>some .u
    | _,_=>none
  | .sl j,.nils=>match isNil (φ j) with
    | true=>some .u
    | false=>none
  | .ptr j o,.ptr k o'=>match Nat.beq (φ j) k,Nat.beq o o' with
    | true,true=>some .u
    | _,_=>none
  | .nils,.nils=>some .u
  | .nilp,.nilp=>some .u
  | .nilf,.nilf=>some .u
  | .nili,.nili=>some .u
  | .fnv f,.fn (.func g) [] []=>match Nat.beq f g with
    | true=>some .u
    | false=>none
  | _,_=>none
def TV.keyB (m:Nat):TV→Bool
  | .sl k=>Nat.blt k m
  | .ptr k _=>Nat.blt k m
  | _=>true
def TV.keyless:TV→Bool
  | .sl _=>false
  | .ptr _ _=>false
  | _=>true
def instL:List TV→List Num→List AV
  | [],_=>[]
  | t::ts,xs=>t.inst (hdN xs)::instL ts (tlN xs)
def getL (φ:Nat→Nat):List TV→List AV→Option (List Num)
  | [],[]=>some []
  | t::ts,v::vs=>match t.get φ v with
    | some x=>match getL φ ts vs with
      | some xs=>some (x::xs)
      | none=>none
    | none=>none
  | _,_=>none
abbrev viaN (E:Env) (φ:Nat→Nat):Env:=(nilExt E).via φ
theorem TV.keys_inst (t:TV) (x:Num) (m:Nat):(keysOf (t.inst x)).all (Nat.blt · m)=t.keyB m:=by
  cases t <;> simp [TV.inst,keysOf,TV.keyB,keysL]
theorem TV.scalar_inst (t:TV) (x:Num):(t.inst x).scalar=true:=by cases t <;> rfl
theorem TV.keyless_inst {t:TV} (h:t.keyless=true) (x:Num):keysOf (t.inst x)=[]:=by
  cases t <;> first | rfl | cases h
theorem instL_length:∀ (ts:List TV) (xs:List Num),(instL ts xs).length=ts.length
  | [],_=>rfl
  | t::ts,xs=>by simp [instL,instL_length ts]
theorem instL_scalar:∀ (ts:List TV) (xs:List Num),Ap (instL ts xs)=true
  | [],_=>rfl
  | t::ts,xs=>by
    simp only [instL,Ap,TV.scalar_inst]
    exact instL_scalar ts _
theorem instL_keys {m:Nat} : ∀ {ts:List TV} (xs:List Num),ts.all (TV.keyB m)=true→(keysL (instL ts xs)).all (Nat.blt · m)=true
  | [],_,_=>rfl
  | t::ts,xs,h=>by
    simp only [List.all_cons,Bool.and_eq_true] at h
    simp only [instL,keysL,List.all_append,Bool.and_eq_true]
    exact ⟨by rw [TV.keys_inst]; exact h.1,instL_keys _ h.2⟩
theorem instL_keyless:∀ {ts:List TV} (xs:List Num),ts.all TV.keyless=true→keysL (instL ts xs)=[]
  | [],_,_=>rfl
  | t::ts,xs,h=>by
    simp only [List.all_cons,Bool.and_eq_true] at h
    simp only [instL,keysL,TV.keyless_inst h.1,instL_keyless _ h.2,List.append_nil]
theorem TV.get_den {φ:Nat→Nat} {t:TV} {v:AV} {x:Num} (h:t.get φ v=some x) (E:Env):den E v=den (viaN E φ) (t.inst x):=by
  unfold TV.get at h
  split at h
  · split at h
    · rename_i hk
      have:=of_decide_eq_true hk
      cases h; subst this
      simp [TV.inst,den,Num.I,SI.v]
    · cases h
  · cases h; simp [TV.inst,den,Num.B,SB.v]
  · cases h; simp [TV.inst,den,Num.S,SS.v]
  · split at h
    · rename_i x y _ hb
      have:x=y:=ByteArray.ext (Array.toList_inj.1 (eqU_iff.1 hb))
      subst this
      rfl
    · cases h
  · split at h
    · rename_i hk hn
      have h1:=of_decide_eq_true hk
      have h2:=of_decide_eq_true hn
      subst h1 h2
      rfl
    · cases h
  · rename_i x y
    split at h
    · rename_i hb
      have:x=y:=by revert hb; cases x <;> cases y <;> simp
      subst this
      rfl
    · cases h
  · split at h
    · rename_i j k hb hn
      have:=Nat.eq_of_beq_eq_true hb
      simp only [TV.inst,den,Env.via,nilExt,this,hn]
    · cases h
  · split at h
    · rename_i j hn
      simp only [TV.inst,den,Env.via,nilExt,hn]
    · cases h
  · split at h
    · rename_i j o k o' hb ho
      have h1:=Nat.eq_of_beq_eq_true hb
      have h2:=Nat.eq_of_beq_eq_true ho
      subst h2
      simp only [TV.inst,den,Env.via,nilExt,h1]
    · cases h
  · cases h; rfl
  · cases h; rfl
  · cases h; rfl
  · cases h; rfl
  · split at h
    · rename_i f g hb
      have:=Nat.eq_of_beq_eq_true hb
      cases h
      subst this
      rfl
    · cases h
  · cases h
theorem getL_den {φ:Nat→Nat} : ∀ {ts:List TV} {vs:List AV} {xs:List Num},getL φ ts vs=some xs→∀ E,BM E vs=BM (viaN E φ) (instL ts xs)
  | [],[],xs,h,E=>rfl
  | t::ts,v::vs,xs,h,E=>by
    simp only [getL] at h
    split at h
    · rename_i x hx
      split at h
      · rename_i ys hy
        cases h
        simp only [instL,BM,hdN,tlN]
        rw [TV.get_den hx E,getL_den hy E]
      · cases h
    · cases h
  | [],_::_,xs,h,E=>by simp [getL] at h
  | _::_,[],xs,h,E=>by simp [getL] at h
theorem getL_length {φ:Nat→Nat} {ts:List TV} {vs:List AV} {xs:List Num} (h:getL φ ts vs=some xs):vs.length=ts.length:=by
  have:=congrArg List.length (getL_den h default)
  rwa [BL,BL,instL_length] at this
inductive TA where
  | one (t:TV)
  | agg (l:List TV)
def TA.inst:TA→List Num→AV
  | .one t,xs=>t.inst (hdN xs)
  | .agg l,xs=>.agg (instL l xs)
def TA.get (φ:Nat→Nat):TA→AV→Option (List Num)
  | .one t,v=>match t.get φ v with
    | some x=>some [x]
    | none=>none
  | .agg l,.agg vs=>getL φ l vs
  | _,_=>none
def TA.keyB (m:Nat):TA→Bool
  | .one t=>t.keyB m
  | .agg l=>l.all (TV.keyB m)
theorem TA.keys_inst {t:TA} {m:Nat} (h:t.keyB m=true) (x:List Num):(keysOf (t.inst x)).all (Nat.blt · m)=true:=by
  cases t with
  | one t=>simp only [TA.inst,TV.keys_inst]; exact h
  | agg l=>exact instL_keys _ h
theorem TA.get_den {φ:Nat→Nat} {t:TA} {v:AV} {x:List Num} (h:t.get φ v=some x) (E:Env):den E v=den (viaN E φ) (t.inst x):=by
  cases t with
  | one t =>
    simp only [TA.get] at h
    split at h
    · rename_i y hy
      cases h
      exact TV.get_den hy E
    · cases h
  | agg l =>
    cases v <;> simp only [TA.get] at h <;> try (cases h; done)
    simp only [TA.inst,den]
    rw [getL_den h E]
def instA:List TA→List (List Num)→List AV
  | [],_=>[]
  | t::ts,xs=>t.inst (hdL xs)::instA ts (tlL xs)
def getA (φ:Nat→Nat):List TA→List AV→Option (List (List Num))
  | [],[]=>some []
  | t::ts,v::vs=>match t.get φ v with
    | some x=>match getA φ ts vs with
      | some xs=>some (x::xs)
      | none=>none
    | none=>none
  | _,_=>none
theorem getA_den {φ:Nat→Nat} : ∀ {ts:List TA} {vs:List AV} {xs:List (List Num)},getA φ ts vs=some xs→∀ E,BM E vs=BM (viaN E φ) (instA ts xs)
  | [],[],xs,h,E=>rfl
  | t::ts,v::vs,xs,h,E=>by
    simp only [getA] at h
    split at h
    · rename_i x hx
      split at h
      · rename_i ys hy
        cases h
        simp only [instA,BM,hdL,tlL]
        rw [TA.get_den hx E,getA_den hy E]
      · cases h
    · cases h
  | [],_::_,xs,h,E=>by simp [getA] at h
  | _::_,[],xs,h,E=>by simp [getA] at h
theorem instA_keys {m:Nat} : ∀ {ts:List TA} (xs:List (List Num)),ts.all (TA.keyB m)=true→(keysL (instA ts xs)).all (Nat.blt · m)=true
  | [],_,_=>rfl
  | t::ts,xs,h=>by
    simp only [List.all_cons,Bool.and_eq_true] at h
    simp only [instA,keysL,List.all_append,Bool.and_eq_true]
    exact ⟨TA.keys_inst h.1 _,instA_keys _ h.2⟩
theorem instA_length:∀ (ts:List TA) (xs:List (List Num)),(instA ts xs).length=ts.length
  | [],_=>rfl
  | t::ts,xs=>by simp [instA,instA_length ts]
inductive TO where
  | box (cs:List TV)
  | lst (ln:Option Int) (row:List TV) (own:Option Nat)
  | tok
  | ob (t:Nat) (R:Dat→Nat→List Nat→World→Prop) (g:Nat)
def lnS:Option Int→Nat→SI
  | none,n=>.sym (n:Int)
  | some n,_=>.lit n
def AI (row:List TV) (r:Nat→List Num) (i:Nat):List AV:=instL row (r i)
def TO.inst:TO→ON→Ai
  | .box cs,x=>.box (instL cs x.xs)
  | .lst ln row own,x=>.lst (lnS ln x.len) row.length (AI row x.rows) own
  | .tok,_=>.tok
  | .ob t R g,x=>.own t R x.dat g
def instH:List (Nat×TO)→List ON→List (Nat×Ai)
  | [],_=>[]
  | p::l,xs=>(p.1,p.2.inst (hdO xs))::instH l (tlO xs)
def TO.okB (m:Nat):TO→Bool
  | .box cs=>cs.all (TV.keyB m)
  | .lst _ row own=>row.all TV.keyless&&(match own with | none=>true | some g=>Nat.blt g m)
  | .tok=>true
  | .ob _ _ g=>Nat.blt g m
def hpB (m:Nat) (l:List (Nat×TO)):Bool:=l.all fun p=>Nat.blt p.1 m&&p.2.okB m
def lnOk:Option Int→SI→Bool
  | none,_=>true
  | some n,.lit m=>decide (n=m)
  | some _,.sym _=>false
def ownOk (ro:Bool) (φ:Nat→Nat) (h:Aq):Option Nat→Option Nat→Option (List Nat)
  | none,none=>some []
  | none,some g=>match ro with
    | true=>match hget g h with
      | some .tok=>some [g]
      | _=>none
    | false=>none
  | some j,some g=>match Nat.beq (φ j) g,isNil g with
    | true,false=>some []
    | _,_=>none
  | some _,none=>none
def rowOk (row:List TV) (r:List AV):Bool:=(getL id row r).isSome
def AH (row:List TV) (rows:Nat→List AV) (i:Nat):List Num:=(getL id row (rows i)).getD []
def AX (row:List TV) (rows:Nat→List AV):Nat→Bool
  | 0=>true
  | n+1=>match rowOk row (rows n) with
    | true=>AX row rows n
    | false=>false
theorem rowsB_iff {row:List TV} {rows:Nat→List AV} : ∀ {n:Nat},AX row rows n=true↔∀ i,i<n→rowOk row (rows i)=true
  | 0=>by simp [AX]
  | n+1=>by
    simp only [AX]
    constructor
    · intro h i hi
      split at h
      · rename_i h0
        by_cases e:i=n
        · subst e; exact h0
        · exact rowsB_iff.1 h i (by omega)
      · cases h
    · intro h
      rw [h n (by omega)]
      exact rowsB_iff.2 fun i hi=>h i (by omega)
open Classical in
noncomputable def BE (R R':Dat→Nat→List Nat→World→Prop):Bool:=decide (R'=R)
theorem sameR_iff {R R':Dat→Nat→List Nat→World→Prop} : BE R R'=true↔R'=R:=by simp [BE]
theorem AS (R:Dat→Nat→List Nat→World→Prop):BE R R=true:=sameR_iff.2 rfl
structure Got where
  on:ON
  toks:List Nat
  ms:List Bool
noncomputable def TO.get (ro:Bool) (φ:Nat→Nat) (h:Aq):TO→Ai→Option Got
  | .box cs,.box vs=>match getL φ cs vs with
    | some xs=>some ⟨.box xs,[],[]⟩
    | none=>none
  | .lst ln row own,.lst len sz rows g=>match lnOk ln len,Nat.beq sz row.length,ownOk ro φ h own g with
    | true,true,some tk=>match len with
      | .lit n=>match AX row rows n.toNat with
        | true=>some ⟨.lst n.toNat (AH row rows),tk,[]⟩
        | false=>none
      | .sym n=>some ⟨.lst n.toNat (AH row rows),tk,[AX row rows n.toNat]⟩
    | _,_,_=>none
  | .tok,.tok=>some ⟨.tok,[],[]⟩
  | .ob t R g,.own t' R' d g'=>match Nat.beq t t',Nat.beq (φ g) g',isNil g' with
    | true,true,false=>some ⟨.own d,[],[BE R R']⟩
    | _,_,_=>none
  | _,_=>none
noncomputable def getO (ro:Bool) (φ:Nat→Nat) (h:Aq) (k:Nat) (t:TO):Option Got :=
  match isNil (φ k) with
  | true=>match t with
    | .lst none _ _=>some ⟨.lst 0 fun _=>[],[],[]⟩
    | .lst (some n) _ _=>match decide (n=0) with
      | true=>some ⟨.lst 0 fun _=>[],[],[]⟩
      | false=>none
    | .tok=>some ⟨.tok,[],[]⟩
    | .box _=>none
    | .ob _ _ _=>none
  | false=>match hget (φ k) h with
    | some o=>t.get ro φ h o
    | none=>none
structure GotH where
  o:List ON
  toks:List Nat
  ms:List Bool
noncomputable def getOs (ro:Bool) (φ:Nat→Nat) (h:Aq):List (Nat×TO)→Option GotH
  | []=>some ⟨[],[],[]⟩
  | p::l=>match getO ro φ h p.1 p.2 with
    | some g=>match getOs ro φ h l with
      | some r=>some ⟨g.on::r.o,g.toks++r.toks,g.ms++r.ms⟩
      | none=>none
    | none=>none
structure TS where
  tmps:List Nat
  vs:List TA
  hp:List (Nat×TO)
  m:Nat
def TS.objs (t:TS) (en:EN):List (Nat×Ai):=instH t.hp en.o
def TS.vals (t:TS) (en:EN):List AV:=instA t.vs en.a
def zipTm:List Nat→List AV→Tm
  | t::ts,v::vs=>(t,v)::zipTm ts vs
  | _,_=>[]
def TS.tm (t:TS) (en:EN):Tm:=zipTm t.tmps (t.vals en)
def TS.okB (t:TS):Bool:=t.vs.all (TA.keyB t.m)&&hpB t.m t.hp&&distB (t.hp.map (·.1))
def assoc (k:Nat):List (Nat×Nat)→Option Nat
  | []=>none
  | p::l=>match Nat.beq p.1 k with
    | true=>some p.2
    | false=>assoc k l
def TV.pair:TV→AV→List (Nat×Nat)→List (Nat×Nat)
  | .sl j,.sl k,l=>(j,k)::l
  | .sl j,.nils,l=>(j,nilK+j)::l
  | .ptr j _,.ptr k _,l=>(j,k)::l
  | _,_,l=>l
def pairL:List TV→List AV→List (Nat×Nat)→List (Nat×Nat)
  | t::ts,v::vs,l=>pairL ts vs (t.pair v l)
  | _,_,l=>l
def TA.pair:TA→AV→List (Nat×Nat)→List (Nat×Nat)
  | .one t,v,l=>t.pair v l
  | .agg ts,.agg vs,l=>pairL ts vs l
  | _,_,l=>l
def pairA:List TA→List AV→List (Nat×Nat)→List (Nat×Nat)
  | t::ts,v::vs,l=>pairA ts vs (t.pair v l)
  | _,_,l=>l
def walk (h:Aq):List (Nat×TO)→List (Nat×Nat)→List (Nat×Nat)
  | [],l=>l
  | p::rest,l=>match assoc p.1 l with
    | none=>walk h rest l
    | some k=>match isNil k with
      | true=>match p.2 with
        | .lst _ _ (some g)=>walk h rest ((g,nilK+g)::l)
        | _=>walk h rest l
      | false=>match p.2,hget k h with
        | .box cs,some (.box vs)=>walk h rest (pairL cs vs l)
        | .lst _ _ (some g),some (.lst _ _ _ (some g'))=>walk h rest ((g,g')::l)
        | .ob _ _ g,some (.own _ _ _ g')=>walk h rest ((g,g')::l)
        | _,_=>walk h rest l
def idPairs:Nat→List (Nat×Nat)
  | 0=>[]
  | n+1=>(n,n)::idPairs n
def keyList (l:List (Nat×Nat)):Nat→Nat→List Nat
  | 0,_=>[]
  | n+1,j=>(match assoc j l with | some k=>k | none=>nilK+j)::keyList l n (j+1)
def forceL {α R:Type} : List α→(List α→R)→R
  | [],K=>K []
  | x::l,K=>forceL l fun l=>K (x::l)
theorem forceL_eq {α R:Type} : ∀ (l:List α) (K:List α→R),forceL l K=K l
  | [],K=>rfl
  | x::l,K=>by simp only [forceL,forceL_eq l]
def preB (φ:List Nat):Nat→Bool
  | 0=>true
  | n+1=>match Nat.beq (lkN φ n) n with
    | true=>preB φ n
    | false=>false
theorem preB_ok {φ:List Nat} : ∀ {n k:Nat},preB φ n=true→k<n→lkN φ k=k
  | n+1,k,h,hk=>by
    simp only [preB] at h
    split at h
    · rename_i h0
      by_cases e:k=n
      · subst e; exact Nat.eq_of_beq_eq_true h0
      · exact preB_ok h (by omega)
    · cases h
structure Mat where
  φ:List Nat
  en:EN
  toks:List Nat
  ms:List Bool
noncomputable def matS (ro:Bool) (b:Nat) (t:TS) (vals:List AV) (h:Aq):Option Mat :=
  forceL (keyList (walk h t.hp (pairA t.vs vals (idPairs b))) t.m 0) fun φ =>
    match distB (t.hp.map fun p=>lkN φ p.1),Nat.beq φ.length t.m,preB φ b,t.okB with
    | true,true,true,true=>match getA (lkN φ) t.vs vals with
      | some a=>match getOs ro (lkN φ) h t.hp with
        | some g=>match meets g.toks φ with
          | false=>some ⟨φ,⟨a,g.o⟩,g.toks,g.ms⟩
          | true=>none
        | none=>none
      | none=>none
    | _,_,_,_=>none
structure MatOk (ro:Bool) (b:Nat) (t:TS) (vals:List AV) (h:Aq) (q:Mat):Prop where
  dist:distB (t.hp.map fun p=>lkN q.φ p.1)=true
  len:q.φ.length=t.m
  pre:∀ k,k<b→lkN q.φ k=k
  ok:t.okB=true
  a:getA (lkN q.φ) t.vs vals=some q.en.a
  o:getOs ro (lkN q.φ) h t.hp=some ⟨q.en.o,q.toks,q.ms⟩
  sep:meets q.toks q.φ=false
theorem matS_ok {ro:Bool} {b:Nat} {t:TS} {vals:List AV} {h:Aq} {q:Mat} (e:matS ro b t vals h=some q):MatOk ro b t vals h q:=by
  unfold matS at e
  rw [forceL_eq] at e
  split at e
  · rename_i h1 h2 h3 h4
    split at e
    · rename_i a ha
      split at e
      · rename_i g hg
        split at e
        · rename_i hs
          cases e
          exact ⟨h1,Nat.eq_of_beq_eq_true h2,fun k hk=>preB_ok h3 hk,h4,ha,hg,hs⟩
        · cases e
      · cases e
    · cases e
  · cases e
theorem getOs_mem {ro:Bool} {φ:Nat→Nat} {h:Aq} : ∀ {l:List (Nat×TO)} {r:GotH},getOs ro φ h l=some r→(∀ x∈r.ms,x=true)→∀ p∈instH l r.o,∃ t g,(p.1,t)∈l∧getO ro φ h p.1 t=some g∧p.2=t.inst g.on∧(∀ x∈g.toks,x∈r.toks)∧∀ x∈g.ms,x=true
  | [],r,e,_,p,hp=>by cases e; cases hp
  | q::l,r,e,hm,p,hp=>by
    simp only [getOs] at e
    split at e
    · rename_i g hg
      split at e
      · rename_i s hs
        cases e
        simp only [instH,hdO,tlO] at hp
        rcases List.mem_cons.1 hp with rfl | hp
        · exact ⟨q.2,g,by simp,hg,rfl,fun x hx=>List.mem_append_left _ hx,fun x hx=>hm x (List.mem_append_left _ hx)⟩
        · obtain ⟨t,g',h1,h2,h3,h4,h5⟩:=getOs_mem hs (fun x hx=>hm x (List.mem_append_right _ hx)) p hp
          exact ⟨t,g',List.mem_cons_of_mem _ h1,h2,h3,fun x hx=>List.mem_append_right _ (h4 x hx),h5⟩
      · cases e
    · cases e
theorem instH_keys:∀ (l:List (Nat×TO)) (xs:List ON),(instH l xs).map (·.1)=l.map (·.1)
  | [],_=>rfl
  | p::l,xs=>by simp [instH,instH_keys l]
theorem viaN_clL {E E2:Env} {φ:Nat→Nat} {m:Nat} (hE:Ae (· < m) (viaN E φ) E2) {v:List AV} (hk:(keysL v).all (Nat.blt · m)=true):BM E2 v=BM (viaN E φ) v :=
  denL_cl hE v (Az hk)
theorem den_keyless {v:List AV} (h:keysL v=[]) (E E':Env):BM E v=BM E' v :=
  denL_cl (M:=fun _=>False) (fun k hk=>hk.elim) v (by rw [h]; simp)
theorem rowNums_den {row:List TV} {rows:Nat→List AV} {i:Nat} (h:rowOk row (rows i)=true) (hk:row.all TV.keyless=true) (E:Env):BM E (rows i)=BM E (AI row (AH row rows) i)∧(rows i).length=row.length:=by
  unfold rowOk at h
  cases hg:getL id row (rows i) with
  | none=>rw [hg] at h; cases h
  | some xs =>
    refine ⟨?_,getL_length hg⟩
    rw [getL_den hg E]
    show BM (viaN E id) (instL row xs)=BM E (instL row ((getL id row (rows i)).getD []))
    rw [hg]
    exact den_keyless (instL_keyless _ hk) _ _
section
variable {ro:Bool} {b:Nat} {t:TS} {vals:List AV} {h:Aq} {q:Mat}
theorem instH_mapKeys (f:Nat→Nat):∀ (l:List (Nat×TO)) (xs:List ON),(instH l xs).map (fun p=>f p.1)=l.map fun p=>f p.1
  | [],_=>rfl
  | p::l,xs=>by simp [instH,instH_mapKeys f l]
theorem MatOk.inj (M:MatOk ro b t vals h q) {j j':Nat} {o o':Ai} (h1:AO (Ad (t.objs q.en)) j=some o) (h2:AO (Ad (t.objs q.en)) j'=some o') (e:lkN q.φ j=lkN q.φ j'):j=j':=by
  have hd:distB ((t.objs q.en).map fun p=>lkN q.φ p.1)=true:=by
    unfold TS.objs
    rw [instH_mapKeys]
    exact M.dist
  exact congrArg (·.1) (distB_inj hd (j,o) (BS h1) (j',o') (BS h2) e)
theorem MatOk.hp (M:MatOk ro b t vals h q):hpB t.m t.hp=true∧distB (t.hp.map (·.1))=true∧t.vs.all (TA.keyB t.m)=true:=by
  have:=M.ok
  simp only [TS.okB,Bool.and_eq_true] at this
  exact ⟨this.1.2,this.2,this.1.1⟩
theorem hpB_mem {m:Nat} {l:List (Nat×TO)} (hb:hpB m l=true) {k:Nat} {t:TO} (hm:(k,t)∈l):k<m∧t.okB m=true:=by
  have:=List.all_eq_true.1 hb _ hm
  simp only [Bool.and_eq_true] at this
  exact ⟨Nat.le_of_ble_eq_true this.1,this.2⟩
theorem mk_uniq {l:List (Nat×Ai)} (hd:distB (l.map (·.1))=true) {k:Nat} {o:Ai} (hm:(k,o)∈l):hget k (Ad l)=some o:=hget_mk_mem hd hm
theorem MatOk.relU (M : MatOk ro b t vals h q) (hms : ∀ x ∈ q.ms, x = true) {A : Nat → Prop} {E : Env} {lk : Look} {w : World} (hU : RelU A E lk w)
    (hC:∀ j,j<t.m→isNil (lkN q.φ j)=false→lk (lkN q.φ j)=hget (lkN q.φ j) h) (hCt:∀ g∈q.toks,lk g=hget g h) :
    RelU (· < t.m) (viaN E (lkN q.φ)) (AO (Ad (t.objs q.en))) w:=by
  obtain ⟨hpb,hpd,_⟩:=M.hp
  have find:∀ k o,AO (Ad (t.objs q.en)) k=some o→∃ to g,(k,to)∈t.hp∧k<t.m∧to.okB t.m=true∧getO ro (lkN q.φ) h k to=some g∧o=to.inst g.on∧(∀ x∈g.toks,x∈q.toks)∧∀ x∈g.ms,x=true:=by
    intro k o ho
    obtain ⟨to,g,h1,h2,h3,h4,h5⟩:=getOs_mem M.o hms (k,o) (BS ho)
    obtain ⟨h6,h7⟩:=hpB_mem hpb h1
    exact ⟨to,g,h1,h6,h7,h2,h3,h4,h5⟩
  have act:∀ {k to g},k<t.m→getO ro (lkN q.φ) h k to=some g→isNil (lkN q.φ k)=false→∃ o,lk (lkN q.φ k)=some o∧to.get ro (lkN q.φ) h o=some g:=by
    intro k to g hk hg hn
    simp only [getO,hn] at hg
    split at hg
    · rename_i o ho
      exact ⟨o,by rw [hC k hk hn]; exact ho,hg⟩
    · cases hg
  have own:∀ {E2:Env},Ae (· < t.m) (viaN E (lkN q.φ)) E2→∀ k o b,AO (Ad (t.objs q.en)) k=some o→owns E2 k o b→∃ o',isNil (lkN q.φ k)=false∧lk (lkN q.φ k)=some o'∧owns E (lkN q.φ k) o' b:=by
    intro E2 hE k o b ho hb
    obtain ⟨to,g,_,hk,_,hg,rfl,_,_⟩:=find k o ho
    have hb:=(BP hE hk (to.inst g.on) b).1 hb
    cases hn:isNil (lkN q.φ k) with
    | true =>
      cases to with
      | box cs=>simp [getO,hn] at hg
      | lst ln row ow=>exact hb.elim
      | ob t R g=>exact hb.elim
      | tok =>
        have hb:b∈(nilExt E).fp (lkN q.φ k):=hb
        simp only [nilExt,hn] at hb
        cases hb
    | false =>
      obtain ⟨o',h1,h2⟩:=act hk hg hn
      refine ⟨o',rfl,h1,?_⟩
      cases to <;> cases o' <;> simp only [TO.get] at h2 <;> try (cases h2; done)
      · have hb:b∈(nilExt E).fp (lkN q.φ k):=hb
        simp only [nilExt,hn] at hb
        exact hb
      · exact hb
      · have hb:b∈(nilExt E).fp (lkN q.φ k):=hb
        simp only [nilExt,hn] at hb
        exact hb
      · exact hb
  refine ⟨fun k o ho=>?_,fun k o g ho hog=>?_,fun E2 hE=>⟨fun k o ho=>?_,fun k o k' o' b ho ho' hne h1 h2=>?_,fun k len sz rows a k' o' ho hc ha ho' h2=>?_⟩⟩
  · obtain ⟨_,_,_,hk,_⟩:=find k o ho
    exact hk
  · obtain ⟨to,gt,_,hk,hok,hg,he,_,_⟩:=find k _ ho
    subst he
    cases to <;> simp only [TO.inst,Ai.grp] at hog <;> try (cases hog; done)
    · subst hog
      simp only [TO.okB,Bool.and_eq_true] at hok
      exact Nat.le_of_ble_eq_true hok.2
    · cases hog
      exact Nat.le_of_ble_eq_true hok
  · obtain ⟨to,g,hmem,hk,hok,hg,rfl,htk,hmm⟩:=find k o ho
    obtain ⟨e1,e2,e3⟩:=hE k hk
    have e1:E2.blk k=E.blk (lkN q.φ k):=e1
    cases hn:isNil (lkN q.φ k) with
    | true =>
      have e2:E2.hdr k=(none,0,0):=by rw [e2]; simp only [Env.via,nilExt,hn]
      have e3:E2.fp k=[]:=by rw [e3]; simp only [Env.via,nilExt,hn]
      cases to with
      | box cs=>simp [getO,hn] at hg
      | tok =>
        intro b hbb
        rw [e3] at hbb
        cases hbb
      | ob t R g=>simp [getO,hn] at hg
      | lst ln row ow =>
        have hl:(TO.lst ln row ow).inst g.on = .lst (lnS ln 0) row.length (AI row fun _=>[]) ow∧(lnS ln 0).v=0:=by
          cases ln with
          | none =>
            simp only [getO,hn] at hg
            cases hg
            exact ⟨rfl,rfl⟩
          | some n =>
            simp only [getO,hn] at hg
            split at hg
            · rename_i h0
              cases hg
              have:=of_decide_eq_true h0
              subst this
              exact ⟨rfl,rfl⟩
            · cases hg
        rw [hl.1]
        refine ⟨by rw [e2,hl.2]; rfl,by rw [e2]; exact Nat.le_refl _,fun hc=>?_⟩
        rw [e2] at hc
        exact absurd hc (Nat.lt_irrefl 0)
    | false =>
      have e2:E2.hdr k=E.hdr (lkN q.φ k):=by rw [e2]; simp only [Env.via,nilExt,hn]
      have e3:E2.fp k=E.fp (lkN q.φ k):=by rw [e3]; simp only [Env.via,nilExt,hn]
      obtain ⟨o',a1,a2⟩:=act hk hg hn
      have hb:=hU.here.obj _ _ a1
      cases to <;> cases o' <;> simp only [TO.get] at a2 <;> try (cases a2; done)
      · rename_i cs vs
        split at a2
        · rename_i xs hx
          cases a2
          obtain ⟨b1,b2,ty,b3⟩:=hb
          refine ⟨by rw [e3,b1,e1],instL_scalar _ _,ty,?_⟩
          rw [e1,b3,getL_den hx E]
          rw [viaN_clL hE (instL_keys _ (by simpa [TO.okB] using hok))]
          rfl
        · cases a2
      · rename_i ln row ow len sz rows gr
        split at a2
        · rename_i tk h1 h2 h3
          have hsz:=Nat.eq_of_beq_eq_true h2
          subst hsz
          simp only [TO.okB,Bool.and_eq_true] at hok
          have hrow:(∀ i,i<len.v.toNat→rowOk row (rows i)=true)∧g.on = .lst len.v.toNat (AH row rows)∧g.toks=tk:=by
            cases len with
            | lit n =>
              dsimp only at a2
              split at a2
              · rename_i hr
                cases a2
                exact ⟨rowsB_iff.1 hr,rfl,rfl⟩
              · cases a2
            | sym n =>
              dsimp only at a2
              cases a2
              exact ⟨rowsB_iff.1 (hmm _ (by simp)),rfl,rfl⟩
          obtain ⟨r1,r2,r3⟩:=hrow
          obtain ⟨b1,b2,b3⟩:=hb
          have hlen:(lnS ln len.v.toNat).v=len.v:=by
            cases ln with
            | none =>
              show ((len.v.toNat:Nat):Int)=len.v
              omega
            | some n =>
              cases len with
              | lit m=>simp only [lnOk] at h1; exact of_decide_eq_true h1
              | sym m=>simp [lnOk] at h1
          rw [r2]
          refine ⟨by rw [e2,b1]; exact hlen.symm,by rw [e2]; exact b2,fun hc=>?_⟩
          rw [e2] at hc
          obtain ⟨B,off,c1,c2,c3⟩:=b3 hc
          refine ⟨B,off,by rw [e2]; exact c1,c2,?_⟩
          have rows_ok:∀ get:Nat→Option Value,RowsAt E get off row.length (E.hdr (lkN q.φ k)).2.1 rows→RowsAt E2 get off row.length (E.hdr (lkN q.φ k)).2.1 (AI row (AH row rows)):=by
            intro get hg i hi
            obtain ⟨g1,g2,g3⟩:=hg i hi
            have hi2:i<len.v.toNat:=by
              rw [← b1]
              simpa using hi
            obtain ⟨s1,s2⟩:=rowNums_den (r1 i hi2) hok.1 E
            refine ⟨instL_length _ _,instL_scalar _ _,fun j hj=>?_⟩
            have s3:BM E2 (AI row (AH row rows) i)=BM E (AI row (AH row rows) i):=den_keyless (instL_keyless _ hok.1) E2 E
            rw [g3 j hj,← denL_get,← denL_get,s1,s3]
          rw [e2]
          cases ow with
          | none =>
            show RowsAt E2 _ off _ _ _
            cases gr with
            | none=>exact rows_ok _ c3
            | some g' =>
              simp only [ownOk] at h3
              split at h3
              · split at h3
                · rename_i hgt
                  cases h3
                  have hlk:lk g'=some .tok:=by rw [hCt g' (htk g' (by rw [r3]; simp))]; exact hgt
                  obtain ⟨d1,C,ty,d2,d3,d4⟩:=c3 hlk
                  exact (rows_ok _ d4).congr fun o=>cell_at d2 o
                · cases h3
              · cases h3
          | some j =>
            show AO (Ad (t.objs q.en)) j=some .tok→_
            intro hj
            cases gr with
            | none=>simp [ownOk] at h3
            | some g' =>
              simp only [ownOk] at h3
              split at h3
              · rename_i hb1 hb2
                have hjg:=Nat.eq_of_beq_eq_true hb1
                obtain ⟨to2,g2,hm2,hk2,_,hg2,he2,_⟩:=find j _ hj
                have hn2:isNil (lkN q.φ j)=false:=by rw [hjg]; exact hb2
                obtain ⟨o2,f1,f2⟩:=act hk2 hg2 hn2
                cases to2 <;> simp only [TO.inst] at he2 <;> try (cases he2; done)
                cases o2 <;> simp only [TO.get] at f2 <;> try (cases f2; done)
                rw [hjg] at f1
                obtain ⟨d1,C,ty,d2,d3,d4⟩:=c3 f1
                have hfp:E2.fp j=E.fp g':=by
                  rw [(hE j hk2).2.2]
                  simp only [Env.via,nilExt,hjg,hb2]
                exact ⟨by rw [hfp]; exact d1,C,ty,d2,d3,rows_ok _ d4⟩
              · cases h3
        · cases a2
      · intro b hbb
        rw [e3] at hbb
        exact hb b hbb
      · rename_i t R j t' R' d g'
        split at a2
        · rename_i q1 q2 q3
          cases a2
          have hRR:R'=R:=sameR_iff.1 (hmm _ (by simp))
          subst hRR
          have hjg:=Nat.eq_of_beq_eq_true q2
          intro hj w' hsz hw
          obtain ⟨to2,g2,hm2,hk2,_,hg2,he2,_⟩:=find j _ hj
          have hn2:isNil (lkN q.φ j)=false:=by rw [hjg]; exact q3
          obtain ⟨o2,f1,f2⟩:=act hk2 hg2 hn2
          cases to2 <;> simp only [TO.inst] at he2 <;> try (cases he2; done)
          cases o2 <;> simp only [TO.get] at f2 <;> try (cases f2; done)
          rw [hjg] at f1
          have hfp:E2.fp j=E.fp g':=by
            rw [(hE j hk2).2.2]
            simp only [Env.via,nilExt,hjg,q3]
          rw [e1,hfp]
          exact hb f1 w' hsz (by rw [hfp] at hw; exact hw)
        · cases a2
  · obtain ⟨o1,n1,l1,w1⟩:=own hE k o b ho h1
    obtain ⟨o2,n2,l2,w2⟩:=own hE k' o' b ho' h2
    obtain ⟨_,_,_,hk,_⟩:=find k o ho
    obtain ⟨_,_,_,hk',_⟩:=find k' o' ho'
    exact hU.here.apart _ o1 _ o2 b l1 l2 (fun e=>hne (M.inj ho ho' e)) w1 w2
  · obtain ⟨to,g,hmem,hk,hok,hg,he,htk,hmm⟩:=find k _ ho
    obtain ⟨o2,n2,l2,w2⟩:=own hE k' o' a.block ho' h2
    have e2:=(hE k hk).2.1
    cases hn:isNil (lkN q.φ k) with
    | true =>
      rw [e2] at hc
      simp only [Env.via,nilExt,hn] at hc
      exact absurd hc (Nat.lt_irrefl 0)
    | false =>
      have e2:E2.hdr k=E.hdr (lkN q.φ k):=by rw [e2]; simp only [Env.via,nilExt,hn]
      rw [e2] at hc ha
      obtain ⟨o1,a1,a2⟩:=act hk hg hn
      cases to <;> simp only [TO.inst] at he <;> try (cases he; done)
      cases o1 <;> simp only [TO.get] at a2 <;> try (cases a2; done)
      rename_i ln row ow len' sz' rows' gr
      split at a2
      · rename_i tk h1 h2' h3
        have how:ow=none:=by cases he; rfl
        subst how
        cases gr with
        | none=>exact hU.here.ro _ _ _ _ a _ o2 a1 hc ha l2 w2
        | some g' =>
          have htk2:g.toks=tk:=by
            split at a2
            · split at a2
              · cases a2; rfl
              · cases a2
            · cases a2; rfl
          simp only [ownOk] at h3
          split at h3
          · split at h3
            · rename_i hgt
              cases h3
              have hlk:lk g'=some .tok:=by rw [hCt g' (htk g' (by rw [htk2]; simp))]; exact hgt
              obtain ⟨_,_,b3⟩:=hU.here.obj _ _ a1
              obtain ⟨B,off,c1,c2,c3⟩:=b3 hc
              obtain ⟨d1,_⟩:=c3 hlk
              rw [ha] at c1
              cases c1
              by_cases heq:g'=lkN q.φ k'
              · have m1:g'∈q.toks:=htk g' (by rw [htk2]; simp)
                obtain ⟨_,_,_,hk',_⟩:=find k' o' ho'
                have m2:g'∈q.φ:=by rw [heq]; exact lkN_mem (by rw [M.len]; exact hk')
                exact (meets_false M.sep m1 m2).elim
              · exact hU.here.apart g' .tok _ o2 B hlk l2 heq (by show B∈E.fp g'; rw [d1]; simp) w2
            · cases h3
          · cases h3
      · cases a2
end
end Go.Eng
set_option linter.unusedSimpArgs false
set_option linter.unusedVariables false
namespace Go.Eng
open Go.RowKit
section
variable {P:Program} {T:Tab}
def TV.eqv:TV→Num→Num→Prop
  | .i _,x,y=>x.I=y.I
  | .b,x,y=>x.B=y.B
  | .s,x,y=>x.S=y.S
  | _,_,_=>True
def eqvL:List TV→List Num→List Num→Prop
  | [],_,_=>True
  | t::ts,xs,ys=>t.eqv (hdN xs) (hdN ys)∧eqvL ts (tlN xs) (tlN ys)
def TA.eqv:TA→List Num→List Num→Prop
  | .one t,xs,ys=>t.eqv (hdN xs) (hdN ys)
  | .agg l,xs,ys=>eqvL l xs ys
def eqvA:List TA→List (List Num)→List (List Num)→Prop
  | [],_,_=>True
  | t::ts,xs,ys=>t.eqv (hdL xs) (hdL ys)∧eqvA ts (tlL xs) (tlL ys)
def eqvLn:Option Int→Nat→Nat→Prop
  | none,x,y=>x=y
  | some _,_,_=>True
def TO.eqv:TO→ON→ON→Prop
  | .box cs,x,y=>eqvL cs x.xs y.xs
  | .lst ln row _,x,y=>eqvLn ln x.len y.len∧∀ i:Nat,(i:Int)<(lnS ln y.len).v→eqvL row (x.rows i) (y.rows i)
  | .tok,_,_=>True
  | .ob _ _ _,x,y=>x.dat=y.dat
def eqvH:List (Nat×TO)→List ON→List ON→Prop
  | [],_,_=>True
  | p::l,xs,ys=>p.2.eqv (hdO xs) (hdO ys)∧eqvH l (tlO xs) (tlO ys)
def TS.eqv (t:TS) (x y:EN):Prop:=eqvA t.vs x.a y.a∧eqvH t.hp x.o y.o
theorem TV.eqv_inst {t:TV} {x y:Num} (h:t.eqv x y):t.inst x=t.inst y:=by
  cases t <;> simp only [TV.eqv] at h <;> simp only [TV.inst,h]
theorem eqvL_inst:∀ {ts:List TV} {xs ys:List Num},eqvL ts xs ys→instL ts xs=instL ts ys
  | [],_,_,_=>rfl
  | t::ts,xs,ys,h=>by
    simp only [instL]
    rw [TV.eqv_inst h.1,eqvL_inst h.2]
theorem TA.eqv_inst {t:TA} {x y:List Num} (h:t.eqv x y):t.inst x=t.inst y:=by
  cases t with
  | one t=>exact TV.eqv_inst (t:=t) h
  | agg l=>exact congrArg AV.agg (eqvL_inst (ts:=l) h)
theorem eqvA_inst:∀ {ts:List TA} {xs ys:List (List Num)},eqvA ts xs ys→instA ts xs=instA ts ys
  | [],_,_,_=>rfl
  | t::ts,xs,ys,h=>by
    simp only [instA]
    rw [TA.eqv_inst h.1,eqvA_inst h.2]
theorem AJ:∀ (ts:List TV) (xs:List Num),eqvL ts xs xs
  | [],_=>trivial
  | t::ts,xs=>⟨by cases t <;> simp [TV.eqv],AJ ts _⟩
theorem eqvA_refl:∀ (ts:List TA) (xs:List (List Num)),eqvA ts xs xs
  | [],_=>trivial
  | t :: ts, xs => ⟨by cases t with
      | one t=>cases t <;> simp [TA.eqv,TV.eqv]
      | agg l=>exact AJ l _,eqvA_refl ts _⟩
theorem eqvH_refl:∀ (l:List (Nat×TO)) (xs:List ON),eqvH l xs xs
  | [],_=>trivial
  | p :: l, xs => ⟨by
      obtain ⟨k,t⟩:=p
      cases t with
      | box cs=>exact AJ cs _
      | lst ln row own=>exact ⟨by cases ln <;> simp [eqvLn],fun i _=>AJ row _⟩
      | tok=>trivial
      | ob t R g=>exact rfl,eqvH_refl l _⟩
theorem TS.eqv_refl (t:TS) (x:EN):t.eqv x x:=⟨eqvA_refl _ _,eqvH_refl _ _⟩
def eqO:Ai→Ai→Prop
  | .box a,.box b=>a=b
  | .lst l s r g,.lst l' s' r' g'=>l.v=l'.v∧s=s'∧g=g'∧∀ i:Nat,(i:Int)<l'.v→r i=r' i
  | .tok,.tok=>True
  | .mp b n v,.mp b' n' v'=>b=b'∧n=n'∧v=v'
  | .own t R d g,.own t' R' d' g'=>t=t'∧R=R'∧d=d'∧g=g'
  | _,_=>False
theorem eqO_grp {o' o:Ai} (h:eqO o' o):o'.grp=o.grp:=by
  cases o' <;> cases o <;> simp only [eqO] at h <;> simp only [Ai.grp]
  · exact h.2.2.1
  · rw [h.2.2.2]
theorem TO.eqv_inst {t:TO} {x y:ON} (h:t.eqv x y):eqO (t.inst x) (t.inst y):=by
  cases t with
  | box cs=>exact eqvL_inst (ts:=cs) h
  | lst ln row own =>
    refine ⟨?_,rfl,rfl,fun i hi=>eqvL_inst (h.2 i hi)⟩
    cases ln with
    | none=>exact congrArg (fun n:Nat=>(n:Int)) h.1
    | some n=>rfl
  | tok=>trivial
  | ob t R g=>exact ⟨rfl,rfl,h,rfl⟩
theorem eqvH_get:∀ {l:List (Nat×TO)} {xs ys:List ON},eqvH l xs ys→∀ k o,hget k (Ad (instH l ys))=some o→∃ o',hget k (Ad (instH l xs))=some o'∧eqO o' o
  | [],_,_,_,k,o,h=>by cases h
  | p::l,xs,ys,e,k,o,h=>by
    simp only [instH,Ad,hget] at h ⊢
    cases hb:Nat.beq p.1 k
    · rw [hb] at h
      exact eqvH_get e.2 k o h
    · rw [hb] at h
      cases h
      exact ⟨_,rfl,TO.eqv_inst e.1⟩
theorem eqO_owns {E:Env} {k b:Nat} {o o':Ai} (h:eqO o' o):owns E k o b↔owns E k o' b:=by
  cases o <;> cases o' <;> simp only [eqO] at h <;> exact Iff.rfl
theorem eqO_rel {E:Env} {lk lk':Look} {w:World} {k:Nat} {o o':Ai} (h:eqO o' o) (hl:∀ k,lk k=some .tok→lk' k=some .tok) (ho:objRel E lk' w k o'):objRel E lk w k o:=by
  cases o <;> cases o' <;> simp only [eqO] at h
  · subst h; exact ho
  · exact ho
  · rename_i l s r g l' s' r' g'
    obtain ⟨h1,rfl,rfl,h4⟩:=h
    obtain ⟨b1,b2,b3⟩:=ho
    refine ⟨by rw [b1,h1],b2,fun hc=>?_⟩
    obtain ⟨B,off,c1,c2,c3⟩:=b3 hc
    refine ⟨B,off,c1,c2,?_⟩
    have rows_ok:∀ get:Nat→Option Value,RowsAt E get off s' (E.hdr k).2.1 r'→RowsAt E get off s' (E.hdr k).2.1 r:=by
      intro get hg i hi
      have:r' i=r i:=h4 i (by rw [← h1,← b1]; exact_mod_cast hi)
      rw [← this]
      exact hg i hi
    cases g' with
    | none=>exact rows_ok _ c3
    | some g =>
      intro hg
      obtain ⟨d1,C,ty,d2,d3,d4⟩:=c3 (hl g hg)
      exact ⟨d1,C,ty,d2,d3,rows_ok _ d4⟩
  · obtain ⟨rfl,rfl,rfl⟩:=h
    exact ho
  · obtain ⟨rfl,rfl,rfl,rfl⟩:=h
    exact fun ht=>ho (hl _ ht)
theorem eqvH_relU {A:Nat→Prop} {E:Env} {w:World} {l:List (Nat×TO)} {xs ys:List ON} (h:eqvH l xs ys) (hU:RelU A E (AO (Ad (instH l xs))) w):RelU A E (AO (Ad (instH l ys))) w:=by
  have gt:∀ k o,AO (Ad (instH l ys)) k=some o→∃ o',AO (Ad (instH l xs)) k=some o'∧eqO o' o:=eqvH_get h
  have tk:∀ k,AO (Ad (instH l ys)) k=some .tok→AO (Ad (instH l xs)) k=some .tok:=fun k hk=>by
    obtain ⟨o',h1,h2⟩:=gt k _ hk
    cases o' <;> simp only [eqO] at h2
    exact h1
  refine ⟨fun k o ho=>?_,fun k o g ho hog=>?_,fun E' hE=>⟨fun k o ho=>?_,fun k o k' o' b ho ho' hne h1 h2=>?_,fun k len sz rows a k' o' ho hc ha ho' h2=>?_⟩⟩
  · obtain ⟨o',h1,_⟩:=gt k o ho
    exact hU.dom k o' h1
  · obtain ⟨o',h1,h2⟩:=gt k _ ho
    exact hU.grp k o' g h1 ((eqO_grp h2).trans hog)
  · obtain ⟨o',h1,h2⟩:=gt k o ho
    exact eqO_rel h2 tk ((hU.rel E' hE).obj k o' h1)
  · obtain ⟨o1,g1,g2⟩:=gt k o ho
    obtain ⟨o2,g3,g4⟩:=gt k' o' ho'
    exact (hU.rel E' hE).apart k o1 k' o2 b g1 g3 hne ((eqO_owns g2).1 h1) ((eqO_owns g4).1 h2)
  · obtain ⟨o1,g1,g2⟩:=gt k _ ho
    obtain ⟨o2,g3,g4⟩:=gt k' o' ho'
    cases o1 <;> simp only [eqO] at g2
    obtain ⟨_,_,rfl,_⟩:=g2
    exact (hU.rel E' hE).ro k _ _ _ a k' o2 g1 hc ha g3 ((eqO_owns g4).1 h2)
theorem eqvH_wext {E:Env} {w:World} {l:List (Nat×TO)} {xs ys:List ON} (h:eqvH l xs ys):WExt E (AO (Ad (instH l xs))) w E (AO (Ad (instH l ys))) w:=by
  have gt:∀ k o,AO (Ad (instH l ys)) k=some o→∃ o',AO (Ad (instH l xs)) k=some o'∧eqO o' o:=eqvH_get h
  refine ⟨rfl,rfl,rfl,Nat.le_refl _,fun _ _ _=>rfl,fun k o b ho hb=>?_,fun k len sz rows a ho hc ha=>?_⟩
  · obtain ⟨o',h1,h2⟩:=gt k o ho
    exact .inl ⟨k,o',h1,(eqO_owns h2).1 hb⟩
  · obtain ⟨o',h1,h2⟩:=gt k _ ho
    cases o' <;> simp only [eqO] at h2
    obtain ⟨_,_,rfl,_⟩:=h2
    exact .inl ⟨k,_,_,_,a,h1,hc,ha,rfl⟩
def TS.heap (t:TS) (en:EN):Aq:=Ad (t.objs en)
theorem HTg.pre {nt b : Nat} {WP : (Exit → Act → World → Prop) → Act → World → Prop} (hWP : ∀ {Q Q' : Exit → Act → World → Prop} {a : Act} {w : World}, WP Q a w → (∀ e a w, Q e a w → Q' e a w) → WP Q' a w)
    {t:TS} {x y:EN} (h:t.eqv x y) {Q:Ex→Nat→Tm→Aq→Prop} (hc:HTg nt b WP t.m (t.tm y) (t.heap y) Q):HTg nt b WP t.m (t.tm x) (t.heap x) Q:=by
  intro E a w hS
  have etm:t.tm x=t.tm y:=by
    unfold TS.tm TS.vals
    rw [eqvA_inst h.1]
  refine hWP (hc E a w ⟨eqvH_relU h.2 hS.rel,hS.size,hS.defers,by rw [← etm]; exact hS.tm⟩) ?_
  rintro e a' w' ⟨ex,m',κ',h',E',rfl,q,s,g,ga⟩
  exact ⟨ex,m',κ',h',E',rfl,q,s,(eqvH_wext h.2).trans g,ga⟩
def mustAll {R:Type} : List Bool→Ah R→Ah R
  | [],t=>t
  | b::l,t=>.must b (mustAll l t)
theorem mustAll_sel {R:Type} : ∀ {l:List Bool} {t:Ah R} {r:R},(mustAll l t).sel=some r→(∀ x∈l,x=true)∧t.sel=some r
  | [],t,r,h=>⟨fun _ h=>(nomatch h),h⟩
  | b::l,t,r,h=>by
    cases b with
    | false=>cases h
    | true =>
      obtain ⟨h1,h2⟩:=mustAll_sel (show (mustAll l t).sel=some r from h)
      exact ⟨fun x hx=>(List.mem_cons.1 hx).elim id (h1 x),h2⟩
structure Pk where
  n:Option TS
  x:List (Nat×TS)
  r:Option TS
def pickX:Nat→List (Nat×TS)→Option TS
  | _,[]=>none
  | i,p::l=>match Nat.beq p.1 i with
    | true=>some p.2
    | false=>pickX i l
def Pk.at (p:Pk):Ex→Option TS
  | .normal=>p.n
  | .exit i=>pickX i p.x
  | .ret=>p.r
def tgets (τ:Tm):List Nat→List AV
  | []=>[]
  | t::ts=>tget t τ::tgets τ ts
noncomputable def outX (b:Nat) (p:Pk) (s:St):Ah (Ex×EN):=match p.at s.ex,Nat.ble s.key nilK with
  | some t,true=>match matS false b t (tgets s.tm t.tmps) s.heap with
    | some q=>mustAll q.ms (.leaf (s.ex,q.en))
    | none=>.fail "the state is not of its template"
  | _,_=>.fail "an end without a template"
theorem outX_sel {b:Nat} {p:Pk} {s:St} {r:Ex×EN} (h:(outX b p s).sel=some r):∃ t q,p.at s.ex=some t∧s.key≤nilK∧MatOk false b t (tgets s.tm t.tmps) s.heap q∧(∀ x∈q.ms,x=true)∧r=(s.ex,q.en):=by
  unfold outX at h
  split at h
  · rename_i t hp hk
    split at h
    · rename_i q hq
      obtain ⟨h1,h2⟩:=mustAll_sel h
      cases h2
      exact ⟨t,q,hp,Nat.le_of_ble_eq_true hk,matS_ok hq,h1,rfl⟩
    · cases h
  · cases h
theorem zip_get {φ : Nat → Nat} {m : Nat} {τ : Tm} {t : Nat} {v : AV} : ∀ {ts : List Nat} {vs : List TA} {a : List (List Num)}, getA φ vs (tgets τ ts) = some a → vs.all (TA.keyB m) = true → tfind t (zipTm ts (instA vs a)) = some v →
    (∀ E,den E (tget t τ)=den (viaN E φ) v)∧(keysOf v).all (Nat.blt · m)=true
  | [],[],a,h,_,hv=>by simp [zipTm,tfind] at hv
  | [],_::_,a,h,_,hv=>by simp [zipTm,tfind] at hv
  | _::_,[],a,h,_,hv=>by simp [instA,zipTm,tfind] at hv
  | j::ts,x::vs,a,h,hk,hv=>by
    simp only [List.all_cons,Bool.and_eq_true] at hk
    simp only [tgets,getA] at h
    split at h
    · rename_i y hy
      split at h
      · rename_i ys hys
        cases h
        simp only [instA,zipTm,tfind,hdL,tlL] at hv
        cases hb:Nat.beq j t
        · rw [hb] at hv
          exact zip_get hys hk.2 hv
        · rw [hb] at hv
          cases hv
          rw [← Nat.eq_of_beq_eq_true hb]
          exact ⟨fun E=>TA.get_den hy E,TA.keys_inst hk.1 _⟩
      · cases h
    · cases h
theorem MatOk.wext {b:Nat} {t:TS} {vals:List AV} {h:Aq} {q:Mat} (M:MatOk false b t vals h q) (hms:∀ x∈q.ms,x=true) (E:Env) (w:World):WExt E (AO h) w (viaN E (lkN q.φ)) (AO (t.heap q.en)) w:=by
  obtain ⟨hpb,hpd,_⟩:=M.hp
  have find:∀ k o,AO (t.heap q.en) k=some o→∃ to g,(k,to)∈t.hp∧k<t.m∧getO false (lkN q.φ) h k to=some g∧o=to.inst g.on:=by
    intro k o ho
    obtain ⟨to,g,h1,h2,h3,_,_⟩:=getOs_mem M.o hms (k,o) (BS ho)
    exact ⟨to,g,h1,(hpB_mem hpb h1).1,h2,h3⟩
  refine ⟨rfl,rfl,rfl,Nat.le_refl _,fun _ _ _=>rfl,fun k o b ho hb=>?_,fun k len sz rows a ho hc ha=>?_⟩
  · obtain ⟨to,g,_,hk,hg,rfl⟩:=find k o ho
    cases hn:isNil (lkN q.φ k) with
    | true =>
      cases to with
      | box cs=>simp [getO,hn] at hg
      | lst ln row ow=>exact hb.elim
      | ob t R g=>exact hb.elim
      | tok =>
        have hb:b∈(nilExt E).fp (lkN q.φ k):=hb
        simp only [nilExt,hn] at hb
        cases hb
    | false =>
      simp only [getO,hn] at hg
      split at hg
      · rename_i o' ho'
        refine .inl ⟨lkN q.φ k,o',ho',?_⟩
        cases to <;> cases o' <;> simp only [TO.get] at hg <;> try (cases hg; done)
        · have hb:b∈(nilExt E).fp (lkN q.φ k):=hb
          simp only [nilExt,hn] at hb
          exact hb
        · exact hb
        · have hb:b∈(nilExt E).fp (lkN q.φ k):=hb
          simp only [nilExt,hn] at hb
          exact hb
        · exact hb
      · cases hg
  · obtain ⟨to,g,hmem,hk,hg,he⟩:=find k _ ho
    cases hn:isNil (lkN q.φ k) with
    | true =>
      simp only [Env.via,nilExt,hn] at hc
      exact absurd hc (Nat.lt_irrefl 0)
    | false =>
      simp only [Env.via,nilExt,hn] at hc ha
      simp only [getO,hn] at hg
      split at hg
      · rename_i o' ho'
        cases to <;> simp only [TO.inst] at he <;> try (cases he; done)
        cases o' <;> simp only [TO.get] at hg <;> try (cases hg; done)
        rename_i ln row ow len' sz' rows' gr
        have how:ow=none:=by cases he; rfl
        subst how
        split at hg
        · rename_i tk h1 h2 h3
          cases gr with
          | none=>exact .inl ⟨_,_,_,_,a,ho',hc,ha,rfl⟩
          | some g'=>simp [ownOk] at h3
        · cases hg
      · cases hg
abbrev QX (p:Pk) (R:Ex→EN→Prop):Ex→Nat→Tm→Aq→Prop:=fun ex m' κ' h'=>∃ t en,p.at ex=some t∧R ex en∧m'=t.m∧κ'=t.tm en∧h'=t.heap en
theorem HTg.runX (hT : TabAll P T) {n : Nat} {f : FuncId} {nt b : Nat} {c : Code} {WP : (Exit → Act → World → Prop) → Act → World → Prop} (hin : ∀ τ h key s, codeD P T n f nt c τ h key = some s → RunSpec nt WP τ h key s) {m : Nat} {κ : Tm} {h : Aq} {p : Pk} {R : Ex → EN → Prop} (hb : b ≤ m)
    (H:∀ τ0:Tm,(Am P T n f nt c (κ++τ0) h m (outX b p)).Holds fun r=>R r.1 r.2):HTg nt b WP m κ h (QX p R):=by
  intro E a w hS
  obtain ⟨r,h1,hR⟩:=H (junk a nt)
  rw [codeT_sel] at h1
  obtain ⟨s,hs,h1⟩:=BC h1
  obtain ⟨t,q,e1,hkey,M,hms,rfl⟩:=outX_sel h1
  obtain ⟨hge,W,hW,_⟩:=codeD_grows hT.toTabW n f nt c _ h m s hs
  refine hin _ h m s hs (· < m) E a w _ hS.stU (fun k h1 _ h2=>by omega) fun a' w' E1 hS1 hx1=>?_
  refine ⟨s.ex,t.m,t.tm q.en,t.heap q.en,viaN E1 (lkN q.φ),rfl,⟨t,q.en,e1,hR,rfl,rfl,rfl⟩,⟨M.relU hms hS1.rel (fun _ _ _=>rfl) (fun _ _=>rfl),hS1.size,hS1.defers,fun j v hj E2 hE=>?_⟩,hx1.wext.trans (M.wext hms E1 w'),fun k hk=>?_⟩
  · obtain ⟨z1,z2⟩:=zip_get M.a M.hp.2.2 hj
    rw [hS1.tm E1 (Ae.refl _ _) j,z1 E1]
    exact (den_cl hE v (Az z2)).symm
  · have h1:=hx1.agree k (Nat.lt_of_lt_of_le hk hb)
    have hn:isNil k=false:=isNil_lt (by omega)
    simp only [Env.via,nilExt,M.pre k hk,hn]
    exact h1
theorem HT.runX (hT : TabAll P T) (hm : P.follows .mixedOrders = true) {n : Nat} {f : FuncId} {nt b : Nat} {c : Code} (hin : BT P f nt c) {m : Nat} {κ : Tm} {h : Aq} {p : Pk} {R : Ex → EN → Prop} (hb : b ≤ m)
    (H:∀ τ0:Tm,(Am P T n f nt c (κ++τ0) h m (outX b p)).Holds fun r=>R r.1 r.2):HT P nt b c m κ h (QX p R) :=
  HTg.runX hT (fun _ _ _ s e=>codeD_sound hT hm n f nt c _ _ _ s hin e) hb H
theorem HTL.runX (hT : TabAll P T) (hm : P.follows .mixedOrders = true) {n : Nat} {f : FuncId} {nt b : Nat} {l : List Code} (hne : l ≠ []) (hin : BT P f nt (ofL l)) {m : Nat} {κ : Tm} {h : Aq} {p : Pk} {R : Ex → EN → Prop} (hb : b ≤ m)
    (H:∀ τ0:Tm,(Am P T n f nt (ofL l) (κ++τ0) h m (outX b p)).Holds fun r=>R r.1 r.2):HTL P nt b l m κ h (QX p R) :=
  HTg.runX hT (fun _ _ _ s e=>codeD_soundL hT hm l n _ _ _ s hne hin e) hb H
theorem HT.loopX (hT : TabAll P T) (hm : P.follows .mixedOrders = true) {n : Nat} {f : FuncId} {nt b : Nat} {x : Code} (hin : BT P f nt x) {D : Type} (t : TS) (xs : List (Nat × TS)) (rt : Option TS) (en : D → EN) (I : D → Prop) (μ : D → Nat) (R : D → Ex → EN → Prop) (hb : b ≤ t.m)
    (round:∀ d,I d→∀ τ0:Tm,(Am P T n f nt x (t.tm (en d)++τ0) (t.heap (en d)) t.m (outX b ⟨some t,xs,rt⟩)).Holds fun r =>
      match r.1 with
      | .normal=>∃ d',I d'∧μ d'<μ d∧t.eqv r.2 (en d')∧∀ ex e,R d' ex e→R d ex e
      | ex=>R d ex r.2)
    (d:D) (hd:I d):HT P nt b (.loop x) t.m (t.tm (en d)) (t.heap (en d)) (QX ⟨none,xs,rt⟩ (R d)):=by
  refine HT.loop (D:=EN×D) (fun q=>μ q.2) (fun _=>t.m) (fun q=>t.tm q.1) (fun q=>t.heap q.1) (fun q=>I q.2∧t.eqv q.1 (en q.2)) (fun q=>QX ⟨none,xs,rt⟩ (R q.2)) ?_ (en d,d) ⟨hd,t.eqv_refl _⟩
  rintro ⟨e,d⟩ ⟨hI,he⟩
  refine HTg.pre (WP := fun Q a w => x.wp P Q a w) (fun h hq => wp_mono h hq) he (HT.mono (HT.runX (R := fun ex en' => match ex with
      | .normal=>∃ d',I d'∧μ d'<μ d∧t.eqv en' (en d')∧∀ ex e,R d' ex e→R d ex e
      | ex=>R d ex en') hT hm hin hb (round d hI)) ?_)
  rintro ex m' κ' h' ⟨t',e',h1,h2,rfl,rfl,rfl⟩
  cases ex with
  | normal =>
    cases h1
    obtain ⟨d',i1,i2,i3,i4⟩:=h2
    exact ⟨(e',d'),⟨i1,i3⟩,i2,rfl,rfl,rfl,fun ex m2 κ2 h2 ⟨t2,e2,j1,j2,j3⟩=>⟨t2,e2,j1,i4 _ _ j2,j3⟩⟩
  | exit i=>exact ⟨t',e',h1,h2,rfl,rfl,rfl⟩
  | ret=>exact ⟨t',e',h1,h2,rfl,rfl,rfl⟩
theorem QX_block {id : Nat} {t' : TS} {rt : Option TS} {R : Ex → EN → Prop} {ex : Ex} {m : Nat} {κ : Tm} {h : Aq} (q : QX ⟨none, [(id, t')], rt⟩ R ex m κ h) :
    QX ⟨some t',[],rt⟩ (fun ex e=>match ex with | .normal=>R (.exit id) e | ex=>R ex e) (exBlock id ex) m κ h:=by
  obtain ⟨t,e,h1,h2,h3⟩:=q
  cases ex with
  | normal=>cases h1
  | exit i =>
    simp only [Pk.at,pickX] at h1
    split at h1
    · rename_i hb
      have:=Nat.eq_of_beq_eq_true hb
      subst this
      simp only [exBlock,hb]
      exact ⟨t,e,h1,h2,h3⟩
    · cases h1
  | ret=>exact ⟨t,e,h1,h2,h3⟩
def unres:Nat→AV→List AV
  | 1,v=>[v]
  | _,.tup l=>l
  | _,_=>[]
def resB:Nat→AV→Bool
  | 1,_=>true
  | _,.tup l=>match l with
    | [_]=>false
    | _=>true
  | _,_=>false
theorem res_unres {n:Nat} {v:AV} (h:resB n v=true) (hl:(unres n v).length=n):resV (unres n v)=v:=by
  match n,v with
  | 1,v=>rfl
  | 0,.tup l=>simp only [unres] at hl ⊢; rw [List.eq_nil_of_length_eq_zero hl]; rfl
  | n+2,.tup l=>match l,hl with
    | a::b::l,_=>rfl
noncomputable def outV (b:Nat) (t:TS) (v:AV) (h:Aq) (key:Nat):Ah EN:=match Nat.ble key nilK,resB t.vs.length v with
  | true,true=>match matS false b t (unres t.vs.length v) h with
    | some q=>mustAll q.ms (.leaf q.en)
    | none=>.fail "the result is not of its template"
  | _,_=>.fail "keys"
theorem getA_length {φ:Nat→Nat} : ∀ {ts:List TA} {vs:List AV} {xs:List (List Num)},getA φ ts vs=some xs→vs.length=ts.length:=fun {ts vs xs} h=>by
  have:=congrArg List.length (getA_den h default)
  rwa [BL,BL,instA_length] at this
theorem den_resV (E E':Env):∀ {l l':List AV},BM E l=BM E' l'→den E (resV l)=den E' (resV l')
  | [],[],_=>rfl
  | [a],[b],h=>by
    simp only [BM] at h
    exact (List.cons.inj h).1
  | a::b::l,a'::b'::l',h=>by
    show den E (.tup (a::b::l))=den E' (.tup (a'::b'::l'))
    simp only [den,h]
  | [],_::_,h=>by simp [BM] at h
  | _::_,[],h=>by simp [BM] at h
  | [_],_::_::_,h=>by simp [BM] at h
  | _::_::_,[_],h=>by simp [BM] at h
def BI (P:Program) (f:FuncId) (t:TS) (x:EN) (t':TS) (y:EN):Prop:=StdN P f t.m (t.objs x) (t.vals x) t'.m (t'.objs y) (resV (t'.vals y))
theorem Aj (hT : TabAll P T) (hm : P.follows .mixedOrders = true) {n : Nat} {f : FuncId} {t t' : TS} {x y : EN} (hargs : t.vs.all (TA.keyB t.m) = true)
    (H:(BR P (Am P T n) f (t.vals x) (t.heap x) t.m (outV t.m t')).Holds fun e=>t'.eqv e y):BI P f t x t' y:=by
  intro E w hU
  obtain ⟨o,h1,h2⟩:=H
  rw [callW_nat (runD:=codeD P T n) (fun f nt c τ h key K=>codeT_sel n f nt c τ h key K)] at h1
  obtain ⟨⟨v0,H0,key'⟩,hc,h1⟩:=BC h1
  dsimp only [outV] at h1
  split at h1
  · rename_i hkey hres
    have hkey:=Nat.le_of_ble_eq_true hkey
    split at h1
    · rename_i q hq
      obtain ⟨hms,h1⟩:=mustAll_sel h1
      cases h1
      have M:=matS_ok hq
      obtain ⟨hge,W,hW,_⟩:=call_grows hT n f (t.vals x) _ t.m v0 H0 key' hc
      have:=call_sound hT hm n f (t.vals x) _ t.m v0 H0 key' W hc hW (· < t.m) E _ w _ hU rfl (fun k h1 _ h2=>by omega) (fun E' hE=>congrArg List.toArray (denL_cl hE (t.vals x) (Az (instA_keys _ hargs))).symm)
      refine this.mono ?_
      rintro e w' ⟨val,E1,rfl,g1,g2,g3⟩
      have hW:H0=W++Ad (t.objs x):=hW
      rw [← lookOf_append,← hW] at g2 g3
      refine ⟨viaN E1 (lkN q.φ),?_,fun k hk=>?_,eqvH_relU h2.2 (M.relU hms g2 (fun _ _ _=>rfl) (fun _ _=>rfl)),(g3.wext.trans (M.wext hms E1 w')).trans (eqvH_wext h2.2)⟩
      · have hl:=getA_length M.a
        rw [g1 E1 (Ae.refl _ _),← res_unres hres hl]
        refine congrArg Ending.returned (den_resV _ _ ?_)
        rw [getA_den M.a E1]
        unfold TS.vals
        rw [eqvA_inst h2.1]
      · have h1:=g3.agree k hk
        have hn:isNil k=false:=isNil_lt (by omega)
        simp only [Env.via,nilExt,M.pre k hk,hn]
        exact h1
    · cases h1
  · cases h1
end
end Go.Eng
set_option linter.unusedSimpArgs false
set_option linter.unusedVariables false
namespace Go.Eng
open Go.RowKit
section
variable {P:Program} {T:Tab}
def TO.isBox:TO→Bool
  | .box _=>true
  | .ob _ _ _=>true
  | _=>false
def TO.isTok:TO→Bool
  | .tok=>true
  | _=>false
def TO.owned:TO→Bool
  | .box _=>true
  | .lst _ _ (some _)=>true
  | .lst _ _ none=>false
  | .tok=>true
  | .ob _ _ _=>true
def TO.used:TO→Bool
  | .box _=>false
  | .ob _ _ _=>false
  | .lst _ _ (some _)=>true
  | .lst _ _ none=>false
  | .tok=>true
def atT (g:Nat) (p:TO→Bool) (l:List (Nat×TO)):Bool:=l.any fun x=>Nat.beq x.1 g&&p x.2
def ownKeys (φ:List Nat) (l:List (Nat×TO)):List Nat:=(l.filter fun p=>p.2.owned && !isNil (lkN φ p.1)).map fun p=>lkN φ p.1
def kills (φ:List Nat) (l:List (Nat×TO)):Aq:=(l.filter fun p=>p.2.used && !isNil (lkN φ p.1)).map fun p=>(lkN φ p.1,none)
def keyOkB (m:Nat) (φ:List Nat) (k:Nat):Bool:=!(Nat.blt k m&&isNil (lkN φ k))
def TV.cellOk (m:Nat) (φ:List Nat):TV→Bool
  | .sl k=>keyOkB m φ k
  | .ptr k _=>keyOkB m φ k
  | _=>true
def TA.cellOk (m:Nat) (φ:List Nat):TA→Bool
  | .one t=>t.cellOk m φ
  | .agg l=>l.all (TV.cellOk m φ)
def postO (pre:TS) (post:TS) (φ:List Nat) (p:Nat×TO):Bool:=match p.2 with
  | .box cs=>(Nat.ble pre.m p.1||atT p.1 TO.isBox pre.hp)&&cs.all (TV.cellOk pre.m φ)
  | .lst _ _ (some g)=>Nat.ble pre.m p.1&&(Nat.ble pre.m g&&atT g TO.isTok post.hp)
  | .lst _ _ none=>false
  | .tok=>Nat.ble pre.m p.1
  | .ob _ _ g=>(Nat.ble pre.m p.1||atT p.1 TO.isBox pre.hp)&&(Nat.ble pre.m g&&atT g TO.isTok post.hp)
def preO (l:List (Nat×TO)) (p:Nat×TO):Bool:=match p.2 with
  | .lst _ _ (some g)=>atT g TO.isTok l
  | .ob _ _ g=>atT g TO.isTok l
  | _=>true
def postB (pre:TS) (φ:List Nat) (post:TS):Bool :=
  (List.range pre.m).all (fun j=>memK j (pre.hp.map (·.1)))&&pre.hp.all (preO pre.hp)&&Nat.ble pre.m post.m&&post.okB&&post.hp.all (postO pre post φ) &&
    pre.hp.all (fun p=>!p.2.isBox||memK p.1 (post.hp.map (·.1)))&&post.vs.all (TA.cellOk pre.m φ)
noncomputable def AW (pre:TS) (run:EN→Ah (TS×EN)):Summ:=⟨fun args h key=>match matS true 0 pre args h with
  | some q=>mustAll q.ms (.defE q.en fun e=>(run e).bind fun r=>match postB pre q.φ r.1&&distB q.φ with
    | true=>.leaf (ren (psi q.φ key) (resV (r.1.vals r.2)),(q.φ.filter fun k=>!isNil k)++q.toks,wOf (psi q.φ key) (r.1.objs r.2)++kills q.φ pre.hp,key+(r.1.m - pre.m))
    | false=>.fail "what a summary leaves")
  | none=>.fail "a summary's arguments"⟩
theorem atT_ok {g:Nat} {p:TO→Bool} {l:List (Nat×TO)} (h:atT g p l=true):∃ t,(g,t)∈l∧p t=true:=by
  obtain ⟨x,h1,h2⟩:=List.any_eq_true.1 h
  simp only [Bool.and_eq_true] at h2
  exact ⟨x.2,by rw [← Nat.eq_of_beq_eq_true h2.1]; exact h1,h2.2⟩
theorem kills_get {φ:List Nat} {l:List (Nat×TO)} {k:Nat} {o:Option Ai} (h:wget k (kills φ l)=some o):o=none∧∃ p∈l,p.2.used=true∧isNil (lkN φ p.1)=false∧k=lkN φ p.1:=by
  have:=wget_in h
  obtain ⟨p,h1,h2⟩:=List.mem_map.1 this
  obtain ⟨h3,h4⟩:=List.mem_filter.1 h1
  simp only [Bool.and_eq_true,Bool.not_eq_true'] at h4
  cases h2
  exact ⟨rfl,p,h3,h4.1,h4.2,rfl⟩
theorem kills_mem {φ:List Nat} {l:List (Nat×TO)} {k:Nat} {o:Option Ai} (h:(k,o)∈kills φ l):o=none∧∃ p∈l,p.2.used=true∧isNil (lkN φ p.1)=false∧k=lkN φ p.1:=by
  obtain ⟨p,h1,h2⟩:=List.mem_map.1 h
  obtain ⟨h3,h4⟩:=List.mem_filter.1 h1
  simp only [Bool.and_eq_true,Bool.not_eq_true'] at h4
  cases h2
  exact ⟨rfl,p,h3,h4.1,h4.2,rfl⟩
theorem kills_of {φ:List Nat} {l:List (Nat×TO)} {p:Nat×TO} (h1:p∈l) (h2:p.2.used=true) (h3:isNil (lkN φ p.1)=false):wget (lkN φ p.1) (kills φ l)=some none:=by
  have hm:lkN φ p.1∈wkeys (kills φ l):=List.mem_map.2 ⟨(lkN φ p.1,none),List.mem_map.2 ⟨p,List.mem_filter.2 ⟨h1,by simp [h2,h3]⟩,rfl⟩,rfl⟩
  cases hw:wget (lkN φ p.1) (kills φ l) with
  | none=>exact absurd hm (wget_none_iff.1 hw)
  | some o=>rw [(kills_get hw).1]
theorem used_owned {t:TO} (h:t.used=true):t.owned=true:=by
  cases t with
  | box cs=>cases h
  | lst ln row own=>cases own <;> first | exact h | rfl
  | tok=>rfl
  | ob t R g=>rfl
theorem TV.keys_ok {t:TV} {m:Nat} {φ:List Nat} (h:t.cellOk m φ=true) (x:Num):∀ k∈keysOf (t.inst x),keyOkB m φ k=true:=by
  cases t <;> simp [TV.inst,keysOf,TV.cellOk,keysL] at h ⊢ <;> exact h
theorem instL_ok {m:Nat} {φ:List Nat} : ∀ {ts:List TV} (xs:List Num),ts.all (TV.cellOk m φ)=true→∀ k∈keysL (instL ts xs),keyOkB m φ k=true
  | [],_,_,k,h=>by cases h
  | t::ts,xs,h,k,hk=>by
    simp only [List.all_cons,Bool.and_eq_true] at h
    simp only [instL,keysL,List.mem_append] at hk
    exact hk.elim (TV.keys_ok h.1 _ k) (instL_ok _ h.2 k)
theorem instA_ok {m:Nat} {φ:List Nat} : ∀ {ts:List TA} (xs:List (List Num)),ts.all (TA.cellOk m φ)=true→∀ k∈keysL (instA ts xs),keyOkB m φ k=true
  | [],_,_,k,h=>by cases h
  | t::ts,xs,h,k,hk=>by
    simp only [List.all_cons,Bool.and_eq_true] at h
    simp only [instA,keysL,List.mem_append] at hk
    refine hk.elim (fun hk=>?_) (instA_ok _ h.2 k)
    cases t with
    | one t=>exact TV.keys_ok h.1 _ k hk
    | agg l=>exact instL_ok _ h.1 k hk
theorem keysOf_resV_mem {l:List AV} {k:Nat} (h:k∈keysOf (resV l)):k∈keysL l:=by
  match l with
  | []=>exact h
  | [a]=>simpa [keysL,resV] using h
  | a::b::l=>exact h
theorem instH_mem:∀ {l:List (Nat×TO)} {xs:List ON} {p:Nat×Ai},p∈instH l xs→∃ t x,(p.1,t)∈l∧p.2=t.inst x
  | [],xs,p,h=>by cases h
  | q::l,xs,p,h=>by
    simp only [instH] at h
    rcases List.mem_cons.1 h with rfl | h
    · exact ⟨q.2,_,by simp,rfl⟩
    · obtain ⟨t,x,h1,h2⟩:=instH_mem h
      exact ⟨t,x,List.mem_cons_of_mem _ h1,h2⟩
theorem ctr_spec {f : FuncId} {pre post : TS} {args : List AV} {h : Aq} {q : Mat} {y : EN} (M : MatOk true 0 pre args h q) (hms : ∀ x ∈ q.ms, x = true) (hB : postB pre q.φ post = true) (hdist : distB q.φ = true) (hs : BI P f pre q.en post y) (key : Nat) :
    CallSpec P f args (fun lk=>∀ k∈(q.φ.filter fun k=>!isNil k)++q.toks,lk k=hget k h) key (key+(post.m - pre.m)) (ren (psi q.φ key) (resV (post.vals y))) (wOf (psi q.φ key) (post.objs y)++kills q.φ pre.hp) ∧
    WOK (AO h) key (key+(post.m - pre.m)) (wOf (psi q.φ key) (post.objs y)++kills q.φ pre.hp):=by
  simp only [postB,Bool.and_eq_true] at hB
  obtain ⟨⟨⟨⟨⟨⟨b1,b2⟩,b3⟩,b4⟩,b5⟩,b6⟩,b7⟩:=hB
  have b3:=Nat.le_of_ble_eq_true b3
  simp only [TS.okB,Bool.and_eq_true] at b4
  obtain ⟨⟨c1,c2⟩,c3⟩:=b4
  obtain ⟨d1,d2,d3⟩:=M.hp
  have hlen:=M.len
  have pcov:∀ j,j<pre.m→∃ t,(j,t)∈pre.hp:=fun j hj=>by
    have:=memK_iff.1 (List.all_eq_true.1 b1 j (by simpa using hj))
    obtain ⟨p,h1,h2⟩:=List.mem_map.1 this
    exact ⟨p.2,by rw [← h2]; exact h1⟩
  have found:∀ {j t},(j,t)∈pre.hp→∃ g,getO true (lkN q.φ) h j t=some g:=by
    have:∀ (l:List (Nat×TO)) (r:GotH),getOs true (lkN q.φ) h l=some r→∀ {j t},(j,t)∈l→∃ g,getO true (lkN q.φ) h j t=some g:=by
      intro l
      induction l with
      | nil=>intro _ _ _ _ h; cases h
      | cons p l ih =>
        intro r e j t hm
        simp only [getOs] at e
        split at e
        · rename_i g hg
          split at e
          · rename_i s hs'
            rcases List.mem_cons.1 hm with e1 | hm
            · cases e1; exact ⟨g,hg⟩
            · exact ih s hs' hm
          · cases e
        · cases e
    exact fun {j t} hm=>this _ _ M.o hm
  have boxNil:∀ {j t},(j,t)∈pre.hp→t.isBox=true→isNil (lkN q.φ j)=false:=fun {j t} hm hb=>by
    obtain ⟨g,hg⟩:=found hm
    cases hn:isNil (lkN q.φ j) with
    | false=>rfl
    | true =>
      cases t <;> simp [TO.isBox] at hb
      all_goals simp [getO,hn] at hg
  have there:∀ {j t},(j,t)∈pre.hp→isNil (lkN q.φ j)=false→∃ o g,hget (lkN q.φ j) h=some o∧t.get true (lkN q.φ) h o=some g:=fun {j t} hm hn=>by
    obtain ⟨g,hg⟩:=found hm
    simp only [getO,hn] at hg
    split at hg
    · rename_i o ho
      exact ⟨o,g,ho,hg⟩
    · cases hg
  have pm:∀ {k t},(k,t)∈post.hp→k<post.m∧t.okB post.m=true:=fun hm=>hpB_mem c2 hm
  have po:∀ {k t},(k,t)∈post.hp→postO pre post q.φ (k,t)=true:=fun hm=>List.all_eq_true.1 b5 _ hm
  let nb:List Nat:=ownKeys q.φ pre.hp
  have hnb:∀ {k},k∈nb→∃ j t,(j,t)∈pre.hp∧j<pre.m∧t.owned=true∧isNil (lkN q.φ j)=false∧k=lkN q.φ j:=fun {k} hm=>by
    obtain ⟨p,h1,h2⟩:=List.mem_map.1 hm
    obtain ⟨h3,h4⟩:=List.mem_filter.1 h1
    simp only [Bool.and_eq_true,Bool.not_eq_true'] at h4
    exact ⟨p.1,p.2,h3,(hpB_mem d1 h3).1,h4.1,h4.2,h2.symm⟩
  have nbOf:∀ {j t},(j,t)∈pre.hp→t.owned=true→isNil (lkN q.φ j)=false→lkN q.φ j∈nb:=fun {j t} hm ho hn =>
    List.mem_map.2 ⟨(j,t),List.mem_filter.2 ⟨hm,by simp [ho,hn]⟩,rfl⟩
  have hlook:∀ k,AO (restrict nb h) k=if k∈nb then hget k h else none:=fun k=>restrict_look h k nb
  have wk:∀ g,(∃ t,(g,t)∈post.hp)→psi q.φ key g∈wkeys (wOf (psi q.φ key) (post.objs y)):=by
    rintro g ⟨t,hg⟩
    have hm:g∈(post.objs y).map (·.1):=by
      unfold TS.objs
      rw [instH_keys]
      exact List.mem_map.2 ⟨(g,t),hg,rfl⟩
    have hc:=wget_cov (φ:=psi q.φ key) hm
    cases hw:wget (psi q.φ key g) (wOf (psi q.φ key) (post.objs y)) with
    | none=>exact absurd hw hc
    | some x=>exact wget_mem hw
  have wkeysL:∀ {g:Nat},g∈wkeys (wOf (psi q.φ key) (post.objs y))→g∈wkeys (wOf (psi q.φ key) (post.objs y)++kills q.φ pre.hp):=fun {g} hg=>by
    unfold wkeys at hg ⊢
    rw [List.map_append]
    exact List.mem_append_left _ hg
  have hWm:∀ {k o},(k,o)∈wOf (psi q.φ key) (post.objs y)++kills q.φ pre.hp→(∃ j t x,k=psi q.φ key j∧(j,t)∈post.hp∧o=some (renO (psi q.φ key) (t.inst x)))∨(o=none∧∃ j t,(j,t)∈pre.hp∧t.owned=true∧isNil (lkN q.φ j)=false∧k=lkN q.φ j):=fun {k o} hm=>by
    rcases List.mem_append.1 hm with hm | hm
    · obtain ⟨p,h1,h2,h3⟩:=wOf_mem hm
      obtain ⟨t,x,h4,h5⟩:=instH_mem h1
      exact .inl ⟨p.1,t,x,h2,h4,by rw [h3,h5]⟩
    · obtain ⟨h1,p,h2,h3,h4,h5⟩:=kills_mem hm
      exact .inr ⟨h1,p.1,p.2,h2,used_owned h3,h4,h5⟩
  have newOr:∀ {j t},(j,t)∈post.hp→j<pre.m→(∃ t',(j,t')∈pre.hp∧t'.isBox=true):=fun {j t} hm hj=>by
    have:=po hm
    unfold postO at this
    dsimp only at this
    split at this
    · simp only [Bool.and_eq_true,Bool.or_eq_true] at this
      rcases this.1 with h1 | h1
      · have:=Nat.le_of_ble_eq_true h1; omega
      · exact atT_ok h1
    · simp only [Bool.and_eq_true] at this
      have:=Nat.le_of_ble_eq_true this.1; omega
    · cases this
    · have:=Nat.le_of_ble_eq_true this; omega
    · simp only [Bool.and_eq_true,Bool.or_eq_true] at this
      rcases this.1 with h1 | h1
      · have:=Nat.le_of_ble_eq_true h1; omega
      · exact atT_ok h1
  have ownIn:∀ {j t R g},(j,TO.ob t R g)∈post.hp→pre.m≤g∧∃ t',(g,t')∈post.hp:=fun {j t R g} hm=>by
    have:=po hm
    simp only [postO,Bool.and_eq_true] at this
    obtain ⟨t',h1,_⟩:=atT_ok this.2.2
    exact ⟨Nat.le_of_ble_eq_true this.2.1,t',h1⟩
  have tokIn:∀ {j t x l s r g},(j,t)∈post.hp→t.inst x=Ai.lst l s r (some g)→pre.m≤j∧pre.m≤g∧∃ t',(g,t')∈post.hp:=fun {j t x l s r g} hm he=>by
    have:=po hm
    cases t <;> simp only [TO.inst] at he <;> try (cases he; done)
    rename_i ln row own
    cases he
    simp only [postO,Bool.and_eq_true] at this
    obtain ⟨t',h1,_⟩:=atT_ok this.2.2
    exact ⟨Nat.le_of_ble_eq_true this.1,Nat.le_of_ble_eq_true this.2.1,t',h1⟩
  refine ⟨?_,fun k o hm=>?_⟩
  · intro A E lk w vals hU hC hk hvals
    have hC:∀ k∈(q.φ.filter fun k=>!isNil k)++q.toks,lk k=hget k h:=hC
    have hφ:∀ j,j<pre.m→isNil (lkN q.φ j)=false→lk (lkN q.φ j)=hget (lkN q.φ j) h:=fun j hj hn =>
      hC _ (List.mem_append_left _ (List.mem_filter.2 ⟨lkN_mem (by rw [hlen]; exact hj),by simp [hn]⟩))
    have hUs:=M.relU hms hU hφ (fun g hg=>hC g (List.mem_append_right _ hg))
    have hAφ:∀ j,j<pre.m→isNil (lkN q.φ j)=false→A (lkN q.φ j):=fun j hj hn=>by
      obtain ⟨t,ht⟩:=pcov j hj
      obtain ⟨o,_,ho,_⟩:=there ht hn
      exact hU.dom _ o ((hφ j hj hn).trans ho)
    have hold:∀ k,A k→¬ (key≤k∧k<key+(post.m - pre.m)):=fun k hA hn=>hk k hn.1 hn.2 hA
    have hv:vals=(BM (viaN E (lkN q.φ)) (pre.vals q.en)).toArray:=by
      rw [hvals E (Ae.refl _ _),getA_den M.a E]
      rfl
    rw [hv]
    refine (hs _ w hUs).mono ?_
    rintro e w' ⟨E1,rfl,hag,hU1,hx1⟩
    let I:Nat→Nat:=psiI q.φ key (post.m - pre.m)
    let E2:Env:=⟨fun k=>if key≤k∧k<key+(post.m - pre.m) then E1.blk (I k) else E.blk k,fun k=>if key≤k∧k<key+(post.m - pre.m) then E1.hdr (I k) else E.hdr k,fun k=>if key≤k∧k<key+(post.m - pre.m) then E1.fp (I k) else E.fp k⟩
    have agA:Ae A E E2:=fun k hA=>by
      have:=hold k hA
      exact ⟨if_neg this,if_neg this,if_neg this⟩
    let M':Nat→Prop:=fun k=>(k∈q.φ∧isNil k=false)∨(key≤k∧k<key+(post.m - pre.m))
    have idx:∀ {k},k∈q.φ→lkN q.φ (idxN k q.φ)=k∧idxN k q.φ<pre.m:=fun {k} hm=>by
      obtain ⟨h1,h2⟩:=lk_idxN hm
      exact ⟨h1,by rw [← hlen]; exact h2⟩
    have hAm:∀ k,k∈q.φ→isNil k=false→A k:=fun k hm hn=>by
      obtain ⟨h1,h2⟩:=idx hm
      rw [← h1]
      exact hAφ _ h2 (by rw [h1]; exact hn)
    have agM:Ae M' (E1.via I) E2:=fun k hk=>by
      by_cases hn:key≤k∧k<key+(post.m - pre.m)
      · exact ⟨if_pos hn,if_pos hn,if_pos hn⟩
      · obtain ⟨hm,hnil⟩:=hk.resolve_right hn
        obtain ⟨h1,h2⟩:=idx hm
        have hI:I k=idxN k q.φ:=psiI_old hn
        obtain ⟨a1,a2,a3⟩:=hag _ h2
        simp only [Env.via,nilExt,h1,hnil] at a1 a2 a3
        refine ⟨(if_neg hn).trans ?_,(if_neg hn).trans ?_,(if_neg hn).trans ?_⟩
        · show _=E1.blk (I k); rw [hI,a1]
        · show _=E1.hdr (I k); rw [hI,a2]
        · show _=E1.fp (I k); rw [hI,a3]
    have hM:∀ k,M' k→rng A key (key+(post.m - pre.m)) k:=fun k hk=>hk.imp (fun h=>hAm k h.1 h.2) id
    have hIψ:∀ j,j<post.m→keyOkB pre.m q.φ j=true→I (psi q.φ key j)=j∧M' (psi q.φ key j):=fun j hj hok=>by
      by_cases hlt:j<pre.m
      · have hnil : isNil (lkN q.φ j) = false := by
          unfold keyOkB at hok
          rw [show Nat.blt j pre.m=true from Nat.ble_eq_true_of_le hlt] at hok
          simpa using hok
        rw [psi_lt (by rw [hlen]; exact hlt)]
        exact ⟨(psiI_old (hold _ (hAφ j hlt hnil))).trans (idx_lkN hdist (by rw [hlen]; exact hlt)),.inl ⟨lkN_mem (by rw [hlen]; exact hlt),hnil⟩⟩
      · rw [psi_ge (by rw [hlen]; omega),hlen]
        refine ⟨(psiI_new (by omega) (by omega)).trans (by rw [hlen]; omega),.inr ⟨by omega,by omega⟩⟩
    have hψI:∀ k,M' k→psi q.φ key (I k)=k∧I k<post.m:=fun k hk=>by
      by_cases hn:key≤k∧k<key+(post.m - pre.m)
      · have hI:I k=q.φ.length+(k - key):=psiI_new hn.1 hn.2
        rw [hI,psi_ge (by omega)]
        exact ⟨by omega,by omega⟩
      · obtain ⟨h1,h2⟩:=idx (hk.resolve_right hn).1
        have hI:I k=idxN k q.φ:=psiI_old hn
        rw [hI,psi_lt (by rw [hlen]; exact h2)]
        exact ⟨h1,by omega⟩
    have okBox:∀ {j t},(j,t)∈post.hp→keyOkB pre.m q.φ j=true:=fun {j t} hm=>by
      unfold keyOkB
      cases hlt:Nat.blt j pre.m with
      | false=>rfl
      | true =>
        obtain ⟨t',h1,h2⟩:=newOr hm (Nat.le_of_ble_eq_true hlt)
        rw [boxNil h1 h2]
        rfl
    have hsub:∀ k o,AO (restrict nb h) k=some o→lk k=some o:=by
      intro k o ho
      rw [hlook] at ho
      split at ho
      · rename_i hm
        obtain ⟨j,t,_,hj,_,hn,rfl⟩:=hnb hm
        rw [hφ j hj hn]; exact ho
      · cases ho
    have hget':∀ k o,AO ((wOf (psi q.φ key) (post.objs y)++kills q.φ pre.hp)++restrict nb h) k=some o→∃ j t x,k=psi q.φ key j∧j<post.m∧(j,t)∈post.hp∧(j,t.inst x)∈post.objs y∧o=renO (psi q.φ key) (t.inst x):=by
      intro k o ho
      rw [lookOf_append] at ho
      unfold hupd at ho
      cases hw:wget k (wOf (psi q.φ key) (post.objs y)) with
      | some z =>
        rw [wget_append,hw] at ho
        dsimp only at ho
        subst ho
        obtain ⟨p,h1,h2,h3⟩:=wOf_mem (wget_wOf hw)
        obtain ⟨t,x,h4,h5⟩:=instH_mem h1
        refine ⟨p.1,t,x,h2,(pm h4).1,h4,by rw [← h5]; exact h1,?_⟩
        rw [← h5]
        cases h3
        rfl
      | none =>
        rw [wget_append,hw] at ho
        dsimp only at ho
        cases hw2:wget k (kills q.φ pre.hp) with
        | some z =>
          rw [hw2] at ho
          dsimp only at ho
          rw [(kills_get hw2).1] at ho
          cases ho
        | none =>
          rw [hw2] at ho
          dsimp only at ho
          rw [hlook] at ho
          split at ho
          · rename_i hm
            obtain ⟨j,t,h1,hj,h2,hn,rfl⟩:=hnb hm
            cases hu:t.used with
            | true =>
              rw [kills_of h1 hu hn] at hw2
              cases hw2
            | false =>
              have hbx:t.isBox=true:=by
                cases t with
                | box cs=>rfl
                | lst ln row own=>cases own with
                  | none=>cases h2
                  | some g=>cases hu
                | tok=>cases hu
                | ob t R g=>rfl
              have h6:=List.all_eq_true.1 b6 _ h1
              simp only [hbx,Bool.not_true,Bool.false_or] at h6
              obtain ⟨p,h7,h8⟩:=List.mem_map.1 (memK_iff.1 h6)
              have:=wget_none_iff.1 hw
              have h9:=wk j ⟨p.2,by have h8:p.1=j:=h8; rw [← h8]; exact h7⟩
              rw [psi_lt (by rw [hlen]; exact hj)] at h9
              exact absurd h9 this
          · cases ho
    have hR2:ResetH noNil M' I (Ad (post.objs y)) ((wOf (psi q.φ key) (post.objs y)++kills q.φ pre.hp)++restrict nb h):=by
      have main:∀ k o,AO ((wOf (psi q.φ key) (post.objs y)++kills q.φ pre.hp)++restrict nb h) k=some o→M' k:=by
        intro k o ho
        obtain ⟨j,t,x,rfl,hj,hm,_⟩:=hget' k o ho
        exact (hIψ j hj (okBox hm)).2
      refine ⟨fun k o ho=>?_,fun k k' o o' ho ho' e=>?_⟩
      · refine ⟨main k o ho,.inl ?_⟩
        obtain ⟨j,t,x,rfl,hj,hm,hin,rfl⟩:=hget' k o ho
        obtain ⟨i1,i2⟩:=hIψ j hj (okBox hm)
        refine ⟨t.inst x,?_,?_⟩
        · show hget (I (psi q.φ key j)) _=_
          rw [i1]
          refine mk_uniq ?_ hin
          unfold TS.objs
          rw [instH_keys]
          exact c3
        · have hpo:=po hm
          have hok:=(pm hm).2
          cases t with
          | box cs =>
            simp only [postO,Bool.and_eq_true] at hpo
            have hk1:=instL_keys (m:=post.m) x.xs (ts:=cs) hok
            have hk2:=instL_ok (m:=pre.m) (φ:=q.φ) x.xs (ts:=cs) hpo.2
            have cl:∀ k∈keysL (instL cs x.xs),I (psi q.φ key k)=k∧M' (psi q.φ key k):=fun k hk=>hIψ k (Az hk1 k hk) (hk2 k hk)
            refine ⟨by rw [allScalar_ren]; exact instL_scalar _ _,fun E _=>?_,fun k hk=>?_⟩
            · rw [denL_ren,denL_ren]
              refine denL_cl (M:=fun k=>k∈keysL (instL cs x.xs)) (fun k hk=>?_) _ (fun _ h=>h)
              have:=(cl k hk).1
              exact ⟨by simp [Env.via,this],by simp [Env.via,this],by simp [Env.via,this]⟩
            · rw [keysL_ren] at hk
              obtain ⟨j,h1,rfl⟩:=List.mem_map.1 hk
              exact (cl j h1).2
          | tok=>trivial
          | ob t0 R0 g =>
            obtain ⟨hg1,t',hg2⟩:=ownIn hm
            obtain ⟨i3,i4⟩:=hIψ g (pm hg2).1 (okBox hg2)
            refine ⟨rfl,rfl,rfl,?_,i4,rfl⟩
            show g=I (psi q.φ key g)
            rw [i3]
          | lst ln row own =>
            have hrow:row.all TV.keyless=true:=by
              simp only [TO.okB,Bool.and_eq_true] at hok
              exact hok.1
            cases own with
            | none=>simp [postO] at hpo
            | some g =>
              obtain ⟨_,hg1,t',hg2⟩:=tokIn (x:=x) hm rfl
              obtain ⟨i3,i4⟩:=hIψ g (pm hg2).1 (okBox hg2)
              refine ⟨rfl,rfl,?_,(fun z (hz:some (psi q.φ key g)=some z)=>by cases hz; exact ⟨i4,rfl⟩),fun i _=>⟨length_ren _ _,by rw [allScalar_ren]; exact instL_scalar _ _,fun E _=>?_,fun k hk=>?_⟩⟩
              · show some g=some (I (psi q.φ key g))
                rw [i3]
              · rw [denL_ren,denL_ren]
                exact den_keyless (instL_keyless _ hrow) _ _
              · rw [keysL_ren,AI,instL_keyless _ hrow] at hk
                cases hk
      · rw [← (hψI k (main k o ho)).1,← (hψI k' (main k' o' ho')).1]
        exact congrArg (psi q.φ key) e
    have h0:=hR2.relU (noNil_ok E1) hU1.here
    have hU2:RelU (rng A key (key+(post.m - pre.m))) E2 (AO ((wOf (psi q.φ key) (post.objs y)++kills q.φ pre.hp)++restrict nb h)) w':=h0.move agM hM
    have hwx:=hx1.trans (hR2.wext E1 (noNil_ok E1) w')
    have downL:∀ k0 o0 b,AO (Ad (pre.objs q.en)) k0=some o0→owns (viaN E (lkN q.φ)) k0 o0 b→∃ k1 o1,AO (restrict nb h) k1=some o1∧owns E k1 o1 b:=by
      intro k0 o0 b h1 h2
      obtain ⟨t,g,hm,hg,he,_⟩:=getOs_mem M.o hms (k0,o0) (BS h1)
      have he:o0=t.inst g.on:=he
      subst he
      have hm:(k0,t)∈pre.hp:=hm
      cases hn:isNil (lkN q.φ k0) with
      | true =>
        cases t with
        | box cs=>have:=boxNil hm rfl; rw [hn] at this; cases this
        | lst ln row ow=>exact h2.elim
        | ob t R g=>exact h2.elim
        | tok =>
          have h2:b∈(nilExt E).fp (lkN q.φ k0):=h2
          simp only [nilExt,hn] at h2
          cases h2
      | false =>
        obtain ⟨o',g',ho',hg'⟩:=there hm hn
        have hown:t.owned=true:=by
          cases t with
          | box cs=>rfl
          | lst ln row ow=>exact h2.elim
          | ob t R g=>exact h2.elim
          | tok=>rfl
        refine ⟨lkN q.φ k0,o',by rw [hlook,if_pos (nbOf hm hown hn)]; exact ho',?_⟩
        cases t <;> cases o' <;> simp only [TO.get] at hg' <;> try (cases hg'; done)
        · have h2:b∈(nilExt E).fp (lkN q.φ k0):=h2
          simp only [nilExt,hn] at h2
          exact h2
        · exact h2
        · have h2:b∈(nilExt E).fp (lkN q.φ k0):=h2
          simp only [nilExt,hn] at h2
          exact h2
        · exact h2
    have hx2:Ext A E (AO (restrict nb h)) w E2 (AO ((wOf (psi q.φ key) (post.objs y)++kills q.φ pre.hp)++restrict nb h)) w':=by
      refine ⟨hwx.os,hwx.tape,hwx.output,hwx.size,agA,fun b hb hn=>hwx.frame b hb fun k0 o0 h1 h2=>?_,fun k o b ho hb=>?_,fun k hA ht=>?_,fun k len sz rows a ho hc ha=>?_⟩
      · obtain ⟨k1,o1,h3,h4⟩:=downL k0 o0 b h1 h2
        exact hn k1 o1 h3 h4
      · have hMk : M' k := by
          obtain ⟨j,t,x,rfl,hj,hm,_⟩:=hget' k o ho
          exact (hIψ j hj (okBox hm)).2
        rcases hwx.fresh k o b ho ((BP agM hMk o b).1 hb) with ⟨k0,o0,h1,h2⟩ | h1
        · exact .inl (downL k0 o0 b h1 h2)
        · exact .inr h1
      · obtain ⟨j,t,x,h2,hj,hm,_,h5⟩:=hget' k _ ht
        cases t with
        | tok =>
          have:=po hm
          simp only [postO] at this
          have:=Nat.le_of_ble_eq_true this
          rw [psi_ge (by rw [hlen]; exact this),hlen] at h2
          exact absurd ⟨by omega,by omega⟩ (hold k hA)
        | box cs=>cases h5
        | ob t R g=>cases h5
        | lst ln row own=>cases h5
      · obtain ⟨j,t,x,h2,hj,hm,_,h5⟩:=hget' k _ ho
        cases t with
        | lst ln row own =>
          cases own with
          | none=>have:=po hm; simp [postO] at this
          | some g=>cases h5
        | tok=>cases h5
        | ob t R g=>cases h5
        | box cs=>cases h5
    rw [lookOf_append] at hU2 hx2
    obtain ⟨g1,g2⟩:=hU.frame hsub (fun k o g hl hog htk=>by
      rw [hlook] at hl ⊢
      split at hl
      · rename_i hm
        obtain ⟨j,t,h1,hj,h2,hn,rfl⟩:=hnb hm
        obtain ⟨o',g',ho',hg'⟩:=there h1 hn
        rw [hl] at ho'
        cases ho'
        cases t <;> cases o <;> simp only [TO.get] at hg' <;> simp only [Ai.grp] at hog <;> try (first | (cases hg'; done) | (cases hog; done))
        rotate_left
        · rename_i t0 R0 jt t1 R1 d1' g1'
          cases hog
          split at hg'
          · rename_i e3 e4 e5
            have hjg:=Nat.eq_of_beq_eq_true e4
            have hpre:=List.all_eq_true.1 b2 _ h1
            simp only [preO] at hpre
            obtain ⟨t2,hm2,ht2⟩:=atT_ok hpre
            have hn2:isNil (lkN q.φ jt)=false:=by rw [hjg]; exact e5
            have hin:g∈nb:=by
              rw [← hjg]
              refine nbOf hm2 ?_ hn2
              cases t2 <;> first | rfl | cases ht2
            rw [if_pos hin]
            rw [← hjg] at htk ⊢
            rw [← hφ jt (hpB_mem d1 hm2).1 hn2]
            exact htk
          · cases hg'
        rename_i ln row own len' sz' rows' g0
        subst hog
        split at hg'
        · rename_i tk e1 e2 e3
          cases own with
          | none=>cases h2
          | some jt =>
            simp only [ownOk] at e3
            split at e3
            · rename_i e4 e5
              have hjg:=Nat.eq_of_beq_eq_true e4
              have hpre:=List.all_eq_true.1 b2 _ h1
              simp only [preO] at hpre
              obtain ⟨t2,hm2,ht2⟩:=atT_ok hpre
              have hn2:isNil (lkN q.φ jt)=false:=by rw [hjg]; exact e5
              have hin:g∈nb:=by
                rw [← hjg]
                refine nbOf hm2 ?_ hn2
                cases t2 <;> first | rfl | cases ht2
              rw [if_pos hin]
              rw [← hjg] at htk ⊢
              rw [← hφ jt (hpB_mem d1 hm2).1 hn2]
              exact htk
            · cases e3
        · cases hg'
      · cases hl) hU2 hx2 (fun _ h=>.inl h) (fun k o hm=>by
      refine ⟨fun hA=>?_,fun x' g ho hog=>?_⟩
      · rcases hWm hm with ⟨j,t,x,rfl,hmp,_⟩ | ⟨_,j,t,h1,h2,h3,rfl⟩
        · have hlt : j < pre.m := by
            cases Nat.lt_or_ge j pre.m with
            | inl h=>exact h
            | inr h =>
              rw [psi_ge (by rw [hlen]; exact h),hlen] at hA
              have:=(pm hmp).1
              exact absurd ⟨by omega,by omega⟩ (hold _ hA)
          obtain ⟨t',h1,h2⟩:=newOr hmp hlt
          have hn:=boxNil h1 h2
          rw [psi_lt (by rw [hlen]; exact hlt),hlook,if_pos (nbOf h1 (by cases t' <;> first | rfl | cases h2) hn)]
          obtain ⟨o',_,ho',_⟩:=there h1 hn
          rw [ho']; simp
        · rw [hlook,if_pos (nbOf h1 h2 h3)]
          obtain ⟨o',_,ho',_⟩:=there h1 h3
          rw [ho']; simp
      · rcases hWm hm with ⟨j,t,x,rfl,hmp,h2⟩ | ⟨h1,_⟩
        · rw [ho] at h2
          cases h2
          cases t <;> simp only [TO.inst,renO,Ai.grp] at hog <;> try (cases hog; done)
          · rename_i ln row own
            cases own with
            | none=>cases hog
            | some gg =>
              cases hog
              obtain ⟨_,_,h3⟩:=tokIn (x:=x) hmp rfl
              exact .inl (wkeysL (wk gg h3))
          · rename_i t0 R0 gg
            cases hog
            obtain ⟨_,h3⟩:=ownIn hmp
            exact .inl (wkeysL (wk gg h3))
        · rw [h1] at ho; cases ho)
    refine ⟨_,E2,rfl,fun E' hE=>?_,g1,g2⟩
    have hk1:=instA_keys (m:=post.m) y.a c1
    have hk2:=instA_ok (m:=pre.m) (φ:=q.φ) y.a b7
    rw [den_ren]
    refine (den_cl (M:=fun j=>j∈keysOf (resV (post.vals y))) (fun j hj=>?_) _ (fun _ h=>h)).symm
    have hj2:=keysOf_resV_mem hj
    obtain ⟨i1,i2⟩:=hIψ j (Az hk1 j hj2) (hk2 j hj2)
    obtain ⟨a1,a2,a3⟩:=hE (psi q.φ key j) (hM _ i2)
    obtain ⟨b1,b2,b3⟩:=agM _ i2
    refine ⟨a1.trans (b1.trans ?_),a2.trans (b2.trans ?_),a3.trans (b3.trans ?_)⟩
    · show E1.blk (I (psi q.φ key j))=_; rw [i1]
    · show E1.hdr (I (psi q.φ key j))=_; rw [i1]
    · show E1.fp (I (psi q.φ key j))=_; rw [i1]
  · rcases hWm hm with ⟨j,t,x,rfl,hmp,h2⟩ | ⟨h1,j,t,h2,h3,h4,rfl⟩
    · refine ⟨?_,fun x' g ho hog=>?_⟩
      · cases Nat.lt_or_ge j pre.m with
        | inl hlt =>
          obtain ⟨t',h1,h2⟩:=newOr hmp hlt
          have hn:=boxNil h1 h2
          obtain ⟨o',_,ho',_⟩:=there h1 hn
          left
          rw [psi_lt (by rw [hlen]; exact hlt)]
          show hget _ h≠none
          rw [ho']; simp
        | inr hge =>
          rw [psi_ge (by rw [hlen]; exact hge),hlen]
          have:=(pm hmp).1
          exact .inr ⟨by omega,by omega⟩
      · rw [ho] at h2
        cases h2
        cases t <;> simp only [TO.inst,renO,Ai.grp] at hog <;> try (cases hog; done)
        · rename_i ln row own
          cases own with
          | none=>cases hog
          | some gg =>
            cases hog
            obtain ⟨_,_,h3⟩:=tokIn (x:=x) hmp rfl
            exact .inl (wkeysL (wk gg h3))
        · rename_i t0 R0 gg
          cases hog
          obtain ⟨_,h3⟩:=ownIn hmp
          exact .inl (wkeysL (wk gg h3))
    · refine ⟨.inl ?_,fun x' g ho hog=>?_⟩
      · show hget _ h≠none
        obtain ⟨o',_,ho',_⟩:=there h2 h4
        rw [ho']; simp
      · rw [h1] at ho; cases ho
theorem BN {f:FuncId} {pre:TS} {run:EN→Ah (TS×EN)} (H:∀ x r,(run x).sel=some r→BI P f pre x r.1 r.2):Ak P f (AW pre run):=by
  have main : ∀ args h key r, ((AW pre run).run args h key).sel = some r → ∃ q s, MatOk true 0 pre args h q ∧ (∀ x ∈ q.ms, x = true) ∧ (run q.en).sel = some s ∧ postB pre q.φ s.1 = true ∧ distB q.φ = true ∧
      r=(ren (psi q.φ key) (resV (s.1.vals s.2)),(q.φ.filter fun k=>!isNil k)++q.toks,wOf (psi q.φ key) (s.1.objs s.2)++kills q.φ pre.hp,key+(s.1.m - pre.m)):=by
    intro args h key r e
    simp only [AW] at e
    split at e
    · rename_i q hq
      obtain ⟨hms,e⟩:=mustAll_sel e
      have e:((run q.en).bind fun r=>_).sel=_:=e
      rw [bind_sel] at e
      obtain ⟨s,hs,e⟩:=BC e
      split at e
      · rename_i hb
        cases e
        simp only [Bool.and_eq_true] at hb
        exact ⟨q,s,matS_ok hq,hms,hs,hb.1,hb.2,rfl⟩
      · cases e
    · cases e
  refine ⟨fun args h key v R W key' e=>?_,fun args h key r e=>?_⟩
  · obtain ⟨q,s,M,hms,hs,hb,hd,e⟩:=main _ _ _ _ e
    cases e
    exact (ctr_spec M hms hb hd (H _ _ hs) key).1
  · obtain ⟨q,s,M,hms,hs,hb,hd,rfl⟩:=main _ _ _ _ e
    exact ⟨Nat.le_add_right _ _,(ctr_spec M hms hb hd (H _ _ hs) key).2⟩
noncomputable def ctrSumm0 (pre:TS) (run:EN→Ah (TS×EN)):Summ:=⟨fun args h key=>match matS true 0 pre args h with
  | some q=>mustAll q.ms ((run q.en).bind fun r=>match postB pre q.φ r.1&&distB q.φ with
    | true=>.leaf (ren (psi q.φ key) (resV (r.1.vals r.2)),(q.φ.filter fun k=>!isNil k)++q.toks,wOf (psi q.φ key) (r.1.objs r.2)++kills q.φ pre.hp,key+(r.1.m - pre.m))
    | false=>.fail "what a summary leaves")
  | none=>.fail "a summary's arguments"⟩
theorem mustAll_eq {R:Type} : ∀ (l:List Bool) (t t':Ah R),t.sel=t'.sel→(mustAll l t).sel=(mustAll l t').sel
  | [],_,_,h=>h
  | b::l,t,t',h=>by
    cases b with
    | false=>rfl
    | true=>exact mustAll_eq l t t' h
theorem ctr0_sel (pre:TS) (run:EN→Ah (TS×EN)) (args:List AV) (h:Aq) (key:Nat):((ctrSumm0 pre run).run args h key).sel=((AW pre run).run args h key).sel:=by
  simp only [ctrSumm0,AW]
  cases matS true 0 pre args h with
  | none=>rfl
  | some q=>exact mustAll_eq _ _ _ rfl
theorem ctr0_ok {f:FuncId} {pre:TS} {run:EN→Ah (TS×EN)} (H:∀ x r,(run x).sel=some r→BI P f pre x r.1 r.2):Ak P f (ctrSumm0 pre run):=by
  obtain ⟨h1,h2⟩:=BN H
  exact ⟨fun args h key v R W key' e=>h1 args h key v R W key' (by rw [← ctr0_sel]; exact e),fun args h key r e=>h2 args h key r (by rw [← ctr0_sel]; exact e)⟩
end
end Go.Eng
set_option linter.unusedSimpArgs false
set_option linter.unusedVariables false
namespace Go.Eng
open Go.RowKit
section
variable {P:Program} {T:Tab}
theorem HT.cutX {nt b : Nat} {c : Code} {m : Nat} {κ : Tm} {h : Aq} {t1 : TS} {rt p : Option TS} {R1 R : Ex → EN → Prop} (k : Nat) (hx : HTL P nt b ((Eng.flat c).take k) m κ h (QX ⟨some t1, [], rt⟩ R1))
    (hy:∀ en,R1 .normal en→HTL P nt b ((Eng.flat c).drop k) t1.m (t1.tm en) (t1.heap en) (QX ⟨p,[],rt⟩ R)) (ho:∀ en,R1 .ret en→R .ret en):HT P nt b c m κ h (QX ⟨p,[],rt⟩ R):=by
  refine HT.cut k hx ?_ ?_
  · rintro m' κ' h' ⟨t,en,h1,h2,rfl,rfl,rfl⟩
    cases h1
    exact hy en h2
  · rintro ex m' κ' h' ⟨t,en,h1,h2,rfl,rfl,rfl⟩ hn
    cases ex with
    | normal=>exact absurd trivial hn
    | exit i=>cases h1
    | ret=>exact ⟨t,en,h1,ho en h2,rfl,rfl,rfl⟩
theorem HTL.appX {nt b : Nat} {l1 l2 : List Code} {m : Nat} {κ : Tm} {h : Aq} {t1 : TS} {rt p : Option TS} {R1 R : Ex → EN → Prop} (hx : HTL P nt b l1 m κ h (QX ⟨some t1, [], rt⟩ R1))
    (hy:∀ en,R1 .normal en→HTL P nt b l2 t1.m (t1.tm en) (t1.heap en) (QX ⟨p,[],rt⟩ R)) (ho:∀ en,R1 .ret en→R .ret en):HTL P nt b (l1++l2) m κ h (QX ⟨p,[],rt⟩ R):=by
  refine HTL.append hx ?_ ?_
  · rintro m' κ' h' ⟨t,en,h1,h2,rfl,rfl,rfl⟩
    cases h1
    exact hy en h2
  · rintro ex m' κ' h' ⟨t,en,h1,h2,rfl,rfl,rfl⟩ hn
    cases ex with
    | normal=>exact absurd trivial hn
    | exit i=>cases h1
    | ret=>exact ⟨t,en,h1,ho en h2,rfl,rfl,rfl⟩
theorem HTL.loopThen {nt b id : Nat} {x : Code} {l l2 : List Code} {m : Nat} {κ : Tm} {h : Aq} {t2 : TS} {rt p : Option TS} {RL R : Ex → EN → Prop} (e : l = [.block id (.loop x)] ++ l2) (hx : HT P nt b (.loop x) m κ h (QX ⟨none, [(id, t2)], rt⟩ RL))
    (hy:∀ en,RL (.exit id) en→HTL P nt b l2 t2.m (t2.tm en) (t2.heap en) (QX ⟨p,[],rt⟩ R)) (ho:∀ en,RL .ret en→R .ret en):HTL P nt b l m κ h (QX ⟨p,[],rt⟩ R):=by
  subst e
  exact HTL.appX (HTL.one (HT.block (hx.mono fun ex m' κ' h' q=>QX_block q))) hy ho
theorem Ar {R:Type} {c:Bool} {t:Ah R} {r:R} (h:(Ah.must c t).sel=some r):c=true∧t.sel=some r:=by
  cases c with
  | true=>exact ⟨rfl,h⟩
  | false=>cases h
theorem rowsB_of {row:List TV} {rows:Nat→List AV} {n:Nat} (h:∀ i,rowOk row (rows i)=true):AX row rows n=true:=rowsB_iff.2 fun i _=>h i
theorem rowsB_lt {row:List TV} {rows:Nat→List AV} {n:Nat} (h:∀ i,i<n→rowOk row (rows i)=true):AX row rows n=true:=rowsB_iff.2 h
theorem rowOk_inst {row:List TV} (h:row.all TV.keyless=true):∀ xs,rowOk row (instL row xs)=true:=by
  have main:∀ (row:List TV),row.all TV.keyless=true→∀ xs,(getL id row (instL row xs)).isSome=true:=by
    intro row
    induction row with
    | nil=>intro _ xs; rfl
    | cons t row ih =>
      intro h xs
      simp only [List.all_cons,Bool.and_eq_true] at h
      have h1:(t.get id (t.inst (hdN xs))).isSome=true:=by
        cases t <;> simp [TV.keyless] at h <;> simp [TV.inst,TV.get]
      have h2:=ih h.2 (tlN xs)
      simp only [instL,getL]
      cases e1:t.get id (t.inst (hdN xs)) with
      | none=>rw [e1] at h1; cases h1
      | some x =>
        cases e2:getL id row (instL row (tlN xs)) with
        | none=>rw [e2] at h2; cases h2
        | some xs=>rfl
  exact main row h
theorem AZ {row:List TV} (h:row.all TV.keyless=true) (r:Nat→List Num) (n:Nat):AX row (AI row r) n=true:=rowsB_of fun i=>rowOk_inst h _
theorem rowsB_cat {row:List TV} {la:SI} {ra rc:Nat→List AV} {n:Nat} (h1:∀ i,i<la.v.toNat→rowOk row (ra i)=true) (h2:∀ i,i<n - la.v.toNat→rowOk row (rc i)=true):AX row (AP la ra rc) n=true:=rowsB_iff.2 fun i hi=>by
  unfold AP
  cases hb:Nat.blt i la.v.toNat with
  | true=>exact h1 i (Nat.le_of_ble_eq_true hb)
  | false =>
    refine h2 _ ?_
    have:¬ i<la.v.toNat:=fun h=>by
      have h3:Nat.blt i la.v.toNat=true:=Nat.ble_eq_true_of_le h
      rw [h3] at hb; cases hb
    omega
theorem rowNums_cat {row:List TV} {la:SI} {ra rc:Nat→List AV} {i:Nat} : AH row (AP la ra rc) i=if i<la.v.toNat then AH row ra i else AH row rc (i - la.v.toNat):=by
  unfold AH AP
  by_cases h:i<la.v.toNat
  · rw [if_pos h,show Nat.blt i la.v.toNat=true from Nat.ble_eq_true_of_le h]
  · rw [if_neg h]
    have:Nat.blt i la.v.toNat=false:=by
      cases hb:Nat.blt i la.v.toNat
      · rfl
      · exact absurd (Nat.le_of_ble_eq_true hb) h
    rw [this]
end
end Go.Eng
set_option linter.unusedSimpArgs false
set_option linter.unusedVariables false
namespace Go.Eng
open Go.RowKit
section
variable {P:Program} {T:Tab}
theorem tget_zip:∀ {ts:List Nat} {vs:List AV} {t:Nat} {v:AV} {τ0:Tm},distB ts=true→(t,v)∈zipTm ts vs→tget t (zipTm ts vs++τ0)=v
  | [],vs,t,v,τ0,_,h=>by cases vs <;> simp [zipTm] at h
  | _::_,[],t,v,τ0,_,h=>by simp [zipTm] at h
  | a::ts,x::vs,t,v,τ0,hd,h=>by
    simp only [distB] at hd
    split at hd
    · cases hd
    · rename_i hm
      simp only [zipTm,List.cons_append,tget]
      simp only [zipTm] at h
      rcases List.mem_cons.1 h with e | h
      · cases e
        rw [show Nat.beq a a=true from by simp]
      · have hne : a ≠ t := fun e => by
          have mem:∀ {ts:List Nat} {vs:List AV},(t,v)∈zipTm ts vs→t∈ts:=by
            intro ts
            induction ts with
            | nil=>intro vs h; cases vs <;> simp [zipTm] at h
            | cons b ts ih =>
              intro vs h
              cases vs with
              | nil=>simp [zipTm] at h
              | cons y vs =>
                simp only [zipTm] at h
                rcases List.mem_cons.1 h with e | h
                · cases e; simp
                · exact List.mem_cons_of_mem _ (ih h)
          have:memK a ts=true:=memK_iff.2 (by rw [e]; exact mem h)
          rw [this] at hm
          cases hm
        rw [beq_ne hne]
        exact tget_zip hd h
theorem resA_zip {h:Aq} {ts:List Nat} {vs:List AV} (hd:distB ts=true) (hl:vs.length=ts.length) (τ0:Tm):resA P (zipTm ts vs++τ0) h (ts.map .tmp)=some vs:=by
  have main:∀ (rs:List Nat) (us:List AV),us.length=rs.length→(∀ p∈zipTm rs us,p∈zipTm ts vs)→resA P (zipTm ts vs++τ0) h (rs.map .tmp)=some us:=by
    intro rs
    induction rs with
    | nil=>intro us hu _; rw [List.eq_nil_of_length_eq_zero hu]; rfl
    | cons t rs ih =>
      intro us hu hm
      cases us with
      | nil=>cases hu
      | cons u us =>
        simp only [List.map_cons,resA]
        rw [ih us (by simpa using hu) (fun p hp=>hm p (by simp [zipTm,hp]))]
        dsimp only
        rw [tget_zip hd (hm (t,u) (by simp [zipTm]))]
  exact main ts vs hl (fun _ h=>h)
theorem stdX_htX {f : FuncId} {fn : Func} {c : Code} (hf : P.funcs[f]? = some fn) (hb : fn.body = some c) {t rt : TS} {x y : EN} (hle : Nat.ble t.vs.length fn.ntmps = true) (hargs : t.vs.all (TA.keyB t.m) = true)
    (hr:fn.results.toList=rt.tmps.map .tmp) (hd:distB rt.tmps=true) (hlen:rt.vs.length=rt.tmps.length)
    (H:HT P fn.ntmps t.m c t.m (argTm 0 (t.vals x)) (t.heap x) (QX ⟨none,[],some rt⟩ fun ex en=>ex = .ret→rt.eqv en y)):BI P f t x rt y:=by
  intro E w hU
  have e:(t.vals x).length=t.vs.length:=instA_length _ _
  refine (calls_of_ht hf hb (by rw [e]; exact hle) (R:=fun m2 h2 v2=>∃ en,m2=rt.m∧h2=rt.heap en∧rt.eqv en y∧v2=resV (rt.vals en)) (H.mono ?_) hU (fun E' hE=>congrArg List.toArray (denL_cl hE (t.vals x) (Az (instA_keys _ hargs))).symm)).mono ?_
  · rintro ex m2 κ' h2 ⟨t',en,h1,h2,rfl,rfl,rfl⟩
    cases ex with
    | normal=>cases h1
    | exit i=>cases h1
    | ret =>
      cases h1
      refine ⟨fun i=>by simp,rt.vals en,fun τ0=>?_,en,rfl,rfl,h2 rfl,rfl⟩
      rw [hr]
      exact resA_zip hd (by rw [← hlen]; exact instA_length _ _) τ0
  · rintro e w' ⟨m2,h2,v2,E',rfl,⟨en,rfl,rfl,h5,rfl⟩,hU',hx,hag⟩
    have hv:rt.vals en=rt.vals y:=eqvA_inst h5.1
    exact ⟨E',by rw [hv],hag,eqvH_relU h5.2 hU',hx.trans (eqvH_wext h5.2)⟩
theorem BI.pre {f:FuncId} {t t':TS} {x x' y:EN} (h:t.eqv x x') (H:BI P f t x' t' y):BI P f t x t' y:=by
  intro E w hU
  have e:t.vals x=t.vals x':=eqvA_inst h.1
  have:=H E w (eqvH_relU h.2 hU)
  rw [← e] at this
  refine this.mono ?_
  rintro e w' ⟨E1,h1,h2,h3,h4⟩
  exact ⟨E1,h1,h2,h3,(eqvH_wext h.2).trans h4⟩
end
def AR (l:List Int) (i:Nat):List Num:=[.i (l.getD i 0)]
def Ax (n:Nat) (r:Nat→List Num):List Int:=(List.range n).map fun i=>(hdN (r i)).I
@[simp] theorem As (n:Nat) (r:Nat→List Num):(Ax n r).length=n:=by simp [Ax]
theorem lstI_get {n:Nat} {r:Nat→List Num} {i:Nat} (h:i<n):(Ax n r).getD i 0=(hdN (r i)).I:=by
  simp [Ax,List.getD,h]
@[simp] theorem rowI_I (l:List Int) (i:Nat):(hdN (AR l i)).I=l.getD i 0:=rfl
theorem rowI_eqv {k:IntKind} {n:Nat} {r:Nat→List Num} {i:Nat} (h:i<n):eqvL [.i k] (r i) (AR (Ax n r) i):=⟨(lstI_get h).symm,trivial⟩
theorem lstI_rowI (l:List Int):Ax l.length (AR l)=l:=by
  refine List.ext_getElem (by simp) fun i h1 h2=>?_
  simp [Ax,List.getD,h2]
theorem rows_app {k:IntKind} {l:List Int} {v:Int} {i:Nat} (h:i<l.length+1):eqvL [.i k] (AH [.i k] (AP (.sym (l.length:Int)) (AI [.i k] (AR l)) (Aa 1 [.int k (.sym v)])) i) (AR (l++[v]) i):=by
  rw [rowNums_cat]
  refine ⟨?_,trivial⟩
  by_cases hi:i<l.length
  · rw [if_pos (by simpa using hi)]
    simp [AH,AI,instL,getL,TV.inst,TV.get,TV.eqv,AR,hdN,Num.I,SI.v,List.getD,hi,List.getElem?_append_left hi]
  · rw [if_neg (by simpa using hi)]
    have:i=l.length:=by omega
    subst this
    simp [AH,Aa,getL,TV.get,TV.eqv,AR,hdN,Num.I,SI.v,List.getD]
theorem AY (l:List Int) (v:Int):((l.length:Int)+1).toNat=(l++[v]).length:=by
  simp
theorem AQ {k:IntKind} {l:List Int} {v:Int} (i:Nat) (h:(i:Int)<((l++[v]).length:Int)):eqvL [.i k] (AH [.i k] (AP (.sym (l.length:Int)) (AI [.i k] (AR l)) (Aa 1 [.int k (.sym v)])) i) (AR (l++[v]) i):=rows_app (by
  rw [List.length_append] at h
  simp at h
  omega)
theorem BH {k:IntKind} {l:List Int} {v:Int} {n:Nat} (h:n=l.length+1):AX [.i k] (AP (.sym (l.length:Int)) (AI [.i k] (AR l)) (Aa 1 [.int k (.sym v)])) n=true:=by
  refine rowsB_cat (fun i _=>rowOk_inst rfl _) fun i hi=>?_
  have hi:i<n - l.length:=by simpa using hi
  have:i=0:=by omega
  subst this
  simp [rowOk,Aa,getL,TV.get]
theorem AN (k:IntKind) (r:Nat→List Num) (n:Nat):AX [.i k] (AI [.i k] r) n=true:=AZ rfl r n
theorem eqvL_getL:∀ {row:List TV},row.all TV.keyless=true→∀ xs,eqvL row ((getL id row (instL row xs)).getD []) xs
  | [],_,_=>trivial
  | t::row,h,xs=>by
    simp only [List.all_cons,Bool.and_eq_true] at h
    have h1:∃ x,t.get id (t.inst (hdN xs))=some x∧t.eqv x (hdN xs):=by
      cases t <;> simp [TV.keyless] at h <;> simp [TV.inst,TV.get,TV.eqv,Num.I,Num.B,Num.S,SI.v,SB.v,SS.v]
    obtain ⟨x,h1,h2⟩:=h1
    have h3:=eqvL_getL h.2 (tlN xs)
    have h4:=rowOk_inst h.2 (tlN xs)
    unfold rowOk at h4
    simp only [instL,getL,h1]
    cases e2:getL id row (instL row (tlN xs)) with
    | none=>rw [e2] at h4; cases h4
    | some ys =>
      rw [e2] at h3
      exact ⟨h2,h3⟩
theorem AF {row:List TV} (h:row.all TV.keyless=true) (r:Nat→List Num) (i:Nat):eqvL row (AH row (AI row r) i) (r i):=eqvL_getL h (r i)
def anyN (p:Nat→Bool):Nat→Bool
  | 0=>false
  | n+1=>anyN p n||p n
def fstN (p:Nat→Bool):Nat→Int
  | 0=>-1
  | n+1=>if 0≤fstN p n then fstN p n else if p n then n else -1
theorem anyN_iff {p:Nat→Bool} : ∀ {n:Nat},anyN p n=true↔∃ i,i<n∧p i=true
  | 0=>by simp [anyN]
  | n+1=>by
    simp only [anyN,Bool.or_eq_true,anyN_iff (n:=n)]
    constructor
    · rintro (⟨i,h1,h2⟩ | h)
      · exact ⟨i,by omega,h2⟩
      · exact ⟨n,by omega,h⟩
    · rintro ⟨i,h1,h2⟩
      by_cases e:i=n
      · subst e; exact .inr h2
      · exact .inl ⟨i,by omega,h2⟩
theorem fstN_none {p:Nat→Bool} : ∀ {n:Nat},anyN p n=false→fstN p n = -1
  | 0,_=>rfl
  | n+1,h=>by
    simp only [anyN,Bool.or_eq_false_iff] at h
    simp [fstN,fstN_none h.1,h.2]
theorem fstN_mono {p:Nat→Bool} {i:Nat} (h:0≤fstN p i):∀ {n:Nat},i≤n→fstN p n=fstN p i
  | 0, hn => by have : i = 0 := by omega
                subst this; rfl
  | n+1,hn=>by
    by_cases e:i=n+1
    · subst e; rfl
    · have:=fstN_mono h (n:=n) (by omega)
      simp only [fstN,this,if_pos h]
theorem fstN_hit {p:Nat→Bool} {i n:Nat} (h1:anyN p i=false) (h2:p i=true) (h3:i<n):fstN p n=i:=by
  have e:fstN p (i+1)=i:=by simp [fstN,fstN_none h1,h2]
  rw [fstN_mono (by rw [e]; omega) (show i+1≤n from h3),e]
theorem fstN_ge {p:Nat→Bool} : ∀ {n:Nat},decide (fstN p n≥0)=anyN p n
  | 0=>rfl
  | n+1=>by
    have ih:=fstN_ge (p:=p) (n:=n)
    simp only [fstN,anyN,← ih]
    by_cases h:0≤fstN p n
    · simp [h]
    · simp only [if_neg h]
      cases hp:p n <;> simp <;> omega
end Go.Eng
namespace Go.Eng
theorem clP {p:Prop} (h:p:=by (repeat' (first | exact trivial | exact rfl | exact TS.eqv_refl _ _ | exact AY _ _ | exact AQ | exact fun _ _=>AJ _ _ | exact fun i _=>AF rfl _ i | apply And.intro))):p:=h
end Go.Eng
set_option linter.unusedSimpArgs false
set_option linter.unusedVariables false
namespace Go.Eng
open Go.RowKit
section
variable {P:Program} {T:Tab}
def TV.sameB:TV→TV→Num→Bool
  | .i k,.il k' n,x=>decide (k=k')&&decide (x.I=n)
  | .b,.bl y,x=>x.B==y
  | _,_,_=>false
theorem TV.same_den {t t':TV} {x:Num} (h:t.sameB t' x=true) (E:Env):den E (t.inst x)=den E (t'.inst x):=by
  cases t <;> cases t' <;> simp [TV.sameB] at h
  · obtain ⟨rfl,h⟩:=h
    simp [TV.inst,den,h,SI.v]
  · simp [TV.inst,den,h,SB.v]
end
end Go.Eng
set_option linter.unusedSimpArgs false
set_option linter.unusedVariables false
namespace Go.Eng
open Go.RowKit Go.ChangeShapes Go.WideShapes Go.Deep
inductive QK where
  | b
  | i (k:IntKind)
  | s
  | sl (t e:TypeId)
structure QC where
  x:Num
  h:Option Addr×Nat×Nat
def QK.val:QK→QC→Value
  | .b,c=>.bool c.x.B
  | .i k,c=>.int k c.x.I
  | .s,c=>.string c.x.S
  | .sl _ _,c=>.slice c.h.1 c.h.2.1 c.h.2.2
def hdQ:List QC→QC
  | []=>⟨.u,(none,0,0)⟩
  | x::_=>x
def tlQ:List QC→List QC
  | []=>[]
  | _::l=>l
def nQ (q:List QC):List Num:=q.map (·.x)
@[simp] theorem hdN_nQ (q:List QC):hdN (nQ q)=(hdQ q).x:=by cases q <;> rfl
@[simp] theorem tlN_nQ (q:List QC):tlN (nQ q)=nQ (tlQ q):=by cases q <;> rfl
def QK.flat:QK→Bool
  | .sl _ _=>false
  | _=>true
section
variable {P:Program} {H:Type} {enc:TypeId×Value→H} {w:World} {base:Nat} {spare:Nat→Bool} {held:Bool}
variable (P enc w base spare held) in
def QK.ok:QK→QC→Prop
  | .b,_=>True
  | .i k,c=>(Lit.int k c.x.I).wf=true
  | .s,c=>c.x.S.size≤maxLen
  | .sl t e,c=>P.underlying t=some (.slice e)∧∃ fuel x,DataW.trod enc P w base spare held fuel t [.slice c.h.1 c.h.2.1 c.h.2.2]=some x
end
end Go.Eng
set_option linter.unusedSimpArgs false
set_option linter.unusedVariables false
namespace Go.Eng
open Go.RowKit
section
variable {P:Program} {T:Tab}
end
end Go.Eng
set_option linter.unusedSimpArgs false
set_option linter.unusedVariables false
namespace Go.Eng
open Go.RowKit
structure RoF where
  hd:Option Addr×Nat×Nat
  sz:Nat
  vals:Nat→List Value
section
variable {P:Program} {T:Tab}
theorem look_cons (k j:Nat) (o:Option Ai) (h:Aq):AO ((k,o)::h) j=if k=j then o else AO h j:=by
  simp only [AO,hget]
  by_cases e:k=j
  · subst e; simp
  · rw [beq_ne e]; simp [e]
variable {F:RoF→Prop} {C:Env→Prop}
end
end Go.Eng
set_option linter.unusedSimpArgs false
set_option linter.unusedVariables false
namespace Go.Eng
open Go.RowKit
section
variable {P:Program} {T:Tab}
theorem StdN.args {f:FuncId} {m m':Nat} {l l':List (Nat×Ai)} {args args':List AV} {v:AV} (h:∀ E,BM E args=BM E args') (H:StdN P f m l args' m' l' v):StdN P f m l args m' l' v:=by
  intro E w hU
  rw [h E]
  exact H E w hU
def litsL:List TV→List TV→List Num→Prop
  | [],[],_=>True
  | t::ts,t'::ts',xs=>(t'=t∨TV.sameB t t' (hdN xs)=true)∧litsL ts ts' (tlN xs)
  | _,_,_=>False
theorem litsL_den:∀ {ts ts':List TV} {xs:List Num},litsL ts ts' xs→∀ E,BM E (instL ts xs)=BM E (instL ts' xs)
  | [],[],_,_,_=>rfl
  | [],_::_,_,h,_=>h.elim
  | _::_,[],_,h,_=>h.elim
  | t::ts,t'::ts',xs,h,E=>by
    simp only [instL,BM]
    rw [litsL_den h.2 E]
    congr 1
    rcases h.1 with e | e
    · rw [e]
    · exact TV.same_den e E
def orSumm (a b:Summ):Summ:=⟨fun args h key=>match a.run args h key with
  | .fail _=>b.run args h key
  | t=>t⟩
theorem orSumm_ok {f:FuncId} {a b:Summ} (ha:Ak P f a) (hb:Ak P f b):Ak P f (orSumm a b):=by
  refine ⟨fun args hp key v R W key' e=>?_,fun args hp key r e=>?_⟩
  · simp only [orSumm] at e
    split at e
    · exact hb.1 args hp key v R W key' e
    · exact ha.1 args hp key v R W key' e
  · simp only [orSumm] at e
    split at e
    · exact hb.2 args hp key r e
    · exact ha.2 args hp key r e
end
end Go.Eng
set_option linter.unusedSimpArgs false
set_option linter.unusedVariables false
namespace Go.Eng
open Go.RowKit
section
variable {P:Program} {T:Tab}
end
end Go.Eng
set_option linter.unusedSimpArgs false
set_option linter.unusedVariables false
namespace Go.Eng
open Go.RowKit
section
variable {P:Program}
def Pack (m r:Nat) (h:Aq) (blk:Nat) (fp:List Nat) (w:World):Prop :=
  ∃ E,RelU (· < m) E (AO h) w∧E.blk r=blk∧(∀ k o b,AO h k=some o→owns E k o b→b∈fp)∧∀ k len sz rows,AO h k≠some (.lst len sz rows none)
theorem Pack.keep {m r:Nat} {h:Aq} {blk:Nat} {fp:List Nat} {w w':World} (hp:Pack m r h blk fp w) (hsz:w.heap.size≤w'.heap.size) (hb:∀ b∈fp,w'.heap[b]? = w.heap[b]?):Pack m r h blk fp w':=by
  obtain ⟨E,hU,h1,h2,h3⟩:=hp
  refine ⟨E,⟨hU.dom,hU.grp,fun E' hE=>⟨fun k o ho=>?_,(hU.rel E' hE).apart,(hU.rel E' hE).ro⟩⟩,h1,h2,h3⟩
  refine objRel_keep ((hU.rel E' hE).obj k o ho) hsz (fun b hbo=>hb b (h2 k o b ho ((BP hE (hU.dom k o ho) o b).1 hbo))) (fun len sz rows a e=>?_) (fun g _ ht=>⟨ht,fun b hbg=>hb b (h2 g _ b ht ?_)⟩)
  · subst e; exact absurd ho (h3 k len sz rows)
  · have:=(hE g (hU.dom g _ ht)).2.2
    show b∈E.fp g
    rw [← this]; exact hbg
def ownsB:Ai→Bool
  | .lst _ _ _ _=>false
  | .als _ _ _ _ _=>false
  | .own _ _ _ _=>false
  | _=>true
theorem owns_iff {E:Env} {k:Nat} {o:Ai} {b:Nat} : owns E k o b↔ownsB o=true∧b∈E.fp k:=by
  cases o <;> simp [owns,ownsB]
def fpsOf (E:Env) (l:List (Nat×Ai)):List Nat:=(l.filter fun p=>ownsB p.2).flatMap fun p=>E.fp p.1
theorem mem_fps {E:Env} {l:List (Nat×Ai)} {b:Nat} : b∈fpsOf E l↔∃ p∈l,owns E p.1 p.2 b:=by
  simp only [fpsOf,List.mem_flatMap,List.mem_filter,owns_iff]
  exact ⟨fun ⟨p,⟨h1,h2⟩,h3⟩=>⟨p,h1,h2,h3⟩,fun ⟨p,h1,h2,h3⟩=>⟨p,⟨h1,h2⟩,h3⟩⟩
theorem look_app {l l':List (Nat×Ai)} (k:Nat):AO (Ad (l++l')) k=match AO (Ad l) k with | some o=>some o | none=>AO (Ad l') k:=by
  induction l with
  | nil=>rfl
  | cons p l ih =>
    show AO ((p.1,some p.2)::Ad (l++l')) k=match AO ((p.1,some p.2)::Ad l) k with | some o=>some o | none=>AO (Ad l') k
    rw [look_cons,look_cons]
    by_cases h:p.1=k
    · simp [h]
    · simp only [h,if_false]; exact ih
theorem look_mem {l:List (Nat×Ai)} {k:Nat} {o:Ai} (h:AO (Ad l) k=some o):(k,o)∈l:=BS h
theorem StdN.conceal {f : FuncId} {m m' : Nat} {h hp rest : List (Nat × Ai)} {args : List AV} {v : AV} {t r : Nat} {R : Dat → Nat → List Nat → World → Prop} {d : Dat}
    (H:StdN P f m h args m' (hp++rest) v) (hmm:m≤m') (hdist:distB ((hp++rest).map (·.1))=true) (hrm:r<m') (hr:r ∉ rest.map (·.1)) (hv:(keysOf v).all (Nat.blt · m')=true)
    (hgr:∀ p∈rest,∀ g,p.2.grp=some g→g∈rest.map (·.1)) (hno:∀ p∈hp,∀ len sz rows,p.2 ≠ .lst len sz rows none)
    (hR:∀ blk fp w,Pack m' r (Ad hp) blk fp w→R d blk fp w):StdN P f m h args (m'+1) ((r,.own t R d m')::(m',.tok)::rest) v:=by
  intro E w hU
  refine (H E w hU).mono ?_
  rintro e w' ⟨E1,rfl,hag,hU1,hx⟩
  have hd:=hdist
  have disj:∀ k o,AO (Ad rest) k=some o→AO (Ad hp) k=none:=by
    intro k o ho
    cases hl:AO (Ad hp) k with
    | none=>rfl
    | some o' =>
      exfalso
      have h1:=look_mem ho
      have h2:=look_mem hl
      have h3:(k,o')=(k,o)∧False:=by
        have hk:∀ (l1 l2:List (Nat×Ai)),distB ((l1++l2).map (·.1))=true→(k,o')∈l1→(k,o)∈l2→False:=by
          intro l1
          induction l1 with
          | nil=>intro l2 _ h; cases h
          | cons p l1 ih =>
            intro l2 hdd hm1 hm2
            simp only [List.cons_append,List.map_cons,distB] at hdd
            split at hdd
            · cases hdd
            · rename_i hnm
              rcases List.mem_cons.1 hm1 with rfl | hm1
              · have:memK k ((l1++l2).map (·.1))=true:=memK_iff.2 (List.mem_map.2 ⟨(k,o),List.mem_append_right _ hm2,rfl⟩)
                rw [this] at hnm
                cases hnm
              · exact ih l2 hdd hm1 hm2
        exact (hk hp rest hd h2 h1).elim
      exact h3.2
  let fps:=fpsOf E1 hp
  let E2:Env:=E1.put m' 0 (none,0,0) fps
  have ag:Ae (· < m') E1 E2:=Env.put_agree (A:=(· < m')) E1 (Nat.lt_irrefl m') _ _ _
  have lkN:∀ k,AO (Ad ((r,.own t R d m')::(m',.tok)::rest)) k=if r=k then some (.own t R d m') else if m'=k then some .tok else AO (Ad rest) k:=by
    intro k
    show AO ((r,some (.own t R d m'))::(m',some .tok)::Ad rest) k=_
    rw [look_cons,look_cons]
  have inHp:∀ k o,AO (Ad hp) k=some o→AO (Ad (hp++rest)) k=some o:=fun k o ho=>by rw [look_app,ho]
  have inRest:∀ k o,AO (Ad rest) k=some o→AO (Ad (hp++rest)) k=some o:=fun k o ho=>by rw [look_app,disj k o ho]; exact ho
  have hrm':¬ r=m':=fun e=>by omega
  have restLt:∀ k o,AO (Ad rest) k=some o→k<m':=fun k o ho=>hU1.dom k o (inRest k o ho)
  have tokIn:∀ k,k≠m'→AO (Ad ((r,.own t R d m')::(m',.tok)::rest)) k=some .tok→AO (Ad (hp++rest)) k=some .tok:=by
    intro k hk ht
    rw [lkN] at ht
    split at ht
    · cases ht
    · split at ht
      · rename_i e; exact absurd e.symm hk
      · exact inRest k _ ht
  have hpk:∀ k o b,AO (Ad hp) k=some o→owns E1 k o b→b∈fps:=fun k o b ho hb=>mem_fps.2 ⟨(k,o),look_mem ho,hb⟩
  have ltfp:∀ b∈fps,b<w'.heap.size∧∃ k o,AO (Ad hp) k=some o∧owns E1 k o b:=by
    intro b hb
    obtain ⟨p,h1,h2⟩:=mem_fps.1 hb
    have h3:AO (Ad hp) p.1=some p.2:=by
      refine hget_mk_mem ?_ h1
      have:∀ (l1 l2:List (Nat×Ai)),distB ((l1++l2).map (·.1))=true→distB (l1.map (·.1))=true:=by
        intro l1
        induction l1 with
        | nil=>intro _ _; rfl
        | cons p l1 ih =>
          intro l2 hdd
          simp only [List.cons_append,List.map_cons,distB] at hdd ⊢
          split at hdd
          · cases hdd
          · rename_i hnm
            have:memK p.1 (l1.map (·.1))=false:=by
              cases hm:memK p.1 (l1.map (·.1)) with
              | false=>rfl
              | true =>
                obtain ⟨q,q1,q2⟩:=List.mem_map.1 (memK_iff.1 hm)
                have:memK p.1 ((l1++l2).map (·.1))=true:=memK_iff.2 (List.mem_map.2 ⟨q,List.mem_append_left _ q1,q2⟩)
                rw [this] at hnm
                cases hnm
            rw [this]
            exact ih l2 hdd
      exact this hp rest hd
    exact ⟨(hU1.here.obj _ _ (inHp _ _ h3)).lt h2,p.1,p.2,h3,h2⟩
  refine ⟨E2,?_,?_,⟨fun k o ho=>?_,fun k o g ho hog=>?_,fun E' hE=>⟨fun k o ho=>?_,fun k o k' o' b ho ho' hne hb hb'=>?_,fun k len sz rows a k' o' ho hc ha ho' hb=>?_⟩⟩,?_⟩
  · congr 1
    exact (den_cl ag v (Az hv)).symm
  · exact hag.trans ag fun k hk=>Nat.lt_of_lt_of_le hk hmm
  · rw [lkN] at ho
    split at ho
    · rename_i e; subst e; omega
    · split at ho
      · rename_i e; subst e; omega
      · have:=restLt k o ho; omega
  · rw [lkN] at ho
    split at ho
    · cases ho; cases hog; omega
    · split at ho
      · cases ho; cases hog
      · have:=hU1.grp k o g (inRest k o ho) hog; omega
  · have hE1:Ae (· < m') E1 E':=ag.trans hE fun k hk=>by omega
    have hr1:=hU1.rel E' hE1
    rw [lkN] at ho
    split at ho
    · rename_i e
      subst e
      cases ho
      intro _ w2 hsz hw
      have e1:E'.blk r=E1.blk r:=(hE1 r hrm).1
      have e2:E'.fp m'=fps:=by
        rw [(hE m' (Nat.lt_succ_self _)).2.2]
        simp [E2,Env.put]
      rw [e1,e2]
      rw [e2] at hw
      refine hR _ _ _ (Pack.keep (w:=w') ⟨E1,hU1.sub inHp,rfl,hpk,fun k len sz rows hl=>hno _ (look_mem hl) len sz rows rfl⟩ hsz hw)
    · split at ho
      · rename_i e
        subst e
        cases ho
        intro b hb
        have e2:E'.fp m'=fps:=by
          rw [(hE m' (Nat.lt_succ_self _)).2.2]
          simp [E2,Env.put]
        rw [e2] at hb
        exact (ltfp b hb).1
      · refine objRel_keep (hr1.obj k o (inRest k o ho)) (Nat.le_refl _) (fun _ _=>rfl) (fun _ _ _ _ _ _ _=>rfl) (fun g hg ht=>⟨tokIn g ?_ ht,fun _ _=>rfl⟩)
        have:=hU1.grp k o g (inRest k o ho) hg
        exact fun e=>by subst e; omega
  · have hE1:Ae (· < m') E1 E':=ag.trans hE fun k hk=>by omega
    have hr1:=hU1.rel E' hE1
    have e2:E'.fp m'=fps:=by
      rw [(hE m' (Nat.lt_succ_self _)).2.2]
      simp [E2,Env.put]
    have oldOwn:∀ j x c,AO (Ad hp) j=some x→owns E1 j x c→owns E' j x c:=fun j x c hj hc=>(BP hE1 (hU1.dom j x (inHp j x hj)) x c).2 hc
    have one:∀ (c j:Nat) (x:Ai),c∈E'.fp m'→AO (Ad rest) j=some x→owns E' j x c→False:=by
      intro c j x hcm hj hcx
      rw [e2] at hcm
      obtain ⟨_,k0,o0,h3,h4⟩:=ltfp c hcm
      refine hr1.apart k0 o0 j x c (inHp _ _ h3) (inRest _ _ hj) (fun e=>?_) (oldOwn _ _ _ h3 h4) hcx
      subst e
      rw [disj _ _ hj] at h3
      cases h3
    rw [lkN] at ho ho'
    split at ho
    · cases ho; exact hb
    · split at ho
      · rename_i e
        cases ho
        subst e
        split at ho'
        · cases ho'; exact hb'
        · have ho2:AO (Ad rest) k'=some o':=by first | exact ho' | (rw [if_neg hne] at ho'; exact ho')
          exact one b k' o' hb ho2 hb'
      · split at ho'
        · cases ho'; exact hb'
        · split at ho'
          · rename_i e
            cases ho'
            subst e
            exact one b k o hb' ho hb
          · exact hr1.apart k o k' o' b (inRest _ _ ho) (inRest _ _ ho') hne hb hb'
  · have hE1:Ae (· < m') E1 E':=ag.trans hE fun k hk=>by omega
    have hr1:=hU1.rel E' hE1
    rw [lkN] at ho ho'
    split at ho
    · cases ho
    · split at ho
      · cases ho
      · split at ho'
        · cases ho'; exact hb
        · split at ho'
          · rename_i e
            cases ho'
            subst e
            have e2:E'.fp m'=fps:=by
              rw [(hE m' (Nat.lt_succ_self _)).2.2]
              simp [E2,Env.put]
            have hb:a.block∈E'.fp m':=hb
            rw [e2] at hb
            obtain ⟨_,k0,o0,h3,h4⟩:=ltfp _ hb
            exact hr1.ro k len sz rows a k0 o0 (inRest _ _ ho) hc ha (inHp _ _ h3) ((BP hE1 (hU1.dom _ _ (inHp _ _ h3)) _ _).2 h4)
          · exact hr1.ro k len sz rows a k' o' (inRest _ _ ho) hc ha (inRest _ _ ho') hb
  · refine hx.trans ⟨rfl,rfl,rfl,Nat.le_refl _,fun _ _ _=>rfl,fun k o b ho hb=>?_,fun k len sz rows a ho hc ha=>?_⟩
    · rw [lkN] at ho
      split at ho
      · cases ho; exact hb.elim
      · split at ho
        · rename_i e
          cases ho
          subst e
          have hb:b∈E2.fp m':=hb
          have e2:E2.fp m'=fps:=by simp [E2,Env.put]
          rw [e2] at hb
          obtain ⟨_,k0,o0,h3,h4⟩:=ltfp b hb
          exact .inl ⟨k0,o0,inHp _ _ h3,h4⟩
        · exact .inl ⟨k,o,inRest _ _ ho,(BP ag (restLt k o ho) o b).1 hb⟩
    · rw [lkN] at ho
      split at ho
      · cases ho
      · split at ho
        · cases ho
        · have:=(ag k (restLt k _ ho)).2.1
          exact .inl ⟨k,len,sz,rows,a,inRest _ _ ho,by rw [← this]; exact hc,by rw [← this]; exact ha,rfl⟩
def farO (q:Nat):Nat×Ai→Prop
  | (k,.own _ _ _ g)=>(k=0∨q≤k)∧q≤g
  | (k,.tok)=>q≤k
  | (k,.lst _ _ rows (some g))=>q≤k∧q≤g∧PlainRows rows
  | _=>False
theorem StdN.reveal {f : FuncId} {q n m' : Nat} {L Ls h' : List (Nat × Ai)} {args argsi : List AV} {v : AV} {t : Nat} {R : Dat → Nat → List Nat → World → Prop} {d : Dat} {J : Type} (hp : J → List (Nat × Ai))
    (hq:2≤q) (hR:∀ blk fp w,R d blk fp w→∃ j,Pack q 0 (Ad (hp j)) blk fp w)
    (hL:∀ i o,AO (Ad Ls) i=some o→q≤i∧i<q+n∧AO (Ad L) (i - q+2)=some o∧∃ len sz rows,o = .lst len sz rows none∧PlainRows rows)
    (hargs:∀ E E',E'.blk 0=E.blk 0→(∀ i,i<n→E'.hdr (q+i)=E.hdr (2+i))→BM E' argsi=BM E args)
    (hfar:∀ p∈h',farO (q+n) p) (hm':q+n≤m') (hv:∀ E E',E'.blk 0=E.blk 0→(∀ k,q+n≤k→k<m'→E'.blk k=E.blk k∧E'.hdr k=E.hdr k)→den E' v=den E v)
    (H:∀ j,StdN P f (q+n) (hp j++Ls) argsi m' h' v):StdN P f (2+n) ((0,.own t R d 1)::(1,.tok)::L) args m' h' v:=by
  intro E w hU
  have lk0:∀ k,AO (Ad ((0,.own t R d 1)::(1,.tok)::L)) k=if 0=k then some (.own t R d 1) else if 1=k then some .tok else AO (Ad L) k:=by
    intro k
    show AO ((0,some (.own t R d 1))::(1,some .tok)::Ad L) k=_
    rw [look_cons,look_cons]
  have l1:AO (Ad ((0,.own t R d 1)::(1,.tok)::L)) 1=some .tok:=by rw [lk0]; rfl
  have hown:=hU.here.obj 0 (.own t R d 1) (by rw [lk0]; rfl)
  obtain ⟨j,Ei,hUi,hb0,hfp,hno⟩:=hR _ _ _ (hown l1 w (Nat.le_refl _) fun _ _=>rfl)
  let Es:Env:=⟨fun k=>if k<q then Ei.blk k else E.blk (k - q+2),fun k=>if k<q then Ei.hdr k else E.hdr (k - q+2),fun k=>if k<q then Ei.fp k else E.fp (k - q+2)⟩
  have agI:Ae (· < q) Ei Es:=fun k hk=>⟨if_pos hk,if_pos hk,if_pos hk⟩
  have cases':∀ k o,AO (Ad (hp j++Ls)) k=some o→(k<q∧AO (Ad (hp j)) k=some o)∨(q≤k∧k<q+n∧AO (Ad (hp j)) k=none∧AO (Ad L) (k - q+2)=some o∧∃ len sz rows,o = .lst len sz rows none∧PlainRows rows):=by
    intro k o ho
    rw [look_app] at ho
    cases hl:AO (Ad (hp j)) k with
    | some x =>
      rw [hl] at ho
      cases ho
      exact .inl ⟨hUi.dom k _ hl,rfl⟩
    | none =>
      rw [hl] at ho
      obtain ⟨a1,a2,a3,a4⟩:=hL k o ho
      exact .inr ⟨a1,a2,rfl,a3,a4⟩
  have lkL:∀ k o,2≤k→AO (Ad L) k=some o→AO (Ad ((0,.own t R d 1)::(1,.tok)::L)) k=some o:=fun k o hk ho=>by
    rw [lk0,if_neg (by omega),if_neg (by omega)]; exact ho
  have hUs:RelU (· < q+n) Es (AO (Ad (hp j++Ls))) w:=by
    refine ⟨fun k o ho=>?_,fun k o g ho hog=>?_,fun E' hE=>⟨fun k o ho=>?_,fun k o k' o' b ho ho' hne hb hb'=>?_,fun k len sz rows a k' o' ho hc ha ho' hb=>?_⟩⟩
    · rcases cases' k o ho with ⟨h1,_⟩ | ⟨_,h1,_⟩ <;> omega
    · rcases cases' k o ho with ⟨_,h1⟩ | ⟨_,_,_,_,len,sz,rows,e,_⟩
      · have:=hUi.grp k o g h1 hog; omega
      · subst e; cases hog
    · have hEi:Ae (· < q) Ei E':=agI.trans hE fun k hk=>by omega
      rcases cases' k o ho with ⟨h1,h2⟩ | ⟨h1,h2,_,h3,len,sz,rows,rfl,hpl⟩
      · refine objRel_keep ((hUi.rel E' hEi).obj k o h2) (Nat.le_refl _) (fun _ _=>rfl) (fun _ _ _ _ _ _ _=>rfl) (fun g hg ht=>⟨?_,fun _ _=>rfl⟩)
        rcases cases' g _ ht with ⟨_,g1⟩ | ⟨_,_,_,_,_,_,_,e,_⟩
        · exact g1
        · cases e
      · obtain ⟨b1,b2,b3⟩:=hU.here.obj _ _ (lkL _ _ (by omega) h3)
        have e2:E'.hdr k=E.hdr (k - q+2):=by
          rw [(hE k h2).2.1]
          exact if_neg (by omega)
        refine ⟨by rw [e2]; exact b1,by rw [e2]; exact b2,fun hc=>?_⟩
        rw [e2] at hc ⊢
        obtain ⟨B,off,c1,c2,c3⟩:=b3 hc
        refine ⟨B,off,c1,c2,fun i hi=>?_⟩
        obtain ⟨r1,r2,r3⟩:=c3 i hi
        refine ⟨r1,r2,fun jj hj=>?_⟩
        rw [r3 jj hj,← denL_get,← denL_get]
        congr 1
        exact den_keyless (hpl i).2 _ _
    · have hEi:Ae (· < q) Ei E':=agI.trans hE fun k hk=>by omega
      rcases cases' k o ho with ⟨h1,h2⟩ | ⟨_,_,_,_,_,_,_,rfl,_⟩
      · rcases cases' k' o' ho' with ⟨g1,g2⟩ | ⟨_,_,_,_,_,_,_,rfl,_⟩
        · exact (hUi.rel E' hEi).apart k o k' o' b h2 g2 hne hb hb'
        · exact hb'
      · exact hb
    · have hEi:Ae (· < q) Ei E':=agI.trans hE fun k hk=>by omega
      rcases cases' k _ ho with ⟨h1,h2⟩ | ⟨h1,h2,_,h3,_⟩
      · exact hno _ _ _ _ h2
      · rcases cases' k' o' ho' with ⟨g1,g2⟩ | ⟨_,_,_,_,_,_,_,rfl,_⟩
        · have e2 : E'.hdr k = E.hdr (k - q + 2) := by
            rw [(hE k h2).2.1]
            exact if_neg (by omega)
          rw [e2] at hc ha
          refine hU.here.ro (k - q+2) len sz rows a 1 .tok (lkL _ _ (by omega) h3) hc ha l1 ?_
          exact hfp k' o' _ g2 ((BP hEi g1 o' _).1 hb)
        · exact hb
  have hargs':BM Es argsi=BM E args:=by
    refine hargs E Es ?_ fun i hi=>?_
    · show (if 0<q then Ei.blk 0 else _)=_
      rw [if_pos (by omega),hb0]
    · show (if q+i<q then _ else E.hdr (q+i - q+2))=_
      rw [if_neg (by omega)]
      congr 1
      omega
  rw [← hargs']
  refine (H j Es w hUs).mono ?_
  rintro e w' ⟨E1,rfl,hag,hU1,hx⟩
  have hblk0:E1.blk 0=E.blk 0:=by
    rw [(hag 0 (by omega)).1]
    show (if 0<q then Ei.blk 0 else _)=_
    rw [if_pos (by omega),hb0]
  let E2:Env:=⟨fun k=>if k<2+n then E.blk k else E1.blk k,fun k=>if k<2+n then E.hdr k else E1.hdr k,fun k=>if k<2+n then E.fp k else E1.fp k⟩
  have e0:E2.blk 0=E1.blk 0:=by
    show (if 0<2+n then E.blk 0 else _)=_
    rw [if_pos (by omega),hblk0]
  have eF:∀ k,q+n≤k→E2.blk k=E1.blk k∧E2.hdr k=E1.hdr k∧E2.fp k=E1.fp k:=fun k hk=>⟨if_neg (by omega),if_neg (by omega),if_neg (by omega)⟩
  have farOf:∀ k o,AO (Ad h') k=some o→farO (q+n) (k,o):=fun k o ho=>hfar _ (look_mem ho)
  have ownEq:∀ {E':Env},Ae (· < m') E2 E'→∀ k o b,AO (Ad h') k=some o→owns E' k o b→owns E1 k o b:=by
    intro E' hE k o b ho hb
    have hf:=farOf k o ho
    have hk:=hU1.dom k o ho
    cases o with
    | tok =>
      have hf:q+n≤k:=hf
      have hb:b∈E'.fp k:=hb
      rw [(hE k hk).2.2,(eF k hf).2.2] at hb
      exact hb
    | own=>exact hb.elim
    | lst=>exact hb.elim
    | box=>exact hf.elim
    | mp=>exact hf.elim
    | opq=>exact hf.elim
    | als=>exact hf.elim
  refine ⟨E2,?_,fun k hk=>⟨if_pos hk,if_pos hk,if_pos hk⟩,⟨hU1.dom,hU1.grp,fun E' hE=>⟨fun k o ho=>?_,fun k o k' o' b ho ho' hne hb hb'=>?_,fun k len sz rows a k' o' ho hc ha ho' hb=>?_⟩⟩,?_⟩
  · congr 1
    exact (hv E1 E2 e0 fun k h1 _=>⟨(eF k h1).1,(eF k h1).2.1⟩).symm
  · have hf:=farOf k o ho
    have hk:=hU1.dom k o ho
    have hr:=hU1.here.obj k o ho
    cases o with
    | tok =>
      have hf:q+n≤k:=hf
      intro b hb
      rw [(hE k hk).2.2,(eF k hf).2.2] at hb
      exact hr b hb
    | own t2 R2 d2 g =>
      obtain ⟨f1,f2⟩:(k=0∨q+n≤k)∧q+n≤g:=hf
      intro hg w2 hsz hw
      have e1:E'.blk k=E1.blk k:=by
        rw [(hE k hk).1]
        rcases f1 with rfl | f1
        · exact e0
        · exact (eF k f1).1
      have e2:E'.fp g=E1.fp g:=by rw [(hE g (hU1.grp k _ g ho rfl)).2.2,(eF g f2).2.2]
      rw [e1,e2]
      rw [e2] at hw
      exact hr hg w2 hsz hw
    | lst len sz rows g =>
      cases g with
      | none=>exact hf.elim
      | some g =>
        obtain ⟨f1,f2,f3⟩:q+n≤k∧q+n≤g∧PlainRows rows:=hf
        have e1:E'.hdr k=E1.hdr k:=by rw [(hE k hk).2.1,(eF k f1).2.1]
        have e2:E'.fp g=E1.fp g:=by rw [(hE g (hU1.grp k _ g ho rfl)).2.2,(eF g f2).2.2]
        obtain ⟨b1,b2,b3⟩:=hr
        refine ⟨by rw [e1]; exact b1,by rw [e1]; exact b2,fun hc=>?_⟩
        rw [e1] at hc ⊢
        obtain ⟨B,off,c1,c2,c3⟩:=b3 hc
        refine ⟨B,off,c1,c2,fun hg=>?_⟩
        obtain ⟨d1,C,ty,d2,d3,d4⟩:=c3 hg
        refine ⟨by rw [e2]; exact d1,C,ty,d2,d3,fun i hi=>?_⟩
        obtain ⟨r1,r2,r3⟩:=d4 i hi
        refine ⟨r1,r2,fun jj hj=>?_⟩
        rw [r3 jj hj,← denL_get,← denL_get]
        congr 1
        exact den_keyless (f3 i).2 _ _
    | box=>exact hf.elim
    | mp=>exact hf.elim
    | opq=>exact hf.elim
    | als=>exact hf.elim
  · exact hU1.here.apart k o k' o' b ho ho' hne (ownEq hE _ _ _ ho hb) (ownEq hE _ _ _ ho' hb')
  · have hf:=farOf k _ ho
    exact hf.elim
  · have down : ∀ k0 o0 b, AO (Ad (hp j ++ Ls)) k0 = some o0 → owns Es k0 o0 b → b ∈ E.fp 1 := by
      intro k0 o0 b h1 h2
      rcases cases' k0 o0 h1 with ⟨g1,g2⟩ | ⟨_,_,_,_,_,_,_,rfl,_⟩
      · exact hfp k0 o0 b g2 ((BP agI g1 o0 b).1 h2)
      · exact h2.elim
    refine ⟨hx.os,hx.tape,hx.output,hx.size,fun b hb hn=>hx.frame b hb fun k0 o0 h1 h2=>?_,fun k o b ho hb=>?_,fun k len sz rows a ho hc ha=>?_⟩
    · exact hn 1 .tok l1 (down k0 o0 b h1 h2)
    · rcases hx.fresh k o b ho (ownEq (Ae.refl _ _) k o b ho hb) with ⟨k0,o0,h1,h2⟩ | h1
      · exact .inl ⟨1,.tok,l1,down k0 o0 b h1 h2⟩
      · exact .inr h1
    · exact (farOf k _ ho).elim
end
end Go.Eng
set_option linter.unusedSimpArgs false
set_option linter.unusedVariables false
namespace Go.Eng
open Go.RowKit
def AllN (Q:Nat→Prop):Nat→Prop
  | 0=>True
  | n+1=>AllN Q n∧Q n
theorem allN_lt {Q:Nat→Prop} : ∀ {n:Nat},AllN Q n→∀ i,i<n→Q i
  | n+1,h,i,hi=>by
    by_cases e:i=n
    · subst e; exact h.2
    · exact allN_lt h.1 i (by omega)
theorem allN_of {Q:Nat→Prop} {n:Nat} (h:AllN Q n) (i:Nat) (hi:(i:Int)<(n:Int)):Q i:=allN_lt h i (by omega)
section
variable {P:Program} {T:Tab}
instance:Inhabited EN:=⟨⟨[],[]⟩⟩
def Ah.val {R:Type} [Inhabited R]:Ah R→R
  | .leaf r=>r
  | .ite b t e=>match b with
    | true=>t.val
    | false=>e.val
  | .must _ t=>t.val
  | .defI x k=>(k x).val
  | .defB x k=>(k x).val
  | .defE x k=>(k x).val
  | .fail _=>default
def Ah.plain {R:Type} : Ah R→Bool
  | .leaf _=>true
  | .ite _ t e=>match t.plain with
    | true=>e.plain
    | false=>false
  | .must _ _=>false
  | .defI x k=>(k x).plain
  | .defB x k=>(k x).plain
  | .defE x k=>(k x).plain
  | .fail _=>false
def Ah.good {R:Type} : Ah R→Prop
  | .leaf _=>True
  | .ite b t e=>(b=true→t.good)∧(b=false→e.good)
  | .must b t=>b=true∧t.good
  | .defI x k=>(k x).good
  | .defB x k=>(k x).good
  | .defE x k=>(k x).good
  | .fail _=>False
theorem Ah.plain_good {R:Type} : ∀ {t:Ah R},t.plain=true→t.good
  | .leaf _,_=>trivial
  | .ite b t e,h=>by
    simp only [Ah.plain] at h
    split at h
    · rename_i h1
      exact ⟨fun _=>plain_good h1,fun _=>plain_good h⟩
    · cases h
  | .must _ _,h=>by cases h
  | .defI x k,h=>plain_good (t:=k x) h
  | .defB x k,h=>plain_good (t:=k x) h
  | .defE x k,h=>plain_good (t:=k x) h
  | .fail _,h=>by cases h
theorem Ah.good_sel {R:Type} [Inhabited R]:∀ {t:Ah R},t.good→t.sel=some t.val
  | .leaf _,_=>rfl
  | .ite true t _,h=>good_sel (t:=t) (h.1 rfl)
  | .ite false _ e,h=>good_sel (t:=e) (h.2 rfl)
  | .must true t,h=>good_sel (t:=t) h.2
  | .must false _,h=>absurd h.1 (by decide)
  | .defI x k,h=>good_sel (t:=k x) h
  | .defB x k,h=>good_sel (t:=k x) h
  | .defE x k,h=>good_sel (t:=k x) h
  | .fail _,h=>h.elim
theorem stdX_val (hT : TabAll P T) (hm : P.follows .mixedOrders = true) {n : Nat} {f : FuncId} {t t' : TS} {x y : EN} {tr : Ah EN} (hargs : t.vs.all (TA.keyB t.m) = true)
    (he:BR P (Am P T n) f (t.vals x) (t.heap x) t.m (outV t.m t')=tr) (hg:tr.good) (hy:t'.eqv tr.val y):BI P f t x t' y:=by
  refine Aj hT hm hargs (n:=n) ?_
  rw [he]
  exact ⟨_,Ah.good_sel hg,hy⟩
theorem stdX_loop (hT : TabAll P T) (hm : P.follows .mixedOrders = true) {n : Nat} {f : FuncId} {fn : Func} {c x : Code} (hf : P.funcs[f]? = some fn) (hb : fn.body = some c) {t rt L E : TS} {ex y en0 : EN} {id : Nat} (k : Nat) {RL : Ex → EN → Prop}
    (hle:Nat.ble t.vs.length fn.ntmps=true) (hargs:t.vs.all (TA.keyB t.m)=true) (hr:fn.results.toList=rt.tmps.map .tmp) (hd:distB rt.tmps=true) (hlen:rt.vs.length=rt.tmps.length)
    (hlp:(Eng.flat c).drop k=[.block id (.loop x)]++(Eng.flat c).drop (k+1)) (hk:(Eng.flat c).take k≠[]) (hk2:(Eng.flat c).drop (k+1)≠[]) (hLm:t.m≤E.m)
    (hpre:∀ τ0:Tm,(Am P T n f fn.ntmps (Eng.ofL ((Eng.flat c).take k)) (argTm 0 (t.vals ex)++τ0) (t.heap ex) t.m (outX t.m ⟨some L,[],some rt⟩)).Holds fun r=>(r.1 = .normal∧L.eqv r.2 en0)∨(r.1 = .ret∧rt.eqv r.2 y))
    (hloop:HT P fn.ntmps t.m (.loop x) L.m (L.tm en0) (L.heap en0) (QX ⟨none,[(id,E)],some rt⟩ RL))
    (htail:∀ en,RL (.exit id) en→∃ z,E.eqv en z∧∀ τ0:Tm,(Am P T n f fn.ntmps (Eng.ofL ((Eng.flat c).drop (k+1))) (E.tm z++τ0) (E.heap z) E.m (outX t.m ⟨none,[],some rt⟩)).Holds fun r=>r.1 = .ret→rt.eqv r.2 y)
    (hret:∀ en,RL .ret en→rt.eqv en y):BI P f t ex rt y:=by
  have hin:=within_body hf hb
  refine stdX_htX hf hb hle hargs hr hd hlen ?_
  refine HT.cutX k (t1:=L) (R1:=fun ex e=>(ex = .normal∧L.eqv e en0)∨(ex = .ret∧rt.eqv e y)) (HTL.runX hT hm (n:=n) hk (within_take hin k) (Nat.le_refl _) hpre) ?_ ?_
  · rintro en (⟨_,he⟩ | ⟨he,_⟩)
    · refine HTg.pre (WP:=wpL P _) (fun h hq=>wpL_mono h hq) he (HTL.loopThen hlp hloop ?_ ?_)
      · intro en he
        obtain ⟨z,hz,ht⟩:=htail en he
        exact HTg.pre (WP:=wpL P _) (fun h hq=>wpL_mono h hq) hz (HTL.runX hT hm (n:=n) hk2 (within_drop hin (k+1)) hLm ht)
      · exact fun en h _=>hret en h
    · cases he
  · rintro en (⟨he,_⟩ | ⟨_,he⟩)
    · cases he
    · exact fun _=>he
theorem stdX_void {f : FuncId} {fn : Func} {c : Code} (hf : P.funcs[f]? = some fn) (hb : fn.body = some c) {t rt : TS} {x y : EN} {p : Pk} (hle : Nat.ble t.vs.length fn.ntmps = true) (hargs : t.vs.all (TA.keyB t.m) = true)
    (hr:fn.results.toList=[]) (hv:rt.vs=[]) (hx:p.x=[])
    (H:HT P fn.ntmps t.m c t.m (argTm 0 (t.vals x)) (t.heap x) (QX p fun ex en=>p.at ex=some rt∧rt.eqv en y)):BI P f t x rt y:=by
  intro E w hU
  have e:(t.vals x).length=t.vs.length:=instA_length _ _
  have ev:∀ en,rt.vals en=[]:=fun en=>by unfold TS.vals; rw [hv]; rfl
  refine (calls_of_ht hf hb (by rw [e]; exact hle) (R:=fun m2 h2 v2=>∃ en,m2=rt.m∧h2=rt.heap en∧rt.eqv en y∧v2=resV []) (H.mono ?_) hU (fun E' hE=>congrArg List.toArray (denL_cl hE (t.vals x) (Az (instA_keys _ hargs))).symm)).mono ?_
  · rintro ex m2 κ' h2 ⟨t',en,h1,⟨h3,h4⟩,rfl,rfl,rfl⟩
    rw [h3] at h1
    cases h1
    refine ⟨fun i=>?_,[],fun τ0=>by rw [hr]; rfl,en,rfl,rfl,h4,rfl⟩
    rintro rfl
    have h3:pickX i p.x=some rt:=h3
    rw [hx] at h3
    cases h3
  · rintro e w' ⟨m2,h2,v2,E',rfl,⟨en,rfl,rfl,h5,rfl⟩,hU',hx,hag⟩
    exact ⟨E',by rw [ev],hag,eqvH_relU h5.2 hU',hx.trans (eqvH_wext h5.2)⟩
end
end Go.Eng
set_option linter.unusedSimpArgs false
set_option linter.unusedVariables false
namespace Go.Proofs.YtddmgdclmkgpeaaGreat
open Go.Eng Go.RowKit
theorem Tryz.own:ownKnob Tryz.prog.godebug=none:=by kernel_rfl
theorem Tryz.laidOut:laidOutB Tryz.prog=true:=by kernel_rfl
theorem Ay:Tryz.prog.follows .mixedOrders=true:=by kernel_rfl
def lp:Code→Code
  | .block _ (.loop x)=>x
  | c=>c
end Go.Proofs.YtddmgdclmkgpeaaGreat
set_option linter.unusedSimpArgs false
set_option linter.unusedVariables false
namespace Go.Proofs.YtddmgdclmkgpeaaGreat
open Go.Eng Go.RowKit Go.ChangeShapes Go.WideShapes
set_option maxRecDepth 100000
def u64T:TS:=⟨[],[.one (.i .u64)],[],0⟩
def u64R:TS:=⟨[],[.one (.i .u64)],[],0⟩
def hashT:TS:=⟨[],[.one (.i .u32),.one (.i .u32),.one (.i .u32)],[],0⟩
def u32T:TS:=⟨[],[.one (.i .u32)],[],0⟩
def i64R:TS:=⟨[],[.one (.i .i64)],[],0⟩
def strawT:TS:=⟨[],[.one (.i .u32),.one (.i .i64)],[],0⟩
def drawT4:TS:=⟨[],[.one (.i .u8),.one (.i .i64),.one (.i .i64),.one (.i .i64)],[],0⟩
def manT:TS:=⟨[],[.one (.ptr 0 0)],[(0,.box [.i .u64,.i .i64])],1⟩
def manR:TS:=⟨[],[],[(0,.box [.i .u64,.i .i64])],1⟩
theorem mix_t (x:Int):BR Tryz.prog (Am Tryz.prog noTab 300) 210 (u64T.vals ⟨[[.i x]],[]⟩) (u64T.heap ⟨[[.i x]],[]⟩) 0 (outV 0 u64R) =
  .defI (x.fdiv 8589934592) fun z0=>.defI (IntKind.u64.wrap ((BitVec.ofInt 64 x ^^^ BitVec.ofInt 64 z0).toNat:Int)) fun z1=>.defI (IntKind.u64.wrap (z1 * 18397679294719823053)) fun z2=>.defI (z2.fdiv 8589934592)
  fun z3=>.defI (IntKind.u64.wrap ((BitVec.ofInt 64 z2 ^^^ BitVec.ofInt 64 z3).toNat:Int)) fun z4=>.defI (IntKind.u64.wrap (z4 * 14181476777654086739)) fun z5=>.defI (z5.fdiv 8589934592) fun z6=>.defI
  (IntKind.u64.wrap ((BitVec.ofInt 64 z5 ^^^ BitVec.ofInt 64 z6).toNat:Int)) fun z7=>.leaf ⟨[[.i z7]],[]⟩:=by kernel_rfl
theorem step_t (x b:Int):BR Tryz.prog (Am Tryz.prog noTab 300) 212 (manT.vals ⟨[[]],[.box [.i x,.i b]]⟩) (manT.heap ⟨[[]],[.box [.i x,.i b]]⟩) 1 (outV 1 manR) =
  .defI (IntKind.u64.wrap (x * x)) fun z0=>.defI (z0.fdiv 2147483648) fun z1=>.defI (IntKind.i64.wrap (b * 2)) fun z2=>.ite (decide (z1≥4294967296)) (.defI (z1.fdiv 2) fun z3=>.defI (IntKind.i64.wrap
  ((BitVec.ofInt 64 z2 ||| BitVec.ofInt 64 1).toNat:Int)) fun z4=>.leaf ⟨[],[.box [.i z3,.i z4]]⟩) (.leaf ⟨[],[.box [.i z1,.i z2]]⟩):=by kernel_rfl
def mixE (x:Int):EN:=Ah.val (.defI (x.fdiv 8589934592) fun z0=>.defI (IntKind.u64.wrap ((BitVec.ofInt 64 x ^^^ BitVec.ofInt 64 z0).toNat:Int)) fun z1=>.defI (IntKind.u64.wrap (z1 * 18397679294719823053)) fun z2=>.defI (z2.fdiv 8589934592)
  fun z3=>.defI (IntKind.u64.wrap ((BitVec.ofInt 64 z2 ^^^ BitVec.ofInt 64 z3).toNat:Int)) fun z4=>.defI (IntKind.u64.wrap (z4 * 14181476777654086739)) fun z5=>.defI (z5.fdiv 8589934592) fun z6=>.defI
  (IntKind.u64.wrap ((BitVec.ofInt 64 z5 ^^^ BitVec.ofInt 64 z6).toNat:Int)) fun z7=>.leaf ⟨[[.i z7]],[]⟩)
def stepE (x b:Int):EN:=Ah.val (.defI (IntKind.u64.wrap (x * x)) fun z0=>.defI (z0.fdiv 2147483648) fun z1=>.defI (IntKind.i64.wrap (b * 2)) fun z2=>.ite (decide (z1≥4294967296)) (.defI (z1.fdiv 2) fun z3=>.defI (IntKind.i64.wrap
  ((BitVec.ofInt 64 z2 ||| BitVec.ofInt 64 1).toNat:Int)) fun z4=>.leaf ⟨[],[.box [.i z3,.i z4]]⟩) (.leaf ⟨[],[.box [.i z1,.i z2]]⟩))
def mixF (x:Int):Int:=(mixE x).ai 0 0
def stepX (x b:Int):Int:=(stepE x b).bi 0 0
def stepB (x b:Int):Int:=(stepE x b).bi 0 1
def cMix (e:EN):Ah (TS×EN):=.leaf (u64R,⟨[[.i (mixF (e.ai 0 0))]],[]⟩)
def cStep (e:EN):Ah (TS×EN):=.leaf (manR,⟨[],[.box [.i (stepX (e.bi 0 0) (e.bi 0 1)),.i (stepB (e.bi 0 0) (e.bi 0 1))]]⟩)
def sLen32:Summ:=pureSummT fun | [.int .u32 n]=>some (.must (decide (0≤n.v∧n.v≤4294967295)) (.leaf (.int .i64 (.sym (Lib.bitLen n.v.toNat))))) | _=>none
noncomputable def paSm:List (FuncId×Summ):=[(210,ctrSumm0 u64T cMix),(212,ctrSumm0 manT cStep),(211,sLen32)]
noncomputable def paT:Tab:=smTab (tabOf paSm)
theorem cMix_ok:Ak Tryz.prog 210 (ctrSumm0 u64T cMix):=ctr0_ok fun e r h=>by
  cases h
  refine BI.pre (x':=⟨[[.i (e.ai 0 0)]],[]⟩) ?_ (stdX_val (Ao _) Ay rfl (mix_t _) (Ah.plain_good rfl) ?_)
  all_goals (repeat' (first | exact trivial | exact rfl | exact TS.eqv_refl _ _ | exact AY _ _ | exact AQ | exact fun _ _=>AJ _ _ | exact fun i _=>AF rfl _ i | apply And.intro))
theorem cStep_ok:Ak Tryz.prog 212 (ctrSumm0 manT cStep):=ctr0_ok fun e r h=>by
  cases h
  refine BI.pre (x':=⟨[[]],[.box [.i (e.bi 0 0),.i (e.bi 0 1)]]⟩) ?_ (stdX_val (Ao _) Ay rfl (step_t _ _) (Ah.plain_good rfl) ?_)
  all_goals (repeat' (first | exact trivial | exact rfl | exact TS.eqv_refl _ _ | exact AY _ _ | exact AQ | exact fun _ _=>AJ _ _ | exact fun i _=>AF rfl _ i | apply And.intro))
theorem sLen32_ok:Ak Tryz.prog 211 sLen32:=pureSummT_ok fun args t v hs hv=>by
  split at hs
  · rename_i n
    cases hs
    obtain ⟨hb,hv⟩:=Ar hv
    cases hv
    have hb:=of_decide_eq_true hb
    refine ⟨fun E w=>?_,fun _ _ _=>rfl⟩
    refine (bits_Len32 n.v w hb.1 hb.2).mono ?_
    rintro e w' ⟨rfl,rfl⟩
    exact ⟨rfl,Below.refl _ _⟩
  · cases hs
theorem paSm_ok:AllOk Tryz.prog paSm:=⟨cMix_ok,cStep_ok,sLen32_ok,trivial⟩
theorem paTab:TabAll Tryz.prog paT:=tab_ok paSm_ok
end Go.Proofs.YtddmgdclmkgpeaaGreat
set_option linter.unusedSimpArgs false
set_option linter.unusedVariables false
namespace Go.Proofs.YtddmgdclmkgpeaaGreat
open Go.Eng Go.RowKit Go.ChangeShapes Go.WideShapes
set_option maxRecDepth 100000
def u32R:TS:=⟨[],[.one (.i .u32)],[],0⟩
theorem hash_t (a b c:Int):BR Tryz.prog (Am Tryz.prog paT 300) 208 (hashT.vals ⟨[[.i a],[.i b],[.i c]],[]⟩) (hashT.heap ⟨[[.i a],[.i b],[.i c]],[]⟩) 0 (outV 0 u32R) =
  .defI (IntKind.u64.wrap a) fun z0=>.defI (mixF z0) fun z1=>.defI (IntKind.u64.wrap b) fun z2=>.defI (IntKind.u64.wrap (z1+z2)) fun z3=>.defI (mixF z3) fun z4=>.defI (IntKind.u64.wrap c) fun z5=>.defI
  (IntKind.u64.wrap (z4+z5)) fun z6=>.defI (mixF z6) fun z7=>.defI (IntKind.u32.wrap z7) fun z8=>.leaf ⟨[[.i z8]],[]⟩:=by kernel_rfl
theorem log_t (x:Int):BR Tryz.prog (Am Tryz.prog paT 300) 209 (u32T.vals ⟨[[.i x]],[]⟩) (u32T.heap ⟨[[.i x]],[]⟩) 0 (outV 0 i64R) =
  .defI (bif decide (1>x) then 1 else x) fun z0=>.defI (bif decide (65536<z0) then 65536 else z0) fun z1=>.must (decide (0≤z1∧z1≤4294967295)) (.defI ((Lib.bitLen z1.toNat):Int) fun z2=>.defI
  (IntKind.i64.wrap (z2 - 1)) fun z3=>.defI (IntKind.u64.wrap z1) fun z4=>.defI (IntKind.i64.wrap (31 - z3)) fun z5=>.must (decide (0≤z5)) (.defI (IntKind.u64.wrap (z4 * 2 ^ min z5.toNat 64)) fun z6=>.defI (stepX
  z6 0) fun z7=>.defI (stepB z6 0) fun z8=>.defI (stepX z7 z8) fun z9=>.defI (stepB z7 z8) fun z10=>.defI (stepX z9 z10) fun z11=>.defI (stepB z9 z10) fun z12=>.defI (stepX z11 z12) fun z13=>.defI (stepB z11
  z12) fun z14=>.defI (stepX z13 z14) fun z15=>.defI (stepB z13 z14) fun z16=>.defI (stepX z15 z16) fun z17=>.defI (stepB z15 z16) fun z18=>.defI (stepX z17 z18) fun z19=>.defI (stepB z17 z18) fun z20=>.defI
  (stepX z19 z20) fun z21=>.defI (stepB z19 z20) fun z22=>.defI (stepX z21 z22) fun z23=>.defI (stepB z21 z22) fun z24=>.defI (stepX z23 z24) fun z25=>.defI (stepB z23 z24) fun z26=>.defI (stepX z25 z26) fun
  z27=>.defI (stepB z25 z26) fun z28=>.defI (stepX z27 z28) fun z29=>.defI (stepB z27 z28) fun z30=>.defI (stepX z29 z30) fun z31=>.defI (stepB z29 z30) fun z32=>.defI (stepX z31 z32) fun z33=>.defI (stepB
  z31 z32) fun z34=>.defI (stepX z33 z34) fun z35=>.defI (stepB z33 z34) fun z36=>.defI (stepX z35 z36) fun z37=>.defI (stepB z35 z36) fun z38=>.defI (IntKind.i64.wrap (z3 * 65536)) fun z39=>.defI
  (IntKind.i64.wrap (z39+z38)) fun z40=>.leaf ⟨[[.i z40]],[]⟩)):=by kernel_rfl
def hashFE (a b c:Int):EN:=Ah.val (.defI (IntKind.u64.wrap a) fun z0=>.defI (mixF z0) fun z1=>.defI (IntKind.u64.wrap b) fun z2=>.defI (IntKind.u64.wrap (z1+z2)) fun z3=>.defI (mixF z3) fun z4=>.defI (IntKind.u64.wrap c) fun z5=>.defI
  (IntKind.u64.wrap (z4+z5)) fun z6=>.defI (mixF z6) fun z7=>.defI (IntKind.u32.wrap z7) fun z8=>.leaf ⟨[[.i z8]],[]⟩)
def hashF (a b c:Int):Int:=(hashFE a b c ).ai 0 0
def logFE (x:Int):EN:=Ah.val (.defI (bif decide (1>x) then 1 else x) fun z0=>.defI (bif decide (65536<z0) then 65536 else z0) fun z1=>.must (decide (0≤z1∧z1≤4294967295)) (.defI ((Lib.bitLen z1.toNat):Int) fun z2=>.defI
  (IntKind.i64.wrap (z2 - 1)) fun z3=>.defI (IntKind.u64.wrap z1) fun z4=>.defI (IntKind.i64.wrap (31 - z3)) fun z5=>.must (decide (0≤z5)) (.defI (IntKind.u64.wrap (z4 * 2 ^ min z5.toNat 64)) fun z6=>.defI (stepX
  z6 0) fun z7=>.defI (stepB z6 0) fun z8=>.defI (stepX z7 z8) fun z9=>.defI (stepB z7 z8) fun z10=>.defI (stepX z9 z10) fun z11=>.defI (stepB z9 z10) fun z12=>.defI (stepX z11 z12) fun z13=>.defI (stepB z11
  z12) fun z14=>.defI (stepX z13 z14) fun z15=>.defI (stepB z13 z14) fun z16=>.defI (stepX z15 z16) fun z17=>.defI (stepB z15 z16) fun z18=>.defI (stepX z17 z18) fun z19=>.defI (stepB z17 z18) fun z20=>.defI
  (stepX z19 z20) fun z21=>.defI (stepB z19 z20) fun z22=>.defI (stepX z21 z22) fun z23=>.defI (stepB z21 z22) fun z24=>.defI (stepX z23 z24) fun z25=>.defI (stepB z23 z24) fun z26=>.defI (stepX z25 z26) fun
  z27=>.defI (stepB z25 z26) fun z28=>.defI (stepX z27 z28) fun z29=>.defI (stepB z27 z28) fun z30=>.defI (stepX z29 z30) fun z31=>.defI (stepB z29 z30) fun z32=>.defI (stepX z31 z32) fun z33=>.defI (stepB
  z31 z32) fun z34=>.defI (stepX z33 z34) fun z35=>.defI (stepB z33 z34) fun z36=>.defI (stepX z35 z36) fun z37=>.defI (stepB z35 z36) fun z38=>.defI (IntKind.i64.wrap (z3 * 65536)) fun z39=>.defI
  (IntKind.i64.wrap (z39+z38)) fun z40=>.leaf ⟨[[.i z40]],[]⟩)))
def logF (x:Int):Int:=(logFE x ).ai 0 0
def cHash (e:EN):Ah (TS×EN):=.leaf (u32R,⟨[[.i (hashF (e.ai 0 0) (e.ai 1 0) (e.ai 2 0))]],[]⟩)
def cLog (e:EN):Ah (TS×EN):=.leaf (i64R,⟨[[.i (logF (e.ai 0 0))]],[]⟩)
noncomputable def pbSm:List (FuncId×Summ):=[(208,ctrSumm0 hashT cHash),(209,ctrSumm0 u32T cLog)]++paSm
noncomputable def pbT:Tab:=smTab (tabOf pbSm)
theorem u32R_self (x:EN):u32R.eqv x ⟨[[.i (x.ai 0 0)]],[]⟩:=by
  (repeat' (first | exact trivial | exact rfl | exact TS.eqv_refl _ _ | exact AY _ _ | exact AQ | exact fun _ _=>AJ _ _ | exact fun i _=>AF rfl _ i | apply And.intro))
theorem i64R_self (x:EN):i64R.eqv x ⟨[[.i (x.ai 0 0)]],[]⟩:=by
  (repeat' (first | exact trivial | exact rfl | exact TS.eqv_refl _ _ | exact AY _ _ | exact AQ | exact fun _ _=>AJ _ _ | exact fun i _=>AF rfl _ i | apply And.intro))
theorem bitLen_range (n:Nat) (h0:1≤n) (h1:n≤65536):1≤Lib.bitLen n∧Lib.bitLen n≤17:=by
  refine ⟨?_,Lib.bitLen_le n 17 (by omega) (by omega)⟩
  unfold Lib.bitLen Lib.bitLenAux
  rw [if_neg (by omega)]
  omega
theorem cHash_ok:Ak Tryz.prog 208 (ctrSumm0 hashT cHash):=ctr0_ok fun e r h=>by
  cases h
  refine BI.pre (x':=⟨[[.i (e.ai 0 0)],[.i (e.ai 1 0)],[.i (e.ai 2 0)]],[]⟩) ?_ (stdX_val paTab Ay rfl (hash_t _ _ _) (Ah.plain_good rfl) (u32R_self _))
  (repeat' (first | exact trivial | exact rfl | exact TS.eqv_refl _ _ | exact AY _ _ | exact AQ | exact fun _ _=>AJ _ _ | exact fun i _=>AF rfl _ i | apply And.intro))
theorem cLog_ok:Ak Tryz.prog 209 (ctrSumm0 u32T cLog):=ctr0_ok fun e r h=>by
  cases h
  refine BI.pre (x':=⟨[[.i (e.ai 0 0)]],[]⟩) ?_ (stdX_val paTab Ay rfl (log_t _) ?_ (i64R_self _))
  · exact clP
  · simp only [Ah.good,and_true]
    have h0:∀ x:Int,1≤(bif decide (1>x) then 1 else x):=fun x=>by
      by_cases h:1>x
      · simp [h]
      · simp [h]; omega
    have h1:∀ x:Int,1≤x→1≤(bif decide (65536<x) then 65536 else x)∧(bif decide (65536<x) then 65536 else x)≤65536:=fun x hx=>by
      by_cases h:65536<x
      · simp [h]
      · simp [h]; omega
    have h2:=h1 _ (h0 (e.ai 0 0))
    generalize (bif decide (65536<(bif decide (1>e.ai 0 0) then 1 else e.ai 0 0)) then (65536:Int) else (bif decide (1>e.ai 0 0) then 1 else e.ai 0 0))=z at h2 ⊢
    have h3:=bitLen_range z.toNat (by omega) (by omega)
    have e1:IntKind.i64.wrap ((Lib.bitLen z.toNat:Int) - 1)=(Lib.bitLen z.toNat:Int) - 1:=IntWalk.i64_in _ (by omega)
    rw [e1,IntWalk.i64_in _ (by omega)]
    exact ⟨decide_eq_true (by omega),decide_eq_true (by omega)⟩
theorem pbSm_ok:AllOk Tryz.prog pbSm:=⟨cHash_ok,cLog_ok,paSm_ok⟩
theorem pbTab:TabAll Tryz.prog pbT:=tab_ok pbSm_ok
theorem straw_t (h w:Int):BR Tryz.prog (Am Tryz.prog pbT 300) 207 (strawT.vals ⟨[[.i h],[.i w]],[]⟩) (strawT.heap ⟨[[.i h],[.i w]],[]⟩) 0 (outV 0 i64R) =
  .defI (bif decide (1>w) then 1 else w) fun z0=>.defI (bif decide (16<z0) then 16 else z0) fun z1=>.defI (h.tmod 65536) fun z2=>.defI (IntKind.u32.wrap (z2+1)) fun z3=>.defI (logF z3) fun z4=>.defI
  (IntKind.i64.wrap (1048576 - z4)) fun z5=>.defI (IntKind.i64.wrap (z5 * 4096)) fun z6=>.must (z1 != 0) (.defI (IntKind.i64.wrap (z6.tdiv z1)) fun z7=>.leaf ⟨[[.i (IntKind.i64.wrap (0 - z7))]],[]⟩):=by kernel_rfl
def strawFE (h w:Int):EN:=Ah.val (.defI (bif decide (1>w) then 1 else w) fun z0=>.defI (bif decide (16<z0) then 16 else z0) fun z1=>.defI (h.tmod 65536) fun z2=>.defI (IntKind.u32.wrap (z2+1)) fun z3=>.defI (logF z3) fun z4=>.defI
  (IntKind.i64.wrap (1048576 - z4)) fun z5=>.defI (IntKind.i64.wrap (z5 * 4096)) fun z6=>.must (z1 != 0) (.defI (IntKind.i64.wrap (z6.tdiv z1)) fun z7=>.leaf ⟨[[.i (IntKind.i64.wrap (0 - z7))]],[]⟩))
def strawF (h w:Int):Int:=(strawFE h w ).ai 0 0
def cStraw (e:EN):Ah (TS×EN):=.leaf (i64R,⟨[[.i (strawF (e.ai 0 0) (e.ai 1 0))]],[]⟩)
noncomputable def pcSm:List (FuncId×Summ):=(207,ctrSumm0 strawT cStraw)::pbSm
noncomputable def pcT:Tab:=smTab (tabOf pcSm)
theorem cStraw_ok:Ak Tryz.prog 207 (ctrSumm0 strawT cStraw):=ctr0_ok fun e r h=>by
  cases h
  refine BI.pre (x':=⟨[[.i (e.ai 0 0)],[.i (e.ai 1 0)]],[]⟩) ?_ (stdX_val pbTab Ay rfl (straw_t _ _) ?_ (i64R_self _))
  · exact clP
  · simp only [Ah.good,and_true]
    have h0:∀ x:Int,1≤(bif decide (1>x) then 1 else x):=fun x=>by
      by_cases h:1>x
      · simp [h]
      · simp [h]; omega
    have h1:∀ x:Int,1≤x→(bif decide (16<x) then 16 else x) != 0:=fun x hx=>by
      by_cases h:16<x
      · simp [h]
      · simp [h]; omega
    exact h1 _ (h0 _)
theorem pcSm_ok:AllOk Tryz.prog pcSm:=⟨cStraw_ok,pbSm_ok⟩
theorem pcTab:TabAll Tryz.prog pcT:=tab_ok pcSm_ok
theorem draw_t (g o t w:Int):BR Tryz.prog (Am Tryz.prog pcT 300) 203 (drawT4.vals ⟨[[.i g],[.i o],[.i t],[.i w]],[]⟩) (drawT4.heap ⟨[[.i g],[.i o],[.i t],[.i w]],[]⟩) 0 (outV 0 i64R) =
  .defI (IntKind.u32.wrap g) fun z0=>.defI (IntKind.u32.wrap o) fun z1=>.defI (IntKind.u32.wrap t) fun z2=>.defI (hashF z0 z1 z2) fun z3=>.defI (strawF z3 w) fun z4=>.leaf ⟨[[.i z4]],[]⟩:=by kernel_rfl
def drawFE (g o t w:Int):EN:=Ah.val (.defI (IntKind.u32.wrap g) fun z0=>.defI (IntKind.u32.wrap o) fun z1=>.defI (IntKind.u32.wrap t) fun z2=>.defI (hashF z0 z1 z2) fun z3=>.defI (strawF z3 w) fun z4=>.leaf ⟨[[.i z4]],[]⟩)
def drawF (g o t w:Int):Int:=(drawFE g o t w ).ai 0 0
def cDrawOf (F:Int→Int→Int→Int→Int) (e:EN):Ah (TS×EN):=.leaf (i64R,⟨[[.i (F (e.ai 0 0) (e.ai 1 0) (e.ai 2 0) (e.ai 3 0))]],[]⟩)
theorem draw_ok:Ak Tryz.prog 203 (ctrSumm0 drawT4 (cDrawOf drawF)):=ctr0_ok fun e r h=>by
  cases h
  refine BI.pre (x':=⟨[[.i (e.ai 0 0)],[.i (e.ai 1 0)],[.i (e.ai 2 0)],[.i (e.ai 3 0)]],[]⟩) ?_ (stdX_val pcTab Ay rfl (draw_t _ _ _ _) (Ah.plain_good rfl) (i64R_self _))
  (repeat' (first | exact trivial | exact rfl | exact TS.eqv_refl _ _ | exact AY _ _ | exact AQ | exact fun _ _=>AJ _ _ | exact fun i _=>AF rfl _ i | apply And.intro))
theorem draw_ex:∃ F:Int→Int→Int→Int→Int,Ak Tryz.prog 203 (ctrSumm0 drawT4 (cDrawOf F)):=⟨drawF,draw_ok⟩
noncomputable def drawS:Int→Int→Int→Int→Int:=Classical.choose draw_ex
noncomputable def pdSm:List (FuncId×Summ):=[(203,ctrSumm0 drawT4 (cDrawOf drawS))]
theorem pdSm_ok:AllOk Tryz.prog pdSm:=⟨Classical.choose_spec draw_ex,trivial⟩
end Go.Proofs.YtddmgdclmkgpeaaGreat
set_option linter.unusedSimpArgs false
set_option linter.unusedVariables false
namespace Go.Proofs.YtddmgdclmkgpeaaGreat
open Go.Eng Go.RowKit Go.ChangeShapes Go.WideShapes
set_option maxRecDepth 100000
def bestT:TS:=⟨[],[.one (.sl 0)],[(0,.lst none [.i .i64] none)],1⟩
def bestL:TS:=⟨[0,3,6,7,8],[.one (.sl 0),.one (.i .i64),.one (.sl 0),.one (.i .i64),.one (.i .i64)],[(0,.lst none [.i .i64] none)],1⟩
def bestE:TS:=⟨[3],[.one (.i .i64)],[],1⟩
def bestR:TS:=⟨[2],[.one (.i .i64)],[],1⟩
def bestN (l:List Int):Nat→Int
  | 0=>-1
  | n+1=>bif decide (bestN l n<0) then (n:Int) else bif decide (l.getD n 0>l.getD (bestN l n).toNat 0) then (n:Int) else bestN l n
def bestF (l:List Int):Int:=bestN l l.length
noncomputable def bodyBst:Code:=Tryz.f204.body.getD .skip
noncomputable def xBst:Code:=lp ((flat bodyBst).getD 3 .skip)
theorem bodyBst_eq:Tryz.f204.body=some bodyBst:=by kernel_rfl
theorem inBst:BT Tryz.prog 204 Tryz.f204.ntmps bodyBst:=within_body Tryz.func204 bodyBst_eq
theorem lpBst:(flat bodyBst).drop 3=[.block 0 (.loop xBst)]++(flat bodyBst).drop 4:=by kernel_rfl
theorem inBstx:BT Tryz.prog 204 Tryz.f204.ntmps xBst:=by
  have h:(flat bodyBst)[3]? = some (.block 0 (.loop xBst)):=by kernel_rfl
  exact within_loop (within_block (within_at inBst 3 h))
noncomputable abbrev qPc1 (v0:List Int) (v1:Int) (v2:Int):Ah (Ex×EN):=.must (AX [.i .i64] (AI [.i .i64] (AR v0)) v0.length) (.leaf (.normal,⟨[[.u],[.i v1],[.u],[.i (v0.length:Int)],[.i v2]],[.lst v0.length (AR v0)]⟩))
theorem Bst_pre (l:List Int) (τ0:Tm):Am Tryz.prog noTab 300 204 Tryz.f204.ntmps (Eng.ofL ((flat bodyBst).take 3)) (argTm 0 (bestT.vals ⟨[[]],[.lst l.length (AR l)]⟩)++τ0) (bestT.heap ⟨[[]],[.lst l.length (AR l)]⟩) 1 (outX 1 ⟨some bestL,[],some bestR⟩) =

  .must (AX [.i .i64] (AI [.i .i64] (AR l)) l.length) (.leaf (.normal,⟨[[.u],[.i (-1)],[.u],[.i (l.length:Int)],[.i 0]],[.lst l.length (AR l)]⟩)):=by kernel_rfl
theorem Bst_x (l:List Int) (b i:Int) (τ0:Tm):Am Tryz.prog noTab 300 204 Tryz.f204.ntmps xBst (bestL.tm ⟨[[],[.i b],[],[.i (l.length:Int)],[.i i]],[.lst l.length (AR l)]⟩++τ0) (bestL.heap ⟨[[],[.i b],[],[.i (l.length:Int)],[.i i]],[.lst l.length (AR l)]⟩) 1 (outX 1 ⟨some bestL,[(0,bestE)],some bestR⟩) =

  .ite (decide (i<(l.length:Int))) (.must (decide (0≤i∧i<(l.length:Int))) (.must (decide (0≤i∧i<(l.length:Int))) (.defI (l.getD i.toNat 0) fun z0=>.ite (decide (b<0)) (.defI (IntKind.i64.wrap (i+1)) fun z1=>qPc1 l i z1) (.must (decide (0≤b∧b<(l.length:Int))) (.must (decide (0≤b∧b<(l.length:Int))) (.defI (l.getD b.toNat 0) fun z2=>.ite (decide (z0>z2)) (.defI (IntKind.i64.wrap (i+1)) fun z3=>qPc1 l i z3) (.defI (IntKind.i64.wrap (i+1)) fun z4=>qPc1 l b z4))))))) (.leaf (.exit 0,⟨[[.i b]],[]⟩)):=by kernel_rfl
theorem Bst_tail (b:Int) (τ0:Tm):Am Tryz.prog noTab 300 204 Tryz.f204.ntmps (Eng.ofL ((flat bodyBst).drop 4)) (bestE.tm ⟨[[.i b]],[]⟩++τ0) (bestE.heap ⟨[[.i b]],[]⟩) 1 (outX 1 ⟨none,[],some bestR⟩) =

  .leaf (.ret,⟨[[.i b]],[]⟩):=by kernel_rfl
theorem bestN_range (l:List Int):∀ n,-1≤bestN l n∧bestN l n<n∧(0<n→0≤bestN l n)
  | 0=>⟨Int.le_refl _,show (-1:Int)<0 by decide,fun h=>absurd h (by decide)⟩
  | n+1=>by
    have ih:=bestN_range l n
    unfold bestN
    by_cases h:bestN l n<0
    · simp only [h,decide_true,cond_true]; omega
    · by_cases h2:l.getD n 0>l.getD (bestN l n).toNat 0
      · simp only [h,h2,decide_true,decide_false,cond_true,cond_false]; omega
      · simp only [h,h2,decide_false,cond_false]; omega
def bestQ (l:List Int):Ex→EN→Prop
  | .exit _,e=>e.ai 0 0=bestF l
  | .ret,e=>e.ai 0 0=bestF l
  | .normal,_=>True
theorem best_loop (l:List Int) (hl:(l.length:Int)<1000000):HT Tryz.prog Tryz.f204.ntmps 1 (.loop xBst) 1 (bestL.tm ⟨[[],[.i (-1)],[],[.i (l.length:Int)],[.i 0]],[.lst l.length (AR l)]⟩) (bestL.heap ⟨[[],[.i (-1)],[],[.i (l.length:Int)],[.i 0]],[.lst l.length (AR l)]⟩) (QX ⟨none,[(0,bestE)],some bestR⟩ (bestQ l)):=by
  refine HT.loopX (Ao _) Ay (n:=300) inBstx bestL _ _ (fun i:Nat=>⟨[[],[.i (bestN l i)],[],[.i (l.length:Int)],[.i (i:Int)]],[.lst l.length (AR l)]⟩) (fun i=>i≤l.length) (fun i=>l.length - i) (fun _=>bestQ l) (by decide) ?_ 0 (Nat.zero_le _)
  intro i hi τ0
  refine AL (Bst_x l (bestN l i) (i:Int) τ0) ?_
  have hr:=bestN_range l i
  have e1:IntKind.i64.wrap ((i:Int)+1)=((i+1:Nat):Int):=IntWalk.i64_in _ (by omega)
  refine AG (fun h=>?_) (fun h=>AE ?_)
  · have h:=of_decide_eq_true h
    have hm:decide ((0:Int)≤(i:Int)∧(i:Int)<(l.length:Int))=true:=decide_eq_true (by omega)
    have nx:∀ b:Int,bestN l (i+1)=b→bestL.eqv ⟨[[.u],[.i b],[.u],[.i (l.length:Int)],[.i (IntKind.i64.wrap ((i:Int)+1))]],[.lst l.length (AR l)]⟩ ⟨[[],[.i (bestN l (i+1))],[],[.i (l.length:Int)],[.i ((i+1:Nat):Int)]],[.lst l.length (AR l)]⟩:=by
      intro b hb
      rw [e1,hb]
      (repeat' (first | exact trivial | exact rfl | exact TS.eqv_refl _ _ | exact AY _ _ | exact AQ | exact fun _ _=>AJ _ _ | exact fun i _=>AF rfl _ i | apply And.intro))
    have go:∀ e:EN,bestL.eqv e ⟨[[],[.i (bestN l (i+1))],[],[.i (l.length:Int)],[.i ((i+1:Nat):Int)]],[.lst l.length (AR l)]⟩→∃ d',d'≤l.length∧l.length - d'<l.length - i∧bestL.eqv e ⟨[[],[.i (bestN l d')],[],[.i (l.length:Int)],[.i (d':Int)]],[.lst l.length (AR l)]⟩∧∀ (ex:Ex) (e:EN),bestQ l ex e→bestQ l ex e :=
      fun e he=>⟨i+1,by omega,by omega,he,fun _ _ h=>h⟩
    refine AA hm (AA hm (AB (AG (fun hb=>?_) (fun hb=>?_))))
    · refine AB (AA (AN _ _ _) (AE (go _ (nx _ ?_))))
      simp only [bestN,hb,cond_true]
    · have hb':=of_decide_eq_false hb
      have hm2:decide ((0:Int)≤bestN l i∧bestN l i<(l.length:Int))=true:=decide_eq_true (by omega)
      refine AA hm2 (AA hm2 (AB (AG (fun hc=>?_) (fun hc=>?_))))
      · refine AB (AA (AN _ _ _) (AE (go _ (nx _ ?_))))
        have hc:decide (l.getD i 0>l.getD (bestN l i).toNat 0)=true:=hc
        simp only [bestN,hb,hc,cond_true,cond_false]
      · refine AB (AA (AN _ _ _) (AE (go _ (nx _ ?_))))
        have hc:decide (l.getD i 0>l.getD (bestN l i).toNat 0)=false:=hc
        simp only [bestN,hb,hc,cond_false]
  · have h:=of_decide_eq_false h
    have:i=l.length:=by omega
    subst this
    rfl
theorem best_std (l:List Int) (hl:(l.length:Int)<1000000):BI Tryz.prog 204 bestT ⟨[[]],[.lst l.length (AR l)]⟩ bestR ⟨[[.i (bestF l)]],[]⟩:=by
  refine stdX_loop (Ao _) Ay (n:=300) Tryz.func204 bodyBst_eq 3 (L:=bestL) (E:=bestE) (RL:=bestQ l) rfl rfl (by kernel_rfl) rfl rfl lpBst (by decide) (by decide) (by decide)
    (fun τ0=>AL (Bst_pre l τ0) (AA (AN _ _ _) (AE (.inl ⟨rfl,?_⟩)))) (best_loop l hl) (fun en he=>⟨⟨[[.i (bestF l)]],[]⟩,⟨⟨he,trivial⟩,trivial⟩,fun τ0=>AL (Bst_tail (bestF l) τ0) (AE fun _=>⟨⟨rfl,trivial⟩,trivial⟩)⟩) (fun en he=>⟨⟨he,trivial⟩,trivial⟩)
  (repeat' (first | exact trivial | exact rfl | exact TS.eqv_refl _ _ | exact AY _ _ | exact AQ | exact fun _ _=>AJ _ _ | exact fun i _=>AF rfl _ i | apply And.intro))
def cBestOf (F:List Int→Int) (e:EN):Ah (TS×EN):=.must (decide ((e.ln 0:Int)<1000000)) (.leaf (bestR,⟨[[.i (F (Ax (e.ln 0) (e.rw 0)))]],[]⟩))
theorem best_ok:Ak Tryz.prog 204 (AW bestT (cBestOf bestF)):=BN fun e r h=>by
  obtain ⟨hl,h⟩:=Ar h
  cases h
  have hl:=of_decide_eq_true hl
  have e1:(Ax (e.ln 0) (e.rw 0)).length=e.ln 0:=As _ _
  refine BI.pre (x':=⟨[[]],[.lst (Ax (e.ln 0) (e.rw 0)).length (AR (Ax (e.ln 0) (e.rw 0)))]⟩) ⟨⟨trivial,trivial⟩,⟨e1.symm,fun i hi=>rowI_eqv ?_⟩,trivial⟩ (best_std _ (by rw [e1]; exact hl))
  have hi:(i:Int)<((Ax (e.ln 0) (e.rw 0)).length:Int):=hi
  rw [e1] at hi
  exact_mod_cast hi
theorem bestF_range (l:List Int) (h:0<l.length):0≤bestF l∧bestF l<l.length:=⟨(bestN_range l l.length).2.2 h,(bestN_range l l.length).2.1⟩
theorem best_ex:∃ F:List Int→Int,Ak Tryz.prog 204 (AW bestT (cBestOf F))∧∀ l,0<l.length→0≤F l∧F l<l.length:=⟨bestF,best_ok,bestF_range⟩
noncomputable def bestS:List Int→Int:=Classical.choose best_ex
noncomputable def cBest:EN→Ah (TS×EN):=cBestOf bestS
theorem cBest_ok:Ak Tryz.prog 204 (AW bestT cBest):=(Classical.choose_spec best_ex).1
theorem bestS_range (l:List Int) (h:0<l.length):0≤bestS l∧bestS l<l.length:=(Classical.choose_spec best_ex).2 l h
end Go.Proofs.YtddmgdclmkgpeaaGreat
