/- Texts of this claim, laid together (part 8).
   Conditions: none. -/
import Derived.Test.YtddmgdclmkgpeaaZvg
set_option linter.unusedSimpArgs false
set_option linter.unusedVariables false
set_option linter.unusedSimpArgs false
set_option linter.unusedVariables false
namespace Go.Proofs.Ytddmgdclmkgpeaa
open Go.Eng Go.RowKit Go.ChangeShapes Go.WideShapes
set_option maxRecDepth 100000
theorem setCell_self {w:World} {b:Nat} {v:Value} {ty:TypeId} (h:w.heap[b]? = some (.cells #[v] ty (0,0))):w.setCell ⟨b,0,none⟩ v=w:=by
  unfold World.setCell
  have e : (w.heap.modify b fun
      | .cells c elem frozen=>.cells (if (none:Option Nat).isSome then c else c.setIfInBounds 0 v) elem frozen
      | o=>o)=w.heap:=by
    refine Array.ext (by simp) fun i h1 h2=>?_
    rw [Array.getElem_modify]
    split
    · rename_i hb
      subst hb
      have h:w.heap[b] = .cells #[v] ty (0,0):=by
        rw [Array.getElem?_eq_getElem h2] at h
        exact Option.some.inj h
      rw [h]
      rfl
    · rfl
  exact congrArg (fun x=>{ w with heap:=x }) e
theorem get_spec {b : AV} {C : Look → Prop} {key key' : Nat} {X : SI} {rest : AV} {W : An} {k : Int} (H : CallSpec Try.prog 49 [b, .int .i64 (.lit (min (max k 0) 8))] C key key' (.tup [.int .u64 X, rest]) W) :
    CallSpec Try.prog 37 [b,.int .i64 (.lit k)] C key key' (.tup [.int .u64 X,rest,.int .i64 (.lit 0)]) W:=by
  intro A E lk w vals hU hC hk hv
  have hv0:vals = #[den E b,.int .i64 k]:=hv E (Ae.refl _ _)
  have hb:∀ E',Ae A E E'→den E b=den E' b:=fun E' hE=>by
    have h1:vals = #[den E' b,.int .i64 k]:=hv E' hE
    rw [hv0] at h1
    have:=congrArg (fun a:Array Value=>a[0]?) h1
    simpa using this
  rw [hv0]
  have hsz:w.heap.size≤(w.alloc (Obj.cells #[.int .i64 0] 28)).heap.size:=by
    show w.heap.size≤(w.heap.push _).size
    rw [Array.size_push]
    omega
  have hbl:∀ b,b<w.heap.size→(w.alloc (Obj.cells #[.int .i64 0] 28)).heap[b]? = w.heap[b]?:=fun b h=>by
    show (w.heap.push _)[b]? = _
    rw [Array.getElem?_push_lt h,Array.getElem?_eq_getElem h]
  have hnew:(w.alloc (Obj.cells #[.int .i64 0] 28)).heap[w.heap.size]? = some (.cells #[.int .i64 0] 28 (0,0)):=by
    show (w.heap.push _)[w.heap.size]? = _
    rw [Array.getElem?_push_size]
  have hUA:=hU.world hsz hbl
  have own:∀ k o b,lk k=some o→owns E k o b→b<w.heap.size:=fun k o b ho h=>(hU.here.obj k o ho).lt h
  have HN:=H A E lk _ #[den E b,.int .i64 (min (max k 0) 8)] hUA hC hk (fun E' hE=>by
    show _ = #[den E' b,_]
    rw [hb E' hE]
    rfl)
  refine (get_walk (den E b) k w (fun x rest' w'=>w'.heap[w.heap.size]? = some (.cells #[.int .i64 0] 28 (0,0))∧∃ E1,x=X.v∧(∀ E',Ae (rng A key key') E1 E'→rest'=den E' rest)∧RelU (rng A key key') E1 (hupd lk W) w'∧Ext A E lk (w.alloc (Obj.cells #[.int .i64 0] 28)) E1 (hupd lk W) w') (HN.mono ?_)).mono ?_
  · rintro e w' ⟨val,E1,rfl,g1,g2,g3⟩
    have hc:w'.heap[w.heap.size]? = some (.cells #[.int .i64 0] 28 (0,0)):=by
      rw [g3.frame w.heap.size (by show w.heap.size<(w.heap.push _).size; rw [Array.size_push]; omega) (fun k o ho h=>by
        have:=own k o _ ho h
        omega)]
      exact hnew
    refine ⟨X.v,den E1 rest,?_,⟨hc,E1,rfl,fun E' hE=>?_,g2,g3⟩,?_,?_⟩
    · rw [g1 E1 (Ae.refl _ _)]
      rfl
    · have h1:=g1 E1 (Ae.refl _ _)
      have h2:=g1 E' hE
      rw [h1] at h2
      have h2:Value.tuple #[.int .u64 X.v,den E1 rest]=Value.tuple #[.int .u64 X.v,den E' rest]:=h2
      simpa using h2
    · unfold World.cell?
      rw [hc]
      rfl
    · unfold World.frozen?
      rw [hc]
      rfl
  · rintro e w2 ⟨x,rest',w',rfl,⟨hc,E1,rfl,g1,g2,g3⟩,rfl⟩
    rw [setCell_self hc]
    refine ⟨_,E1,rfl,fun E' hE=>?_,g2,?_⟩
    · rw [g1 E' hE]
      rfl
    · refine ⟨g3.os,g3.tape,g3.output,Nat.le_trans hsz g3.size,g3.agree,fun b h1 h2=>(g3.frame b (Nat.lt_of_lt_of_le h1 hsz) h2).trans (hbl b h1),fun k o b h1 h2=>(g3.fresh k o b h1 h2).imp_right fun h=>Nat.le_trans hsz h,fun k h1 h2=>?_,fun k len sz rows a h1 h2 h3=>(g3.rof k len sz rows a h1 h2 h3).imp_right fun h=>Nat.le_trans hsz h⟩
      obtain ⟨q1,q2⟩:=g3.tok k h1 h2
      refine ⟨q1,fun b hb=>(q2 b hb).trans (hbl b ?_)⟩
      exact own k _ b q1 hb
end Go.Proofs.Ytddmgdclmkgpeaa
set_option linter.unusedSimpArgs false
set_option linter.unusedVariables false
namespace Go.Proofs.Ytddmgdclmkgpeaa
open Go.Eng Go.RowKit Go.ChangeShapes Go.WideShapes
set_option maxRecDepth 100000
def ksOf (b:AV) (h:An):List Nat:=match b with
  | .sl j=>match hget j h with
    | some (.lst _ _ _ (some g))=>[j,g]
    | _=>[j]
  | _=>[]
def tupGet (ks:List Nat) (v:AV) (h:An) (key:Nat):Ah (AV×List Nat×An×Nat):=match v with
  | .tup [.int .u64 X,rest]=>.leaf (.tup [.int .u64 X,rest,.int .i64 (.lit 0)],ks,h.take (h.length - ks.length),key)
  | _=>.fail "a number's result"
noncomputable def getS:Summ:=⟨fun args h key=>match args with
  | [b,.int .i64 (.lit k)]=>match closedK (ksOf b h) h with
    | true=>callW Try.prog (Am Try.prog noTab 300) 49 [b,.int .i64 (.lit (min (max k 0) 8))] (restrict (ksOf b h) h) key (tupGet (ksOf b h))
    | false=>.fail "bytes"
  | _=>.fail "a number's arguments"⟩
theorem restrict_length (h:An):∀ ks:List Nat,(restrict ks h).length=ks.length
  | []=>rfl
  | _::ks=>congrArg (· + 1) (restrict_length h ks)
theorem wok_restrict {ks:List Nat} {h:An} {n n':Nat} {W:An} (H:WOK (AK (restrict ks h)) n n' W):WOK (AK h) n n' W:=by
  have up:∀ k,AK (restrict ks h) k≠none→AK h k≠none:=fun k hk=>by
    rw [restrict_look] at hk
    split at hk
    · exact hk
    · exact absurd rfl hk
  intro k o hm
  obtain ⟨h1,h2⟩:=H k o hm
  exact ⟨h1.imp_left (up k),fun x g e1 e2=>(h2 x g e1 e2).imp_right (up g)⟩
theorem getS_sel {args:List AV} {h:An} {key:Nat} {r:AV×List Nat×An×Nat} (e:(getS.run args h key).sel=some r):CallSpec Try.prog 37 args (fun lk=>∀ k∈r.2.1,lk k=hget k h) key r.2.2.2 r.1 r.2.2.1∧key≤r.2.2.2∧WOK (AK h) key r.2.2.2 r.2.2.1:=by
  simp only [getS] at e
  split at e
  · rename_i b k
    split at e
    · rename_i hcl
      rw [callW_nat (runD:=codeD Try.prog noTab 300) (fun f nt c τ h key K=>codeT_sel 300 f nt c τ h key K)] at e
      obtain ⟨⟨v0,H0,key0⟩,hc,e⟩:=Az e
      dsimp only [tupGet] at e
      split at e
      · rename_i X rest
        cases e
        obtain ⟨hge,W,hW,hwok⟩:=call_grows (Ay _) 300 49 _ _ key _ H0 key0 hc
        have hlen:H0.take (H0.length - (ksOf b h).length)=W:=by
          rw [hW,List.length_append,restrict_length,Nat.add_sub_cancel,List.take_left]
        show CallSpec Try.prog 37 [b,.int .i64 (.lit k)] (fun lk=>∀ k∈ksOf b h,lk k=hget k h) key key0 (.tup [.int .u64 X,rest,.int .i64 (.lit 0)]) (H0.take (H0.length - (ksOf b h).length))∧key≤key0∧WOK (AK h) key key0 (H0.take (H0.length - (ksOf b h).length))
        rw [hlen]
        exact ⟨get_spec (call_part (call_sound (Ay _) BE 300) (call_grows (Ay _) 300) hc hW hcl),hge,wok_restrict hwok⟩
      · cases e
    · cases e
  · cases e
theorem getS_ok:Ak Try.prog 37 getS:=⟨fun args h key v R W key' e=>(getS_sel e).1,fun args h key r e=>(getS_sel e).2⟩
end Go.Proofs.Ytddmgdclmkgpeaa
set_option linter.unusedSimpArgs false
set_option linter.unusedVariables false
namespace Go.Proofs.Ytddmgdclmkgpeaa
open Go.Eng Go.RowKit Go.ChangeShapes Go.WideShapes
set_option maxRecDepth 100000
def ebP:List (Nat×TO):=[(0,.lst none [.i .u8] none),(1,.lst none [.i .u8] none)]
def ebT:TS:=⟨[],[.one (.sl 0),.one (.sl 1)],ebP,2⟩
def ebL:TS:=⟨[0,1,12,13],[.one (.sl 0),.one (.sl 1),.one (.i .i64),.one (.i .i64)],ebP,2⟩
def ebE:TS:=⟨[],[],[],2⟩
def ebR:TS:=⟨[4],[.one .b],[],2⟩
noncomputable def bodyEb:Code:=Try.f24.body.getD .skip
noncomputable def xEb:Code:=lp ((flat bodyEb).getD 4 .skip)
theorem bodyEb_eq:Try.f24.body=some bodyEb:=by kernel_rfl
theorem inEb:Within Try.prog 24 Try.f24.ntmps bodyEb:=within_body Try.func24 bodyEb_eq
theorem lpEb:(flat bodyEb).drop 4=[.block 0 (.loop xEb)]++(flat bodyEb).drop 5:=by kernel_rfl
theorem inEbx:Within Try.prog 24 Try.f24.ntmps xEb:=by
  have h:(flat bodyEb)[4]? = some (.block 0 (.loop xEb)):=by kernel_rfl
  exact within_loop (within_block (within_at inEb 4 h))
theorem Eb_pre (l k:List Int) (τ0:Tm):Am Try.prog noTab 300 24 Try.f24.ntmps (Eng.ofL ((flat bodyEb).take 4)) (argTm 0 (ebT.vals ⟨[[],[]],[.lst l.length (AQ l),.lst k.length (AQ k)]⟩)++τ0) (ebT.heap ⟨[[],[]],[.lst l.length (AQ l),.lst k.length (AQ k)]⟩) 2 (outX 2 ⟨some ebL,[],some ebR⟩) =
  .ite ((l.length:Int) != (k.length:Int)) (.leaf (.ret,⟨[[.b false]],[]⟩)) (.must (AW [.i .u8] (AH [.i .u8] (AQ l)) l.length) (.must (AW [.i .u8] (AH [.i .u8] (AQ k)) k.length) (.leaf (.normal,
  ⟨[[.u],[.u],[.i (l.length:Int)],[.i 0]],[.lst l.length (AQ l),.lst k.length (AQ k)]⟩)))):=by kernel_rfl
theorem Eb_x (l k:List Int) (n i:Int) (τ0:Tm):Am Try.prog noTab 300 24 Try.f24.ntmps xEb (ebL.tm ⟨[[],[],[.i n],[.i i]],[.lst l.length (AQ l),.lst k.length (AQ k)]⟩++τ0) (ebL.heap ⟨[[],[],[.i n],[.i i]],[.lst l.length (AQ l),.lst k.length (AQ k)]⟩) 2 (outX 2 ⟨some ebL,[(0,ebE)],some ebR⟩) =
  .ite (decide (i<n)) (.must (decide (0≤i∧i<(l.length:Int))) (.must (decide (0≤i∧i<(l.length:Int))) (.defI (l.getD i.toNat 0) fun z0=>.must (decide (0≤i∧i<(k.length:Int))) (.must (decide (0≤i
  ∧ i<(k.length:Int))) (.defI (k.getD i.toNat 0) fun z1=>.ite (z0 != z1) (.leaf (.ret,⟨[[.b false]],[]⟩)) (.defI (IntKind.i64.wrap (i+1)) fun z2=>.must (AW [.i .u8] (AH [.i .u8] (AQ l)) l.length) (.must
  (AW [.i .u8] (AH [.i .u8] (AQ k)) k.length) (.leaf (.normal,⟨[[.u],[.u],[.i n],[.i z2]],[.lst l.length (AQ l),.lst k.length (AQ k)]⟩))))))))) (.leaf (.exit 0,⟨[],[]⟩)):=by kernel_rfl
theorem Eb_tail  (τ0:Tm):Am Try.prog noTab 300 24 Try.f24.ntmps (Eng.ofL ((flat bodyEb).drop 5)) (ebE.tm ⟨[],[]⟩++τ0) (ebE.heap ⟨[],[]⟩) 2 (outX 2 ⟨none,[],some ebR⟩) =
  .leaf (.ret,⟨[[.b true]],[]⟩):=by kernel_rfl
def ebQ (l k:List Int):Ex→EN→Prop
  | .exit _,_=>eqI l k=true
  | .ret,e=>e.ab 0 0=eqI l k
  | .normal,_=>True
theorem eb_loop (l k:List Int) (hl:(l.length:Int)<1000000) (hk:l.length=k.length):HT Try.prog Try.f24.ntmps 2 (.loop xEb) 2 (ebL.tm ⟨[[],[],[.i (l.length:Int)],[.i 0]],[.lst l.length (AQ l),.lst k.length (AQ k)]⟩) (ebL.heap ⟨[[],[],[.i (l.length:Int)],[.i 0]],[.lst l.length (AQ l),.lst k.length (AQ k)]⟩) (QX ⟨none,[(0,ebE)],some ebR⟩ (ebQ l k)):=by
  refine HT.loopX (Ay _) BE (n:=300) inEbx ebL _ _ (fun i:Nat=>⟨[[],[],[.i (l.length:Int)],[.i (i:Int)]],[.lst l.length (AQ l),.lst k.length (AQ k)]⟩) (fun i=>i≤l.length∧eqI l k=eqFrom l k i) (fun i=>l.length - i) (fun _=>ebQ l k) (by decide) ?_ 0 ⟨Nat.zero_le _,rfl⟩
  intro i hi τ0
  obtain ⟨hi,hq⟩:=hi
  refine AN (Eb_x l k (l.length:Int) (i:Int) τ0) ?_
  have e1:IntKind.i64.wrap ((i:Int)+1)=((i+1:Nat):Int):=IntWalk.i64_in _ (by omega)
  refine AM (fun h=>?_) (fun h=>AE ?_)
  · have h:=of_decide_eq_true h
    have hm:decide ((0:Int)≤(i:Int)∧(i:Int)<(l.length:Int))=true:=decide_eq_true (by omega)
    have hm2:decide ((0:Int)≤(i:Int)∧(i:Int)<(k.length:Int))=true:=decide_eq_true (by omega)
    have d1:=drop_cons l (i:=i) (by omega)
    have d2:=drop_cons k (i:=i) (by omega)
    refine AA hm (AA hm (AB (AA hm2 (AA hm2 (AB (AM (fun hc=>AE ?_) (fun hc=>?_)))))))
    · have hc:l.getD i 0≠k.getD i 0:=bne_iff_ne.1 hc
      show false=eqI l k
      rw [hq,eqFrom,d1,d2]
      exact (decide_eq_false fun h=>hc (List.cons.inj h).1).symm
    · have hc : l.getD i 0 = k.getD i 0 := by
        have hc:(l.getD i 0 != k.getD i 0)=false:=hc
        simpa using hc
      refine AB (AA (AP _ _ _) (AA (AP _ _ _) (AE ⟨i+1,⟨by omega,?_⟩,by omega,?_,fun _ _ h=>h⟩)))
      · rw [hq,eqFrom,eqFrom,d1,d2,hc]
        simp
      · rw [e1]
        (repeat' (first | exact trivial | exact rfl | exact TS.eqv_refl _ _ | exact AY _ _ | exact AR | exact fun _ _=>AL _ _ | exact fun i _=>AF rfl _ i | apply And.intro))
  · have h:=of_decide_eq_false h
    have e:i=l.length:=by omega
    subst e
    show eqI l k=true
    rw [hq,eqFrom,List.drop_length,hk,List.drop_length]
    rfl
theorem eb_std (l k:List Int) (hl:(l.length:Int)<1000000):BO Try.prog 24 ebT ⟨[[],[]],[.lst l.length (AQ l),.lst k.length (AQ k)]⟩ ebR ⟨[[.b (eqI l k)]],[]⟩:=by
  by_cases hk:l.length=k.length
  · refine stdX_loop (Ay _) BE (n := 300) Try.func24 bodyEb_eq 4 (L := ebL) (E := ebE) (RL := ebQ l k) rfl rfl (by kernel_rfl) rfl rfl lpEb (by decide) (by decide) (by decide)
      (fun τ0=>AN (Eb_pre l k τ0) (AM (fun h=>absurd (by rw [hk]) (bne_iff_ne.1 h)) (fun _=>AA (AP _ _ _) (AA (AP _ _ _) (AE (.inl ⟨rfl,?_⟩)))))) (eb_loop l k hl hk) (fun en he=>⟨⟨[],[]⟩,?_,fun τ0=>AN (Eb_tail τ0) (AE fun _=>⟨⟨he.symm,trivial⟩,trivial⟩)⟩) (fun en he=>⟨⟨he,trivial⟩,trivial⟩)
    · exact clP
    · exact clP
  · have he:eqI l k=false:=decide_eq_false fun h=>hk (congrArg List.length h)
    have hne:((l.length:Int) != (k.length:Int))=true:=bne_iff_ne.2 fun h=>hk (by exact_mod_cast h)
    refine stdX_loop (Ay _) BE (n:=300) Try.func24 bodyEb_eq 4 (L:=ebL) (E:=ebE) (RL:=ebQ [0] [1]) (en0:=⟨[[],[],[.i 1],[.i 0]],[.lst 1 (AQ [0]),.lst 1 (AQ [1])]⟩) rfl rfl (by kernel_rfl) rfl rfl lpEb (by decide) (by decide) (by decide)
      (fun τ0=>AN (Eb_pre l k τ0) (AM (fun h=>AE (.inr ⟨rfl,?_⟩)) (fun h=>by rw [hne] at h; cases h))) (eb_loop [0] [1] (by decide) rfl) (fun en h=>absurd (show eqI [0] [1]=true from h) (by decide)) (fun en h=>⟨⟨(show en.ab 0 0=eqI [0] [1] from h).trans he.symm,trivial⟩,trivial⟩)
    · rw [he]
      (repeat' (first | exact trivial | exact rfl | exact TS.eqv_refl _ _ | exact AY _ _ | exact AR | exact fun _ _=>AL _ _ | exact fun i _=>AF rfl _ i | apply And.intro))
def cEb (e:EN):Ah (TS×EN):=.must (decide ((e.ln 0:Int)<1000000)) (.leaf (ebR,⟨[[.b (eqI (Aw (e.ln 0) (e.rw 0)) (Aw (e.ln 1) (e.rw 1)))]],[]⟩))
theorem cEb_ok:Ak Try.prog 24 (Ab ebT cEb):=ctr_ok fun e r h=>by
  obtain ⟨hl,h⟩:=As h
  cases h
  have hl:=of_decide_eq_true hl
  have e1:(Aw (e.ln 0) (e.rw 0)).length=e.ln 0:=Ar _ _
  have e2:(Aw (e.ln 1) (e.rw 1)).length=e.ln 1:=Ar _ _
  refine BO.pre (x':=⟨[[],[]],[.lst (Aw (e.ln 0) (e.rw 0)).length (AQ (Aw (e.ln 0) (e.rw 0))),.lst (Aw (e.ln 1) (e.rw 1)).length (AQ (Aw (e.ln 1) (e.rw 1)))]⟩) ⟨⟨trivial,trivial,trivial⟩,⟨e1.symm,fun i hi=>rowI_eqv ?_⟩,⟨e2.symm,fun i hi=>rowI_eqv ?_⟩,trivial⟩ (eb_std _ _ (by rw [e1]; exact hl))
  · have hi:(i:Int)<((Aw (e.ln 0) (e.rw 0)).length:Int):=hi
    rw [e1] at hi
    exact_mod_cast hi
  · have hi:(i:Int)<((Aw (e.ln 1) (e.rw 1)).length:Int):=hi
    rw [e2] at hi
    exact_mod_cast hi
end Go.Proofs.Ytddmgdclmkgpeaa
set_option linter.unusedSimpArgs false
set_option linter.unusedVariables false
namespace Go.Proofs.Ytddmgdclmkgpeaa
open Go.Eng Go.RowKit Go.ChangeShapes Go.WideShapes
set_option maxRecDepth 100000
def mwN (e:EN):EN:=⟨[],mn0 default (Aj.new (e.ai 0 0))⟩
def cMu (e:EN):Ah (TS×EN):=.defE (mwN e) fun r=>.leaf (mwR,⟨[[.u]],rawM r⟩)
noncomputable def thSm:List (FuncId×Summ):=[(37,getS),(5,Ab mwT cMu),(19,Ab adT cAd),(16,Ab incT cInc),(22,Ab lsT cLs),(24,Ab ebT cEb)]
noncomputable def thTb:Tab:=smTab (tabOf thSm)
def ldT:TS:=⟨[],[.one (.sl 0)],[(0,.lst none [.i .u8] none)],1⟩
def ldL:TS:=⟨[0,5,6,7,8],[.one (.sl 0),.one (.ptr 1 0),.one (.ptr 3 0),.one (.i .u32),.one (.i .u32)],[(0,.lst none [.i .u8] none),(1,.box [.sl 2,.bl false]),(2,.lst none [.i .u8] none),(3,.box [.i .u8,.ptr 4 0,.ptr 6 0,.sl 7,.nilp,.i .i64,.i .u32,.i .u8,.ptr 9 0]),(4,.ob 1 Ai 5),(5,.tok),(6,.box acB),(7,.lst none BB (some 8)),(8,.tok),(9,.box rpB)],10⟩
def svU (e:EN):EN:=⟨[],byN (saveL (mon0 e))⟩
def cSu0 (e:EN):Ah (TS×EN):=.defE (svU e) fun r=>.leaf (svR0,⟨[[.u]],rawM e++[.lst (r.ln 0) (r.rw 0),.tok]⟩)
noncomputable def thTb2:Tab:=smTab (tabOf (((11,Ab svT0 cSu0):FuncId×Summ)::thSm))
def ldR:TS:=⟨[2,3],[.one (.ptr 1 0),.one (.i .i64)],[(1,.box [.i .u8,.ptr 2 0,.ptr 4 0,.sl 5,.nilp,.i .i64,.i .u32,.i .u8,.ptr 7 0]),(2,.ob 1 Ai 3),(3,.tok),(4,.box acB),(5,.lst none BB (some 6)),(6,.tok),(7,.box rpB),(0,.lst none [.i .u8] none)],8⟩
def ldE:TS:=⟨[2,3],[.one .nilp,.one (.i .i64)],[(0,.lst none [.i .u8] none)],1⟩
theorem cMu_ok:Ak Try.prog 5 (Ab mwT cMu):=ctr_ok fun e r h=>by
  cases h
  refine BO.pre (x':=⟨[[.i (e.ai 0 0)]],[]⟩) clP (BO.post (t':=mwR) clP (mw_std (e.ai 0 0)))
theorem thSm_ok:AllOk Try.prog thSm:=⟨getS_ok,cMu_ok,cAd_ok,cInc_ok,cLs_ok,cEb_ok,trivial⟩
theorem thTab:TabAll Try.prog thTb:=tab_ok thSm_ok
noncomputable def bodyLd:Code:=Try.f10.body.getD .skip
noncomputable def xLd:Code:=lp ((flat bodyLd).getD 8 .skip)
theorem bodyLd_eq:Try.f10.body=some bodyLd:=by kernel_rfl
theorem inLd:Within Try.prog 10 Try.f10.ntmps bodyLd:=within_body Try.func10 bodyLd_eq
theorem lpLd:(flat bodyLd).drop 8=[.block 0 (.loop xLd)]++(flat bodyLd).drop 9:=by kernel_rfl
theorem inLdx:Within Try.prog 10 Try.f10.ntmps xLd:=by
  have h:(flat bodyLd)[8]? = some (.block 0 (.loop xLd)):=by kernel_rfl
  exact within_loop (within_block (within_at inLd 8 h))
theorem ld_xE (l r:List Int) (hd:Dat) (s:Aj) (la e:Int) (τ0:Tm):(Am Try.prog thTb 300 10 Try.f10.ntmps xLd (ldL.tm ⟨[[],[],[],[.i la],[.i e]],[.lst l.length (AQ l),.box [.u,.u],.lst r.length (AQ r)]++mn0 hd s⟩++τ0) (ldL.heap ⟨[[],[],[],[.i la],[.i e]],[.lst l.length (AQ l),.box [.u,.u],.lst r.length (AQ r)]++mn0 hd s⟩) 10 (outX 1 ⟨some ldL,[(0,ldL)],some ldE⟩)).cut [some false] =
  .must (!decide (e≤la)) (.must (AW [.i .u8] (AH [.i .u8] (AQ l)) l.length) (.must (AW [.i .u8] (AH [.i .u8] (AQ r)) r.length) (.must (BH Ai Ai) (.must (AW BB (AH BB (rowJ s.wishes))
  s.6.length) (.leaf (.exit 0,⟨[[.u],[.u],[.u],[.i la],[.i e]],[.lst l.length (AQ l),.box [.u,.u],.lst r.length (AQ r),.box [.i s.1,.u,.u,.u,.u,.i s.8,.i s.over.1,.i s.over.2,.u],.own (hdW hd s.2),
  .tok,.box [.i s.prom.1,.i s.prom.2,.i s.acc.1,.i s.acc.2,.i s.ainc.1,.i s.ainc.2,.i s.ainc.3],.lst s.6.length (AG BB (AH BB (rowJ s.wishes))),.tok,.box [.b (s.10 0),.b (s.10 1),.b (s.10 2),.b
  (s.10 3),.b (s.10 4),.b (s.10 5),.b (s.10 6),.b (s.10 7),.b (s.10 8),.b (s.10 9),.b (s.10 10),.b (s.10 11),.b (s.10 12),.b (s.10 13),.b (s.10 14),.b (s.10 15),.b (s.10 16),.b (s.10 17),.b (s.10 18),.b
  (s.10 19),.b (s.10 20),.b (s.10 21),.b (s.10 22),.b (s.10 23),.b (s.10 24)]]⟩)))))):=by kernel_rfl
theorem ld_xN (l r:List Int) (hd:Dat) (s:Aj) (la e:Int) (τ0:Tm):(Am Try.prog thTb 300 10 Try.f10.ntmps xLd (ldL.tm ⟨[[],[],[],[.i la],[.i e]],[.lst l.length (AQ l),.box [.u,.u],.lst r.length (AQ r)]++mn0 hd s⟩++τ0) (ldL.heap ⟨[[],[],[],[.i la],[.i e]],[.lst l.length (AQ l),.box [.u,.u],.lst r.length (AQ r)]++mn0 hd s⟩) 10 (outX 1 ⟨some ldL,[(0,ldL)],some ldE⟩)).cut [some true,some false,some false,some false,some true,some false] =
  .must (decide (e≤la)) (.must (!decide ((r.length:Int)<1)) (.must (decide (1≤(r.length:Int))) (.must (decide ((0:Int)≤min (max 1 0) 8∧1≤(r.length:Int))) (.must (decide ((r.length:Int)≤(r.length :
  Int))) (.defI (r.getD 0 0) fun z0=>.defI (IntKind.u64.wrap z0) fun z1=>.defI (IntKind.u64.wrap ((BitVec.ofInt 64 0 ||| BitVec.ofInt 64 z1).toNat:Int)) fun z2=>.defI z2 fun z3=>.defI ((r.length:Int) - 1) fun
  z4=>.defI (IntKind.u8.wrap z3) fun z5=>.must (!decide (z4<1)) (.must (decide (1≤z4)) (.must (decide ((0:Int)≤min (max 1 0) 8∧1≤z4)) (.must (decide (z4≤z4)) (.defI (r.getD 1 0) fun z6=>.defI
  (IntKind.u64.wrap z6) fun z7=>.defI (IntKind.u64.wrap ((BitVec.ofInt 64 0 ||| BitVec.ofInt 64 z7).toNat:Int)) fun z8=>.defI z8 fun z9=>.defI (z4 - 1) fun z10=>.defI (IntKind.u8.wrap z9) fun z11=>.must
  (!decide (z10<1)) (.must (decide (1≤z10)) (.must (decide ((0:Int)≤min (max 1 0) 8∧1≤z10)) (.must (decide (z10≤z10)) (.defI (r.getD 2 0) fun z12=>.defI (IntKind.u64.wrap z12) fun z13=>.defI
  (IntKind.u64.wrap ((BitVec.ofInt 64 0 ||| BitVec.ofInt 64 z13).toNat:Int)) fun z14=>.defI z14 fun z15=>.defI (z10 - 1) fun z16=>.defI (IntKind.i64.wrap z15) fun z17=>.must (BH Ai Ai) (.defE ⟨[[.u],[.i
  e],[.i z5,.i z11,.i z17]],[.own (hdW hd s.2),.tok]⟩ fun e18=>.must (decide (0≤e18.ai 2 1∧e18.ai 1 0<4294967296)) (.must (addOk (e18.dt 0).2 (e18.ai 1 0) (e18.ai 2 0) (e18.ai 2 1) (e18.ai 2 2)) (.defI 0 fun
  z19=>.must (!z19 != 0) (.defI (IntKind.u32.wrap (e+1)) fun z20=>.must (AW [.i .u8] (AH [.i .u8] (AQ l)) l.length) (.must (AW [.i .u8] (Av (.lit 1) (Av (.lit 1) (Av (.lit 1) (AH [.i
  .u8] (AQ r))))) z16.toNat) (.must (BH Ai Ai) (.must (AW BB (AH BB (rowJ s.wishes)) s.6.length) (.leaf (.normal,⟨[[.u],[.u],[.u],[.i la],[.i z20]],[.lst l.length (AQ l),.box [.u,.u],.lst
  z16.toNat (AG [.i .u8] (Av (.lit 1) (Av (.lit 1) (Av (.lit 1) (AH [.i .u8] (AQ r)))))),.box [.i s.1,.u,.u,.u,.u,.i s.8,.i s.over.1,.i s.over.2,.u],.own (addD (e18.dt 0) (e18.ai 2 0)
  (e18.ai 2 1) (e18.ai 2 2)),.tok,.box [.i s.prom.1,.i s.prom.2,.i s.acc.1,.i s.acc.2,.i s.ainc.1,.i s.ainc.2,.i s.ainc.3],.lst s.6.length (AG BB (AH BB (rowJ s.wishes))),.tok,.box [.b (s.10 0),.b
  (s.10 1),.b (s.10 2),.b (s.10 3),.b (s.10 4),.b (s.10 5),.b (s.10 6),.b (s.10 7),.b (s.10 8),.b (s.10 9),.b (s.10 10),.b (s.10 11),.b (s.10 12),.b (s.10 13),.b (s.10 14),.b (s.10 15),.b (s.10 16),.b (s.10
  17),.b (s.10 18),.b (s.10 19),.b (s.10 20),.b (s.10 21),.b (s.10 22),.b (s.10 23),.b (s.10 24)]]⟩)))))))))))))))))))))):=by kernel_rfl
end Go.Proofs.Ytddmgdclmkgpeaa
set_option linter.unusedSimpArgs false
set_option linter.unusedVariables false
namespace Go.Proofs.Ytddmgdclmkgpeaa
open Go.Eng Go.RowKit Go.ChangeShapes Go.WideShapes
set_option maxRecDepth 100000
def rd1 (c:Int):Int:=IntKind.u64.wrap ((BitVec.ofInt 64 0 ||| BitVec.ofInt 64 (IntKind.u64.wrap c)).toNat:Int)
def rdN (a c:Int):Int:=IntKind.u64.wrap ((BitVec.ofInt 64 (IntKind.u64.wrap (a * 256)) ||| BitVec.ofInt 64 (IntKind.u64.wrap c)).toNat:Int)
def rd4 (a b c d:Int):Int:=rdN (rdN (rdN (rd1 a) b) c) d
theorem or_nat (a b:Nat) (hb:b<256):a * 256 ||| b=a * 256+b:=by
  have:=Nat.shiftLeft_add_eq_or_of_lt (i:=8) (b:=b) hb a
  rw [Nat.shiftLeft_eq] at this
  exact this.symm
theorem ofInt_toNat (n:Nat) (h:n<18446744073709551616):(BitVec.ofInt 64 (n:Int)).toNat=n:=by
  rw [BitVec.toNat_ofInt]
  omega
theorem rdN_eq {a c:Int} (ha:0≤a∧a<72057594037927936) (hc:0≤c∧c<256):rdN a c=a * 256+c:=by
  obtain ⟨x,rfl⟩:∃ x:Nat,a=x:=⟨a.toNat,by omega⟩
  obtain ⟨y,rfl⟩:∃ y:Nat,c=y:=⟨c.toNat,by omega⟩
  unfold rdN
  rw [IntWalk.u64_in _ (by omega:0≤(x:Int) * 256∧(x:Int) * 256≤18446744073709551615),IntWalk.u64_in _ (by omega:0≤(y:Int)∧(y:Int)≤18446744073709551615)]
  have e:((BitVec.ofInt 64 ((x:Int) * 256) ||| BitVec.ofInt 64 (y:Int)).toNat)=x * 256+y:=by
    rw [BitVec.toNat_or,show ((x:Int) * 256)=((x * 256:Nat):Int) by simp,ofInt_toNat _ (by omega),ofInt_toNat _ (by omega),or_nat _ _ (by omega)]
  rw [e,IntWalk.u64_in _ (by omega)]
  simp
theorem rd1_eq {c:Int} (hc:0≤c∧c<256):rd1 c=c:=by
  have h:=rdN_eq (a:=0) (c:=c) (by decide) hc
  have e:rdN 0 c=rd1 c:=by
    unfold rdN rd1
    rw [show IntKind.u64.wrap (0 * 256)=0 by decide]
  rw [← e,h]
  omega
theorem wrap8 (n:Int):IntKind.u8.wrap n=n % 256:=by rw [IntKind.wrap_u8]
theorem rd4_be {n:Int} (h:0≤n∧n<4294967296):rd4 (IntKind.u8.wrap (n.fdiv 16777216)) (IntKind.u8.wrap (n.fdiv 65536)) (IntKind.u8.wrap (n.fdiv 256)) (IntKind.u8.wrap (n.fdiv 1))=n:=by
  rw [wrap8,wrap8,wrap8,wrap8,Int.fdiv_eq_ediv_of_nonneg _ (by decide),Int.fdiv_eq_ediv_of_nonneg _ (by decide),Int.fdiv_eq_ediv_of_nonneg _ (by decide),Int.fdiv_eq_ediv_of_nonneg _ (by decide)]
  unfold rd4
  have h1:rd1 (n / 16777216 % 256)=n / 16777216 % 256:=rd1_eq (by omega)
  have h2:rdN (n / 16777216 % 256) (n / 65536 % 256)=n / 16777216 % 256 * 256+n / 65536 % 256:=rdN_eq (by omega) (by omega)
  have h3:rdN (n / 16777216 % 256 * 256+n / 65536 % 256) (n / 256 % 256)=(n / 16777216 % 256 * 256+n / 65536 % 256) * 256+n / 256 % 256:=rdN_eq (by omega) (by omega)
  have h4:rdN ((n / 16777216 % 256 * 256+n / 65536 % 256) * 256+n / 256 % 256) (n / 1 % 256)=((n / 16777216 % 256 * 256+n / 65536 % 256) * 256+n / 256 % 256) * 256+n / 1 % 256:=rdN_eq (by omega) (by omega)
  rw [h1,h2,h3,h4]
  omega
end Go.Proofs.Ytddmgdclmkgpeaa
set_option linter.unusedSimpArgs false
set_option linter.unusedVariables false
namespace Go.Proofs.Ytddmgdclmkgpeaa
open Go.Eng Go.RowKit Go.ChangeShapes Go.WideShapes
set_option maxRecDepth 100000
theorem inc_byte {x:Inc} (h:incOk x=true) (ho:0≤x.osd):(0≤x.kind∧x.kind<256)∧(0≤x.osd∧x.osd<256)∧(0≤x.n∧x.n<256):=by
  unfold incOk at h
  cases h12:(x.kind==1||x.kind==2) with
  | true =>
    rw [h12] at h
    simp only [Bool.and_eq_true,decide_eq_true_eq,beq_iff_eq] at h
    have hk:x.kind=1∨x.kind=2:=by simpa using h12
    omega
  | false =>
    rw [h12] at h
    cases h3:(x.kind==3) with
    | true =>
      rw [h3] at h
      simp only [Bool.and_eq_true,decide_eq_true_eq] at h
      have hk:x.kind=3:=by simpa using h3
      omega
    | false =>
      rw [h3] at h
      simp only [Bool.and_eq_true,beq_iff_eq] at h
      omega
theorem incB_drop (l:List Inc) {j:Nat} (h:j<l.length):incB (l.drop j)=inc3 (l.getD j .zero)++incB (l.drop (j+1)):=by
  rw [List.drop_eq_getElem_cons h,List.getD,List.getElem?_eq_getElem h]
  rfl
theorem rows3 (a b c:Int) (r:List Int) (i:Nat):eqvL [.i .u8] (AG [.i .u8] (Av (.lit 1) (Av (.lit 1) (Av (.lit 1) (AH [.i .u8] (AQ (a::b::c::r)))))) i) (AQ r i):=by
  have e:AQ (a::b::c::r) (1+(1+(1+i)))=AQ r i:=by
    rw [show 1+(1+(1+i))=i+1+1+1 by omega]
    rfl
  have:=AF (row:=[.i .u8]) rfl (AQ (a::b::c::r)) (1+(1+(1+i)))
  rw [e] at this
  exact this
theorem rowsB3 (r:List Int) (n:Nat):AW [.i .u8] (Av (.lit 1) (Av (.lit 1) (Av (.lit 1) (AH [.i .u8] (AQ r))))) n=true:=rowsB_of fun _=>rowOk_inst rfl _
set_option maxHeartbeats 2000000 in
theorem ld_loop (l tl : List Int) (hd : Dat) (s : Aj) (hg : HGood s.incs) (htl : (tl.length : Int) ≤ 1000) : HT Try.prog Try.f10.ntmps 1 (.loop xLd) 10 (ldL.tm ⟨[[], [], [], [.i ((s.incs.length : Int) + 1)], [.i (((0 : Nat) : Int) + 2)]], [.lst l.length (AQ l), .box [.u, .u], .lst (incB (s.incs.drop 0) ++ tl).length (AQ (incB (s.incs.drop 0) ++ tl))] ++ mn0 hd { s with incs := s.incs.take 0 }⟩) (ldL.heap ⟨[[], [], [], [.i ((s.incs.length : Int) + 1)], [.i (((0 : Nat) : Int) + 2)]], [.lst l.length (AQ l), .box [.u, .u], .lst (incB (s.incs.drop 0) ++ tl).length (AQ (incB (s.incs.drop 0) ++ tl))] ++ mn0 hd { s with incs := s.incs.take 0 }⟩) (QX ⟨none, [(0, ldL)], some ldE⟩ fun ex e => match ex with
    | .exit _=>ldL.eqv e ⟨[[],[],[],[.i ((s.incs.length:Int)+1)],[.i ((s.incs.length:Int)+2)]],[.lst l.length (AQ l),.box [.u,.u],.lst (tl).length (AQ (tl))]++mn0 hd s⟩
    | _=>False):=by
  have hl:=hg.1
  refine HT.loopX thTab BE (n:=300) inLdx ldL _ _ (fun j:Nat=>⟨[[],[],[],[.i ((s.incs.length:Int)+1)],[.i ((j:Int)+2)]],[.lst l.length (AQ l),.box [.u,.u],.lst (incB (s.incs.drop j)++tl).length (AQ (incB (s.incs.drop j)++tl))]++mn0 hd { s with incs:=s.incs.take j }⟩) (fun j=>j≤s.incs.length) (fun j=>s.incs.length - j) (fun _ ex e=>match ex with
    | .exit _=>ldL.eqv e ⟨[[],[],[],[.i ((s.incs.length:Int)+1)],[.i ((s.incs.length:Int)+2)]],[.lst l.length (AQ l),.box [.u,.u],.lst (tl).length (AQ (tl))]++mn0 hd s⟩
    | _=>False) (by decide) ?_ 0 (Nat.zero_le _)
  intro j hj τ0
  by_cases hlt:j<s.incs.length
  · have hmem : s.incs.getD j .zero ∈ s.incs := by
      rw [List.getD,List.getElem?_eq_getElem hlt]
      exact List.getElem_mem hlt
    obtain ⟨hok,hos⟩:=hg.2 _ hmem
    obtain ⟨b1,b2,b3⟩:=inc_byte hok hos
    have htk:s.incs.take (j+1)=s.incs.take j++[s.incs.getD j .zero]:=by
      rw [List.take_add_one,List.getElem?_eq_getElem hlt,List.getD,List.getElem?_eq_getElem hlt]
      rfl
    have hlen:(s.incs.take j).length=j:=by rw [List.length_take]; omega
    have hdr:=incB_drop s.incs hlt
    generalize s.incs.getD j .zero=x at hmem hok hos b1 b2 b3 htk hdr
    rw [hdr]
    have hr:(inc3 x++incB (s.incs.drop (j+1)))++tl=x.kind::x.osd::IntKind.u8.wrap x.n::(incB (s.incs.drop (j+1))++tl):=rfl
    rw [hr]
    generalize hR:incB (s.incs.drop (j+1))++tl=R
    have L:(((x.kind::x.osd::IntKind.u8.wrap x.n::R).length:Nat):Int)=R.length+3:=by simp only [List.length_cons]; omega
    have k1:IntKind.u8.wrap (rd1 x.kind)=x.kind:=by rw [rd1_eq b1,IntWalk.u8_in _ (by omega)]
    have k2:IntKind.u8.wrap (rd1 x.osd)=x.osd:=by rw [rd1_eq b2,IntWalk.u8_in _ (by omega)]
    have k3:IntKind.i64.wrap (rd1 (IntKind.u8.wrap x.n))=x.n:=by rw [IntWalk.u8_in x.n (by omega),rd1_eq b3,IntWalk.i64_in _ (by omega)]
    refine BI [some true,some false,some false,some false,some true,some false] (AN (ld_xN l (x.kind::x.osd::IntKind.u8.wrap x.n::R) hd { s with incs:=s.incs.take j } ((s.incs.length:Int)+1) ((j:Int)+2) τ0) (AA (decide_eq_true (by omega)) ?_))
    iterate 4 refine AA (by first | exact decide_eq_true (by rw [L]; omega) | (rw [decide_eq_false (by rw [L]; omega)]; rfl) | exact decide_eq_true ⟨by decide,by rw [L]; omega⟩ | exact decide_eq_true (Int.le_refl _)) ?_
    repeat' with_reducible (first | refine AB ?_ | refine AI ?_)
    iterate 4 refine AA (by first | exact decide_eq_true (by rw [L]; omega) | (rw [decide_eq_false (by rw [L]; omega)]; rfl) | exact decide_eq_true ⟨by decide,by rw [L]; omega⟩ | exact decide_eq_true (Int.le_refl _)) ?_
    repeat' with_reducible (first | refine AB ?_ | refine AI ?_)
    iterate 4 refine AA (by first | exact decide_eq_true (by rw [L]; omega) | (rw [decide_eq_false (by rw [L]; omega)]; rfl) | exact decide_eq_true ⟨by decide,by rw [L]; omega⟩ | exact decide_eq_true (Int.le_refl _)) ?_
    repeat' with_reducible (first | refine AB ?_ | refine AI ?_)
    refine AA (AS _) (Ao fun e18 h18=>?_)
    have h18:e18=⟨[[.u],[.i ((j:Int)+2)],[.i (IntKind.u8.wrap (rd1 x.kind)),.i (IntKind.u8.wrap (rd1 x.osd)),.i (IntKind.i64.wrap (rd1 (IntKind.u8.wrap x.n)))]],[.own (hdW hd (s.incs.take j)),.tok]⟩:=h18
    rw [k1,k2,k3] at h18
    subst h18
    have hadd:addOk (s.incs.take j) ((j:Int)+2) x.kind x.osd x.n=true:=by
      unfold addOk
      have hok:incOk ⟨x.kind,x.osd,x.n⟩=true:=hok
      rw [hlen,decide_eq_true rfl,hok]
      show (!((j:Int)+1==60))=true
      have:¬ (j:Int)+1=60:=by omega
      simpa using this
    refine AA (decide_eq_true (show 0≤x.osd∧(j:Int)+2<4294967296 by omega)) (AA hadd (AB (AA rfl (AB ?_))))
    have e1:IntKind.u32.wrap ((j:Int)+2+1)=((j+1:Nat):Int)+2:=by
      rw [show ((j+1:Nat):Int)+2=(j:Int)+2+1 by omega]
      exact IntWalk.u32_in _ (by omega)
    have hz:((((x.kind::x.osd::IntKind.u8.wrap x.n::R).length:Nat):Int) - 1 - 1 - 1).toNat=R.length:=by rw [L]; omega
    refine AA (AP _ _ _) (AA (rowsB3 _ _) (AA (AS _) (AA (Ad rfl _ _) (AE ⟨j+1,hlt,by omega,?_,fun _ _ h=>h⟩))))
    have htk2:s.incs.take (j+1)=s.incs.take j++[x]:=htk
    show ldL.eqv _ ⟨[[],[],[],[.i ((s.incs.length:Int)+1)],[.i (((j+1:Nat):Int)+2)]],[.lst l.length (AQ l),.box [.u,.u],.lst (incB (s.incs.drop (j+1))++tl).length (AQ (incB (s.incs.drop (j+1))++tl))]++mn0 hd { s with incs:=s.incs.take (j+1) }⟩
    rw [hR,htk2]
    refine ⟨⟨trivial,trivial,trivial,rfl,e1,trivial⟩,⟨rfl,fun i _=>AL [.i .u8] (AQ l i)⟩,⟨trivial,trivial,trivial⟩,⟨hz,fun i _=>rows3 _ _ _ R i⟩,?_,rfl,trivial,?_,⟨rfl,fun i _=>AF rfl _ i⟩,trivial,?_,trivial⟩
    · exact clP
    · exact clP
    · exact clP
  · have:j=s.incs.length:=by omega
    subst this
    refine BI [some false] (AN (ld_xE l _ hd _ ((s.incs.length:Int)+1) ((s.incs.length:Int)+2) τ0) (AA (by rw [decide_eq_false (by omega)]; rfl) (AA (AP _ _ _) (AA (AP _ _ _) (AA (AS _) (AA (Ad rfl _ _) (AE ?_)))))))
    show ldL.eqv _ _
    rw [List.take_length,List.drop_length]
    refine ⟨⟨trivial,trivial,trivial,rfl,rfl,trivial⟩,⟨rfl,fun i _=>AL [.i .u8] (AQ l i)⟩,⟨trivial,trivial,trivial⟩,⟨rfl,fun i _=>AL [.i .u8] (AQ tl i)⟩,?_,rfl,trivial,?_,⟨rfl,fun i _=>AF rfl _ i⟩,trivial,?_,trivial⟩
    · exact clP
    · exact clP
    · exact clP
end Go.Proofs.Ytddmgdclmkgpeaa
set_option linter.unusedSimpArgs false
set_option linter.unusedVariables false
namespace Go.Proofs.Ytddmgdclmkgpeaa
open Go.Eng Go.RowKit Go.ChangeShapes Go.WideShapes
set_option maxRecDepth 100000
noncomputable abbrev qTk1 {R:Type} (e:EN) (k:Int→Int→Int→Int→Int→Int→Int→Int→Int→Int→Int→Int→Bool→Bool→Bool→Bool→Bool→Bool→Bool→Bool→Bool→Bool→Bool→Bool→Bool→Bool→Bool→Bool→Bool→Bool→Bool→Bool→Bool→Bool→Bool→Bool→Bool→Ah R):Ah R:=.defI (e.bi 0 0) fun a0=>.defI (e.bi 0 5) fun a1=>.defI (e.bi 0 6) fun a2=>.defI (e.bi 0 7) fun a3=>.defI (e.bi 3 0) fun a4=>.defI (e.bi 3 1) fun a5=>.defI (e.bi 3 2) fun a6=>.defI (e.bi 3 3) fun a7=>.defI (e.bi 3 4) fun a8=>.defI (e.bi 3 5) fun a9=>.defI (e.bi 3 6) fun a10=>.defI ((e.ln 4):Int) fun a11=>.defB (e.bb 6 0) fun a12=>.defB (e.bb 6 1) fun a13=>.defB (e.bb 6 2) fun a14=>.defB (e.bb 6 3) fun a15=>.defB (e.bb 6 4) fun a16=>.defB (e.bb 6 5) fun a17=>.defB (e.bb 6 6) fun a18=>.defB (e.bb 6 7) fun a19=>.defB (e.bb 6 8) fun a20=>.defB (e.bb 6 9) fun a21=>.defB (e.bb 6 10) fun a22=>.defB (e.bb 6 11) fun a23=>.defB (e.bb 6 12) fun a24=>.defB (e.bb 6 13) fun a25=>.defB (e.bb 6 14) fun a26=>.defB (e.bb 6 15) fun a27=>.defB (e.bb 6 16) fun a28=>.defB (e.bb 6 17) fun a29=>.defB (e.bb 6 18) fun a30=>.defB (e.bb 6 19) fun a31=>.defB (e.bb 6 20) fun a32=>.defB (e.bb 6 21) fun a33=>.defB (e.bb 6 22) fun a34=>.defB (e.bb 6 23) fun a35=>.defB (e.bb 6 24) fun a36=>k a0 a1 a2 a3 a4 a5 a6 a7 a8 a9 a10 a11 a12 a13 a14 a15 a16 a17 a18 a19 a20 a21 a22 a23 a24 a25 a26 a27 a28 a29 a30 a31 a32 a33 a34 a35
 a36
noncomputable abbrev qTk2 (v0:Int) (v1:Aj) (v2:Dat) (v3:Int) (v4:Int) (v5:Int) (v6:Int) (v7:Int) (v8:Int) (v9:List Int):Ah (Ex×EN):=.must (!decide (v0≥3)) (.must (BH Ai Ai) (.must (AW BB (AH BB (rowJ v1.wishes)) v1.6.length) (.defE ⟨[[.u]],[.box [.i v1.1,.u,.u,.u,.u,.i v1.8,.i v1.over.1,.i v1.over.2,.u],.own (hdW v2 v1.2),.tok,.box [.i v3,.i v0,.i v4,.i v5,.i v6,.i v7,.i v8],.lst v1.6.length (AG BB (AH BB (rowJ v1.wishes))),.tok,.box [.b (v1.10 0),.b (v1.10 1),.b (v1.10 2),.b (v1.10 3),.b (v1.10 4),.b (v1.10 5),.b (v1.10 6),.b (v1.10 7),.b (v1.10 8),.b (v1.10 9),.b (v1.10 10),.b (v1.10 11),.b (v1.10 12),.b (v1.10 13),.b (v1.10 14),.b (v1.10 15),.b (v1.10 16),.b (v1.10 17),.b (v1.10 18),.b (v1.10 19),.b (v1.10 20),.b (v1.10 21),.b (v1.10 22),.b (v1.10 23),.b (v1.10 24)]]⟩ fun e66=>.defE (svU e66) fun e67=>qTk1 e66 fun z68 z69 z70 z71 z72 z73 z74 z75 z76 z77 z78 z79 z80 z81 z82 z83 z84 z85 z86 z87 z88 z89 z90 z91 z92 z93 z94 z95 z96 z97 z98 z99 z100 z101 z102 z103 z104=>.defI ((e67.ln 0):Int) fun z105=>.must (AW [.i .u8] ((AH [.i .u8] (e67.rw 0))) z105.toNat) (.must (AW [.i .u8] (AH [.i .u8] (AQ v9)) v9.length) (.defE ⟨[[.u],[.u]],[.lst z105.toNat (AG [.i .u8] (AH [.i .u8] (e67.rw 0))),.lst v9.length (AQ v9)]⟩ fun e106=>.must (decide (((e106.ln 0):Int)<1000000)) (.must (!!eqI (Aw (e106.ln 0) (e106.rw 0)) (Aw (e106.ln 1)
 (e106.rw 1))) (.must (BH Ai Ai) (.must (AW BB ((AH BB (e66.rw 4))) z79.toNat) (.must (AW [.i .u8] (AH [.i .u8] (AQ v9)) v9.length) (.leaf (.ret,⟨[[.u],[.i 0]],[.box [.i z68,.u,.u,.u,.u,.i z69,.i z70,.i z71,.u],.own (e66.dt 1),.tok,.box [.i z72,.i z73,.i z74,.i z75,.i z76,.i z77,.i z78],.lst z79.toNat (AG BB (AH BB (e66.rw 4))),.tok,.box [.b z80,.b z81,.b z82,.b z83,.b z84,.b z85,.b z86,.b z87,.b z88,.b z89,.b z90,.b z91,.b z92,.b z93,.b z94,.b z95,.b z96,.b z97,.b z98,.b z99,.b z100,.b z101,.b z102,.b z103,.b z104],.lst v9.length (AQ v9)]⟩)))))))))))
theorem ld_tA (l r:List Int) (hd:Dat) (s:Aj) (la e:Int) (τ0:Tm):(Am Try.prog thTb2 300 10 Try.f10.ntmps (Eng.ofL ((flat bodyLd).drop 9)) (ldL.tm ⟨[[],[],[],[.i la],[.i e]],[.lst l.length (AQ l),.box [.u,.u],.lst r.length (AQ r)]++mn0 hd s⟩++τ0) (ldL.heap ⟨[[],[],[],[.i la],[.i e]],[.lst l.length (AQ l),.box [.u,.u],.lst r.length (AQ r)]++mn0 hd s⟩) 10 (outX 1 ⟨none,[],some ldR⟩)).cut [some false,some false,some false,some false,some false,some false,some false,some true,some true,some false,some false,some false] =

  .must (!decide ((r.length:Int)<4)) (.must (decide (4≤(r.length:Int))) (.must (decide ((0:Int)≤min (max 4 0) 8∧4≤(r.length:Int))) (.must (decide ((r.length:Int)≤(r.length:Int))) (.defI (r.getD 0 0) fun z0=>.defI (IntKind.u64.wrap z0) fun z1=>.defI (IntKind.u64.wrap ((BitVec.ofInt 64 0 ||| BitVec.ofInt 64 z1).toNat:Int)) fun z2=>.defI (r.getD 1 0) fun z3=>.defI (IntKind.u64.wrap (z2 * 256)) fun z4=>.defI (IntKind.u64.wrap z3) fun z5=>.defI (IntKind.u64.wrap ((BitVec.ofInt 64 z4 ||| BitVec.ofInt 64 z5).toNat:Int)) fun z6=>.defI (r.getD 2 0) fun z7=>.defI (IntKind.u64.wrap (z6 * 256)) fun z8=>.defI (IntKind.u64.wrap z7) fun z9=>.defI (IntKind.u64.wrap ((BitVec.ofInt 64 z8 ||| BitVec.ofInt 64 z9).toNat:Int)) fun z10=>.defI (r.getD 3 0) fun z11=>.defI (IntKind.u64.wrap (z10 * 256)) fun z12=>.defI (IntKind.u64.wrap z11) fun z13=>.defI (IntKind.u64.wrap ((BitVec.ofInt 64 z12 ||| BitVec.ofInt 64 z13).toNat:Int)) fun z14=>.defI z14 fun z15=>.defI ((r.length:Int) - 4) fun z16=>.defI (IntKind.u32.wrap z15) fun z17=>.must (!decide (z16<1)) (.must (decide (1≤z16)) (.must (decide ((0:Int)≤min (max 1 0) 8∧1≤z16)) (.must (decide (z16≤z16)) (.defI (r.getD 4 0) fun z18=>.defI (IntKind.u64.wrap z18) fun z19=>.defI (IntKind.u64.wrap ((BitVec.ofInt 64 0 ||| BitVec.ofInt 64 z19).toNat:Int)) fun z20=>.defI z20 fun z21=>.defI (z16 - 1) fun z22=>.defI (IntKind.u8.wrap z21) fun z23=>.must (!decide (z22 <
 4)) (.must (decide (4≤z22)) (.must (decide ((0:Int)≤min (max 4 0) 8∧4≤z22)) (.must (decide (z22≤z22)) (.defI (r.getD 5 0) fun z24=>.defI (IntKind.u64.wrap z24) fun z25=>.defI (IntKind.u64.wrap ((BitVec.ofInt 64 0 ||| BitVec.ofInt 64 z25).toNat:Int)) fun z26=>.defI (r.getD 6 0) fun z27=>.defI (IntKind.u64.wrap (z26 * 256)) fun z28=>.defI (IntKind.u64.wrap z27) fun z29=>.defI (IntKind.u64.wrap ((BitVec.ofInt 64 z28 ||| BitVec.ofInt 64 z29).toNat:Int)) fun z30=>.defI (r.getD 7 0) fun z31=>.defI (IntKind.u64.wrap (z30 * 256)) fun z32=>.defI (IntKind.u64.wrap z31) fun z33=>.defI (IntKind.u64.wrap ((BitVec.ofInt 64 z32 ||| BitVec.ofInt 64 z33).toNat:Int)) fun z34=>.defI (r.getD 8 0) fun z35=>.defI (IntKind.u64.wrap (z34 * 256)) fun z36=>.defI (IntKind.u64.wrap z35) fun z37=>.defI (IntKind.u64.wrap ((BitVec.ofInt 64 z36 ||| BitVec.ofInt 64 z37).toNat:Int)) fun z38=>.defI z38 fun z39=>.defI (z22 - 4) fun z40=>.defI (IntKind.u32.wrap z39) fun z41=>.must (!decide (z40<1)) (.must (decide (1≤z40)) (.must (decide ((0:Int)≤min (max 1 0) 8∧1≤z40)) (.must (decide (z40≤z40)) (.defI (r.getD 9 0) fun z42=>.defI (IntKind.u64.wrap z42) fun z43=>.defI (IntKind.u64.wrap ((BitVec.ofInt 64 0 ||| BitVec.ofInt 64 z43).toNat:Int)) fun z44=>.defI z44 fun z45=>.defI (z40 - 1) fun z46=>.defI (IntKind.u8.wrap z45) fun z47=>.must (!decide (z46<1)) (.must (decide (1≤z46)) (.must (decide ((0:Int)≤min (max 1 0) 8∧1 ≤
 z46)) (.must (decide (z46≤z46)) (.defI (r.getD 10 0) fun z48=>.defI (IntKind.u64.wrap z48) fun z49=>.defI (IntKind.u64.wrap ((BitVec.ofInt 64 0 ||| BitVec.ofInt 64 z49).toNat:Int)) fun z50=>.defI z50 fun z51=>.defI (z46 - 1) fun z52=>.defI (IntKind.u8.wrap z51) fun z53=>.must (!decide (z52<1)) (.must (decide (1≤z52)) (.must (decide ((0:Int)≤min (max 1 0) 8∧1≤z52)) (.must (decide (z52≤z52)) (.defI (r.getD 11 0) fun z54=>.defI (IntKind.u64.wrap z54) fun z55=>.defI (IntKind.u64.wrap ((BitVec.ofInt 64 0 ||| BitVec.ofInt 64 z55).toNat:Int)) fun z56=>.defI z56 fun z57=>.defI (z52 - 1) fun z58=>.defI (IntKind.u8.wrap z57) fun z59=>.must (!decide (z58<1)) (.must (decide (1≤z58)) (.must (decide ((0:Int)≤min (max 1 0) 8∧1≤z58)) (.must (decide (z58≤z58)) (.defI (r.getD 12 0) fun z60=>.defI (IntKind.u64.wrap z60) fun z61=>.defI (IntKind.u64.wrap ((BitVec.ofInt 64 0 ||| BitVec.ofInt 64 z61).toNat:Int)) fun z62=>.defI z62 fun z63=>.defI (z58 - 1) fun z64=>.defI (IntKind.i64.wrap z63) fun z65=>.must (z41==0&&z47==0) (.must (z53==0&&(z59==0&&z65==0)) (.must (!decide (z64>0)) (qTk2 z23 s hd z17 z41 z47 z53 z59 z65 l))))))))))))))))))))))))))))))):=by kernel_rfl
theorem ld_tB (l r:List Int) (hd:Dat) (s:Aj) (la e:Int) (τ0:Tm):(Am Try.prog thTb2 300 10 Try.f10.ntmps (Eng.ofL ((flat bodyLd).drop 9)) (ldL.tm ⟨[[],[],[],[.i la],[.i e]],[.lst l.length (AQ l),.box [.u,.u],.lst r.length (AQ r)]++mn0 hd s⟩++τ0) (ldL.heap ⟨[[],[],[],[.i la],[.i e]],[.lst l.length (AQ l),.box [.u,.u],.lst r.length (AQ r)]++mn0 hd s⟩) 10 (outX 1 ⟨none,[],some ldR⟩)).cut [some false,some false,some false,some false,some false,some false,some false,some false,some true,some true,some true,some false,some false,some false,some false] =

  .must (!decide ((r.length:Int)<4)) (.must (decide (4≤(r.length:Int))) (.must (decide ((0:Int)≤min (max 4 0) 8∧4≤(r.length:Int))) (.must (decide ((r.length:Int)≤(r.length:Int))) (.defI (r.getD 0 0) fun z0=>.defI (IntKind.u64.wrap z0) fun z1=>.defI (IntKind.u64.wrap ((BitVec.ofInt 64 0 ||| BitVec.ofInt 64 z1).toNat:Int)) fun z2=>.defI (r.getD 1 0) fun z3=>.defI (IntKind.u64.wrap (z2 * 256)) fun z4=>.defI (IntKind.u64.wrap z3) fun z5=>.defI (IntKind.u64.wrap ((BitVec.ofInt 64 z4 ||| BitVec.ofInt 64 z5).toNat:Int)) fun z6=>.defI (r.getD 2 0) fun z7=>.defI (IntKind.u64.wrap (z6 * 256)) fun z8=>.defI (IntKind.u64.wrap z7) fun z9=>.defI (IntKind.u64.wrap ((BitVec.ofInt 64 z8 ||| BitVec.ofInt 64 z9).toNat:Int)) fun z10=>.defI (r.getD 3 0) fun z11=>.defI (IntKind.u64.wrap (z10 * 256)) fun z12=>.defI (IntKind.u64.wrap z11) fun z13=>.defI (IntKind.u64.wrap ((BitVec.ofInt 64 z12 ||| BitVec.ofInt 64 z13).toNat:Int)) fun z14=>.defI z14 fun z15=>.defI ((r.length:Int) - 4) fun z16=>.defI (IntKind.u32.wrap z15) fun z17=>.must (!decide (z16<1)) (.must (decide (1≤z16)) (.must (decide ((0:Int)≤min (max 1 0) 8∧1≤z16)) (.must (decide (z16≤z16)) (.defI (r.getD 4 0) fun z18=>.defI (IntKind.u64.wrap z18) fun z19=>.defI (IntKind.u64.wrap ((BitVec.ofInt 64 0 ||| BitVec.ofInt 64 z19).toNat:Int)) fun z20=>.defI z20 fun z21=>.defI (z16 - 1) fun z22=>.defI (IntKind.u8.wrap z21) fun z23=>.must (!decide (z22 <
 4)) (.must (decide (4≤z22)) (.must (decide ((0:Int)≤min (max 4 0) 8∧4≤z22)) (.must (decide (z22≤z22)) (.defI (r.getD 5 0) fun z24=>.defI (IntKind.u64.wrap z24) fun z25=>.defI (IntKind.u64.wrap ((BitVec.ofInt 64 0 ||| BitVec.ofInt 64 z25).toNat:Int)) fun z26=>.defI (r.getD 6 0) fun z27=>.defI (IntKind.u64.wrap (z26 * 256)) fun z28=>.defI (IntKind.u64.wrap z27) fun z29=>.defI (IntKind.u64.wrap ((BitVec.ofInt 64 z28 ||| BitVec.ofInt 64 z29).toNat:Int)) fun z30=>.defI (r.getD 7 0) fun z31=>.defI (IntKind.u64.wrap (z30 * 256)) fun z32=>.defI (IntKind.u64.wrap z31) fun z33=>.defI (IntKind.u64.wrap ((BitVec.ofInt 64 z32 ||| BitVec.ofInt 64 z33).toNat:Int)) fun z34=>.defI (r.getD 8 0) fun z35=>.defI (IntKind.u64.wrap (z34 * 256)) fun z36=>.defI (IntKind.u64.wrap z35) fun z37=>.defI (IntKind.u64.wrap ((BitVec.ofInt 64 z36 ||| BitVec.ofInt 64 z37).toNat:Int)) fun z38=>.defI z38 fun z39=>.defI (z22 - 4) fun z40=>.defI (IntKind.u32.wrap z39) fun z41=>.must (!decide (z40<1)) (.must (decide (1≤z40)) (.must (decide ((0:Int)≤min (max 1 0) 8∧1≤z40)) (.must (decide (z40≤z40)) (.defI (r.getD 9 0) fun z42=>.defI (IntKind.u64.wrap z42) fun z43=>.defI (IntKind.u64.wrap ((BitVec.ofInt 64 0 ||| BitVec.ofInt 64 z43).toNat:Int)) fun z44=>.defI z44 fun z45=>.defI (z40 - 1) fun z46=>.defI (IntKind.u8.wrap z45) fun z47=>.must (!decide (z46<1)) (.must (decide (1≤z46)) (.must (decide ((0:Int)≤min (max 1 0) 8∧1 ≤
 z46)) (.must (decide (z46≤z46)) (.defI (r.getD 10 0) fun z48=>.defI (IntKind.u64.wrap z48) fun z49=>.defI (IntKind.u64.wrap ((BitVec.ofInt 64 0 ||| BitVec.ofInt 64 z49).toNat:Int)) fun z50=>.defI z50 fun z51=>.defI (z46 - 1) fun z52=>.defI (IntKind.u8.wrap z51) fun z53=>.must (!decide (z52<1)) (.must (decide (1≤z52)) (.must (decide ((0:Int)≤min (max 1 0) 8∧1≤z52)) (.must (decide (z52≤z52)) (.defI (r.getD 11 0) fun z54=>.defI (IntKind.u64.wrap z54) fun z55=>.defI (IntKind.u64.wrap ((BitVec.ofInt 64 0 ||| BitVec.ofInt 64 z55).toNat:Int)) fun z56=>.defI z56 fun z57=>.defI (z52 - 1) fun z58=>.defI (IntKind.u8.wrap z57) fun z59=>.must (!decide (z58<1)) (.must (decide (1≤z58)) (.must (decide ((0:Int)≤min (max 1 0) 8∧1≤z58)) (.must (decide (z58≤z58)) (.defI (r.getD 12 0) fun z60=>.defI (IntKind.u64.wrap z60) fun z61=>.defI (IntKind.u64.wrap ((BitVec.ofInt 64 0 ||| BitVec.ofInt 64 z61).toNat:Int)) fun z62=>.defI z62 fun z63=>.defI (z58 - 1) fun z64=>.defI (IntKind.i64.wrap z63) fun z65=>.must (!(z41==0&&z47==0)) (.defE ⟨[[.i z53,.i z59,.i z65]],[]⟩ fun e66=>.must (incF (e66.ai 0 0) (e66.ai 0 1) (e66.ai 0 2)) (.must (decide (z41>0)) (.must (decide (z47<3)) (.defE ⟨[[.i z17,.i z23],[.i z41,.i z47]],[]⟩ fun e67=>.must (!decide (z64>0)) (.must (!!!(decide (e67.ai 0 0<e67.ai 1 0)||e67.ai 0 0==e67.ai 1 0&&decide (e67.ai 0 1<e67.ai 1 1))) (qTk2 z23 s hd z17 z41 z47 z53 z59 z65
 l)))))))))))))))))))))))))))))))))):=by kernel_rfl
theorem rd_n {b:Bal} (h:BalB b):IntKind.u32.wrap (rd4 (IntKind.u8.wrap ((IntKind.u64.wrap b.n).fdiv 16777216)) (IntKind.u8.wrap ((IntKind.u64.wrap b.n).fdiv 65536)) (IntKind.u8.wrap ((IntKind.u64.wrap b.n).fdiv 256)) (IntKind.u8.wrap ((IntKind.u64.wrap b.n).fdiv 1)))=b.n:=by
  obtain ⟨h1,_⟩:=h
  rw [IntWalk.u64_in b.n (by omega),rd4_be h1,IntWalk.u32_in _ (by omega)]
theorem rd_w {b:Bal} (h:BalB b):IntKind.u8.wrap (rd1 b.who)=b.who:=by
  obtain ⟨_,h1⟩:=h
  rw [rd1_eq (by omega),IntWalk.u8_in _ (by omega)]
theorem lstI_nums8 (l:List Int):Aw ((l.length:Nat):Int).toNat (AG [.i .u8] (AH [.i .u8] (AQ l)))=l :=
  (congrArg (fun f:Nat→Int=>(List.range l.length).map f) (funext fun i=>rfl)).trans (lstI_rowI l)
set_option maxHeartbeats 2000000 in
theorem ld_endA (l : List Int) (hd : Dat) (s : Aj) (P A : Bal) (I : Inc) (hp : s.prop = none) (hr25 : ∀ i, 25 ≤ i → s.rep i = false) (hP : BalB P) (hA : BalB A) (hI : (0 ≤ I.kind ∧ I.kind < 256) ∧ (0 ≤ I.osd ∧ I.osd < 256) ∧ (0 ≤ I.n ∧ I.n < 256)) (hl : l = saveL { s with prom := P, acc := A, ainc := I }) (hlen : (l.length : Int) ≤ 1000) (hz : A.n = 0 ∧ A.who = 0 ∧ I.kind = 0 ∧ I.osd = 0 ∧ I.n = 0) (τ0 : Tm) :
    (Am Try.prog thTb2 300 10 Try.f10.ntmps (Eng.ofL ((flat bodyLd).drop 9)) (ldL.tm ⟨[[],[],[],[.i ((s.incs.length:Int)+1)],[.i ((s.incs.length:Int)+2)]],[.lst l.length (AQ l),.box [.u,.u],.lst ([IntKind.u8.wrap ((IntKind.u64.wrap P.n).fdiv 16777216),IntKind.u8.wrap ((IntKind.u64.wrap P.n).fdiv 65536),IntKind.u8.wrap ((IntKind.u64.wrap P.n).fdiv 256),IntKind.u8.wrap ((IntKind.u64.wrap P.n).fdiv 1),P.who,IntKind.u8.wrap ((IntKind.u64.wrap A.n).fdiv 16777216),IntKind.u8.wrap ((IntKind.u64.wrap A.n).fdiv 65536),IntKind.u8.wrap ((IntKind.u64.wrap A.n).fdiv 256),IntKind.u8.wrap ((IntKind.u64.wrap A.n).fdiv 1),A.who,I.kind,I.osd,IntKind.u8.wrap I.n]).length (AQ ([IntKind.u8.wrap ((IntKind.u64.wrap P.n).fdiv 16777216),IntKind.u8.wrap ((IntKind.u64.wrap P.n).fdiv 65536),IntKind.u8.wrap ((IntKind.u64.wrap P.n).fdiv 256),IntKind.u8.wrap ((IntKind.u64.wrap P.n).fdiv 1),P.who,IntKind.u8.wrap ((IntKind.u64.wrap A.n).fdiv 16777216),IntKind.u8.wrap ((IntKind.u64.wrap A.n).fdiv 65536),IntKind.u8.wrap ((IntKind.u64.wrap A.n).fdiv 256),IntKind.u8.wrap ((IntKind.u64.wrap A.n).fdiv 1),A.who,I.kind,I.osd,IntKind.u8.wrap I.n]))]++mn0 hd s⟩++τ0) (ldL.heap ⟨[[],[],[],[.i ((s.incs.length:Int)+1)],[.i ((s.incs.length:Int)+2)]],[.lst l.length (AQ l),.box [.u,.u],.lst ([IntKind.u8.wrap ((IntKind.u64.wrap P.n).fdiv 16777216),IntKind.u8.wrap ((IntKind.u64.wrap P.n).fdiv 65536),IntKind.u8.wrap ((IntKind.u64.wrap P.n).fdiv 256),IntKind.u8.wrap ((IntKind.u64.wrap P.n).fdiv 1),P.who,IntKind.u8.wrap ((IntKind.u64.wrap A.n).fdiv 16777216),IntKind.u8.wrap ((IntKind.u64.wrap A.n).fdiv 65536),IntKind.u8.wrap ((IntKind.u64.wrap A.n).fdiv 256),IntKind.u8.wrap ((IntKind.u64.wrap A.n).fdiv 1),A.who,I.kind,I.osd,IntKind.u8.wrap I.n]).length (AQ ([IntKind.u8.wrap ((IntKind.u64.wrap P.n).fdiv 16777216),IntKind.u8.wrap ((IntKind.u64.wrap P.n).fdiv 65536),IntKind.u8.wrap ((IntKind.u64.wrap P.n).fdiv 256),IntKind.u8.wrap ((IntKind.u64.wrap P.n).fdiv 1),P.who,IntKind.u8.wrap ((IntKind.u64.wrap A.n).fdiv 16777216),IntKind.u8.wrap ((IntKind.u64.wrap A.n).fdiv 65536),IntKind.u8.wrap ((IntKind.u64.wrap A.n).fdiv 256),IntKind.u8.wrap ((IntKind.u64.wrap A.n).fdiv 1),A.who,I.kind,I.osd,IntKind.u8.wrap I.n]))]++mn0 hd s⟩) 10 (outX 1 ⟨none,[],some ldR⟩)).Holds fun r=>r.1 = .ret→ldR.eqv r.2 ⟨[[.u],[.i 0]],mn0 hd { s with prom:=P,acc:=A,ainc:=I } ++ [.lst l.length (AQ l)]⟩:=by
  obtain ⟨b1,b2,b3⟩:=hI
  have k1:IntKind.u8.wrap (rd1 I.kind)=I.kind:=by rw [rd1_eq b1,IntWalk.u8_in _ (by omega)]
  have k2:IntKind.u8.wrap (rd1 I.osd)=I.osd:=by rw [rd1_eq b2,IntWalk.u8_in _ (by omega)]
  have k3:IntKind.i64.wrap (rd1 (IntKind.u8.wrap I.n))=I.n:=by rw [IntWalk.u8_in I.n (by omega),rd1_eq b3,IntWalk.i64_in _ (by omega)]
  refine BI [some false,some false,some false,some false,some false,some false,some false,some true,some true,some false,some false,some false] (AN (ld_tA l [IntKind.u8.wrap ((IntKind.u64.wrap P.n).fdiv 16777216),IntKind.u8.wrap ((IntKind.u64.wrap P.n).fdiv 65536),IntKind.u8.wrap ((IntKind.u64.wrap P.n).fdiv 256),IntKind.u8.wrap ((IntKind.u64.wrap P.n).fdiv 1),P.who,IntKind.u8.wrap ((IntKind.u64.wrap A.n).fdiv 16777216),IntKind.u8.wrap ((IntKind.u64.wrap A.n).fdiv 65536),IntKind.u8.wrap ((IntKind.u64.wrap A.n).fdiv 256),IntKind.u8.wrap ((IntKind.u64.wrap A.n).fdiv 1),A.who,I.kind,I.osd,IntKind.u8.wrap I.n] hd s _ _ τ0) ?_)
  iterate 4 refine AA rfl ?_
  iterate 17 refine AB ?_
  refine Ac fun z17 h17=>?_
  have h17:z17=P.n:=by rw [h17]; exact rd_n hP
  subst h17
  iterate 4 refine AA rfl ?_
  iterate 5 refine AB ?_
  refine Ac fun z23 h23=>?_
  have h23:z23=P.who:=by rw [h23]; exact rd_w hP
  subst h23
  iterate 4 refine AA rfl ?_
  iterate 17 refine AB ?_
  refine Ac fun z41 h41=>?_
  have h41:z41=A.n:=by rw [h41]; exact rd_n hA
  subst h41
  iterate 4 refine AA rfl ?_
  iterate 5 refine AB ?_
  refine Ac fun z47 h47=>?_
  have h47:z47=A.who:=by rw [h47]; exact rd_w hA
  subst h47
  iterate 4 refine AA rfl ?_
  iterate 5 refine AB ?_
  refine Ac fun z53 h53=>?_
  have h53:z53=I.kind:=by rw [h53]; exact k1
  subst h53
  iterate 4 refine AA rfl ?_
  iterate 5 refine AB ?_
  refine Ac fun z59 h59=>?_
  have h59:z59=I.osd:=by rw [h59]; exact k2
  subst h59
  iterate 4 refine AA rfl ?_
  iterate 5 refine AB ?_
  refine Ac fun z65 h65=>?_
  have h65:z65=I.n:=by rw [h65]; exact k3
  subst h65
  obtain ⟨z1,z2,z3,z4,z5⟩:=hz
  refine AA (by rw [z1,z2]; rfl) (AA (by rw [z3,z4,z5]; rfl) (AA rfl (AA (by rw [decide_eq_false (by have:=hP.2; omega)]; rfl) (AA (AS _) (AA (Ad rfl _ _) (Ao fun e66 h66=>?_))))))
  have w66:incsL (e66.ln 4) (e66.rw 4)=s.wishes:=by
    rw [h66]
    exact incsL_rows rfl fun i _=>AF rfl _ i
  have r66:repOf e66=s.rep:=by
    rw [h66]
    exact rep25 hr25
  have m66:mon0 e66 = { s with prom:=P,acc:=A,ainc:=I }:=by
    unfold mon0 monOf
    rw [w66,r66,h66,← hp]
    rfl
  have u66:svU e66=⟨[],byN l⟩:=by
    unfold svU
    rw [m66,← hl]
  rw [u66]
  subst h66
  refine AJ ?_
  repeat' with_reducible (first | refine AB ?_ | refine AI ?_)
  refine AA (AP _ _ _) (AA (AP _ _ _) (AJ (AA (decide_eq_true (show (((l.length:Nat):Int).toNat:Int)<1000000 by omega)) (AA ?_ (AA (AS _) (AA (Ad rfl _ _) (AA (AP _ _ _) (AE fun _=>?_))))))))
  · show (!!(eqI (Aw ((l.length:Nat):Int).toNat (AG [.i .u8] (AH [.i .u8] (AQ l)))) (Aw l.length (AQ l))))=true
    rw [lstI_nums8,lstI_rowI]
    unfold eqI
    rw [decide_eq_true rfl]
    rfl
  · refine ⟨⟨trivial,rfl,trivial⟩,?_,rfl,trivial,?_,⟨rfl,fun i _=>eqvL_trans (AF rfl _ i) (AF rfl _ i)⟩,trivial,?_,⟨rfl,fun i _=>AL [.i .u8] (AQ l i)⟩,trivial⟩
    · exact clP
    · exact clP
    · exact clP
set_option maxHeartbeats 2000000 in
theorem ld_endB (l : List Int) (hd : Dat) (s : Aj) (P A : Bal) (I : Inc) (hp : s.prop = none) (hr25 : ∀ i, 25 ≤ i → s.rep i = false) (hP : BalB P) (hA : BalB A) (hI : (0 ≤ I.kind ∧ I.kind < 256) ∧ (0 ≤ I.osd ∧ I.osd < 256) ∧ (0 ≤ I.n ∧ I.n < 256)) (hl : l = saveL { s with prom := P, acc := A, ainc := I }) (hlen : (l.length : Int) ≤ 1000) (hz : 0 < A.n ∧ incOk I = true ∧ P.less A = false) (τ0 : Tm) :
    (Am Try.prog thTb2 300 10 Try.f10.ntmps (Eng.ofL ((flat bodyLd).drop 9)) (ldL.tm ⟨[[],[],[],[.i ((s.incs.length:Int)+1)],[.i ((s.incs.length:Int)+2)]],[.lst l.length (AQ l),.box [.u,.u],.lst ([IntKind.u8.wrap ((IntKind.u64.wrap P.n).fdiv 16777216),IntKind.u8.wrap ((IntKind.u64.wrap P.n).fdiv 65536),IntKind.u8.wrap ((IntKind.u64.wrap P.n).fdiv 256),IntKind.u8.wrap ((IntKind.u64.wrap P.n).fdiv 1),P.who,IntKind.u8.wrap ((IntKind.u64.wrap A.n).fdiv 16777216),IntKind.u8.wrap ((IntKind.u64.wrap A.n).fdiv 65536),IntKind.u8.wrap ((IntKind.u64.wrap A.n).fdiv 256),IntKind.u8.wrap ((IntKind.u64.wrap A.n).fdiv 1),A.who,I.kind,I.osd,IntKind.u8.wrap I.n]).length (AQ ([IntKind.u8.wrap ((IntKind.u64.wrap P.n).fdiv 16777216),IntKind.u8.wrap ((IntKind.u64.wrap P.n).fdiv 65536),IntKind.u8.wrap ((IntKind.u64.wrap P.n).fdiv 256),IntKind.u8.wrap ((IntKind.u64.wrap P.n).fdiv 1),P.who,IntKind.u8.wrap ((IntKind.u64.wrap A.n).fdiv 16777216),IntKind.u8.wrap ((IntKind.u64.wrap A.n).fdiv 65536),IntKind.u8.wrap ((IntKind.u64.wrap A.n).fdiv 256),IntKind.u8.wrap ((IntKind.u64.wrap A.n).fdiv 1),A.who,I.kind,I.osd,IntKind.u8.wrap I.n]))]++mn0 hd s⟩++τ0) (ldL.heap ⟨[[],[],[],[.i ((s.incs.length:Int)+1)],[.i ((s.incs.length:Int)+2)]],[.lst l.length (AQ l),.box [.u,.u],.lst ([IntKind.u8.wrap ((IntKind.u64.wrap P.n).fdiv 16777216),IntKind.u8.wrap ((IntKind.u64.wrap P.n).fdiv 65536),IntKind.u8.wrap ((IntKind.u64.wrap P.n).fdiv 256),IntKind.u8.wrap ((IntKind.u64.wrap P.n).fdiv 1),P.who,IntKind.u8.wrap ((IntKind.u64.wrap A.n).fdiv 16777216),IntKind.u8.wrap ((IntKind.u64.wrap A.n).fdiv 65536),IntKind.u8.wrap ((IntKind.u64.wrap A.n).fdiv 256),IntKind.u8.wrap ((IntKind.u64.wrap A.n).fdiv 1),A.who,I.kind,I.osd,IntKind.u8.wrap I.n]).length (AQ ([IntKind.u8.wrap ((IntKind.u64.wrap P.n).fdiv 16777216),IntKind.u8.wrap ((IntKind.u64.wrap P.n).fdiv 65536),IntKind.u8.wrap ((IntKind.u64.wrap P.n).fdiv 256),IntKind.u8.wrap ((IntKind.u64.wrap P.n).fdiv 1),P.who,IntKind.u8.wrap ((IntKind.u64.wrap A.n).fdiv 16777216),IntKind.u8.wrap ((IntKind.u64.wrap A.n).fdiv 65536),IntKind.u8.wrap ((IntKind.u64.wrap A.n).fdiv 256),IntKind.u8.wrap ((IntKind.u64.wrap A.n).fdiv 1),A.who,I.kind,I.osd,IntKind.u8.wrap I.n]))]++mn0 hd s⟩) 10 (outX 1 ⟨none,[],some ldR⟩)).Holds fun r=>r.1 = .ret→ldR.eqv r.2 ⟨[[.u],[.i 0]],mn0 hd { s with prom:=P,acc:=A,ainc:=I } ++ [.lst l.length (AQ l)]⟩:=by
  obtain ⟨b1,b2,b3⟩:=hI
  have k1:IntKind.u8.wrap (rd1 I.kind)=I.kind:=by rw [rd1_eq b1,IntWalk.u8_in _ (by omega)]
  have k2:IntKind.u8.wrap (rd1 I.osd)=I.osd:=by rw [rd1_eq b2,IntWalk.u8_in _ (by omega)]
  have k3:IntKind.i64.wrap (rd1 (IntKind.u8.wrap I.n))=I.n:=by rw [IntWalk.u8_in I.n (by omega),rd1_eq b3,IntWalk.i64_in _ (by omega)]
  refine BI [some false,some false,some false,some false,some false,some false,some false,some false,some true,some true,some true,some false,some false,some false,some false] (AN (ld_tB l [IntKind.u8.wrap ((IntKind.u64.wrap P.n).fdiv 16777216),IntKind.u8.wrap ((IntKind.u64.wrap P.n).fdiv 65536),IntKind.u8.wrap ((IntKind.u64.wrap P.n).fdiv 256),IntKind.u8.wrap ((IntKind.u64.wrap P.n).fdiv 1),P.who,IntKind.u8.wrap ((IntKind.u64.wrap A.n).fdiv 16777216),IntKind.u8.wrap ((IntKind.u64.wrap A.n).fdiv 65536),IntKind.u8.wrap ((IntKind.u64.wrap A.n).fdiv 256),IntKind.u8.wrap ((IntKind.u64.wrap A.n).fdiv 1),A.who,I.kind,I.osd,IntKind.u8.wrap I.n] hd s _ _ τ0) ?_)
  iterate 4 refine AA rfl ?_
  iterate 17 refine AB ?_
  refine Ac fun z17 h17=>?_
  have h17:z17=P.n:=by rw [h17]; exact rd_n hP
  subst h17
  iterate 4 refine AA rfl ?_
  iterate 5 refine AB ?_
  refine Ac fun z23 h23=>?_
  have h23:z23=P.who:=by rw [h23]; exact rd_w hP
  subst h23
  iterate 4 refine AA rfl ?_
  iterate 17 refine AB ?_
  refine Ac fun z41 h41=>?_
  have h41:z41=A.n:=by rw [h41]; exact rd_n hA
  subst h41
  iterate 4 refine AA rfl ?_
  iterate 5 refine AB ?_
  refine Ac fun z47 h47=>?_
  have h47:z47=A.who:=by rw [h47]; exact rd_w hA
  subst h47
  iterate 4 refine AA rfl ?_
  iterate 5 refine AB ?_
  refine Ac fun z53 h53=>?_
  have h53:z53=I.kind:=by rw [h53]; exact k1
  subst h53
  iterate 4 refine AA rfl ?_
  iterate 5 refine AB ?_
  refine Ac fun z59 h59=>?_
  have h59:z59=I.osd:=by rw [h59]; exact k2
  subst h59
  iterate 4 refine AA rfl ?_
  iterate 5 refine AB ?_
  refine Ac fun z65 h65=>?_
  have h65:z65=I.n:=by rw [h65]; exact k3
  subst h65
  obtain ⟨z1,z2,z3⟩:=hz
  have q0:(A.n==0)=false:=by
    have:A.n≠0:=by omega
    simpa using this
  refine AA (by rw [q0]; rfl) (AJ (AA ((incF_eq I.kind I.osd I.n).trans z2) (AA (decide_eq_true (by omega)) (AA (decide_eq_true hA.2.2) (AJ (AA rfl (AA ((congrArg (fun b=>!!!b) z3).trans rfl) (AA (by rw [decide_eq_false (by have:=hP.2; omega)]; rfl) (AA (AS _) (AA (Ad rfl _ _) (Ao fun e66 h66=>?_)))))))))))
  have w66:incsL (e66.ln 4) (e66.rw 4)=s.wishes:=by
    rw [h66]
    exact incsL_rows rfl fun i _=>AF rfl _ i
  have r66:repOf e66=s.rep:=by
    rw [h66]
    exact rep25 hr25
  have m66:mon0 e66 = { s with prom:=P,acc:=A,ainc:=I }:=by
    unfold mon0 monOf
    rw [w66,r66,h66,← hp]
    rfl
  have u66:svU e66=⟨[],byN l⟩:=by
    unfold svU
    rw [m66,← hl]
  rw [u66]
  subst h66
  refine AJ ?_
  repeat' with_reducible (first | refine AB ?_ | refine AI ?_)
  refine AA (AP _ _ _) (AA (AP _ _ _) (AJ (AA (decide_eq_true (show (((l.length:Nat):Int).toNat:Int)<1000000 by omega)) (AA ?_ (AA (AS _) (AA (Ad rfl _ _) (AA (AP _ _ _) (AE fun _=>?_))))))))
  · show (!!(eqI (Aw ((l.length:Nat):Int).toNat (AG [.i .u8] (AH [.i .u8] (AQ l)))) (Aw l.length (AQ l))))=true
    rw [lstI_nums8,lstI_rowI]
    unfold eqI
    rw [decide_eq_true rfl]
    rfl
  · refine ⟨⟨trivial,rfl,trivial⟩,?_,rfl,trivial,?_,⟨rfl,fun i _=>eqvL_trans (AF rfl _ i) (AF rfl _ i)⟩,trivial,?_,⟨rfl,fun i _=>AL [.i .u8] (AQ l i)⟩,trivial⟩
    · exact clP
    · exact clP
    · exact clP
end Go.Proofs.Ytddmgdclmkgpeaa
set_option linter.unusedSimpArgs false
set_option linter.unusedVariables false
namespace Go.Proofs.Ytddmgdclmkgpeaa
open Go.Eng Go.RowKit Go.ChangeShapes Go.WideShapes
set_option maxRecDepth 100000
theorem ld_q (l:List Int) (τ0:Tm):(Am Try.prog thTb2 300 10 Try.f10.ntmps (Eng.ofL ((flat bodyLd).take 8)) (argTm 0 (ldT.vals ⟨[[]],[.lst l.length (AQ l)]⟩)++τ0) (ldT.heap ⟨[[]],[.lst l.length (AQ l)]⟩) 1 (outX 1 ⟨some ldL,[],some ldR⟩)).cut [some false,some false,some false] =
  .defI (IntKind.i64.wrap ((l.length:Int) - 8)) fun z0=>.must (!decide (z0<0)) (.must (decide ((0:Int)≤0∧0≤z0)) (.must (decide (z0≤(l.length:Int))) (.must (!decide (z0 - 0<1)) (.must (decide (1≤z0 -
  0)) (.must (decide ((0:Int)≤min (max 1 0) 8∧1≤z0 - 0)) (.must (decide (z0 - 0≤z0 - 0)) (.defI (l.getD 0 0) fun z1=>.defI (IntKind.u64.wrap z1) fun z2=>.defI (IntKind.u64.wrap ((BitVec.ofInt 64 0 |||
  BitVec.ofInt 64 z2).toNat:Int)) fun z3=>.defI z3 fun z4=>.defI (z0 - 0 - 1) fun z5=>.defI (IntKind.u8.wrap z4) fun z6=>.defE ⟨[[.i z6]],[]⟩ fun e7=>.defE (mwN e7) fun e8=>.defI (e8.bi 0 0) fun z9=>.defI
  (e8.bi 0 5) fun z10=>.defI (e8.bi 0 6) fun z11=>.defI (e8.bi 0 7) fun z12=>.defI (e8.bi 3 0) fun z13=>.defI (e8.bi 3 1) fun z14=>.defI (e8.bi 3 2) fun z15=>.defI (e8.bi 3 3) fun z16=>.defI (e8.bi 3 4) fun
  z17=>.defI (e8.bi 3 5) fun z18=>.defI (e8.bi 3 6) fun z19=>.defI ((e8.ln 4):Int) fun z20=>.defB (e8.bb 6 0) fun z21=>.defB (e8.bb 6 1) fun z22=>.defB (e8.bb 6 2) fun z23=>.defB (e8.bb 6 3) fun z24 =>
  .defB (e8.bb 6 4) fun z25=>.defB (e8.bb 6 5) fun z26=>.defB (e8.bb 6 6) fun z27=>.defB (e8.bb 6 7) fun z28=>.defB (e8.bb 6 8) fun z29=>.defB (e8.bb 6 9) fun z30=>.defB (e8.bb 6 10) fun z31=>.defB (e8.bb 6
  11) fun z32=>.defB (e8.bb 6 12) fun z33=>.defB (e8.bb 6 13) fun z34=>.defB (e8.bb 6 14) fun z35=>.defB (e8.bb 6 15) fun z36=>.defB (e8.bb 6 16) fun z37=>.defB (e8.bb 6 17) fun z38=>.defB (e8.bb 6 18) fun
  z39=>.defB (e8.bb 6 19) fun z40=>.defB (e8.bb 6 20) fun z41=>.defB (e8.bb 6 21) fun z42=>.defB (e8.bb 6 22) fun z43=>.defB (e8.bb 6 23) fun z44=>.defB (e8.bb 6 24) fun z45=>.must (!decide (z5<1)) (.must
  (decide (1≤z5)) (.must (decide ((0:Int)≤min (max 1 0) 8∧1≤z5)) (.must (decide (z5≤z5)) (.defI (l.getD 1 0) fun z46=>.defI (IntKind.u64.wrap z46) fun z47=>.defI (IntKind.u64.wrap ((BitVec.ofInt 64 0 |||
  BitVec.ofInt 64 z47).toNat:Int)) fun z48=>.defI z48 fun z49=>.defI (z5 - 1) fun z50=>.defI (IntKind.u32.wrap z49) fun z51=>.must (AW [.i .u8] (AH [.i .u8] (AQ l)) l.length) (.must (AW [.i .u8]
  (Av (.lit 1) (Av (.lit 1) (Av (.lit 0) (AH [.i .u8] (AQ l))))) z50.toNat) (.must (BH Ai Ai) (.must (AW BB ((AH BB (e8.rw 4))) z20.toNat) (.leaf (.normal,⟨[[.u],[.u],[.u],[.i
  z51],[.i 2]],[.lst l.length (AQ l),.box [.u,.u],.lst z50.toNat (AG [.i .u8] (Av (.lit 1) (Av (.lit 1) (Av (.lit 0) (AH [.i .u8] (AQ l)))))),.box [.i z9,.u,.u,.u,.u,.i z10,.i z11,
  .i z12,.u],.own (e8.dt 1),.tok,.box [.i z13,.i z14,.i z15,.i z16,.i z17,.i z18,.i z19],.lst z20.toNat (AG BB (AH BB (e8.rw 4))),.tok,.box [.b z21,.b z22,.b z23,.b z24,.b z25,.b z26,.b z27,
  .b z28,.b z29,.b z30,.b z31,.b z32,.b z33,.b z34,.b z35,.b z36,.b z37,.b z38,.b z39,.b z40,.b z41,.b z42,.b z43,.b z44,.b z45]]⟩)))))))))))))))):=by kernel_rfl
def MOk (d:Aj):Prop:=MGood d∧HGood d.incs
def tlL (s:Aj):List Int:=balB s.prom++balB s.acc++inc3 s.ainc
def midL (s:Aj):List Int:=incB s.incs++tlL s
open Classical in
noncomputable def loadS (l:List Int):Aj:=if h:∃ s,MOk s∧l=saveL s then (Classical.choose h).again else default
def loR:TS:=⟨[],[.one (.ptr 1 0),.one (.i .i64)],[(1,.ob 2 MonR 40),(40,.tok),(0,.lst none [.i .u8] none)],41⟩
theorem rowI_app {a b:List Int} {i:Nat} (h:i<a.length):AQ (a++b) i=AQ a i:=by
  unfold AQ
  rw [List.getD,List.getD,List.getElem?_append_left h]
theorem rows2 (a b:Int) (R c:List Int) (i:Nat) (h:i<R.length):eqvL [.i .u8] (AG [.i .u8] (Av (.lit 1) (Av (.lit 1) (Av (.lit 0) (AH [.i .u8] (AQ (a::b::(R++c))))))) i) (AQ R i):=by
  have e:AQ (a::b::(R++c)) (0+(1+(1+i)))=AQ R i:=by
    rw [show 0+(1+(1+i))=i+1+1 by omega]
    exact rowI_app h
  have:=AF (row:=[.i .u8]) rfl (AQ (a::b::(R++c))) (0+(1+(1+i)))
  rw [e] at this
  exact this
theorem rowsB2 (r:List Int) (n:Nat):AW [.i .u8] (Av (.lit 1) (Av (.lit 1) (Av (.lit 0) (AH [.i .u8] (AQ r))))) n=true:=rowsB_of fun _=>rowOk_inst rfl _
set_option maxHeartbeats 2000000 in
theorem ld_pre (id la : Int) (R c8 : List Int) (hc : c8.length = 8) (hid : 0 ≤ id ∧ id < 256) (hla : 0 ≤ la ∧ la < 256) (hR : (R.length : Int) ≤ 1000) (τ0 : Tm) :
    (Am Try.prog thTb2 300 10 Try.f10.ntmps (Eng.ofL ((flat bodyLd).take 8)) (argTm 0 (ldT.vals ⟨[[]],[.lst (id::la::(R++c8)).length (AQ (id::la::(R++c8)))]⟩)++τ0) (ldT.heap ⟨[[]],[.lst (id::la::(R++c8)).length (AQ (id::la::(R++c8)))]⟩) 1 (outX 1 ⟨some ldL,[],some ldR⟩)).Holds fun r=>r.1 = .normal∧ldL.eqv r.2 ⟨[[],[],[],[.i la],[.i 2]],[.lst (id::la::(R++c8)).length (AQ (id::la::(R++c8))),.box [.u,.u],.lst R.length (AQ R)]++mn0 default (Aj.new id)⟩:=by
  have L:(((id::la::(R++c8)).length:Nat):Int)=R.length+10:=by simp only [List.length_cons,List.length_append,hc]; omega
  refine BI [some false,some false,some false] (AN (ld_q (id::la::(R++c8)) τ0) (Ac fun z0 h0=>?_))
  have h0:z0=(R.length:Int)+2:=by
    rw [h0,L,show (R.length:Int)+10 - 8=R.length+2 by omega]
    exact IntWalk.i64_in _ (by omega)
  subst h0
  iterate 7 refine AA (by first | exact decide_eq_true (by omega) | (rw [decide_eq_false (by omega)]; rfl) | exact decide_eq_true ⟨by decide,by omega⟩) ?_
  iterate 4 refine AB ?_
  refine Ac fun z5 h5=>Ac fun z6 h6=>?_
  have h6:z6=id:=by
    rw [h6]
    show IntKind.u8.wrap (rd1 id)=id
    rw [rd1_eq hid,IntWalk.u8_in _ (by omega)]
  subst h6
  refine AJ (AJ ?_)
  repeat' with_reducible (first | refine AB ?_ | refine AI ?_)
  iterate 4 refine AA (by first | exact decide_eq_true (by omega) | (rw [decide_eq_false (by omega)]; rfl) | exact decide_eq_true ⟨by decide,by omega⟩) ?_
  iterate 4 refine AB ?_
  refine Ac fun z50 h50=>Ac fun z51 h51=>?_
  have h51:z51=la:=by
    rw [h51]
    show IntKind.u32.wrap (rd1 la)=la
    rw [rd1_eq hla,IntWalk.u32_in _ (by omega)]
  subst h51
  have hz:z50.toNat=R.length:=by omega
  refine AA (AP _ _ _) (AA (rowsB2 _ _) (AA (AS _) (AA (Ad rfl _ _) (AE ⟨rfl,?_⟩))))
  refine ⟨⟨trivial,trivial,trivial,rfl,rfl,trivial⟩,⟨rfl,fun i _=>AL [.i .u8] (AQ _ i)⟩,⟨trivial,trivial,trivial⟩,⟨hz,fun i hi=>rows2 _ _ R c8 i (by have hi:(i:Int)<(R.length:Int):=hi; omega)⟩,?_,rfl,trivial,?_,⟨rfl,fun i _=>AF rfl _ i⟩,trivial,?_,trivial⟩
  · exact clP
  · exact clP
  · exact clP
theorem tlL_eq (s:Aj):tlL s=[IntKind.u8.wrap ((IntKind.u64.wrap s.prom.n).fdiv 16777216),IntKind.u8.wrap ((IntKind.u64.wrap s.prom.n).fdiv 65536),IntKind.u8.wrap ((IntKind.u64.wrap s.prom.n).fdiv 256),IntKind.u8.wrap ((IntKind.u64.wrap s.prom.n).fdiv 1),s.prom.who,IntKind.u8.wrap ((IntKind.u64.wrap s.acc.n).fdiv 16777216),IntKind.u8.wrap ((IntKind.u64.wrap s.acc.n).fdiv 65536),IntKind.u8.wrap ((IntKind.u64.wrap s.acc.n).fdiv 256),IntKind.u8.wrap ((IntKind.u64.wrap s.acc.n).fdiv 1),s.acc.who,s.ainc.kind,s.ainc.osd,IntKind.u8.wrap s.ainc.n]:=rfl
theorem saveL_eq (s:Aj):saveL s=s.id::BN s.incs::(midL s++be8 (sumF (bodyL s))):=by
  unfold saveL midL tlL bodyL headL
  simp only [List.append_assoc,List.cons_append,List.nil_append]
theorem tlL_length (s:Aj):(tlL s).length=13:=rfl
theorem midL_length (s:Aj):(midL s).length=3 * s.incs.length+13:=by
  unfold midL
  rw [List.length_append,incB_length,tlL_length]
theorem saveL_length (s:Aj):(saveL s).length=3 * s.incs.length+23:=by
  have h8:(be8 (sumF (bodyL s))).length=8:=rfl
  rw [saveL_eq,List.length_cons,List.length_cons,List.length_append,midL_length,h8]
theorem new_id {n:Int} (h:n<3):(Aj.new n).id=n:=by
  show (match decide (2<n) with | true=>2 | false=>n)=n
  rw [decide_eq_false (by omega)]
theorem saveL_again {s:Aj} (h:s.id<3):saveL s.again=saveL s:=by
  have e:s.again.id=s.id:=new_id h
  unfold saveL bodyL headL
  rw [e]
  rfl
theorem inc3_bytes {P A:Bal} {I:Inc} (h:AccOk P A I):(0≤I.kind∧I.kind<256)∧(0≤I.osd∧I.osd<256)∧(0≤I.n∧I.n<256):=by
  rcases h with ⟨_,_,h1,h2,h3⟩ | ⟨_,_,h1,h2,_⟩
  · rw [h1,h2,h3]
    decide
  · exact inc_byte h1 h2
theorem acc_bal {P A:Bal} {I:Inc} (h:AccOk P A I):BalB A:=by
  rcases h with ⟨h1,h2,_⟩ | ⟨_,h1,_⟩
  · unfold BalB
    omega
  · exact h1
theorem cSu0_ok:Ak Try.prog 11 (Ab svT0 cSu0):=ctr_ok fun e r h=>by
  cases h
  have pre:=pre0 e [[]] svT0.vs [] 7 clP
  refine BO.pre (t:=svT0) pre (std_good (k:=1) (g:=2) rfl rfl fun hg=>BO.post (t':=svR0) (y:=⟨[[.u]],mn0 (e.dt 1) (mon0 e)++byN (saveL (mon0 e))⟩) ⟨by (repeat' (first | exact trivial | exact rfl | exact TS.eqv_refl _ _ | exact AY _ _ | exact AR | exact fun _ _=>AL _ _ | exact fun i _=>AF rfl _ i | apply And.intro)),?_⟩ (sv_std0 (e.dt 1) (mon0 e) hg))
  obtain ⟨h0,h1,h2,h3,h4,h5,h6,_⟩:=eqvH_symm pre.2
  exact ⟨h0,h1,trivial,h3,h4,trivial,h6,⟨rfl,fun i _=>AL [.i .u8] (AQ (saveL (mon0 e)) i)⟩,trivial,trivial⟩
theorem thTab2:TabAll Try.prog thTb2:=tab_ok ⟨cSu0_ok,thSm_ok⟩
set_option maxHeartbeats 2000000 in
theorem ld_std (s:Aj) (hs:MOk s):BO Try.prog 10 ldT ⟨[[]],[.lst (saveL s).length (AQ (saveL s))]⟩ ldR ⟨[[.u],[.i 0]],mn0 default s.again++[.lst (saveL s).length (AQ (saveL s))]⟩:=by
  obtain ⟨⟨g1,_,_,_,_,_,k1,k2,_,_⟩,hg⟩:=hs
  have hl:=hg.1
  have hlen:((saveL s).length:Int)≤1000:=by rw [saveL_length]; omega
  have hmid:((midL s).length:Int)≤1000:=by rw [midL_length]; omega
  have hag:saveL s=saveL { { Aj.new s.id with incs:=s.incs } with prom:=s.prom,acc:=s.acc,ainc:=s.ainc }:=(saveL_again g1.2).symm
  refine stdX_loop thTab2 BE (n:=300) Try.func10 bodyLd_eq 8 (L:=ldL) (E:=ldL) (en0:=⟨[[],[],[],[.i ((s.incs.length:Int)+1)],[.i (((0:Nat):Int)+2)]],[.lst (saveL s).length (AQ (saveL s)),.box [.u,.u],.lst (incB (s.incs.drop 0)++tlL s).length (AQ (incB (s.incs.drop 0)++tlL s))]++mn0 default { { Aj.new s.id with incs:=s.incs } with incs:={ Aj.new s.id with incs:=s.incs }.incs.take 0 }⟩) (RL:=fun ex e=>match ex with
    | .exit _=>ldL.eqv e ⟨[[],[],[],[.i ((s.incs.length:Int)+1)],[.i ((s.incs.length:Int)+2)]],[.lst (saveL s).length (AQ (saveL s)),.box [.u,.u],.lst (tlL s).length (AQ (tlL s))]++mn0 default { Aj.new s.id with incs:=s.incs }⟩
    | _=>False) rfl rfl (by kernel_rfl) rfl rfl lpLd (by decide) (by decide) (by decide)
    (fun τ0=>?_) ?_ (fun en he=>⟨_,he,fun τ0=>?_⟩) (fun en he=>he.elim)
  · have H:=ld_pre s.id (BN s.incs) (midL s) (be8 (sumF (bodyL s))) rfl (by omega) (by unfold BN; omega) hmid τ0
    rw [← saveL_eq] at H
    obtain ⟨r,e,h⟩:=H
    exact ⟨r,e,.inl h⟩
  · refine HT.mono (ld_loop (saveL s) (tlL s) default { Aj.new s.id with incs:=s.incs } hg (by rw [tlL_length]; decide)) ?_
    rintro (_ | _ | _ | _ | _) m2 κ h2 ⟨t',en,h1,h3,h4⟩
    all_goals first | exact ⟨t',en,h1,h3,h4⟩ | exact h3.elim
  · rw [tlL_eq]
    rcases k2 with hz | ⟨z1,z2,z3,z4,z5⟩
    · exact ld_endA (saveL s) default { Aj.new s.id with incs:=s.incs } s.prom s.acc s.ainc rfl (fun _ _=>rfl) k1 (acc_bal (.inl hz:AccOk s.prom s.acc s.ainc)) (inc3_bytes (.inl hz:AccOk s.prom s.acc s.ainc)) hag hlen hz τ0
    · exact ld_endB (saveL s) default { Aj.new s.id with incs:=s.incs } s.prom s.acc s.ainc rfl (fun _ _=>rfl) k1 z2 (inc_byte z3 z4) hag hlen ⟨z1,z3,z5⟩ τ0
end Go.Proofs.Ytddmgdclmkgpeaa
set_option linter.unusedSimpArgs false
set_option linter.unusedVariables false
namespace Go.Proofs.Ytddmgdclmkgpeaa
open Go.Eng Go.RowKit Go.ChangeShapes Go.WideShapes
set_option maxRecDepth 100000
def ldM:List (Nat×TO):=[(1,.box [.i .u8,.ptr 2 0,.ptr 4 0,.sl 5,.nilp,.i .i64,.i .u32,.i .u8,.ptr 7 0]),(2,.ob 1 Ai 3),(3,.tok),(4,.box acB),(5,.lst none BB (some 6)),(6,.tok),(7,.box rpB)]
theorem pk_load {hd:Dat} {s:Aj} {m:Nat} {blk:Nat} {fp:List Nat} {w:World} (hp:Pack m 1 (Aa (instH ldM (mn0 hd s))) blk fp w):Pack 7 0 (Aa (instH mp0 (mn0 hd s))) blk fp w:=by
  refine Pack.ren (φ:=lkN [1,2,3,4,5,6,7]) hp rfl ?_ (fun k k' h1 h2 e=>distB_lk (L:=[1,2,3,4,5,6,7]) rfl h1 h2 e) (noRo_of rfl)
  refine List.forall_mem_cons.2 ⟨⟨Nat.le_of_ble_eq_true rfl,_,rfl,rfl,fun _ _=>rfl,Ax rfl⟩,List.forall_mem_cons.2 ⟨⟨Nat.le_of_ble_eq_true rfl,_,rfl,rfl,rfl,rfl,rfl,by decide,rfl⟩,List.forall_mem_cons.2 ⟨⟨Nat.le_of_ble_eq_true rfl,_,rfl,trivial⟩,List.forall_mem_cons.2 ⟨⟨Nat.le_of_ble_eq_true rfl,_,rfl,rfl,fun _ _=>rfl,Ax rfl⟩,List.forall_mem_cons.2 ⟨⟨Nat.le_of_ble_eq_true rfl,_,rfl,rfl,rfl,rfl,fun _ e=>by cases e; exact ⟨by decide,rfl⟩,fun _ _=>⟨rfl,rfl,fun _ _=>rfl,Ax rfl⟩⟩,List.forall_mem_cons.2 ⟨⟨Nat.le_of_ble_eq_true rfl,_,rfl,trivial⟩,List.forall_mem_cons.2 ⟨⟨Nat.le_of_ble_eq_true rfl,_,rfl,rfl,fun _ _=>rfl,Ax rfl⟩,fun _ h=>by cases h⟩⟩⟩⟩⟩⟩⟩
theorem be4_inj {a b:Bal} (ha:BalB a) (hb:BalB b) (h:balB a=balB b):a=b:=by
  obtain ⟨a1,a2⟩:=a
  obtain ⟨b1,b2⟩:=b
  obtain ⟨ha1,ha2⟩:=ha
  obtain ⟨hb1,hb2⟩:=hb
  have ha1:0≤a1∧a1<4294967296:=ha1
  have hb1:0≤b1∧b1<4294967296:=hb1
  unfold balB be4 at h
  dsimp only at h
  rw [IntWalk.u64_in a1 (by omega),IntWalk.u64_in b1 (by omega)] at h
  simp only [List.cons_append,List.nil_append,List.cons.injEq,and_true] at h
  obtain ⟨h1,h2,h3,h4,h5⟩:=h
  have e1:=rd4_be ha1
  have e2:=rd4_be hb1
  have e:a1=b1:=by
    rw [← e1,← e2]
    first | (rw [h1,h2,h3,h4]) | (simp only [h1,h2,h3,h4]) | (simp_all)
  rw [e,h5]
theorem inc3_inj {x y:Inc} (hx:0≤x.n∧x.n<256) (hy:0≤y.n∧y.n<256) (h:inc3 x=inc3 y):x=y:=by
  obtain ⟨x1,x2,x3⟩:=x
  obtain ⟨y1,y2,y3⟩:=y
  have hx:0≤x3∧x3<256:=hx
  have hy:0≤y3∧y3<256:=hy
  unfold inc3 at h
  dsimp only at h
  simp only [List.cons.injEq,and_true] at h
  obtain ⟨h1,h2,h3⟩:=h
  rw [IntWalk.u8_in x3 (by omega),IntWalk.u8_in y3 (by omega)] at h3
  rw [h1,h2,h3]
theorem incB_inj:∀ {a b:List Inc},(∀ x,x∈a→0≤x.n∧x.n<256)→(∀ x,x∈b→0≤x.n∧x.n<256)→a.length=b.length→incB a=incB b→a=b
  | [],[],_,_,_,_=>rfl
  | [],_::_,_,_,h,_=>by simp at h
  | _::_,[],_,_,h,_=>by simp at h
  | x::a,y::b,ha,hb,hl,h=>by
    have h:inc3 x++incB a=inc3 y++incB b:=h
    obtain ⟨h1,h2⟩:=List.append_inj h rfl
    rw [inc3_inj (ha x (List.mem_cons_self ..)) (hb y (List.mem_cons_self ..)) h1,incB_inj (fun z hz=>ha z (List.mem_cons_of_mem _ hz)) (fun z hz=>hb z (List.mem_cons_of_mem _ hz)) (by simpa using hl) h2]
theorem saveL_inj {s t:Aj} (hs:MOk s) (ht:MOk t) (h:saveL s=saveL t):s.again=t.again:=by
  obtain ⟨⟨g1,_,_,_,_,_,k1,k2,_,_⟩,hg⟩:=hs
  obtain ⟨⟨g1',_,_,_,_,_,k1',k2',_,_⟩,hg'⟩:=ht
  have bs:∀ {l:List Inc},HGood l→∀ x,x∈l→0≤x.n∧x.n<256:=fun hl x hx=>(inc_byte (hl.2 x hx).1 (hl.2 x hx).2).2.2
  have hlen:s.incs.length=t.incs.length:=by
    have:=congrArg List.length h
    rw [saveL_length,saveL_length] at this
    omega
  rw [saveL_eq,saveL_eq] at h
  simp only [List.cons.injEq] at h
  obtain ⟨h1,_,h3⟩:=h
  obtain ⟨h3,_⟩:=List.append_inj h3 (by rw [midL_length,midL_length,hlen])
  unfold midL at h3
  obtain ⟨h4,h5⟩:=List.append_inj h3 (by rw [incB_length,incB_length,hlen])
  have e1:=incB_inj (bs hg) (bs hg') hlen h4
  unfold tlL at h5
  obtain ⟨h6,h7⟩:=List.append_inj h5 rfl
  obtain ⟨h6,h8⟩:=List.append_inj h6 rfl
  have e2:=be4_inj k1 k1' h6
  have e3:=be4_inj (acc_bal k2) (acc_bal k2') h8
  have e4:=inc3_inj (inc3_bytes k2).2.2 (inc3_bytes k2').2.2 h7
  unfold Aj.again
  rw [h1,e1,e2,e3,e4]
theorem mgood_again {s:Aj} (h:MGood s):MGood s.again:=by
  obtain ⟨g1,_,_,_,g5,_,k1,k2,_,_⟩:=h
  obtain ⟨n1,n2,n3,n4,_,n6,_,_,n7,n8⟩:=mgood_new g1.1
  exact ⟨n1,n2,n3,n4,g5,n6,k1,k2,n7,n8⟩
theorem loadS_save {s:Aj} (h:MOk s):loadS (saveL s)=s.again:=by
  have hx:∃ t,MOk t∧saveL s=saveL t:=⟨s,h,rfl⟩
  unfold loadS
  rw [dif_pos hx]
  exact (saveL_inj h (Classical.choose_spec hx).1 (Classical.choose_spec hx).2).symm
theorem lo_std (s:Aj) (hs:MOk s):BO Try.prog 10 ldT ⟨[[]],[.lst (saveL s).length (AQ (saveL s))]⟩ loR ⟨[[.u],[.i 0]],[.own s.again,.tok,.lst (saveL s).length (AQ (saveL s))]⟩ :=
  StdN.conceal (r:=1) (hp:=instH ldM (mn0 default s.again)) (rest:=[(0,.lst (.sym ((saveL s).length:Int)) 1 (AH [.i .u8] (AQ (saveL s))) none)]) (StdN.wide (m2:=40) (by decide:8≤40) (ld_std s hs)) (by decide) rfl (by decide) (show 1 ∉ [0] by decide) rfl
    (List.forall_mem_cons.2 ⟨fun g e=>(by cases e),fun _ h=>by cases h⟩) (noRo_list rfl) (fun _ _ _ q=>⟨mgood_again hs.1,.inl ⟨rfl,_,pk_load q⟩⟩)
end Go.Proofs.Ytddmgdclmkgpeaa
