/- Texts of this claim, laid together (part 8).
   Conditions: none. -/
import Derived.Test.YtddmgdclmkgpeaaGreatZkg
set_option linter.unusedSimpArgs false
set_option linter.unusedVariables false
set_option linter.unusedSimpArgs false
set_option linter.unusedVariables false
namespace Go.Proofs.YtddmgdclmkgpeaaGreat
open Go.Eng Go.RowKit Go.ChangeShapes Go.WideShapes
set_option maxRecDepth 100000
theorem setCell_self {w:World} {b:Nat} {v:Value} {ty:TypeId} (h:w.heap[b]? = some (.cells #[v] ty (0,0))):w.setCell ⟨b,0,none⟩ v=w:=by
  unfold World.setCell
  have e : (w.heap.modify b fun
      | .cells c elem frozen=>.cells (if (none:Option Nat).isSome then c else c.setIfInBounds 0 v) elem frozen
      | o=>o)=w.heap:=by
    refine Array.ext (by simp) fun i h1 h2=>?_
    rw [Array.getElem_modify]
    split
    · rename_i hb
      subst hb
      have h:w.heap[b] = .cells #[v] ty (0,0):=by
        rw [Array.getElem?_eq_getElem h2] at h
        exact Option.some.inj h
      rw [h]
      rfl
    · rfl
  exact congrArg (fun x=>{ w with heap:=x }) e
theorem get_spec {b : AV} {C : Look → Prop} {key key' : Nat} {X : SI} {rest : AV} {W : Aq} {k : Int} (H : CallSpec Tryz.prog 163 [b, .int .i64 (.lit (min (max k 0) 8))] C key key' (.tup [.int .u64 X, rest]) W) :
    CallSpec Tryz.prog 101 [b,.int .i64 (.lit k)] C key key' (.tup [.int .u64 X,rest,.int .i64 (.lit 0)]) W:=by
  intro A E lk w vals hU hC hk hv
  have hv0:vals = #[den E b,.int .i64 k]:=hv E (Ae.refl _ _)
  have hb:∀ E',Ae A E E'→den E b=den E' b:=fun E' hE=>by
    have h1:vals = #[den E' b,.int .i64 k]:=hv E' hE
    rw [hv0] at h1
    have:=congrArg (fun a:Array Value=>a[0]?) h1
    simpa using this
  rw [hv0]
  have hsz:w.heap.size≤(w.alloc (Obj.cells #[.int .i64 0] 54)).heap.size:=by
    show w.heap.size≤(w.heap.push _).size
    rw [Array.size_push]
    omega
  have hbl:∀ b,b<w.heap.size→(w.alloc (Obj.cells #[.int .i64 0] 54)).heap[b]? = w.heap[b]?:=fun b h=>by
    show (w.heap.push _)[b]? = _
    rw [Array.getElem?_push_lt h,Array.getElem?_eq_getElem h]
  have hnew:(w.alloc (Obj.cells #[.int .i64 0] 54)).heap[w.heap.size]? = some (.cells #[.int .i64 0] 54 (0,0)):=by
    show (w.heap.push _)[w.heap.size]? = _
    rw [Array.getElem?_push_size]
  have hUA:=hU.world hsz hbl
  have own:∀ k o b,lk k=some o→owns E k o b→b<w.heap.size:=fun k o b ho h=>(hU.here.obj k o ho).lt h
  have HN:=H A E lk _ #[den E b,.int .i64 (min (max k 0) 8)] hUA hC hk (fun E' hE=>by
    show _ = #[den E' b,_]
    rw [hb E' hE]
    rfl)
  refine (get_walk (den E b) k w (fun x rest' w'=>w'.heap[w.heap.size]? = some (.cells #[.int .i64 0] 54 (0,0))∧∃ E1,x=X.v∧(∀ E',Ae (rng A key key') E1 E'→rest'=den E' rest)∧RelU (rng A key key') E1 (hupd lk W) w'∧Ext A E lk (w.alloc (Obj.cells #[.int .i64 0] 54)) E1 (hupd lk W) w') (HN.mono ?_)).mono ?_
  · rintro e w' ⟨val,E1,rfl,g1,g2,g3⟩
    have hc:w'.heap[w.heap.size]? = some (.cells #[.int .i64 0] 54 (0,0)):=by
      rw [g3.frame w.heap.size (by show w.heap.size<(w.heap.push _).size; rw [Array.size_push]; omega) (fun k o ho h=>by
        have:=own k o _ ho h
        omega)]
      exact hnew
    refine ⟨X.v,den E1 rest,?_,⟨hc,E1,rfl,fun E' hE=>?_,g2,g3⟩,?_,?_⟩
    · rw [g1 E1 (Ae.refl _ _)]
      rfl
    · have h1:=g1 E1 (Ae.refl _ _)
      have h2:=g1 E' hE
      rw [h1] at h2
      have h2:Value.tuple #[.int .u64 X.v,den E1 rest]=Value.tuple #[.int .u64 X.v,den E' rest]:=h2
      simpa using h2
    · unfold World.cell?
      rw [hc]
      rfl
    · unfold World.frozen?
      rw [hc]
      rfl
  · rintro e w2 ⟨x,rest',w',rfl,⟨hc,E1,rfl,g1,g2,g3⟩,rfl⟩
    rw [setCell_self hc]
    refine ⟨_,E1,rfl,fun E' hE=>?_,g2,?_⟩
    · rw [g1 E' hE]
      rfl
    · refine ⟨g3.os,g3.tape,g3.output,Nat.le_trans hsz g3.size,g3.agree,fun b h1 h2=>(g3.frame b (Nat.lt_of_lt_of_le h1 hsz) h2).trans (hbl b h1),fun k o b h1 h2=>(g3.fresh k o b h1 h2).imp_right fun h=>Nat.le_trans hsz h,fun k h1 h2=>?_,fun k len sz rows a h1 h2 h3=>(g3.rof k len sz rows a h1 h2 h3).imp_right fun h=>Nat.le_trans hsz h⟩
      obtain ⟨q1,q2⟩:=g3.tok k h1 h2
      refine ⟨q1,fun b hb=>(q2 b hb).trans (hbl b ?_)⟩
      exact own k _ b q1 hb
end Go.Proofs.YtddmgdclmkgpeaaGreat
set_option linter.unusedSimpArgs false
set_option linter.unusedVariables false
namespace Go.Proofs.YtddmgdclmkgpeaaGreat
open Go.Eng Go.RowKit Go.ChangeShapes Go.WideShapes
set_option maxRecDepth 100000
def ksOf (b:AV) (h:Aq):List Nat:=match b with
  | .sl j=>match hget j h with
    | some (.lst _ _ _ (some g))=>[j,g]
    | _=>[j]
  | _=>[]
def tupGet (ks:List Nat) (v:AV) (h:Aq) (key:Nat):Ah (AV×List Nat×Aq×Nat):=match v with
  | .tup [.int .u64 X,rest]=>.leaf (.tup [.int .u64 X,rest,.int .i64 (.lit 0)],ks,h.take (h.length - ks.length),key)
  | _=>.fail "a number's result"
noncomputable def getS:Summ:=⟨fun args h key=>match args with
  | [b,.int .i64 (.lit k)]=>match closedK (ksOf b h) h with
    | true=>BR Tryz.prog (Am Tryz.prog noTab 300) 163 [b,.int .i64 (.lit (min (max k 0) 8))] (restrict (ksOf b h) h) key (tupGet (ksOf b h))
    | false=>.fail "bytes"
  | _=>.fail "a number's arguments"⟩
theorem restrict_length (h:Aq):∀ ks:List Nat,(restrict ks h).length=ks.length
  | []=>rfl
  | _::ks=>congrArg (· + 1) (restrict_length h ks)
theorem wok_restrict {ks:List Nat} {h:Aq} {n n':Nat} {W:Aq} (H:WOK (AO (restrict ks h)) n n' W):WOK (AO h) n n' W:=by
  have up:∀ k,AO (restrict ks h) k≠none→AO h k≠none:=fun k hk=>by
    rw [restrict_look] at hk
    split at hk
    · exact hk
    · exact absurd rfl hk
  intro k o hm
  obtain ⟨h1,h2⟩:=H k o hm
  exact ⟨h1.imp_left (up k),fun x g e1 e2=>(h2 x g e1 e2).imp_right (up g)⟩
theorem getS_sel {args:List AV} {h:Aq} {key:Nat} {r:AV×List Nat×Aq×Nat} (e:(getS.run args h key).sel=some r):CallSpec Tryz.prog 101 args (fun lk=>∀ k∈r.2.1,lk k=hget k h) key r.2.2.2 r.1 r.2.2.1∧key≤r.2.2.2∧WOK (AO h) key r.2.2.2 r.2.2.1:=by
  simp only [getS] at e
  split at e
  · rename_i b k
    split at e
    · rename_i hcl
      rw [callW_nat (runD:=codeD Tryz.prog noTab 300) (fun f nt c τ h key K=>codeT_sel 300 f nt c τ h key K)] at e
      obtain ⟨⟨v0,H0,key0⟩,hc,e⟩:=BC e
      dsimp only [tupGet] at e
      split at e
      · rename_i X rest
        cases e
        obtain ⟨hge,W,hW,hwok⟩:=call_grows (Ao _) 300 163 _ _ key _ H0 key0 hc
        have hlen:H0.take (H0.length - (ksOf b h).length)=W:=by
          rw [hW,List.length_append,restrict_length,Nat.add_sub_cancel,List.take_left]
        show CallSpec Tryz.prog 101 [b,.int .i64 (.lit k)] (fun lk=>∀ k∈ksOf b h,lk k=hget k h) key key0 (.tup [.int .u64 X,rest,.int .i64 (.lit 0)]) (H0.take (H0.length - (ksOf b h).length))∧key≤key0∧WOK (AO h) key key0 (H0.take (H0.length - (ksOf b h).length))
        rw [hlen]
        exact ⟨get_spec (call_part (call_sound (Ao _) Ay 300) (call_grows (Ao _) 300) hc hW hcl),hge,wok_restrict hwok⟩
      · cases e
    · cases e
  · cases e
theorem getS_ok:Ak Tryz.prog 101 getS:=⟨fun args h key v R W key' e=>(getS_sel e).1,fun args h key r e=>(getS_sel e).2⟩
end Go.Proofs.YtddmgdclmkgpeaaGreat
set_option linter.unusedSimpArgs false
set_option linter.unusedVariables false
namespace Go.Proofs.YtddmgdclmkgpeaaGreat
open Go.Eng Go.RowKit Go.ChangeShapes Go.WideShapes
set_option maxRecDepth 100000
def ebP:List (Nat×TO):=[(0,.lst none [.i .u8] none),(1,.lst none [.i .u8] none)]
def ebT:TS:=⟨[],[.one (.sl 0),.one (.sl 1)],ebP,2⟩
def ebL:TS:=⟨[0,1,12,13],[.one (.sl 0),.one (.sl 1),.one (.i .i64),.one (.i .i64)],ebP,2⟩
def ebE:TS:=⟨[],[],[],2⟩
def ebR:TS:=⟨[4],[.one .b],[],2⟩
noncomputable def bodyEb:Code:=Tryz.f50.body.getD .skip
noncomputable def xEb:Code:=lp ((flat bodyEb).getD 4 .skip)
theorem bodyEb_eq:Tryz.f50.body=some bodyEb:=by kernel_rfl
theorem inEb:BT Tryz.prog 50 Tryz.f50.ntmps bodyEb:=within_body Tryz.func50 bodyEb_eq
theorem lpEb:(flat bodyEb).drop 4=[.block 0 (.loop xEb)]++(flat bodyEb).drop 5:=by kernel_rfl
theorem inEbx:BT Tryz.prog 50 Tryz.f50.ntmps xEb:=by
  have h:(flat bodyEb)[4]? = some (.block 0 (.loop xEb)):=by kernel_rfl
  exact within_loop (within_block (within_at inEb 4 h))
theorem Eb_pre (l k:List Int) (τ0:Tm):Am Tryz.prog noTab 300 50 Tryz.f50.ntmps (Eng.ofL ((flat bodyEb).take 4)) (argTm 0 (ebT.vals ⟨[[],[]],[.lst l.length (AR l),.lst k.length (AR k)]⟩)++τ0) (ebT.heap ⟨[[],[]],[.lst l.length (AR l),.lst k.length (AR k)]⟩) 2 (outX 2 ⟨some ebL,[],some ebR⟩) =
  .ite ((l.length:Int) != (k.length:Int)) (.leaf (.ret,⟨[[.b false]],[]⟩)) (.must (AX [.i .u8] (AI [.i .u8] (AR l)) l.length) (.must (AX [.i .u8] (AI [.i .u8] (AR k)) k.length) (.leaf (.normal,
  ⟨[[.u],[.u],[.i (l.length:Int)],[.i 0]],[.lst l.length (AR l),.lst k.length (AR k)]⟩)))):=by kernel_rfl
theorem Eb_x (l k:List Int) (n i:Int) (τ0:Tm):Am Tryz.prog noTab 300 50 Tryz.f50.ntmps xEb (ebL.tm ⟨[[],[],[.i n],[.i i]],[.lst l.length (AR l),.lst k.length (AR k)]⟩++τ0) (ebL.heap ⟨[[],[],[.i n],[.i i]],[.lst l.length (AR l),.lst k.length (AR k)]⟩) 2 (outX 2 ⟨some ebL,[(0,ebE)],some ebR⟩) =
  .ite (decide (i<n)) (.must (decide (0≤i∧i<(l.length:Int))) (.must (decide (0≤i∧i<(l.length:Int))) (.defI (l.getD i.toNat 0) fun z0=>.must (decide (0≤i∧i<(k.length:Int))) (.must (decide (0≤i
  ∧ i<(k.length:Int))) (.defI (k.getD i.toNat 0) fun z1=>.ite (z0 != z1) (.leaf (.ret,⟨[[.b false]],[]⟩)) (.defI (IntKind.i64.wrap (i+1)) fun z2=>.must (AX [.i .u8] (AI [.i .u8] (AR l)) l.length) (.must
  (AX [.i .u8] (AI [.i .u8] (AR k)) k.length) (.leaf (.normal,⟨[[.u],[.u],[.i n],[.i z2]],[.lst l.length (AR l),.lst k.length (AR k)]⟩))))))))) (.leaf (.exit 0,⟨[],[]⟩)):=by kernel_rfl
theorem Eb_tail  (τ0:Tm):Am Tryz.prog noTab 300 50 Tryz.f50.ntmps (Eng.ofL ((flat bodyEb).drop 5)) (ebE.tm ⟨[],[]⟩++τ0) (ebE.heap ⟨[],[]⟩) 2 (outX 2 ⟨none,[],some ebR⟩) =
  .leaf (.ret,⟨[[.b true]],[]⟩):=by kernel_rfl
def ebQ (l k:List Int):Ex→EN→Prop
  | .exit _,_=>eqI l k=true
  | .ret,e=>e.ab 0 0=eqI l k
  | .normal,_=>True
theorem eb_loop (l k:List Int) (hl:(l.length:Int)<1000000) (hk:l.length=k.length):HT Tryz.prog Tryz.f50.ntmps 2 (.loop xEb) 2 (ebL.tm ⟨[[],[],[.i (l.length:Int)],[.i 0]],[.lst l.length (AR l),.lst k.length (AR k)]⟩) (ebL.heap ⟨[[],[],[.i (l.length:Int)],[.i 0]],[.lst l.length (AR l),.lst k.length (AR k)]⟩) (QX ⟨none,[(0,ebE)],some ebR⟩ (ebQ l k)):=by
  refine HT.loopX (Ao _) Ay (n:=300) inEbx ebL _ _ (fun i:Nat=>⟨[[],[],[.i (l.length:Int)],[.i (i:Int)]],[.lst l.length (AR l),.lst k.length (AR k)]⟩) (fun i=>i≤l.length∧eqI l k=eqFrom l k i) (fun i=>l.length - i) (fun _=>ebQ l k) (by decide) ?_ 0 ⟨Nat.zero_le _,rfl⟩
  intro i hi τ0
  obtain ⟨hi,hq⟩:=hi
  refine AL (Eb_x l k (l.length:Int) (i:Int) τ0) ?_
  have e1:IntKind.i64.wrap ((i:Int)+1)=((i+1:Nat):Int):=IntWalk.i64_in _ (by omega)
  refine AG (fun h=>?_) (fun h=>AE ?_)
  · have h:=of_decide_eq_true h
    have hm:decide ((0:Int)≤(i:Int)∧(i:Int)<(l.length:Int))=true:=decide_eq_true (by omega)
    have hm2:decide ((0:Int)≤(i:Int)∧(i:Int)<(k.length:Int))=true:=decide_eq_true (by omega)
    have d1:=drop_cons l (i:=i) (by omega)
    have d2:=drop_cons k (i:=i) (by omega)
    refine AA hm (AA hm (AB (AA hm2 (AA hm2 (AB (AG (fun hc=>AE ?_) (fun hc=>?_)))))))
    · have hc:l.getD i 0≠k.getD i 0:=bne_iff_ne.1 hc
      show false=eqI l k
      rw [hq,eqFrom,d1,d2]
      exact (decide_eq_false fun h=>hc (List.cons.inj h).1).symm
    · have hc : l.getD i 0 = k.getD i 0 := by
        have hc:(l.getD i 0 != k.getD i 0)=false:=hc
        simpa using hc
      refine AB (AA (AN _ _ _) (AA (AN _ _ _) (AE ⟨i+1,⟨by omega,?_⟩,by omega,?_,fun _ _ h=>h⟩)))
      · rw [hq,eqFrom,eqFrom,d1,d2,hc]
        simp
      · rw [e1]
        (repeat' (first | exact trivial | exact rfl | exact TS.eqv_refl _ _ | exact AY _ _ | exact AQ | exact fun _ _=>AJ _ _ | exact fun i _=>AF rfl _ i | apply And.intro))
  · have h:=of_decide_eq_false h
    have e:i=l.length:=by omega
    subst e
    show eqI l k=true
    rw [hq,eqFrom,List.drop_length,hk,List.drop_length]
    rfl
theorem eb_std (l k:List Int) (hl:(l.length:Int)<1000000):BI Tryz.prog 50 ebT ⟨[[],[]],[.lst l.length (AR l),.lst k.length (AR k)]⟩ ebR ⟨[[.b (eqI l k)]],[]⟩:=by
  by_cases hk:l.length=k.length
  · refine stdX_loop (Ao _) Ay (n := 300) Tryz.func50 bodyEb_eq 4 (L := ebL) (E := ebE) (RL := ebQ l k) rfl rfl (by kernel_rfl) rfl rfl lpEb (by decide) (by decide) (by decide)
      (fun τ0=>AL (Eb_pre l k τ0) (AG (fun h=>absurd (by rw [hk]) (bne_iff_ne.1 h)) (fun _=>AA (AN _ _ _) (AA (AN _ _ _) (AE (.inl ⟨rfl,?_⟩)))))) (eb_loop l k hl hk) (fun en he=>⟨⟨[],[]⟩,?_,fun τ0=>AL (Eb_tail τ0) (AE fun _=>⟨⟨he.symm,trivial⟩,trivial⟩)⟩) (fun en he=>⟨⟨he,trivial⟩,trivial⟩)
    · exact clP
    · exact clP
  · have he:eqI l k=false:=decide_eq_false fun h=>hk (congrArg List.length h)
    have hne:((l.length:Int) != (k.length:Int))=true:=bne_iff_ne.2 fun h=>hk (by exact_mod_cast h)
    refine stdX_loop (Ao _) Ay (n:=300) Tryz.func50 bodyEb_eq 4 (L:=ebL) (E:=ebE) (RL:=ebQ [0] [1]) (en0:=⟨[[],[],[.i 1],[.i 0]],[.lst 1 (AR [0]),.lst 1 (AR [1])]⟩) rfl rfl (by kernel_rfl) rfl rfl lpEb (by decide) (by decide) (by decide)
      (fun τ0=>AL (Eb_pre l k τ0) (AG (fun h=>AE (.inr ⟨rfl,?_⟩)) (fun h=>by rw [hne] at h; cases h))) (eb_loop [0] [1] (by decide) rfl) (fun en h=>absurd (show eqI [0] [1]=true from h) (by decide)) (fun en h=>⟨⟨(show en.ab 0 0=eqI [0] [1] from h).trans he.symm,trivial⟩,trivial⟩)
    · rw [he]
      (repeat' (first | exact trivial | exact rfl | exact TS.eqv_refl _ _ | exact AY _ _ | exact AQ | exact fun _ _=>AJ _ _ | exact fun i _=>AF rfl _ i | apply And.intro))
def cEb (e:EN):Ah (TS×EN):=.must (decide ((e.ln 0:Int)<1000000)) (.leaf (ebR,⟨[[.b (eqI (Ax (e.ln 0) (e.rw 0)) (Ax (e.ln 1) (e.rw 1)))]],[]⟩))
theorem cEb_ok:Ak Tryz.prog 50 (AW ebT cEb):=BN fun e r h=>by
  obtain ⟨hl,h⟩:=Ar h
  cases h
  have hl:=of_decide_eq_true hl
  have e1:(Ax (e.ln 0) (e.rw 0)).length=e.ln 0:=As _ _
  have e2:(Ax (e.ln 1) (e.rw 1)).length=e.ln 1:=As _ _
  refine BI.pre (x':=⟨[[],[]],[.lst (Ax (e.ln 0) (e.rw 0)).length (AR (Ax (e.ln 0) (e.rw 0))),.lst (Ax (e.ln 1) (e.rw 1)).length (AR (Ax (e.ln 1) (e.rw 1)))]⟩) ⟨⟨trivial,trivial,trivial⟩,⟨e1.symm,fun i hi=>rowI_eqv ?_⟩,⟨e2.symm,fun i hi=>rowI_eqv ?_⟩,trivial⟩ (eb_std _ _ (by rw [e1]; exact hl))
  · have hi:(i:Int)<((Ax (e.ln 0) (e.rw 0)).length:Int):=hi
    rw [e1] at hi
    exact_mod_cast hi
  · have hi:(i:Int)<((Ax (e.ln 1) (e.rw 1)).length:Int):=hi
    rw [e2] at hi
    exact_mod_cast hi
end Go.Proofs.YtddmgdclmkgpeaaGreat
set_option linter.unusedSimpArgs false
set_option linter.unusedVariables false
namespace Go.Proofs.YtddmgdclmkgpeaaGreat
open Go.Eng Go.RowKit Go.ChangeShapes Go.WideShapes
set_option maxRecDepth 100000
def mwN (e:EN):EN:=⟨[],mn0 default (Al.new (e.ai 0 0))⟩
def cMu (e:EN):Ah (TS×EN):=.defE (mwN e) fun r=>.leaf (mwR,⟨[[.u]],rawM r⟩)
noncomputable def thSm:List (FuncId×Summ):=[(101,getS),(13,AW mwT cMu),(44,AW adT cAd),(47,AW incT cInc),(48,AW lsT cLs),(50,AW ebT cEb)]
noncomputable def thTb:Tab:=smTab (tabOf thSm)
def ldT:TS:=⟨[],[.one (.sl 0)],[(0,.lst none [.i .u8] none)],1⟩
def ldL:TS:=⟨[0,5,6,7,8],[.one (.sl 0),.one (.ptr 1 0),.one (.ptr 3 0),.one (.i .u32),.one (.i .u32)],[(0,.lst none [.i .u8] none),(1,.box [.sl 2,.bl false]),(2,.lst none [.i .u8] none),(3,.box [.i .u8,.ptr 4 0,.ptr 6 0,.sl 7,.nilp,.i .i64,.i .u32,.i .u8,.ptr 9 0]),(4,.ob 1 Af 5),(5,.tok),(6,.box acB),(7,.lst none BB (some 8)),(8,.tok),(9,.box rpB)],10⟩
def svU (e:EN):EN:=⟨[],byN (saveL (mon0 e))⟩
def cSu0 (e:EN):Ah (TS×EN):=.defE (svU e) fun r=>.leaf (svR0,⟨[[.u]],rawM e++[.lst (r.ln 0) (r.rw 0),.tok]⟩)
noncomputable def thTb2:Tab:=smTab (tabOf (((16,AW svT0 cSu0):FuncId×Summ)::thSm))
def ldR:TS:=⟨[2,3],[.one (.ptr 1 0),.one (.i .i64)],[(1,.box [.i .u8,.ptr 2 0,.ptr 4 0,.sl 5,.nilp,.i .i64,.i .u32,.i .u8,.ptr 7 0]),(2,.ob 1 Af 3),(3,.tok),(4,.box acB),(5,.lst none BB (some 6)),(6,.tok),(7,.box rpB),(0,.lst none [.i .u8] none)],8⟩
def ldE:TS:=⟨[2,3],[.one .nilp,.one (.i .i64)],[(0,.lst none [.i .u8] none)],1⟩
theorem cMu_ok:Ak Tryz.prog 13 (AW mwT cMu):=BN fun e r h=>by
  cases h
  refine BI.pre (x':=⟨[[.i (e.ai 0 0)]],[]⟩) clP (BI.post (t':=mwR) clP (mw_std (e.ai 0 0)))
theorem thSm_ok:AllOk Tryz.prog thSm:=⟨getS_ok,cMu_ok,cAd_ok,cInc_ok,cLs_ok,cEb_ok,trivial⟩
theorem thTab:TabAll Tryz.prog thTb:=tab_ok thSm_ok
noncomputable def bodyLd:Code:=Tryz.f15.body.getD .skip
noncomputable def xLd:Code:=lp ((flat bodyLd).getD 8 .skip)
theorem bodyLd_eq:Tryz.f15.body=some bodyLd:=by kernel_rfl
theorem inLd:BT Tryz.prog 15 Tryz.f15.ntmps bodyLd:=within_body Tryz.func15 bodyLd_eq
theorem lpLd:(flat bodyLd).drop 8=[.block 0 (.loop xLd)]++(flat bodyLd).drop 9:=by kernel_rfl
theorem inLdx:BT Tryz.prog 15 Tryz.f15.ntmps xLd:=by
  have h:(flat bodyLd)[8]? = some (.block 0 (.loop xLd)):=by kernel_rfl
  exact within_loop (within_block (within_at inLd 8 h))
theorem ld_xE (l r:List Int) (hd:Dat) (s:Al) (la e:Int) (τ0:Tm):(Am Tryz.prog thTb 300 15 Tryz.f15.ntmps xLd (ldL.tm ⟨[[],[],[],[.i la],[.i e]],[.lst l.length (AR l),.box [.u,.u],.lst r.length (AR r)]++mn0 hd s⟩++τ0) (ldL.heap ⟨[[],[],[],[.i la],[.i e]],[.lst l.length (AR l),.box [.u,.u],.lst r.length (AR r)]++mn0 hd s⟩) 10 (outX 1 ⟨some ldL,[(0,ldL)],some ldE⟩)).cut [some false] =
  .must (!decide (e≤la)) (.must (AX [.i .u8] (AI [.i .u8] (AR l)) l.length) (.must (AX [.i .u8] (AI [.i .u8] (AR r)) r.length) (.must (BE Af Af) (.must (AX BB (AI BB (rowJ s.wishes))
  s.6.length) (.leaf (.exit 0,⟨[[.u],[.u],[.u],[.i la],[.i e]],[.lst l.length (AR l),.box [.u,.u],.lst r.length (AR r),.box [.i s.1,.u,.u,.u,.u,.i s.8,.i s.over.1,.i s.over.2,.u],.own (hdW hd s.2),
  .tok,.box [.i s.prom.1,.i s.prom.2,.i s.acc.1,.i s.acc.2,.i s.ainc.1,.i s.ainc.2,.i s.ainc.3],.lst s.6.length (AH BB (AI BB (rowJ s.wishes))),.tok,.box [.b (s.10 0),.b (s.10 1),.b (s.10 2),.b
  (s.10 3),.b (s.10 4),.b (s.10 5),.b (s.10 6),.b (s.10 7),.b (s.10 8),.b (s.10 9),.b (s.10 10),.b (s.10 11),.b (s.10 12),.b (s.10 13),.b (s.10 14),.b (s.10 15),.b (s.10 16),.b (s.10 17),.b (s.10 18),.b
  (s.10 19),.b (s.10 20),.b (s.10 21),.b (s.10 22),.b (s.10 23),.b (s.10 24)]]⟩)))))):=by kernel_rfl
theorem ld_xN (l r:List Int) (hd:Dat) (s:Al) (la e:Int) (τ0:Tm):(Am Tryz.prog thTb 300 15 Tryz.f15.ntmps xLd (ldL.tm ⟨[[],[],[],[.i la],[.i e]],[.lst l.length (AR l),.box [.u,.u],.lst r.length (AR r)]++mn0 hd s⟩++τ0) (ldL.heap ⟨[[],[],[],[.i la],[.i e]],[.lst l.length (AR l),.box [.u,.u],.lst r.length (AR r)]++mn0 hd s⟩) 10 (outX 1 ⟨some ldL,[(0,ldL)],some ldE⟩)).cut [some true,some false,some false,some false,some true,some false] =
  .must (decide (e≤la)) (.must (!decide ((r.length:Int)<1)) (.must (decide (1≤(r.length:Int))) (.must (decide ((0:Int)≤min (max 1 0) 8∧1≤(r.length:Int))) (.must (decide ((r.length:Int)≤(r.length :
  Int))) (.defI (r.getD 0 0) fun z0=>.defI (IntKind.u64.wrap z0) fun z1=>.defI (IntKind.u64.wrap ((BitVec.ofInt 64 0 ||| BitVec.ofInt 64 z1).toNat:Int)) fun z2=>.defI z2 fun z3=>.defI ((r.length:Int) - 1) fun
  z4=>.defI (IntKind.u8.wrap z3) fun z5=>.must (!decide (z4<1)) (.must (decide (1≤z4)) (.must (decide ((0:Int)≤min (max 1 0) 8∧1≤z4)) (.must (decide (z4≤z4)) (.defI (r.getD 1 0) fun z6=>.defI
  (IntKind.u64.wrap z6) fun z7=>.defI (IntKind.u64.wrap ((BitVec.ofInt 64 0 ||| BitVec.ofInt 64 z7).toNat:Int)) fun z8=>.defI z8 fun z9=>.defI (z4 - 1) fun z10=>.defI (IntKind.u8.wrap z9) fun z11=>.must
  (!decide (z10<1)) (.must (decide (1≤z10)) (.must (decide ((0:Int)≤min (max 1 0) 8∧1≤z10)) (.must (decide (z10≤z10)) (.defI (r.getD 2 0) fun z12=>.defI (IntKind.u64.wrap z12) fun z13=>.defI
  (IntKind.u64.wrap ((BitVec.ofInt 64 0 ||| BitVec.ofInt 64 z13).toNat:Int)) fun z14=>.defI z14 fun z15=>.defI (z10 - 1) fun z16=>.defI (IntKind.i64.wrap z15) fun z17=>.must (BE Af Af) (.defE ⟨[[.u],[.i
  e],[.i z5,.i z11,.i z17]],[.own (hdW hd s.2),.tok]⟩ fun e18=>.must (decide (0≤e18.ai 2 1∧e18.ai 1 0<4294967296)) (.must (addOk (e18.dt 0).2 (e18.ai 1 0) (e18.ai 2 0) (e18.ai 2 1) (e18.ai 2 2)) (.defI 0 fun
  z19=>.must (!z19 != 0) (.defI (IntKind.u32.wrap (e+1)) fun z20=>.must (AX [.i .u8] (AI [.i .u8] (AR l)) l.length) (.must (AX [.i .u8] (Aw (.lit 1) (Aw (.lit 1) (Aw (.lit 1) (AI [.i
  .u8] (AR r))))) z16.toNat) (.must (BE Af Af) (.must (AX BB (AI BB (rowJ s.wishes)) s.6.length) (.leaf (.normal,⟨[[.u],[.u],[.u],[.i la],[.i z20]],[.lst l.length (AR l),.box [.u,.u],.lst
  z16.toNat (AH [.i .u8] (Aw (.lit 1) (Aw (.lit 1) (Aw (.lit 1) (AI [.i .u8] (AR r)))))),.box [.i s.1,.u,.u,.u,.u,.i s.8,.i s.over.1,.i s.over.2,.u],.own (addD (e18.dt 0) (e18.ai 2 0)
  (e18.ai 2 1) (e18.ai 2 2)),.tok,.box [.i s.prom.1,.i s.prom.2,.i s.acc.1,.i s.acc.2,.i s.ainc.1,.i s.ainc.2,.i s.ainc.3],.lst s.6.length (AH BB (AI BB (rowJ s.wishes))),.tok,.box [.b (s.10 0),.b
  (s.10 1),.b (s.10 2),.b (s.10 3),.b (s.10 4),.b (s.10 5),.b (s.10 6),.b (s.10 7),.b (s.10 8),.b (s.10 9),.b (s.10 10),.b (s.10 11),.b (s.10 12),.b (s.10 13),.b (s.10 14),.b (s.10 15),.b (s.10 16),.b (s.10
  17),.b (s.10 18),.b (s.10 19),.b (s.10 20),.b (s.10 21),.b (s.10 22),.b (s.10 23),.b (s.10 24)]]⟩)))))))))))))))))))))):=by kernel_rfl
end Go.Proofs.YtddmgdclmkgpeaaGreat
set_option linter.unusedSimpArgs false
set_option linter.unusedVariables false
namespace Go.Proofs.YtddmgdclmkgpeaaGreat
open Go.Eng Go.RowKit Go.ChangeShapes Go.WideShapes
set_option maxRecDepth 100000
def rd1 (c:Int):Int:=IntKind.u64.wrap ((BitVec.ofInt 64 0 ||| BitVec.ofInt 64 (IntKind.u64.wrap c)).toNat:Int)
def rdN (a c:Int):Int:=IntKind.u64.wrap ((BitVec.ofInt 64 (IntKind.u64.wrap (a * 256)) ||| BitVec.ofInt 64 (IntKind.u64.wrap c)).toNat:Int)
def rd4 (a b c d:Int):Int:=rdN (rdN (rdN (rd1 a) b) c) d
theorem or_nat (a b:Nat) (hb:b<256):a * 256 ||| b=a * 256+b:=by
  have:=Nat.shiftLeft_add_eq_or_of_lt (i:=8) (b:=b) hb a
  rw [Nat.shiftLeft_eq] at this
  exact this.symm
theorem ofInt_toNat (n:Nat) (h:n<18446744073709551616):(BitVec.ofInt 64 (n:Int)).toNat=n:=by
  rw [BitVec.toNat_ofInt]
  omega
theorem rdN_eq {a c:Int} (ha:0≤a∧a<72057594037927936) (hc:0≤c∧c<256):rdN a c=a * 256+c:=by
  obtain ⟨x,rfl⟩:∃ x:Nat,a=x:=⟨a.toNat,by omega⟩
  obtain ⟨y,rfl⟩:∃ y:Nat,c=y:=⟨c.toNat,by omega⟩
  unfold rdN
  rw [IntWalk.u64_in _ (by omega:0≤(x:Int) * 256∧(x:Int) * 256≤18446744073709551615),IntWalk.u64_in _ (by omega:0≤(y:Int)∧(y:Int)≤18446744073709551615)]
  have e:((BitVec.ofInt 64 ((x:Int) * 256) ||| BitVec.ofInt 64 (y:Int)).toNat)=x * 256+y:=by
    rw [BitVec.toNat_or,show ((x:Int) * 256)=((x * 256:Nat):Int) by simp,ofInt_toNat _ (by omega),ofInt_toNat _ (by omega),or_nat _ _ (by omega)]
  rw [e,IntWalk.u64_in _ (by omega)]
  simp
theorem rd1_eq {c:Int} (hc:0≤c∧c<256):rd1 c=c:=by
  have h:=rdN_eq (a:=0) (c:=c) (by decide) hc
  have e:rdN 0 c=rd1 c:=by
    unfold rdN rd1
    rw [show IntKind.u64.wrap (0 * 256)=0 by decide]
  rw [← e,h]
  omega
theorem wrap8 (n:Int):IntKind.u8.wrap n=n % 256:=by rw [IntKind.wrap_u8]
theorem rd4_be {n:Int} (h:0≤n∧n<4294967296):rd4 (IntKind.u8.wrap (n.fdiv 16777216)) (IntKind.u8.wrap (n.fdiv 65536)) (IntKind.u8.wrap (n.fdiv 256)) (IntKind.u8.wrap (n.fdiv 1))=n:=by
  rw [wrap8,wrap8,wrap8,wrap8,Int.fdiv_eq_ediv_of_nonneg _ (by decide),Int.fdiv_eq_ediv_of_nonneg _ (by decide),Int.fdiv_eq_ediv_of_nonneg _ (by decide),Int.fdiv_eq_ediv_of_nonneg _ (by decide)]
  unfold rd4
  have h1:rd1 (n / 16777216 % 256)=n / 16777216 % 256:=rd1_eq (by omega)
  have h2:rdN (n / 16777216 % 256) (n / 65536 % 256)=n / 16777216 % 256 * 256+n / 65536 % 256:=rdN_eq (by omega) (by omega)
  have h3:rdN (n / 16777216 % 256 * 256+n / 65536 % 256) (n / 256 % 256)=(n / 16777216 % 256 * 256+n / 65536 % 256) * 256+n / 256 % 256:=rdN_eq (by omega) (by omega)
  have h4:rdN ((n / 16777216 % 256 * 256+n / 65536 % 256) * 256+n / 256 % 256) (n / 1 % 256)=((n / 16777216 % 256 * 256+n / 65536 % 256) * 256+n / 256 % 256) * 256+n / 1 % 256:=rdN_eq (by omega) (by omega)
  rw [h1,h2,h3,h4]
  omega
end Go.Proofs.YtddmgdclmkgpeaaGreat
set_option linter.unusedSimpArgs false
set_option linter.unusedVariables false
namespace Go.Proofs.YtddmgdclmkgpeaaGreat
open Go.Eng Go.RowKit Go.ChangeShapes Go.WideShapes
set_option maxRecDepth 100000
theorem inc_byte {x:Inc} (h:incOk x=true) (ho:0≤x.osd):(0≤x.kind∧x.kind<256)∧(0≤x.osd∧x.osd<256)∧(0≤x.n∧x.n<256):=by
  unfold incOk at h
  cases h12:(x.kind==1||x.kind==2) with
  | true =>
    rw [h12] at h
    simp only [Bool.and_eq_true,decide_eq_true_eq,beq_iff_eq] at h
    have hk:x.kind=1∨x.kind=2:=by simpa using h12
    omega
  | false =>
    rw [h12] at h
    cases h3:(x.kind==3) with
    | true =>
      rw [h3] at h
      simp only [Bool.and_eq_true,decide_eq_true_eq] at h
      have hk:x.kind=3:=by simpa using h3
      omega
    | false =>
      rw [h3] at h
      simp only [Bool.and_eq_true,beq_iff_eq] at h
      omega
theorem incB_drop (l:List Inc) {j:Nat} (h:j<l.length):incB (l.drop j)=inc3 (l.getD j .zero)++incB (l.drop (j+1)):=by
  rw [List.drop_eq_getElem_cons h,List.getD,List.getElem?_eq_getElem h]
  rfl
theorem rows3 (a b c:Int) (r:List Int) (i:Nat):eqvL [.i .u8] (AH [.i .u8] (Aw (.lit 1) (Aw (.lit 1) (Aw (.lit 1) (AI [.i .u8] (AR (a::b::c::r)))))) i) (AR r i):=by
  have e:AR (a::b::c::r) (1+(1+(1+i)))=AR r i:=by
    rw [show 1+(1+(1+i))=i+1+1+1 by omega]
    rfl
  have:=AF (row:=[.i .u8]) rfl (AR (a::b::c::r)) (1+(1+(1+i)))
  rw [e] at this
  exact this
theorem rowsB3 (r:List Int) (n:Nat):AX [.i .u8] (Aw (.lit 1) (Aw (.lit 1) (Aw (.lit 1) (AI [.i .u8] (AR r))))) n=true:=rowsB_of fun _=>rowOk_inst rfl _
set_option maxHeartbeats 2000000 in
theorem ld_loop (l tl : List Int) (hd : Dat) (s : Al) (hg : HGood s.incs) (htl : (tl.length : Int) ≤ 1000) : HT Tryz.prog Tryz.f15.ntmps 1 (.loop xLd) 10 (ldL.tm ⟨[[], [], [], [.i ((s.incs.length : Int) + 1)], [.i (((0 : Nat) : Int) + 2)]], [.lst l.length (AR l), .box [.u, .u], .lst (incB (s.incs.drop 0) ++ tl).length (AR (incB (s.incs.drop 0) ++ tl))] ++ mn0 hd { s with incs := s.incs.take 0 }⟩) (ldL.heap ⟨[[], [], [], [.i ((s.incs.length : Int) + 1)], [.i (((0 : Nat) : Int) + 2)]], [.lst l.length (AR l), .box [.u, .u], .lst (incB (s.incs.drop 0) ++ tl).length (AR (incB (s.incs.drop 0) ++ tl))] ++ mn0 hd { s with incs := s.incs.take 0 }⟩) (QX ⟨none, [(0, ldL)], some ldE⟩ fun ex e => match ex with
    | .exit _=>ldL.eqv e ⟨[[],[],[],[.i ((s.incs.length:Int)+1)],[.i ((s.incs.length:Int)+2)]],[.lst l.length (AR l),.box [.u,.u],.lst (tl).length (AR (tl))]++mn0 hd s⟩
    | _=>False):=by
  have hl:=hg.1
  refine HT.loopX thTab Ay (n:=300) inLdx ldL _ _ (fun j:Nat=>⟨[[],[],[],[.i ((s.incs.length:Int)+1)],[.i ((j:Int)+2)]],[.lst l.length (AR l),.box [.u,.u],.lst (incB (s.incs.drop j)++tl).length (AR (incB (s.incs.drop j)++tl))]++mn0 hd { s with incs:=s.incs.take j }⟩) (fun j=>j≤s.incs.length) (fun j=>s.incs.length - j) (fun _ ex e=>match ex with
    | .exit _=>ldL.eqv e ⟨[[],[],[],[.i ((s.incs.length:Int)+1)],[.i ((s.incs.length:Int)+2)]],[.lst l.length (AR l),.box [.u,.u],.lst (tl).length (AR (tl))]++mn0 hd s⟩
    | _=>False) (by decide) ?_ 0 (Nat.zero_le _)
  intro j hj τ0
  by_cases hlt:j<s.incs.length
  · have hmem : s.incs.getD j .zero ∈ s.incs := by
      rw [List.getD,List.getElem?_eq_getElem hlt]
      exact List.getElem_mem hlt
    obtain ⟨hok,hos⟩:=hg.2 _ hmem
    obtain ⟨b1,b2,b3⟩:=inc_byte hok hos
    have htk:s.incs.take (j+1)=s.incs.take j++[s.incs.getD j .zero]:=by
      rw [List.take_add_one,List.getElem?_eq_getElem hlt,List.getD,List.getElem?_eq_getElem hlt]
      rfl
    have hlen:(s.incs.take j).length=j:=by rw [List.length_take]; omega
    have hdr:=incB_drop s.incs hlt
    generalize s.incs.getD j .zero=x at hmem hok hos b1 b2 b3 htk hdr
    rw [hdr]
    have hr:(inc3 x++incB (s.incs.drop (j+1)))++tl=x.kind::x.osd::IntKind.u8.wrap x.n::(incB (s.incs.drop (j+1))++tl):=rfl
    rw [hr]
    generalize hR:incB (s.incs.drop (j+1))++tl=R
    have L:(((x.kind::x.osd::IntKind.u8.wrap x.n::R).length:Nat):Int)=R.length+3:=by simp only [List.length_cons]; omega
    have k1:IntKind.u8.wrap (rd1 x.kind)=x.kind:=by rw [rd1_eq b1,IntWalk.u8_in _ (by omega)]
    have k2:IntKind.u8.wrap (rd1 x.osd)=x.osd:=by rw [rd1_eq b2,IntWalk.u8_in _ (by omega)]
    have k3:IntKind.i64.wrap (rd1 (IntKind.u8.wrap x.n))=x.n:=by rw [IntWalk.u8_in x.n (by omega),rd1_eq b3,IntWalk.i64_in _ (by omega)]
    refine BG [some true,some false,some false,some false,some true,some false] (AL (ld_xN l (x.kind::x.osd::IntKind.u8.wrap x.n::R) hd { s with incs:=s.incs.take j } ((s.incs.length:Int)+1) ((j:Int)+2) τ0) (AA (decide_eq_true (by omega)) ?_))
    iterate 4 refine AA (by first | exact decide_eq_true (by rw [L]; omega) | (rw [decide_eq_false (by rw [L]; omega)]; rfl) | exact decide_eq_true ⟨by decide,by rw [L]; omega⟩ | exact decide_eq_true (Int.le_refl _)) ?_
    repeat' with_reducible (first | refine AB ?_ | refine AM ?_)
    iterate 4 refine AA (by first | exact decide_eq_true (by rw [L]; omega) | (rw [decide_eq_false (by rw [L]; omega)]; rfl) | exact decide_eq_true ⟨by decide,by rw [L]; omega⟩ | exact decide_eq_true (Int.le_refl _)) ?_
    repeat' with_reducible (first | refine AB ?_ | refine AM ?_)
    iterate 4 refine AA (by first | exact decide_eq_true (by rw [L]; omega) | (rw [decide_eq_false (by rw [L]; omega)]; rfl) | exact decide_eq_true ⟨by decide,by rw [L]; omega⟩ | exact decide_eq_true (Int.le_refl _)) ?_
    repeat' with_reducible (first | refine AB ?_ | refine AM ?_)
    refine AA (AS _) (An fun e18 h18=>?_)
    have h18:e18=⟨[[.u],[.i ((j:Int)+2)],[.i (IntKind.u8.wrap (rd1 x.kind)),.i (IntKind.u8.wrap (rd1 x.osd)),.i (IntKind.i64.wrap (rd1 (IntKind.u8.wrap x.n)))]],[.own (hdW hd (s.incs.take j)),.tok]⟩:=h18
    rw [k1,k2,k3] at h18
    subst h18
    have hadd:addOk (s.incs.take j) ((j:Int)+2) x.kind x.osd x.n=true:=by
      unfold addOk
      have hok:incOk ⟨x.kind,x.osd,x.n⟩=true:=hok
      rw [hlen,decide_eq_true rfl,hok]
      show (!((j:Int)+1==60))=true
      have:¬ (j:Int)+1=60:=by omega
      simpa using this
    refine AA (decide_eq_true (show 0≤x.osd∧(j:Int)+2<4294967296 by omega)) (AA hadd (AB (AA rfl (AB ?_))))
    have e1:IntKind.u32.wrap ((j:Int)+2+1)=((j+1:Nat):Int)+2:=by
      rw [show ((j+1:Nat):Int)+2=(j:Int)+2+1 by omega]
      exact IntWalk.u32_in _ (by omega)
    have hz:((((x.kind::x.osd::IntKind.u8.wrap x.n::R).length:Nat):Int) - 1 - 1 - 1).toNat=R.length:=by rw [L]; omega
    refine AA (AN _ _ _) (AA (rowsB3 _ _) (AA (AS _) (AA (AZ rfl _ _) (AE ⟨j+1,hlt,by omega,?_,fun _ _ h=>h⟩))))
    have htk2:s.incs.take (j+1)=s.incs.take j++[x]:=htk
    show ldL.eqv _ ⟨[[],[],[],[.i ((s.incs.length:Int)+1)],[.i (((j+1:Nat):Int)+2)]],[.lst l.length (AR l),.box [.u,.u],.lst (incB (s.incs.drop (j+1))++tl).length (AR (incB (s.incs.drop (j+1))++tl))]++mn0 hd { s with incs:=s.incs.take (j+1) }⟩
    rw [hR,htk2]
    refine ⟨⟨trivial,trivial,trivial,rfl,e1,trivial⟩,⟨rfl,fun i _=>AJ [.i .u8] (AR l i)⟩,⟨trivial,trivial,trivial⟩,⟨hz,fun i _=>rows3 _ _ _ R i⟩,?_,rfl,trivial,?_,⟨rfl,fun i _=>AF rfl _ i⟩,trivial,?_,trivial⟩
    · exact clP
    · exact clP
    · exact clP
  · have:j=s.incs.length:=by omega
    subst this
    refine BG [some false] (AL (ld_xE l _ hd _ ((s.incs.length:Int)+1) ((s.incs.length:Int)+2) τ0) (AA (by rw [decide_eq_false (by omega)]; rfl) (AA (AN _ _ _) (AA (AN _ _ _) (AA (AS _) (AA (AZ rfl _ _) (AE ?_)))))))
    show ldL.eqv _ _
    rw [List.take_length,List.drop_length]
    refine ⟨⟨trivial,trivial,trivial,rfl,rfl,trivial⟩,⟨rfl,fun i _=>AJ [.i .u8] (AR l i)⟩,⟨trivial,trivial,trivial⟩,⟨rfl,fun i _=>AJ [.i .u8] (AR tl i)⟩,?_,rfl,trivial,?_,⟨rfl,fun i _=>AF rfl _ i⟩,trivial,?_,trivial⟩
    · exact clP
    · exact clP
    · exact clP
end Go.Proofs.YtddmgdclmkgpeaaGreat
set_option linter.unusedSimpArgs false
set_option linter.unusedVariables false
namespace Go.Proofs.YtddmgdclmkgpeaaGreat
open Go.Eng Go.RowKit Go.ChangeShapes Go.WideShapes
set_option maxRecDepth 100000
noncomputable abbrev qTk1 {R:Type} (e:EN) (k:Int→Int→Int→Int→Int→Int→Int→Int→Int→Int→Int→Int→Bool→Bool→Bool→Bool→Bool→Bool→Bool→Bool→Bool→Bool→Bool→Bool→Bool→Bool→Bool→Bool→Bool→Bool→Bool→Bool→Bool→Bool→Bool→Bool→Bool→Ah R):Ah R:=.defI (e.bi 0 0) fun a0=>.defI (e.bi 0 5) fun a1=>.defI (e.bi 0 6) fun a2=>.defI (e.bi 0 7) fun a3=>.defI (e.bi 3 0) fun a4=>.defI (e.bi 3 1) fun a5=>.defI (e.bi 3 2) fun a6=>.defI (e.bi 3 3) fun a7=>.defI (e.bi 3 4) fun a8=>.defI (e.bi 3 5) fun a9=>.defI (e.bi 3 6) fun a10=>.defI ((e.ln 4):Int) fun a11=>.defB (e.bb 6 0) fun a12=>.defB (e.bb 6 1) fun a13=>.defB (e.bb 6 2) fun a14=>.defB (e.bb 6 3) fun a15=>.defB (e.bb 6 4) fun a16=>.defB (e.bb 6 5) fun a17=>.defB (e.bb 6 6) fun a18=>.defB (e.bb 6 7) fun a19=>.defB (e.bb 6 8) fun a20=>.defB (e.bb 6 9) fun a21=>.defB (e.bb 6 10) fun a22=>.defB (e.bb 6 11) fun a23=>.defB (e.bb 6 12) fun a24=>.defB (e.bb 6 13) fun a25=>.defB (e.bb 6 14) fun a26=>.defB (e.bb 6 15) fun a27=>.defB (e.bb 6 16) fun a28=>.defB (e.bb 6 17) fun a29=>.defB (e.bb 6 18) fun a30=>.defB (e.bb 6 19) fun a31=>.defB (e.bb 6 20) fun a32=>.defB (e.bb 6 21) fun a33=>.defB (e.bb 6 22) fun a34=>.defB (e.bb 6 23) fun a35=>.defB (e.bb 6 24) fun a36=>k a0 a1 a2 a3 a4 a5 a6 a7 a8 a9 a10 a11 a12 a13 a14 a15 a16 a17 a18 a19 a20 a21 a22 a23 a24 a25 a26 a27 a28 a29 a30 a31 a32 a33 a34 a35
 a36
noncomputable abbrev qTk2 (v0:Int) (v1:Al) (v2:Dat) (v3:Int) (v4:Int) (v5:Int) (v6:Int) (v7:Int) (v8:Int) (v9:List Int):Ah (Ex×EN):=.must (!decide (v0≥3)) (.must (BE Af Af) (.must (AX BB (AI BB (rowJ v1.wishes)) v1.6.length) (.defE ⟨[[.u]],[.box [.i v1.1,.u,.u,.u,.u,.i v1.8,.i v1.over.1,.i v1.over.2,.u],.own (hdW v2 v1.2),.tok,.box [.i v3,.i v0,.i v4,.i v5,.i v6,.i v7,.i v8],.lst v1.6.length (AH BB (AI BB (rowJ v1.wishes))),.tok,.box [.b (v1.10 0),.b (v1.10 1),.b (v1.10 2),.b (v1.10 3),.b (v1.10 4),.b (v1.10 5),.b (v1.10 6),.b (v1.10 7),.b (v1.10 8),.b (v1.10 9),.b (v1.10 10),.b (v1.10 11),.b (v1.10 12),.b (v1.10 13),.b (v1.10 14),.b (v1.10 15),.b (v1.10 16),.b (v1.10 17),.b (v1.10 18),.b (v1.10 19),.b (v1.10 20),.b (v1.10 21),.b (v1.10 22),.b (v1.10 23),.b (v1.10 24)]]⟩ fun e66=>.defE (svU e66) fun e67=>qTk1 e66 fun z68 z69 z70 z71 z72 z73 z74 z75 z76 z77 z78 z79 z80 z81 z82 z83 z84 z85 z86 z87 z88 z89 z90 z91 z92 z93 z94 z95 z96 z97 z98 z99 z100 z101 z102 z103 z104=>.defI ((e67.ln 0):Int) fun z105=>.must (AX [.i .u8] ((AI [.i .u8] (e67.rw 0))) z105.toNat) (.must (AX [.i .u8] (AI [.i .u8] (AR v9)) v9.length) (.defE ⟨[[.u],[.u]],[.lst z105.toNat (AH [.i .u8] (AI [.i .u8] (e67.rw 0))),.lst v9.length (AR v9)]⟩ fun e106=>.must (decide (((e106.ln 0):Int)<1000000)) (.must (!!eqI (Ax (e106.ln 0) (e106.rw 0)) (Ax (e106.ln 1)
 (e106.rw 1))) (.must (BE Af Af) (.must (AX BB ((AI BB (e66.rw 4))) z79.toNat) (.must (AX [.i .u8] (AI [.i .u8] (AR v9)) v9.length) (.leaf (.ret,⟨[[.u],[.i 0]],[.box [.i z68,.u,.u,.u,.u,.i z69,.i z70,.i z71,.u],.own (e66.dt 1),.tok,.box [.i z72,.i z73,.i z74,.i z75,.i z76,.i z77,.i z78],.lst z79.toNat (AH BB (AI BB (e66.rw 4))),.tok,.box [.b z80,.b z81,.b z82,.b z83,.b z84,.b z85,.b z86,.b z87,.b z88,.b z89,.b z90,.b z91,.b z92,.b z93,.b z94,.b z95,.b z96,.b z97,.b z98,.b z99,.b z100,.b z101,.b z102,.b z103,.b z104],.lst v9.length (AR v9)]⟩)))))))))))
theorem ld_tA (l r:List Int) (hd:Dat) (s:Al) (la e:Int) (τ0:Tm):(Am Tryz.prog thTb2 300 15 Tryz.f15.ntmps (Eng.ofL ((flat bodyLd).drop 9)) (ldL.tm ⟨[[],[],[],[.i la],[.i e]],[.lst l.length (AR l),.box [.u,.u],.lst r.length (AR r)]++mn0 hd s⟩++τ0) (ldL.heap ⟨[[],[],[],[.i la],[.i e]],[.lst l.length (AR l),.box [.u,.u],.lst r.length (AR r)]++mn0 hd s⟩) 10 (outX 1 ⟨none,[],some ldR⟩)).cut [some false,some false,some false,some false,some false,some false,some false,some true,some true,some false,some false,some false] =

  .must (!decide ((r.length:Int)<4)) (.must (decide (4≤(r.length:Int))) (.must (decide ((0:Int)≤min (max 4 0) 8∧4≤(r.length:Int))) (.must (decide ((r.length:Int)≤(r.length:Int))) (.defI (r.getD 0 0) fun z0=>.defI (IntKind.u64.wrap z0) fun z1=>.defI (IntKind.u64.wrap ((BitVec.ofInt 64 0 ||| BitVec.ofInt 64 z1).toNat:Int)) fun z2=>.defI (r.getD 1 0) fun z3=>.defI (IntKind.u64.wrap (z2 * 256)) fun z4=>.defI (IntKind.u64.wrap z3) fun z5=>.defI (IntKind.u64.wrap ((BitVec.ofInt 64 z4 ||| BitVec.ofInt 64 z5).toNat:Int)) fun z6=>.defI (r.getD 2 0) fun z7=>.defI (IntKind.u64.wrap (z6 * 256)) fun z8=>.defI (IntKind.u64.wrap z7) fun z9=>.defI (IntKind.u64.wrap ((BitVec.ofInt 64 z8 ||| BitVec.ofInt 64 z9).toNat:Int)) fun z10=>.defI (r.getD 3 0) fun z11=>.defI (IntKind.u64.wrap (z10 * 256)) fun z12=>.defI (IntKind.u64.wrap z11) fun z13=>.defI (IntKind.u64.wrap ((BitVec.ofInt 64 z12 ||| BitVec.ofInt 64 z13).toNat:Int)) fun z14=>.defI z14 fun z15=>.defI ((r.length:Int) - 4) fun z16=>.defI (IntKind.u32.wrap z15) fun z17=>.must (!decide (z16<1)) (.must (decide (1≤z16)) (.must (decide ((0:Int)≤min (max 1 0) 8∧1≤z16)) (.must (decide (z16≤z16)) (.defI (r.getD 4 0) fun z18=>.defI (IntKind.u64.wrap z18) fun z19=>.defI (IntKind.u64.wrap ((BitVec.ofInt 64 0 ||| BitVec.ofInt 64 z19).toNat:Int)) fun z20=>.defI z20 fun z21=>.defI (z16 - 1) fun z22=>.defI (IntKind.u8.wrap z21) fun z23=>.must (!decide (z22 <
 4)) (.must (decide (4≤z22)) (.must (decide ((0:Int)≤min (max 4 0) 8∧4≤z22)) (.must (decide (z22≤z22)) (.defI (r.getD 5 0) fun z24=>.defI (IntKind.u64.wrap z24) fun z25=>.defI (IntKind.u64.wrap ((BitVec.ofInt 64 0 ||| BitVec.ofInt 64 z25).toNat:Int)) fun z26=>.defI (r.getD 6 0) fun z27=>.defI (IntKind.u64.wrap (z26 * 256)) fun z28=>.defI (IntKind.u64.wrap z27) fun z29=>.defI (IntKind.u64.wrap ((BitVec.ofInt 64 z28 ||| BitVec.ofInt 64 z29).toNat:Int)) fun z30=>.defI (r.getD 7 0) fun z31=>.defI (IntKind.u64.wrap (z30 * 256)) fun z32=>.defI (IntKind.u64.wrap z31) fun z33=>.defI (IntKind.u64.wrap ((BitVec.ofInt 64 z32 ||| BitVec.ofInt 64 z33).toNat:Int)) fun z34=>.defI (r.getD 8 0) fun z35=>.defI (IntKind.u64.wrap (z34 * 256)) fun z36=>.defI (IntKind.u64.wrap z35) fun z37=>.defI (IntKind.u64.wrap ((BitVec.ofInt 64 z36 ||| BitVec.ofInt 64 z37).toNat:Int)) fun z38=>.defI z38 fun z39=>.defI (z22 - 4) fun z40=>.defI (IntKind.u32.wrap z39) fun z41=>.must (!decide (z40<1)) (.must (decide (1≤z40)) (.must (decide ((0:Int)≤min (max 1 0) 8∧1≤z40)) (.must (decide (z40≤z40)) (.defI (r.getD 9 0) fun z42=>.defI (IntKind.u64.wrap z42) fun z43=>.defI (IntKind.u64.wrap ((BitVec.ofInt 64 0 ||| BitVec.ofInt 64 z43).toNat:Int)) fun z44=>.defI z44 fun z45=>.defI (z40 - 1) fun z46=>.defI (IntKind.u8.wrap z45) fun z47=>.must (!decide (z46<1)) (.must (decide (1≤z46)) (.must (decide ((0:Int)≤min (max 1 0) 8∧1 ≤
 z46)) (.must (decide (z46≤z46)) (.defI (r.getD 10 0) fun z48=>.defI (IntKind.u64.wrap z48) fun z49=>.defI (IntKind.u64.wrap ((BitVec.ofInt 64 0 ||| BitVec.ofInt 64 z49).toNat:Int)) fun z50=>.defI z50 fun z51=>.defI (z46 - 1) fun z52=>.defI (IntKind.u8.wrap z51) fun z53=>.must (!decide (z52<1)) (.must (decide (1≤z52)) (.must (decide ((0:Int)≤min (max 1 0) 8∧1≤z52)) (.must (decide (z52≤z52)) (.defI (r.getD 11 0) fun z54=>.defI (IntKind.u64.wrap z54) fun z55=>.defI (IntKind.u64.wrap ((BitVec.ofInt 64 0 ||| BitVec.ofInt 64 z55).toNat:Int)) fun z56=>.defI z56 fun z57=>.defI (z52 - 1) fun z58=>.defI (IntKind.u8.wrap z57) fun z59=>.must (!decide (z58<1)) (.must (decide (1≤z58)) (.must (decide ((0:Int)≤min (max 1 0) 8∧1≤z58)) (.must (decide (z58≤z58)) (.defI (r.getD 12 0) fun z60=>.defI (IntKind.u64.wrap z60) fun z61=>.defI (IntKind.u64.wrap ((BitVec.ofInt 64 0 ||| BitVec.ofInt 64 z61).toNat:Int)) fun z62=>.defI z62 fun z63=>.defI (z58 - 1) fun z64=>.defI (IntKind.i64.wrap z63) fun z65=>.must (z41==0&&z47==0) (.must (z53==0&&(z59==0&&z65==0)) (.must (!decide (z64>0)) (qTk2 z23 s hd z17 z41 z47 z53 z59 z65 l))))))))))))))))))))))))))))))):=by kernel_rfl
theorem ld_tB (l r:List Int) (hd:Dat) (s:Al) (la e:Int) (τ0:Tm):(Am Tryz.prog thTb2 300 15 Tryz.f15.ntmps (Eng.ofL ((flat bodyLd).drop 9)) (ldL.tm ⟨[[],[],[],[.i la],[.i e]],[.lst l.length (AR l),.box [.u,.u],.lst r.length (AR r)]++mn0 hd s⟩++τ0) (ldL.heap ⟨[[],[],[],[.i la],[.i e]],[.lst l.length (AR l),.box [.u,.u],.lst r.length (AR r)]++mn0 hd s⟩) 10 (outX 1 ⟨none,[],some ldR⟩)).cut [some false,some false,some false,some false,some false,some false,some false,some false,some true,some true,some true,some false,some false,some false,some false] =

  .must (!decide ((r.length:Int)<4)) (.must (decide (4≤(r.length:Int))) (.must (decide ((0:Int)≤min (max 4 0) 8∧4≤(r.length:Int))) (.must (decide ((r.length:Int)≤(r.length:Int))) (.defI (r.getD 0 0) fun z0=>.defI (IntKind.u64.wrap z0) fun z1=>.defI (IntKind.u64.wrap ((BitVec.ofInt 64 0 ||| BitVec.ofInt 64 z1).toNat:Int)) fun z2=>.defI (r.getD 1 0) fun z3=>.defI (IntKind.u64.wrap (z2 * 256)) fun z4=>.defI (IntKind.u64.wrap z3) fun z5=>.defI (IntKind.u64.wrap ((BitVec.ofInt 64 z4 ||| BitVec.ofInt 64 z5).toNat:Int)) fun z6=>.defI (r.getD 2 0) fun z7=>.defI (IntKind.u64.wrap (z6 * 256)) fun z8=>.defI (IntKind.u64.wrap z7) fun z9=>.defI (IntKind.u64.wrap ((BitVec.ofInt 64 z8 ||| BitVec.ofInt 64 z9).toNat:Int)) fun z10=>.defI (r.getD 3 0) fun z11=>.defI (IntKind.u64.wrap (z10 * 256)) fun z12=>.defI (IntKind.u64.wrap z11) fun z13=>.defI (IntKind.u64.wrap ((BitVec.ofInt 64 z12 ||| BitVec.ofInt 64 z13).toNat:Int)) fun z14=>.defI z14 fun z15=>.defI ((r.length:Int) - 4) fun z16=>.defI (IntKind.u32.wrap z15) fun z17=>.must (!decide (z16<1)) (.must (decide (1≤z16)) (.must (decide ((0:Int)≤min (max 1 0) 8∧1≤z16)) (.must (decide (z16≤z16)) (.defI (r.getD 4 0) fun z18=>.defI (IntKind.u64.wrap z18) fun z19=>.defI (IntKind.u64.wrap ((BitVec.ofInt 64 0 ||| BitVec.ofInt 64 z19).toNat:Int)) fun z20=>.defI z20 fun z21=>.defI (z16 - 1) fun z22=>.defI (IntKind.u8.wrap z21) fun z23=>.must (!decide (z22 <
 4)) (.must (decide (4≤z22)) (.must (decide ((0:Int)≤min (max 4 0) 8∧4≤z22)) (.must (decide (z22≤z22)) (.defI (r.getD 5 0) fun z24=>.defI (IntKind.u64.wrap z24) fun z25=>.defI (IntKind.u64.wrap ((BitVec.ofInt 64 0 ||| BitVec.ofInt 64 z25).toNat:Int)) fun z26=>.defI (r.getD 6 0) fun z27=>.defI (IntKind.u64.wrap (z26 * 256)) fun z28=>.defI (IntKind.u64.wrap z27) fun z29=>.defI (IntKind.u64.wrap ((BitVec.ofInt 64 z28 ||| BitVec.ofInt 64 z29).toNat:Int)) fun z30=>.defI (r.getD 7 0) fun z31=>.defI (IntKind.u64.wrap (z30 * 256)) fun z32=>.defI (IntKind.u64.wrap z31) fun z33=>.defI (IntKind.u64.wrap ((BitVec.ofInt 64 z32 ||| BitVec.ofInt 64 z33).toNat:Int)) fun z34=>.defI (r.getD 8 0) fun z35=>.defI (IntKind.u64.wrap (z34 * 256)) fun z36=>.defI (IntKind.u64.wrap z35) fun z37=>.defI (IntKind.u64.wrap ((BitVec.ofInt 64 z36 ||| BitVec.ofInt 64 z37).toNat:Int)) fun z38=>.defI z38 fun z39=>.defI (z22 - 4) fun z40=>.defI (IntKind.u32.wrap z39) fun z41=>.must (!decide (z40<1)) (.must (decide (1≤z40)) (.must (decide ((0:Int)≤min (max 1 0) 8∧1≤z40)) (.must (decide (z40≤z40)) (.defI (r.getD 9 0) fun z42=>.defI (IntKind.u64.wrap z42) fun z43=>.defI (IntKind.u64.wrap ((BitVec.ofInt 64 0 ||| BitVec.ofInt 64 z43).toNat:Int)) fun z44=>.defI z44 fun z45=>.defI (z40 - 1) fun z46=>.defI (IntKind.u8.wrap z45) fun z47=>.must (!decide (z46<1)) (.must (decide (1≤z46)) (.must (decide ((0:Int)≤min (max 1 0) 8∧1 ≤
 z46)) (.must (decide (z46≤z46)) (.defI (r.getD 10 0) fun z48=>.defI (IntKind.u64.wrap z48) fun z49=>.defI (IntKind.u64.wrap ((BitVec.ofInt 64 0 ||| BitVec.ofInt 64 z49).toNat:Int)) fun z50=>.defI z50 fun z51=>.defI (z46 - 1) fun z52=>.defI (IntKind.u8.wrap z51) fun z53=>.must (!decide (z52<1)) (.must (decide (1≤z52)) (.must (decide ((0:Int)≤min (max 1 0) 8∧1≤z52)) (.must (decide (z52≤z52)) (.defI (r.getD 11 0) fun z54=>.defI (IntKind.u64.wrap z54) fun z55=>.defI (IntKind.u64.wrap ((BitVec.ofInt 64 0 ||| BitVec.ofInt 64 z55).toNat:Int)) fun z56=>.defI z56 fun z57=>.defI (z52 - 1) fun z58=>.defI (IntKind.u8.wrap z57) fun z59=>.must (!decide (z58<1)) (.must (decide (1≤z58)) (.must (decide ((0:Int)≤min (max 1 0) 8∧1≤z58)) (.must (decide (z58≤z58)) (.defI (r.getD 12 0) fun z60=>.defI (IntKind.u64.wrap z60) fun z61=>.defI (IntKind.u64.wrap ((BitVec.ofInt 64 0 ||| BitVec.ofInt 64 z61).toNat:Int)) fun z62=>.defI z62 fun z63=>.defI (z58 - 1) fun z64=>.defI (IntKind.i64.wrap z63) fun z65=>.must (!(z41==0&&z47==0)) (.defE ⟨[[.i z53,.i z59,.i z65]],[]⟩ fun e66=>.must (incF (e66.ai 0 0) (e66.ai 0 1) (e66.ai 0 2)) (.must (decide (z41>0)) (.must (decide (z47<3)) (.defE ⟨[[.i z17,.i z23],[.i z41,.i z47]],[]⟩ fun e67=>.must (!decide (z64>0)) (.must (!!!(decide (e67.ai 0 0<e67.ai 1 0)||e67.ai 0 0==e67.ai 1 0&&decide (e67.ai 0 1<e67.ai 1 1))) (qTk2 z23 s hd z17 z41 z47 z53 z59 z65
 l)))))))))))))))))))))))))))))))))):=by kernel_rfl
theorem rd_n {b:Bal} (h:BalB b):IntKind.u32.wrap (rd4 (IntKind.u8.wrap ((IntKind.u64.wrap b.n).fdiv 16777216)) (IntKind.u8.wrap ((IntKind.u64.wrap b.n).fdiv 65536)) (IntKind.u8.wrap ((IntKind.u64.wrap b.n).fdiv 256)) (IntKind.u8.wrap ((IntKind.u64.wrap b.n).fdiv 1)))=b.n:=by
  obtain ⟨h1,_⟩:=h
  rw [IntWalk.u64_in b.n (by omega),rd4_be h1,IntWalk.u32_in _ (by omega)]
theorem rd_w {b:Bal} (h:BalB b):IntKind.u8.wrap (rd1 b.who)=b.who:=by
  obtain ⟨_,h1⟩:=h
  rw [rd1_eq (by omega),IntWalk.u8_in _ (by omega)]
theorem lstI_nums8 (l:List Int):Ax ((l.length:Nat):Int).toNat (AH [.i .u8] (AI [.i .u8] (AR l)))=l :=
  (congrArg (fun f:Nat→Int=>(List.range l.length).map f) (funext fun i=>rfl)).trans (lstI_rowI l)
set_option maxHeartbeats 2000000 in
theorem ld_endA (l : List Int) (hd : Dat) (s : Al) (P A : Bal) (I : Inc) (hp : s.prop = none) (hr25 : ∀ i, 25 ≤ i → s.rep i = false) (hP : BalB P) (hA : BalB A) (hI : (0 ≤ I.kind ∧ I.kind < 256) ∧ (0 ≤ I.osd ∧ I.osd < 256) ∧ (0 ≤ I.n ∧ I.n < 256)) (hl : l = saveL { s with prom := P, acc := A, ainc := I }) (hlen : (l.length : Int) ≤ 1000) (hz : A.n = 0 ∧ A.who = 0 ∧ I.kind = 0 ∧ I.osd = 0 ∧ I.n = 0) (τ0 : Tm) :
    (Am Tryz.prog thTb2 300 15 Tryz.f15.ntmps (Eng.ofL ((flat bodyLd).drop 9)) (ldL.tm ⟨[[],[],[],[.i ((s.incs.length:Int)+1)],[.i ((s.incs.length:Int)+2)]],[.lst l.length (AR l),.box [.u,.u],.lst ([IntKind.u8.wrap ((IntKind.u64.wrap P.n).fdiv 16777216),IntKind.u8.wrap ((IntKind.u64.wrap P.n).fdiv 65536),IntKind.u8.wrap ((IntKind.u64.wrap P.n).fdiv 256),IntKind.u8.wrap ((IntKind.u64.wrap P.n).fdiv 1),P.who,IntKind.u8.wrap ((IntKind.u64.wrap A.n).fdiv 16777216),IntKind.u8.wrap ((IntKind.u64.wrap A.n).fdiv 65536),IntKind.u8.wrap ((IntKind.u64.wrap A.n).fdiv 256),IntKind.u8.wrap ((IntKind.u64.wrap A.n).fdiv 1),A.who,I.kind,I.osd,IntKind.u8.wrap I.n]).length (AR ([IntKind.u8.wrap ((IntKind.u64.wrap P.n).fdiv 16777216),IntKind.u8.wrap ((IntKind.u64.wrap P.n).fdiv 65536),IntKind.u8.wrap ((IntKind.u64.wrap P.n).fdiv 256),IntKind.u8.wrap ((IntKind.u64.wrap P.n).fdiv 1),P.who,IntKind.u8.wrap ((IntKind.u64.wrap A.n).fdiv 16777216),IntKind.u8.wrap ((IntKind.u64.wrap A.n).fdiv 65536),IntKind.u8.wrap ((IntKind.u64.wrap A.n).fdiv 256),IntKind.u8.wrap ((IntKind.u64.wrap A.n).fdiv 1),A.who,I.kind,I.osd,IntKind.u8.wrap I.n]))]++mn0 hd s⟩++τ0) (ldL.heap ⟨[[],[],[],[.i ((s.incs.length:Int)+1)],[.i ((s.incs.length:Int)+2)]],[.lst l.length (AR l),.box [.u,.u],.lst ([IntKind.u8.wrap ((IntKind.u64.wrap P.n).fdiv 16777216),IntKind.u8.wrap ((IntKind.u64.wrap P.n).fdiv 65536),IntKind.u8.wrap ((IntKind.u64.wrap P.n).fdiv 256),IntKind.u8.wrap ((IntKind.u64.wrap P.n).fdiv 1),P.who,IntKind.u8.wrap ((IntKind.u64.wrap A.n).fdiv 16777216),IntKind.u8.wrap ((IntKind.u64.wrap A.n).fdiv 65536),IntKind.u8.wrap ((IntKind.u64.wrap A.n).fdiv 256),IntKind.u8.wrap ((IntKind.u64.wrap A.n).fdiv 1),A.who,I.kind,I.osd,IntKind.u8.wrap I.n]).length (AR ([IntKind.u8.wrap ((IntKind.u64.wrap P.n).fdiv 16777216),IntKind.u8.wrap ((IntKind.u64.wrap P.n).fdiv 65536),IntKind.u8.wrap ((IntKind.u64.wrap P.n).fdiv 256),IntKind.u8.wrap ((IntKind.u64.wrap P.n).fdiv 1),P.who,IntKind.u8.wrap ((IntKind.u64.wrap A.n).fdiv 16777216),IntKind.u8.wrap ((IntKind.u64.wrap A.n).fdiv 65536),IntKind.u8.wrap ((IntKind.u64.wrap A.n).fdiv 256),IntKind.u8.wrap ((IntKind.u64.wrap A.n).fdiv 1),A.who,I.kind,I.osd,IntKind.u8.wrap I.n]))]++mn0 hd s⟩) 10 (outX 1 ⟨none,[],some ldR⟩)).Holds fun r=>r.1 = .ret→ldR.eqv r.2 ⟨[[.u],[.i 0]],mn0 hd { s with prom:=P,acc:=A,ainc:=I } ++ [.lst l.length (AR l)]⟩:=by
  obtain ⟨b1,b2,b3⟩:=hI
  have k1:IntKind.u8.wrap (rd1 I.kind)=I.kind:=by rw [rd1_eq b1,IntWalk.u8_in _ (by omega)]
  have k2:IntKind.u8.wrap (rd1 I.osd)=I.osd:=by rw [rd1_eq b2,IntWalk.u8_in _ (by omega)]
  have k3:IntKind.i64.wrap (rd1 (IntKind.u8.wrap I.n))=I.n:=by rw [IntWalk.u8_in I.n (by omega),rd1_eq b3,IntWalk.i64_in _ (by omega)]
  refine BG [some false,some false,some false,some false,some false,some false,some false,some true,some true,some false,some false,some false] (AL (ld_tA l [IntKind.u8.wrap ((IntKind.u64.wrap P.n).fdiv 16777216),IntKind.u8.wrap ((IntKind.u64.wrap P.n).fdiv 65536),IntKind.u8.wrap ((IntKind.u64.wrap P.n).fdiv 256),IntKind.u8.wrap ((IntKind.u64.wrap P.n).fdiv 1),P.who,IntKind.u8.wrap ((IntKind.u64.wrap A.n).fdiv 16777216),IntKind.u8.wrap ((IntKind.u64.wrap A.n).fdiv 65536),IntKind.u8.wrap ((IntKind.u64.wrap A.n).fdiv 256),IntKind.u8.wrap ((IntKind.u64.wrap A.n).fdiv 1),A.who,I.kind,I.osd,IntKind.u8.wrap I.n] hd s _ _ τ0) ?_)
  iterate 4 refine AA rfl ?_
  iterate 17 refine AB ?_
  refine Ac fun z17 h17=>?_
  have h17:z17=P.n:=by rw [h17]; exact rd_n hP
  subst h17
  iterate 4 refine AA rfl ?_
  iterate 5 refine AB ?_
  refine Ac fun z23 h23=>?_
  have h23:z23=P.who:=by rw [h23]; exact rd_w hP
  subst h23
  iterate 4 refine AA rfl ?_
  iterate 17 refine AB ?_
  refine Ac fun z41 h41=>?_
  have h41:z41=A.n:=by rw [h41]; exact rd_n hA
  subst h41
  iterate 4 refine AA rfl ?_
  iterate 5 refine AB ?_
  refine Ac fun z47 h47=>?_
  have h47:z47=A.who:=by rw [h47]; exact rd_w hA
  subst h47
  iterate 4 refine AA rfl ?_
  iterate 5 refine AB ?_
  refine Ac fun z53 h53=>?_
  have h53:z53=I.kind:=by rw [h53]; exact k1
  subst h53
  iterate 4 refine AA rfl ?_
  iterate 5 refine AB ?_
  refine Ac fun z59 h59=>?_
  have h59:z59=I.osd:=by rw [h59]; exact k2
  subst h59
  iterate 4 refine AA rfl ?_
  iterate 5 refine AB ?_
  refine Ac fun z65 h65=>?_
  have h65:z65=I.n:=by rw [h65]; exact k3
  subst h65
  obtain ⟨z1,z2,z3,z4,z5⟩:=hz
  refine AA (by rw [z1,z2]; rfl) (AA (by rw [z3,z4,z5]; rfl) (AA rfl (AA (by rw [decide_eq_false (by have:=hP.2; omega)]; rfl) (AA (AS _) (AA (AZ rfl _ _) (An fun e66 h66=>?_))))))
  have w66:incsL (e66.ln 4) (e66.rw 4)=s.wishes:=by
    rw [h66]
    exact incsL_rows rfl fun i _=>AF rfl _ i
  have r66:repOf e66=s.rep:=by
    rw [h66]
    exact rep25 hr25
  have m66:mon0 e66 = { s with prom:=P,acc:=A,ainc:=I }:=by
    unfold mon0 monOf
    rw [w66,r66,h66,← hp]
    rfl
  have u66:svU e66=⟨[],byN l⟩:=by
    unfold svU
    rw [m66,← hl]
  rw [u66]
  subst h66
  refine AK ?_
  repeat' with_reducible (first | refine AB ?_ | refine AM ?_)
  refine AA (AN _ _ _) (AA (AN _ _ _) (AK (AA (decide_eq_true (show (((l.length:Nat):Int).toNat:Int)<1000000 by omega)) (AA ?_ (AA (AS _) (AA (AZ rfl _ _) (AA (AN _ _ _) (AE fun _=>?_))))))))
  · show (!!(eqI (Ax ((l.length:Nat):Int).toNat (AH [.i .u8] (AI [.i .u8] (AR l)))) (Ax l.length (AR l))))=true
    rw [lstI_nums8,lstI_rowI]
    unfold eqI
    rw [decide_eq_true rfl]
    rfl
  · refine ⟨⟨trivial,rfl,trivial⟩,?_,rfl,trivial,?_,⟨rfl,fun i _=>eqvL_trans (AF rfl _ i) (AF rfl _ i)⟩,trivial,?_,⟨rfl,fun i _=>AJ [.i .u8] (AR l i)⟩,trivial⟩
    · exact clP
    · exact clP
    · exact clP
set_option maxHeartbeats 2000000 in
theorem ld_endB (l : List Int) (hd : Dat) (s : Al) (P A : Bal) (I : Inc) (hp : s.prop = none) (hr25 : ∀ i, 25 ≤ i → s.rep i = false) (hP : BalB P) (hA : BalB A) (hI : (0 ≤ I.kind ∧ I.kind < 256) ∧ (0 ≤ I.osd ∧ I.osd < 256) ∧ (0 ≤ I.n ∧ I.n < 256)) (hl : l = saveL { s with prom := P, acc := A, ainc := I }) (hlen : (l.length : Int) ≤ 1000) (hz : 0 < A.n ∧ incOk I = true ∧ P.less A = false) (τ0 : Tm) :
    (Am Tryz.prog thTb2 300 15 Tryz.f15.ntmps (Eng.ofL ((flat bodyLd).drop 9)) (ldL.tm ⟨[[],[],[],[.i ((s.incs.length:Int)+1)],[.i ((s.incs.length:Int)+2)]],[.lst l.length (AR l),.box [.u,.u],.lst ([IntKind.u8.wrap ((IntKind.u64.wrap P.n).fdiv 16777216),IntKind.u8.wrap ((IntKind.u64.wrap P.n).fdiv 65536),IntKind.u8.wrap ((IntKind.u64.wrap P.n).fdiv 256),IntKind.u8.wrap ((IntKind.u64.wrap P.n).fdiv 1),P.who,IntKind.u8.wrap ((IntKind.u64.wrap A.n).fdiv 16777216),IntKind.u8.wrap ((IntKind.u64.wrap A.n).fdiv 65536),IntKind.u8.wrap ((IntKind.u64.wrap A.n).fdiv 256),IntKind.u8.wrap ((IntKind.u64.wrap A.n).fdiv 1),A.who,I.kind,I.osd,IntKind.u8.wrap I.n]).length (AR ([IntKind.u8.wrap ((IntKind.u64.wrap P.n).fdiv 16777216),IntKind.u8.wrap ((IntKind.u64.wrap P.n).fdiv 65536),IntKind.u8.wrap ((IntKind.u64.wrap P.n).fdiv 256),IntKind.u8.wrap ((IntKind.u64.wrap P.n).fdiv 1),P.who,IntKind.u8.wrap ((IntKind.u64.wrap A.n).fdiv 16777216),IntKind.u8.wrap ((IntKind.u64.wrap A.n).fdiv 65536),IntKind.u8.wrap ((IntKind.u64.wrap A.n).fdiv 256),IntKind.u8.wrap ((IntKind.u64.wrap A.n).fdiv 1),A.who,I.kind,I.osd,IntKind.u8.wrap I.n]))]++mn0 hd s⟩++τ0) (ldL.heap ⟨[[],[],[],[.i ((s.incs.length:Int)+1)],[.i ((s.incs.length:Int)+2)]],[.lst l.length (AR l),.box [.u,.u],.lst ([IntKind.u8.wrap ((IntKind.u64.wrap P.n).fdiv 16777216),IntKind.u8.wrap ((IntKind.u64.wrap P.n).fdiv 65536),IntKind.u8.wrap ((IntKind.u64.wrap P.n).fdiv 256),IntKind.u8.wrap ((IntKind.u64.wrap P.n).fdiv 1),P.who,IntKind.u8.wrap ((IntKind.u64.wrap A.n).fdiv 16777216),IntKind.u8.wrap ((IntKind.u64.wrap A.n).fdiv 65536),IntKind.u8.wrap ((IntKind.u64.wrap A.n).fdiv 256),IntKind.u8.wrap ((IntKind.u64.wrap A.n).fdiv 1),A.who,I.kind,I.osd,IntKind.u8.wrap I.n]).length (AR ([IntKind.u8.wrap ((IntKind.u64.wrap P.n).fdiv 16777216),IntKind.u8.wrap ((IntKind.u64.wrap P.n).fdiv 65536),IntKind.u8.wrap ((IntKind.u64.wrap P.n).fdiv 256),IntKind.u8.wrap ((IntKind.u64.wrap P.n).fdiv 1),P.who,IntKind.u8.wrap ((IntKind.u64.wrap A.n).fdiv 16777216),IntKind.u8.wrap ((IntKind.u64.wrap A.n).fdiv 65536),IntKind.u8.wrap ((IntKind.u64.wrap A.n).fdiv 256),IntKind.u8.wrap ((IntKind.u64.wrap A.n).fdiv 1),A.who,I.kind,I.osd,IntKind.u8.wrap I.n]))]++mn0 hd s⟩) 10 (outX 1 ⟨none,[],some ldR⟩)).Holds fun r=>r.1 = .ret→ldR.eqv r.2 ⟨[[.u],[.i 0]],mn0 hd { s with prom:=P,acc:=A,ainc:=I } ++ [.lst l.length (AR l)]⟩:=by
  obtain ⟨b1,b2,b3⟩:=hI
  have k1:IntKind.u8.wrap (rd1 I.kind)=I.kind:=by rw [rd1_eq b1,IntWalk.u8_in _ (by omega)]
  have k2:IntKind.u8.wrap (rd1 I.osd)=I.osd:=by rw [rd1_eq b2,IntWalk.u8_in _ (by omega)]
  have k3:IntKind.i64.wrap (rd1 (IntKind.u8.wrap I.n))=I.n:=by rw [IntWalk.u8_in I.n (by omega),rd1_eq b3,IntWalk.i64_in _ (by omega)]
  refine BG [some false,some false,some false,some false,some false,some false,some false,some false,some true,some true,some true,some false,some false,some false,some false] (AL (ld_tB l [IntKind.u8.wrap ((IntKind.u64.wrap P.n).fdiv 16777216),IntKind.u8.wrap ((IntKind.u64.wrap P.n).fdiv 65536),IntKind.u8.wrap ((IntKind.u64.wrap P.n).fdiv 256),IntKind.u8.wrap ((IntKind.u64.wrap P.n).fdiv 1),P.who,IntKind.u8.wrap ((IntKind.u64.wrap A.n).fdiv 16777216),IntKind.u8.wrap ((IntKind.u64.wrap A.n).fdiv 65536),IntKind.u8.wrap ((IntKind.u64.wrap A.n).fdiv 256),IntKind.u8.wrap ((IntKind.u64.wrap A.n).fdiv 1),A.who,I.kind,I.osd,IntKind.u8.wrap I.n] hd s _ _ τ0) ?_)
  iterate 4 refine AA rfl ?_
  iterate 17 refine AB ?_
  refine Ac fun z17 h17=>?_
  have h17:z17=P.n:=by rw [h17]; exact rd_n hP
  subst h17
  iterate 4 refine AA rfl ?_
  iterate 5 refine AB ?_
  refine Ac fun z23 h23=>?_
  have h23:z23=P.who:=by rw [h23]; exact rd_w hP
  subst h23
  iterate 4 refine AA rfl ?_
  iterate 17 refine AB ?_
  refine Ac fun z41 h41=>?_
  have h41:z41=A.n:=by rw [h41]; exact rd_n hA
  subst h41
  iterate 4 refine AA rfl ?_
  iterate 5 refine AB ?_
  refine Ac fun z47 h47=>?_
  have h47:z47=A.who:=by rw [h47]; exact rd_w hA
  subst h47
  iterate 4 refine AA rfl ?_
  iterate 5 refine AB ?_
  refine Ac fun z53 h53=>?_
  have h53:z53=I.kind:=by rw [h53]; exact k1
  subst h53
  iterate 4 refine AA rfl ?_
  iterate 5 refine AB ?_
  refine Ac fun z59 h59=>?_
  have h59:z59=I.osd:=by rw [h59]; exact k2
  subst h59
  iterate 4 refine AA rfl ?_
  iterate 5 refine AB ?_
  refine Ac fun z65 h65=>?_
  have h65:z65=I.n:=by rw [h65]; exact k3
  subst h65
  obtain ⟨z1,z2,z3⟩:=hz
  have q0:(A.n==0)=false:=by
    have:A.n≠0:=by omega
    simpa using this
  refine AA (by rw [q0]; rfl) (AK (AA ((incF_eq I.kind I.osd I.n).trans z2) (AA (decide_eq_true (by omega)) (AA (decide_eq_true hA.2.2) (AK (AA rfl (AA ((congrArg (fun b=>!!!b) z3).trans rfl) (AA (by rw [decide_eq_false (by have:=hP.2; omega)]; rfl) (AA (AS _) (AA (AZ rfl _ _) (An fun e66 h66=>?_)))))))))))
  have w66:incsL (e66.ln 4) (e66.rw 4)=s.wishes:=by
    rw [h66]
    exact incsL_rows rfl fun i _=>AF rfl _ i
  have r66:repOf e66=s.rep:=by
    rw [h66]
    exact rep25 hr25
  have m66:mon0 e66 = { s with prom:=P,acc:=A,ainc:=I }:=by
    unfold mon0 monOf
    rw [w66,r66,h66,← hp]
    rfl
  have u66:svU e66=⟨[],byN l⟩:=by
    unfold svU
    rw [m66,← hl]
  rw [u66]
  subst h66
  refine AK ?_
  repeat' with_reducible (first | refine AB ?_ | refine AM ?_)
  refine AA (AN _ _ _) (AA (AN _ _ _) (AK (AA (decide_eq_true (show (((l.length:Nat):Int).toNat:Int)<1000000 by omega)) (AA ?_ (AA (AS _) (AA (AZ rfl _ _) (AA (AN _ _ _) (AE fun _=>?_))))))))
  · show (!!(eqI (Ax ((l.length:Nat):Int).toNat (AH [.i .u8] (AI [.i .u8] (AR l)))) (Ax l.length (AR l))))=true
    rw [lstI_nums8,lstI_rowI]
    unfold eqI
    rw [decide_eq_true rfl]
    rfl
  · refine ⟨⟨trivial,rfl,trivial⟩,?_,rfl,trivial,?_,⟨rfl,fun i _=>eqvL_trans (AF rfl _ i) (AF rfl _ i)⟩,trivial,?_,⟨rfl,fun i _=>AJ [.i .u8] (AR l i)⟩,trivial⟩
    · exact clP
    · exact clP
    · exact clP
end Go.Proofs.YtddmgdclmkgpeaaGreat
set_option linter.unusedSimpArgs false
set_option linter.unusedVariables false
namespace Go.Proofs.YtddmgdclmkgpeaaGreat
open Go.Eng Go.RowKit Go.ChangeShapes Go.WideShapes
set_option maxRecDepth 100000
theorem ld_q (l:List Int) (τ0:Tm):(Am Tryz.prog thTb2 300 15 Tryz.f15.ntmps (Eng.ofL ((flat bodyLd).take 8)) (argTm 0 (ldT.vals ⟨[[]],[.lst l.length (AR l)]⟩)++τ0) (ldT.heap ⟨[[]],[.lst l.length (AR l)]⟩) 1 (outX 1 ⟨some ldL,[],some ldR⟩)).cut [some false,some false,some false] =
  .defI (IntKind.i64.wrap ((l.length:Int) - 8)) fun z0=>.must (!decide (z0<0)) (.must (decide ((0:Int)≤0∧0≤z0)) (.must (decide (z0≤(l.length:Int))) (.must (!decide (z0 - 0<1)) (.must (decide (1≤z0 -
  0)) (.must (decide ((0:Int)≤min (max 1 0) 8∧1≤z0 - 0)) (.must (decide (z0 - 0≤z0 - 0)) (.defI (l.getD 0 0) fun z1=>.defI (IntKind.u64.wrap z1) fun z2=>.defI (IntKind.u64.wrap ((BitVec.ofInt 64 0 |||
  BitVec.ofInt 64 z2).toNat:Int)) fun z3=>.defI z3 fun z4=>.defI (z0 - 0 - 1) fun z5=>.defI (IntKind.u8.wrap z4) fun z6=>.defE ⟨[[.i z6]],[]⟩ fun e7=>.defE (mwN e7) fun e8=>.defI (e8.bi 0 0) fun z9=>.defI
  (e8.bi 0 5) fun z10=>.defI (e8.bi 0 6) fun z11=>.defI (e8.bi 0 7) fun z12=>.defI (e8.bi 3 0) fun z13=>.defI (e8.bi 3 1) fun z14=>.defI (e8.bi 3 2) fun z15=>.defI (e8.bi 3 3) fun z16=>.defI (e8.bi 3 4) fun
  z17=>.defI (e8.bi 3 5) fun z18=>.defI (e8.bi 3 6) fun z19=>.defI ((e8.ln 4):Int) fun z20=>.defB (e8.bb 6 0) fun z21=>.defB (e8.bb 6 1) fun z22=>.defB (e8.bb 6 2) fun z23=>.defB (e8.bb 6 3) fun z24 =>
  .defB (e8.bb 6 4) fun z25=>.defB (e8.bb 6 5) fun z26=>.defB (e8.bb 6 6) fun z27=>.defB (e8.bb 6 7) fun z28=>.defB (e8.bb 6 8) fun z29=>.defB (e8.bb 6 9) fun z30=>.defB (e8.bb 6 10) fun z31=>.defB (e8.bb 6
  11) fun z32=>.defB (e8.bb 6 12) fun z33=>.defB (e8.bb 6 13) fun z34=>.defB (e8.bb 6 14) fun z35=>.defB (e8.bb 6 15) fun z36=>.defB (e8.bb 6 16) fun z37=>.defB (e8.bb 6 17) fun z38=>.defB (e8.bb 6 18) fun
  z39=>.defB (e8.bb 6 19) fun z40=>.defB (e8.bb 6 20) fun z41=>.defB (e8.bb 6 21) fun z42=>.defB (e8.bb 6 22) fun z43=>.defB (e8.bb 6 23) fun z44=>.defB (e8.bb 6 24) fun z45=>.must (!decide (z5<1)) (.must
  (decide (1≤z5)) (.must (decide ((0:Int)≤min (max 1 0) 8∧1≤z5)) (.must (decide (z5≤z5)) (.defI (l.getD 1 0) fun z46=>.defI (IntKind.u64.wrap z46) fun z47=>.defI (IntKind.u64.wrap ((BitVec.ofInt 64 0 |||
  BitVec.ofInt 64 z47).toNat:Int)) fun z48=>.defI z48 fun z49=>.defI (z5 - 1) fun z50=>.defI (IntKind.u32.wrap z49) fun z51=>.must (AX [.i .u8] (AI [.i .u8] (AR l)) l.length) (.must (AX [.i .u8]
  (Aw (.lit 1) (Aw (.lit 1) (Aw (.lit 0) (AI [.i .u8] (AR l))))) z50.toNat) (.must (BE Af Af) (.must (AX BB ((AI BB (e8.rw 4))) z20.toNat) (.leaf (.normal,⟨[[.u],[.u],[.u],[.i
  z51],[.i 2]],[.lst l.length (AR l),.box [.u,.u],.lst z50.toNat (AH [.i .u8] (Aw (.lit 1) (Aw (.lit 1) (Aw (.lit 0) (AI [.i .u8] (AR l)))))),.box [.i z9,.u,.u,.u,.u,.i z10,.i z11,
  .i z12,.u],.own (e8.dt 1),.tok,.box [.i z13,.i z14,.i z15,.i z16,.i z17,.i z18,.i z19],.lst z20.toNat (AH BB (AI BB (e8.rw 4))),.tok,.box [.b z21,.b z22,.b z23,.b z24,.b z25,.b z26,.b z27,
  .b z28,.b z29,.b z30,.b z31,.b z32,.b z33,.b z34,.b z35,.b z36,.b z37,.b z38,.b z39,.b z40,.b z41,.b z42,.b z43,.b z44,.b z45]]⟩)))))))))))))))):=by kernel_rfl
def MOk (d:Al):Prop:=MGood d∧HGood d.incs
def tlL (s:Al):List Int:=balB s.prom++balB s.acc++inc3 s.ainc
def midL (s:Al):List Int:=incB s.incs++tlL s
open Classical in
noncomputable def loadS (l:List Int):Al:=if h:∃ s,MOk s∧l=saveL s then (Classical.choose h).again else default
def loR:TS:=⟨[],[.one (.ptr 1 0),.one (.i .i64)],[(1,.ob 2 MonR 40),(40,.tok),(0,.lst none [.i .u8] none)],41⟩
theorem rowI_app {a b:List Int} {i:Nat} (h:i<a.length):AR (a++b) i=AR a i:=by
  unfold AR
  rw [List.getD,List.getD,List.getElem?_append_left h]
theorem rows2 (a b:Int) (R c:List Int) (i:Nat) (h:i<R.length):eqvL [.i .u8] (AH [.i .u8] (Aw (.lit 1) (Aw (.lit 1) (Aw (.lit 0) (AI [.i .u8] (AR (a::b::(R++c))))))) i) (AR R i):=by
  have e:AR (a::b::(R++c)) (0+(1+(1+i)))=AR R i:=by
    rw [show 0+(1+(1+i))=i+1+1 by omega]
    exact rowI_app h
  have:=AF (row:=[.i .u8]) rfl (AR (a::b::(R++c))) (0+(1+(1+i)))
  rw [e] at this
  exact this
theorem rowsB2 (r:List Int) (n:Nat):AX [.i .u8] (Aw (.lit 1) (Aw (.lit 1) (Aw (.lit 0) (AI [.i .u8] (AR r))))) n=true:=rowsB_of fun _=>rowOk_inst rfl _
set_option maxHeartbeats 2000000 in
theorem ld_pre (id la : Int) (R c8 : List Int) (hc : c8.length = 8) (hid : 0 ≤ id ∧ id < 256) (hla : 0 ≤ la ∧ la < 256) (hR : (R.length : Int) ≤ 1000) (τ0 : Tm) :
    (Am Tryz.prog thTb2 300 15 Tryz.f15.ntmps (Eng.ofL ((flat bodyLd).take 8)) (argTm 0 (ldT.vals ⟨[[]],[.lst (id::la::(R++c8)).length (AR (id::la::(R++c8)))]⟩)++τ0) (ldT.heap ⟨[[]],[.lst (id::la::(R++c8)).length (AR (id::la::(R++c8)))]⟩) 1 (outX 1 ⟨some ldL,[],some ldR⟩)).Holds fun r=>r.1 = .normal∧ldL.eqv r.2 ⟨[[],[],[],[.i la],[.i 2]],[.lst (id::la::(R++c8)).length (AR (id::la::(R++c8))),.box [.u,.u],.lst R.length (AR R)]++mn0 default (Al.new id)⟩:=by
  have L:(((id::la::(R++c8)).length:Nat):Int)=R.length+10:=by simp only [List.length_cons,List.length_append,hc]; omega
  refine BG [some false,some false,some false] (AL (ld_q (id::la::(R++c8)) τ0) (Ac fun z0 h0=>?_))
  have h0:z0=(R.length:Int)+2:=by
    rw [h0,L,show (R.length:Int)+10 - 8=R.length+2 by omega]
    exact IntWalk.i64_in _ (by omega)
  subst h0
  iterate 7 refine AA (by first | exact decide_eq_true (by omega) | (rw [decide_eq_false (by omega)]; rfl) | exact decide_eq_true ⟨by decide,by omega⟩) ?_
  iterate 4 refine AB ?_
  refine Ac fun z5 h5=>Ac fun z6 h6=>?_
  have h6:z6=id:=by
    rw [h6]
    show IntKind.u8.wrap (rd1 id)=id
    rw [rd1_eq hid,IntWalk.u8_in _ (by omega)]
  subst h6
  refine AK (AK ?_)
  repeat' with_reducible (first | refine AB ?_ | refine AM ?_)
  iterate 4 refine AA (by first | exact decide_eq_true (by omega) | (rw [decide_eq_false (by omega)]; rfl) | exact decide_eq_true ⟨by decide,by omega⟩) ?_
  iterate 4 refine AB ?_
  refine Ac fun z50 h50=>Ac fun z51 h51=>?_
  have h51:z51=la:=by
    rw [h51]
    show IntKind.u32.wrap (rd1 la)=la
    rw [rd1_eq hla,IntWalk.u32_in _ (by omega)]
  subst h51
  have hz:z50.toNat=R.length:=by omega
  refine AA (AN _ _ _) (AA (rowsB2 _ _) (AA (AS _) (AA (AZ rfl _ _) (AE ⟨rfl,?_⟩))))
  refine ⟨⟨trivial,trivial,trivial,rfl,rfl,trivial⟩,⟨rfl,fun i _=>AJ [.i .u8] (AR _ i)⟩,⟨trivial,trivial,trivial⟩,⟨hz,fun i hi=>rows2 _ _ R c8 i (by have hi:(i:Int)<(R.length:Int):=hi; omega)⟩,?_,rfl,trivial,?_,⟨rfl,fun i _=>AF rfl _ i⟩,trivial,?_,trivial⟩
  · exact clP
  · exact clP
  · exact clP
theorem tlL_eq (s:Al):tlL s=[IntKind.u8.wrap ((IntKind.u64.wrap s.prom.n).fdiv 16777216),IntKind.u8.wrap ((IntKind.u64.wrap s.prom.n).fdiv 65536),IntKind.u8.wrap ((IntKind.u64.wrap s.prom.n).fdiv 256),IntKind.u8.wrap ((IntKind.u64.wrap s.prom.n).fdiv 1),s.prom.who,IntKind.u8.wrap ((IntKind.u64.wrap s.acc.n).fdiv 16777216),IntKind.u8.wrap ((IntKind.u64.wrap s.acc.n).fdiv 65536),IntKind.u8.wrap ((IntKind.u64.wrap s.acc.n).fdiv 256),IntKind.u8.wrap ((IntKind.u64.wrap s.acc.n).fdiv 1),s.acc.who,s.ainc.kind,s.ainc.osd,IntKind.u8.wrap s.ainc.n]:=rfl
theorem saveL_eq (s:Al):saveL s=s.id::BK s.incs::(midL s++be8 (sumF (bodyL s))):=by
  unfold saveL midL tlL bodyL headL
  simp only [List.append_assoc,List.cons_append,List.nil_append]
theorem tlL_length (s:Al):(tlL s).length=13:=rfl
theorem midL_length (s:Al):(midL s).length=3 * s.incs.length+13:=by
  unfold midL
  rw [List.length_append,incB_length,tlL_length]
theorem saveL_length (s:Al):(saveL s).length=3 * s.incs.length+23:=by
  have h8:(be8 (sumF (bodyL s))).length=8:=rfl
  rw [saveL_eq,List.length_cons,List.length_cons,List.length_append,midL_length,h8]
theorem new_id {n:Int} (h:n<3):(Al.new n).id=n:=by
  show (match decide (2<n) with | true=>2 | false=>n)=n
  rw [decide_eq_false (by omega)]
theorem saveL_again {s:Al} (h:s.id<3):saveL s.again=saveL s:=by
  have e:s.again.id=s.id:=new_id h
  unfold saveL bodyL headL
  rw [e]
  rfl
theorem inc3_bytes {P A:Bal} {I:Inc} (h:AccOk P A I):(0≤I.kind∧I.kind<256)∧(0≤I.osd∧I.osd<256)∧(0≤I.n∧I.n<256):=by
  rcases h with ⟨_,_,h1,h2,h3⟩ | ⟨_,_,h1,h2,_⟩
  · rw [h1,h2,h3]
    decide
  · exact inc_byte h1 h2
theorem acc_bal {P A:Bal} {I:Inc} (h:AccOk P A I):BalB A:=by
  rcases h with ⟨h1,h2,_⟩ | ⟨_,h1,_⟩
  · unfold BalB
    omega
  · exact h1
theorem cSu0_ok:Ak Tryz.prog 16 (AW svT0 cSu0):=BN fun e r h=>by
  cases h
  have pre:=pre0 e [[]] svT0.vs [] 7 clP
  refine BI.pre (t:=svT0) pre (std_good (k:=1) (g:=2) rfl rfl fun hg=>BI.post (t':=svR0) (y:=⟨[[.u]],mn0 (e.dt 1) (mon0 e)++byN (saveL (mon0 e))⟩) ⟨by (repeat' (first | exact trivial | exact rfl | exact TS.eqv_refl _ _ | exact AY _ _ | exact AQ | exact fun _ _=>AJ _ _ | exact fun i _=>AF rfl _ i | apply And.intro)),?_⟩ (sv_std0 (e.dt 1) (mon0 e) hg))
  obtain ⟨h0,h1,h2,h3,h4,h5,h6,_⟩:=eqvH_symm pre.2
  exact ⟨h0,h1,trivial,h3,h4,trivial,h6,⟨rfl,fun i _=>AJ [.i .u8] (AR (saveL (mon0 e)) i)⟩,trivial,trivial⟩
theorem thTab2:TabAll Tryz.prog thTb2:=tab_ok ⟨cSu0_ok,thSm_ok⟩
set_option maxHeartbeats 2000000 in
theorem ld_std (s:Al) (hs:MOk s):BI Tryz.prog 15 ldT ⟨[[]],[.lst (saveL s).length (AR (saveL s))]⟩ ldR ⟨[[.u],[.i 0]],mn0 default s.again++[.lst (saveL s).length (AR (saveL s))]⟩:=by
  obtain ⟨⟨g1,_,_,_,_,_,k1,k2,_,_⟩,hg⟩:=hs
  have hl:=hg.1
  have hlen:((saveL s).length:Int)≤1000:=by rw [saveL_length]; omega
  have hmid:((midL s).length:Int)≤1000:=by rw [midL_length]; omega
  have hag:saveL s=saveL { { Al.new s.id with incs:=s.incs } with prom:=s.prom,acc:=s.acc,ainc:=s.ainc }:=(saveL_again g1.2).symm
  refine stdX_loop thTab2 Ay (n:=300) Tryz.func15 bodyLd_eq 8 (L:=ldL) (E:=ldL) (en0:=⟨[[],[],[],[.i ((s.incs.length:Int)+1)],[.i (((0:Nat):Int)+2)]],[.lst (saveL s).length (AR (saveL s)),.box [.u,.u],.lst (incB (s.incs.drop 0)++tlL s).length (AR (incB (s.incs.drop 0)++tlL s))]++mn0 default { { Al.new s.id with incs:=s.incs } with incs:={ Al.new s.id with incs:=s.incs }.incs.take 0 }⟩) (RL:=fun ex e=>match ex with
    | .exit _=>ldL.eqv e ⟨[[],[],[],[.i ((s.incs.length:Int)+1)],[.i ((s.incs.length:Int)+2)]],[.lst (saveL s).length (AR (saveL s)),.box [.u,.u],.lst (tlL s).length (AR (tlL s))]++mn0 default { Al.new s.id with incs:=s.incs }⟩
    | _=>False) rfl rfl (by kernel_rfl) rfl rfl lpLd (by decide) (by decide) (by decide)
    (fun τ0=>?_) ?_ (fun en he=>⟨_,he,fun τ0=>?_⟩) (fun en he=>he.elim)
  · have H:=ld_pre s.id (BK s.incs) (midL s) (be8 (sumF (bodyL s))) rfl (by omega) (by unfold BK; omega) hmid τ0
    rw [← saveL_eq] at H
    obtain ⟨r,e,h⟩:=H
    exact ⟨r,e,.inl h⟩
  · refine HT.mono (ld_loop (saveL s) (tlL s) default { Al.new s.id with incs:=s.incs } hg (by rw [tlL_length]; decide)) ?_
    rintro (_ | _ | _ | _ | _) m2 κ h2 ⟨t',en,h1,h3,h4⟩
    all_goals first | exact ⟨t',en,h1,h3,h4⟩ | exact h3.elim
  · rw [tlL_eq]
    rcases k2 with hz | ⟨z1,z2,z3,z4,z5⟩
    · exact ld_endA (saveL s) default { Al.new s.id with incs:=s.incs } s.prom s.acc s.ainc rfl (fun _ _=>rfl) k1 (acc_bal (.inl hz:AccOk s.prom s.acc s.ainc)) (inc3_bytes (.inl hz:AccOk s.prom s.acc s.ainc)) hag hlen hz τ0
    · exact ld_endB (saveL s) default { Al.new s.id with incs:=s.incs } s.prom s.acc s.ainc rfl (fun _ _=>rfl) k1 z2 (inc_byte z3 z4) hag hlen ⟨z1,z3,z5⟩ τ0
end Go.Proofs.YtddmgdclmkgpeaaGreat
set_option linter.unusedSimpArgs false
set_option linter.unusedVariables false
namespace Go.Proofs.YtddmgdclmkgpeaaGreat
open Go.Eng Go.RowKit Go.ChangeShapes Go.WideShapes
set_option maxRecDepth 100000
def ldM:List (Nat×TO):=[(1,.box [.i .u8,.ptr 2 0,.ptr 4 0,.sl 5,.nilp,.i .i64,.i .u32,.i .u8,.ptr 7 0]),(2,.ob 1 Af 3),(3,.tok),(4,.box acB),(5,.lst none BB (some 6)),(6,.tok),(7,.box rpB)]
theorem pk_load {hd:Dat} {s:Al} {m:Nat} {blk:Nat} {fp:List Nat} {w:World} (hp:Pack m 1 (Ad (instH ldM (mn0 hd s))) blk fp w):Pack 7 0 (Ad (instH mp0 (mn0 hd s))) blk fp w:=by
  refine Pack.ren (φ:=lkN [1,2,3,4,5,6,7]) hp rfl ?_ (fun k k' h1 h2 e=>distB_lk (L:=[1,2,3,4,5,6,7]) rfl h1 h2 e) (noRo_of rfl)
  refine List.forall_mem_cons.2 ⟨⟨Nat.le_of_ble_eq_true rfl,_,rfl,rfl,fun _ _=>rfl,Az rfl⟩,List.forall_mem_cons.2 ⟨⟨Nat.le_of_ble_eq_true rfl,_,rfl,rfl,rfl,rfl,rfl,by decide,rfl⟩,List.forall_mem_cons.2 ⟨⟨Nat.le_of_ble_eq_true rfl,_,rfl,trivial⟩,List.forall_mem_cons.2 ⟨⟨Nat.le_of_ble_eq_true rfl,_,rfl,rfl,fun _ _=>rfl,Az rfl⟩,List.forall_mem_cons.2 ⟨⟨Nat.le_of_ble_eq_true rfl,_,rfl,rfl,rfl,rfl,fun _ e=>by cases e; exact ⟨by decide,rfl⟩,fun _ _=>⟨rfl,rfl,fun _ _=>rfl,Az rfl⟩⟩,List.forall_mem_cons.2 ⟨⟨Nat.le_of_ble_eq_true rfl,_,rfl,trivial⟩,List.forall_mem_cons.2 ⟨⟨Nat.le_of_ble_eq_true rfl,_,rfl,rfl,fun _ _=>rfl,Az rfl⟩,fun _ h=>by cases h⟩⟩⟩⟩⟩⟩⟩
theorem be4_inj {a b:Bal} (ha:BalB a) (hb:BalB b) (h:balB a=balB b):a=b:=by
  obtain ⟨a1,a2⟩:=a
  obtain ⟨b1,b2⟩:=b
  obtain ⟨ha1,ha2⟩:=ha
  obtain ⟨hb1,hb2⟩:=hb
  have ha1:0≤a1∧a1<4294967296:=ha1
  have hb1:0≤b1∧b1<4294967296:=hb1
  unfold balB be4 at h
  dsimp only at h
  rw [IntWalk.u64_in a1 (by omega),IntWalk.u64_in b1 (by omega)] at h
  simp only [List.cons_append,List.nil_append,List.cons.injEq,and_true] at h
  obtain ⟨h1,h2,h3,h4,h5⟩:=h
  have e1:=rd4_be ha1
  have e2:=rd4_be hb1
  have e:a1=b1:=by
    rw [← e1,← e2]
    first | (rw [h1,h2,h3,h4]) | (simp only [h1,h2,h3,h4]) | (simp_all)
  rw [e,h5]
theorem inc3_inj {x y:Inc} (hx:0≤x.n∧x.n<256) (hy:0≤y.n∧y.n<256) (h:inc3 x=inc3 y):x=y:=by
  obtain ⟨x1,x2,x3⟩:=x
  obtain ⟨y1,y2,y3⟩:=y
  have hx:0≤x3∧x3<256:=hx
  have hy:0≤y3∧y3<256:=hy
  unfold inc3 at h
  dsimp only at h
  simp only [List.cons.injEq,and_true] at h
  obtain ⟨h1,h2,h3⟩:=h
  rw [IntWalk.u8_in x3 (by omega),IntWalk.u8_in y3 (by omega)] at h3
  rw [h1,h2,h3]
theorem incB_inj:∀ {a b:List Inc},(∀ x,x∈a→0≤x.n∧x.n<256)→(∀ x,x∈b→0≤x.n∧x.n<256)→a.length=b.length→incB a=incB b→a=b
  | [],[],_,_,_,_=>rfl
  | [],_::_,_,_,h,_=>by simp at h
  | _::_,[],_,_,h,_=>by simp at h
  | x::a,y::b,ha,hb,hl,h=>by
    have h:inc3 x++incB a=inc3 y++incB b:=h
    obtain ⟨h1,h2⟩:=List.append_inj h rfl
    rw [inc3_inj (ha x (List.mem_cons_self ..)) (hb y (List.mem_cons_self ..)) h1,incB_inj (fun z hz=>ha z (List.mem_cons_of_mem _ hz)) (fun z hz=>hb z (List.mem_cons_of_mem _ hz)) (by simpa using hl) h2]
theorem saveL_inj {s t:Al} (hs:MOk s) (ht:MOk t) (h:saveL s=saveL t):s.again=t.again:=by
  obtain ⟨⟨g1,_,_,_,_,_,k1,k2,_,_⟩,hg⟩:=hs
  obtain ⟨⟨g1',_,_,_,_,_,k1',k2',_,_⟩,hg'⟩:=ht
  have bs:∀ {l:List Inc},HGood l→∀ x,x∈l→0≤x.n∧x.n<256:=fun hl x hx=>(inc_byte (hl.2 x hx).1 (hl.2 x hx).2).2.2
  have hlen:s.incs.length=t.incs.length:=by
    have:=congrArg List.length h
    rw [saveL_length,saveL_length] at this
    omega
  rw [saveL_eq,saveL_eq] at h
  simp only [List.cons.injEq] at h
  obtain ⟨h1,_,h3⟩:=h
  obtain ⟨h3,_⟩:=List.append_inj h3 (by rw [midL_length,midL_length,hlen])
  unfold midL at h3
  obtain ⟨h4,h5⟩:=List.append_inj h3 (by rw [incB_length,incB_length,hlen])
  have e1:=incB_inj (bs hg) (bs hg') hlen h4
  unfold tlL at h5
  obtain ⟨h6,h7⟩:=List.append_inj h5 rfl
  obtain ⟨h6,h8⟩:=List.append_inj h6 rfl
  have e2:=be4_inj k1 k1' h6
  have e3:=be4_inj (acc_bal k2) (acc_bal k2') h8
  have e4:=inc3_inj (inc3_bytes k2).2.2 (inc3_bytes k2').2.2 h7
  unfold Al.again
  rw [h1,e1,e2,e3,e4]
theorem mgood_again {s:Al} (h:MGood s):MGood s.again:=by
  obtain ⟨g1,_,_,_,g5,_,k1,k2,_,_⟩:=h
  obtain ⟨n1,n2,n3,n4,_,n6,_,_,n7,n8⟩:=mgood_new g1.1
  exact ⟨n1,n2,n3,n4,g5,n6,k1,k2,n7,n8⟩
theorem loadS_save {s:Al} (h:MOk s):loadS (saveL s)=s.again:=by
  have hx:∃ t,MOk t∧saveL s=saveL t:=⟨s,h,rfl⟩
  unfold loadS
  rw [dif_pos hx]
  exact (saveL_inj h (Classical.choose_spec hx).1 (Classical.choose_spec hx).2).symm
theorem lo_std (s:Al) (hs:MOk s):BI Tryz.prog 15 ldT ⟨[[]],[.lst (saveL s).length (AR (saveL s))]⟩ loR ⟨[[.u],[.i 0]],[.own s.again,.tok,.lst (saveL s).length (AR (saveL s))]⟩ :=
  StdN.conceal (r:=1) (hp:=instH ldM (mn0 default s.again)) (rest:=[(0,.lst (.sym ((saveL s).length:Int)) 1 (AI [.i .u8] (AR (saveL s))) none)]) (StdN.wide (m2:=40) (by decide:8≤40) (ld_std s hs)) (by decide) rfl (by decide) (show 1 ∉ [0] by decide) rfl
    (List.forall_mem_cons.2 ⟨fun g e=>(by cases e),fun _ h=>by cases h⟩) (noRo_list rfl) (fun _ _ _ q=>⟨mgood_again hs.1,.inl ⟨rfl,_,pk_load q⟩⟩)
end Go.Proofs.YtddmgdclmkgpeaaGreat
set_option linter.unusedSimpArgs false
set_option linter.unusedVariables false
namespace Go.Proofs.YtddmgdclmkgpeaaGreat
open Go.Eng Go.RowKit Go.ChangeShapes Go.WideShapes
set_option maxRecDepth 100000
noncomputable def vaSm:List (FuncId×Summ):=[(47,AW incT cInc)]
noncomputable def vaT:Tab:=smTab (tabOf vaSm)
def msgK (k:Int):List TV:=.il .u8 k::msgR.tail
def isT (k:Int):TS:=⟨[],[.agg (msgK k)],[],0⟩
def isTR:TS:=⟨[],[.agg msgR],[],0⟩
theorem vaSm_ok:AllOk Tryz.prog vaSm:=⟨cInc_ok,trivial⟩
theorem vaTab:TabAll Tryz.prog vaT:=tab_ok vaSm_ok
noncomputable abbrev qVa12 (v0:MMsg):Ah (EN):=.defE ⟨[[.i v0.inc.1,.i v0.inc.2,.i v0.inc.3]],[]⟩ fun e11=>.ite (incF (e11.ai 0 0) (e11.ai 0 1) (e11.ai 0 2)) (.leaf ⟨[[.b true]],[]⟩) (.leaf ⟨[[.b false]],[]⟩)
noncomputable abbrev qVa1 (v0:MMsg):Ah (EN):=.ite (v0.2==v0.3) (.leaf ⟨[[.b false]],[]⟩) (.ite (v0.acc.1==0&&v0.acc.2==0) (.ite (false==(v0.b.1==0&&v0.b.2==0)) (.leaf ⟨[[.b false]],[]⟩) (.ite (false == !v0.7) (.leaf ⟨[[.b false]],[]⟩) (.ite (false==(v0.9==0)) (.leaf ⟨[[.b false]],[]⟩) (.ite (decide (v0.4≥2)) (.ite (decide (v0.4≤60)) (qVa12 v0) (.leaf ⟨[[.b false]],[]⟩)) (.leaf ⟨[[.b false]],[]⟩))))) (.ite (false==(v0.b.1==0&&v0.b.2==0)) (.leaf ⟨[[.b false]],[]⟩) (.leaf ⟨[[.b false]],[]⟩)))
noncomputable abbrev qVa2 (v0:MMsg):Ah (EN):=.ite (v0.2==v0.3) (.leaf ⟨[[.b false]],[]⟩) (.ite (v0.acc.1==0&&v0.acc.2==0) (.ite (false==(v0.b.1==0&&v0.b.2==0)) (.leaf ⟨[[.b false]],[]⟩) (.ite (false == !v0.7) (.leaf ⟨[[.b false]],[]⟩) (.ite (false==(v0.inc.1==0&&(v0.inc.2==0&&v0.inc.3==0))) (.leaf ⟨[[.b false]],[]⟩) (.ite (false==(v0.9==0)) (.leaf ⟨[[.b false]],[]⟩) (.ite (decide (v0.4≥1)) (.ite (decide (v0.4≤60)) (.leaf ⟨[[.b true]],[]⟩) (.leaf ⟨[[.b false]],[]⟩)) (.leaf ⟨[[.b false]],[]⟩)))))) (.ite (false==(v0.b.1==0&&v0.b.2==0)) (.leaf ⟨[[.b false]],[]⟩) (.leaf ⟨[[.b false]],[]⟩)))
noncomputable abbrev qVa3 (v0:MMsg):Ah (EN):=.ite (decide (v0.2≥10)) (.ite (decide (v0.2<15)) (.ite (!decide (v0.3<3)) (.leaf ⟨[[.b false]],[]⟩) (.ite (v0.2==v0.3) (.leaf ⟨[[.b false]],[]⟩) (.ite (v0.acc.1==0&&v0.acc.2==0) (.ite (false==(v0.4==0)) (.leaf ⟨[[.b false]],[]⟩) (.ite (false==(v0.b.1==0&&v0.b.2==0)) (.leaf ⟨[[.b false]],[]⟩) (.ite (false == !v0.7) (.leaf ⟨[[.b false]],[]⟩) (.ite (false==(v0.inc.1==0&&(v0.inc.2==0&&v0.inc.3==0))) (.leaf ⟨[[.b false]],[]⟩) (.ite (decide (v0.9<5)) (.leaf ⟨[[.b true]],[]⟩) (.leaf ⟨[[.b false]],[]⟩)))))) (.ite (false==(v0.4==0)) (.leaf ⟨[[.b false]],[]⟩) (.ite (false==(v0.b.1==0&&v0.b.2==0)) (.leaf ⟨[[.b false]],[]⟩) (.leaf ⟨[[.b false]],[]⟩)))))) (.leaf ⟨[[.b false]],[]⟩)) (.leaf ⟨[[.b false]],[]⟩)
noncomputable abbrev qVa4 (v0:MMsg):Ah (EN):=.ite (!decide (v0.3<3)) (.leaf ⟨[[.b false]],[]⟩) (.ite (v0.2==v0.3) (.leaf ⟨[[.b false]],[]⟩) (.ite (false==(v0.9==0)) (.leaf ⟨[[.b false]],[]⟩) (.ite (decide (v0.4≥2)) (.ite (decide (v0.4≤60)) (.ite (decide (v0.b.1>0)) (.ite (decide (v0.b.2<3)) (.ite (v0.b.2==v0.3) (.ite (!v0.7) (.ite (v0.acc.1==0&&v0.acc.2==0) (.ite (v0.inc.1==0&&(v0.inc.2==0&&v0.inc.3==0)) (.leaf ⟨[[.b true]],[]⟩) (.leaf ⟨[[.b false]],[]⟩)) (.leaf ⟨[[.b false]],[]⟩)) (.ite (decide (v0.acc.1>0)) (.ite (decide (v0.acc.2<3)) (qVa12 v0) (.leaf ⟨[[.b false]],[]⟩)) (.leaf ⟨[[.b false]],[]⟩))) (.leaf ⟨[[.b false]],[]⟩)) (.leaf ⟨[[.b false]],[]⟩)) (.leaf ⟨[[.b false]],[]⟩)) (.leaf ⟨[[.b false]],[]⟩)) (.leaf ⟨[[.b false]],[]⟩))))
noncomputable abbrev qVa5 (v0:MMsg):Ah (EN):=.ite (!decide (v0.3<3)) (.leaf ⟨[[.b false]],[]⟩) (.ite (v0.2==v0.3) (.leaf ⟨[[.b false]],[]⟩) (.ite (v0.acc.1==0&&v0.acc.2==0) (.ite (false == !v0.7) (.leaf ⟨[[.b false]],[]⟩) (.ite (false==(v0.9==0)) (.leaf ⟨[[.b false]],[]⟩) (.ite (decide (v0.4≥2)) (.ite (decide (v0.4≤60)) (.ite (decide (v0.b.1>0)) (.ite (decide (v0.b.2<3)) (.ite (v0.b.2==v0.2) (qVa12 v0) (.leaf ⟨[[.b false]],[]⟩)) (.leaf ⟨[[.b false]],[]⟩)) (.leaf ⟨[[.b false]],[]⟩)) (.leaf ⟨[[.b false]],[]⟩)) (.leaf ⟨[[.b false]],[]⟩)))) (.leaf ⟨[[.b false]],[]⟩)))
noncomputable abbrev qVa6 (v0:MMsg):Ah (EN):=.ite (!decide (v0.3<3)) (.leaf ⟨[[.b false]],[]⟩) (.ite (v0.2==v0.3) (.leaf ⟨[[.b false]],[]⟩) (.ite (v0.acc.1==0&&v0.acc.2==0) (.ite (false == !v0.7) (.leaf ⟨[[.b false]],[]⟩) (.ite (false==(v0.inc.1==0&&(v0.inc.2==0&&v0.inc.3==0))) (.leaf ⟨[[.b false]],[]⟩) (.ite (false==(v0.9==0)) (.leaf ⟨[[.b false]],[]⟩) (.ite (decide (v0.4≥2)) (.ite (decide (v0.4≤60)) (.ite (decide (v0.b.1>0)) (.ite (decide (v0.b.2<3)) (.ite (v0.b.2==v0.2) (.leaf ⟨[[.b true]],[]⟩) (.leaf ⟨[[.b false]],[]⟩)) (.leaf ⟨[[.b false]],[]⟩)) (.leaf ⟨[[.b false]],[]⟩)) (.leaf ⟨[[.b false]],[]⟩)) (.leaf ⟨[[.b false]],[]⟩))))) (.leaf ⟨[[.b false]],[]⟩)))
noncomputable abbrev qVa7 (v0:MMsg):Ah (EN):=.ite (!decide (v0.3<3)) (.leaf ⟨[[.b false]],[]⟩) (.ite (v0.2==v0.3) (.leaf ⟨[[.b false]],[]⟩) (.ite (v0.acc.1==0&&v0.acc.2==0) (.ite (false == !v0.7) (.leaf ⟨[[.b false]],[]⟩) (.ite (false==(v0.inc.1==0&&(v0.inc.2==0&&v0.inc.3==0))) (.leaf ⟨[[.b false]],[]⟩) (.ite (false==(v0.9==0)) (.leaf ⟨[[.b false]],[]⟩) (.ite (decide (v0.4≥2)) (.ite (decide (v0.4≤60)) (.ite (decide (v0.b.1>0)) (.ite (decide (v0.b.2<3)) (.ite (v0.b.2==v0.3) (.leaf ⟨[[.b true]],[]⟩) (.leaf ⟨[[.b false]],[]⟩)) (.leaf ⟨[[.b false]],[]⟩)) (.leaf ⟨[[.b false]],[]⟩)) (.leaf ⟨[[.b false]],[]⟩)) (.leaf ⟨[[.b false]],[]⟩))))) (.leaf ⟨[[.b false]],[]⟩)))
noncomputable abbrev qVa8 (v0:MMsg):Ah (EN):=.ite (!decide (v0.3<3)) (.leaf ⟨[[.b false]],[]⟩) (.ite (v0.2==v0.3) (.leaf ⟨[[.b false]],[]⟩) (.ite (v0.acc.1==0&&v0.acc.2==0) (.ite (false == !v0.7) (.leaf ⟨[[.b false]],[]⟩) (.ite (false==(v0.inc.1==0&&(v0.inc.2==0&&v0.inc.3==0))) (.leaf ⟨[[.b false]],[]⟩) (.ite (false==(v0.9==0)) (.leaf ⟨[[.b false]],[]⟩) (.ite (decide (v0.4≥2)) (.ite (decide (v0.4≤60)) (.ite (decide (v0.b.1>0)) (.ite (decide (v0.b.2<3)) (.leaf ⟨[[.b true]],[]⟩) (.leaf ⟨[[.b false]],[]⟩)) (.leaf ⟨[[.b false]],[]⟩)) (.leaf ⟨[[.b false]],[]⟩)) (.leaf ⟨[[.b false]],[]⟩))))) (.leaf ⟨[[.b false]],[]⟩)))
noncomputable abbrev qVa9 (v0:MMsg):Ah (EN):=.ite (decide (v0.2<3)) (.ite (decide (v0.3≥10)) (.ite (!decide (v0.3<15)) (.leaf ⟨[[.b false]],[]⟩) (qVa1 v0)) (.leaf ⟨[[.b false]],[]⟩)) (.leaf ⟨[[.b false]],[]⟩)
noncomputable abbrev qVa10 (v0:MMsg):Ah (EN):=.ite (decide (v0.2≥10)) (.ite (decide (v0.2<15)) (.ite (!decide (v0.3<3)) (.leaf ⟨[[.b false]],[]⟩) (qVa2 v0)) (.leaf ⟨[[.b false]],[]⟩)) (.leaf ⟨[[.b false]],[]⟩)
noncomputable abbrev qVa11 (v0:MMsg):Ah (EN):=.ite (decide (v0.2≥10)) (.ite (decide (v0.2<15)) (.ite (decide (v0.3≥10)) (.leaf ⟨[[.b false]],[]⟩) (.leaf ⟨[[.b false]],[]⟩)) (.leaf ⟨[[.b false]],[]⟩)) (.leaf ⟨[[.b false]],[]⟩)
theorem is_1 (x:MMsg):BR Tryz.prog (Am Tryz.prog vaT 300) 42 ((isT 1).vals ⟨[mRow x],[]⟩) ((isT 1).heap ⟨[mRow x],[]⟩) 0 (outV 0 boolR) =

  .ite (decide (x.2<3)) (.ite (decide (x.2≥10)) (.ite (decide (x.2<15)) (.ite (decide (x.3≥10)) (qVa6 x) (qVa6 x)) (qVa6 x)) (qVa6 x)) (qVa11 x):=by kernel_rfl
theorem is_2 (x:MMsg):BR Tryz.prog (Am Tryz.prog vaT 300) 42 ((isT 2).vals ⟨[mRow x],[]⟩) ((isT 2).heap ⟨[mRow x],[]⟩) 0 (outV 0 boolR) =

  .ite (decide (x.2<3)) (.ite (decide (x.2≥10)) (.ite (decide (x.2<15)) (.ite (decide (x.3≥10)) (qVa4 x) (qVa4 x)) (qVa4 x)) (qVa4 x)) (qVa11 x):=by kernel_rfl
theorem is_3 (x:MMsg):BR Tryz.prog (Am Tryz.prog vaT 300) 42 ((isT 3).vals ⟨[mRow x],[]⟩) ((isT 3).heap ⟨[mRow x],[]⟩) 0 (outV 0 boolR) =

  .ite (decide (x.2<3)) (.ite (decide (x.2≥10)) (.ite (decide (x.2<15)) (.ite (decide (x.3≥10)) (qVa5 x) (qVa5 x)) (qVa5 x)) (qVa5 x)) (qVa11 x):=by kernel_rfl
theorem is_4 (x:MMsg):BR Tryz.prog (Am Tryz.prog vaT 300) 42 ((isT 4).vals ⟨[mRow x],[]⟩) ((isT 4).heap ⟨[mRow x],[]⟩) 0 (outV 0 boolR) =

  .ite (decide (x.2<3)) (.ite (decide (x.2≥10)) (.ite (decide (x.2<15)) (.ite (decide (x.3≥10)) (qVa7 x) (qVa7 x)) (qVa7 x)) (qVa7 x)) (qVa11 x):=by kernel_rfl
theorem is_5 (x:MMsg):BR Tryz.prog (Am Tryz.prog vaT 300) 42 ((isT 5).vals ⟨[mRow x],[]⟩) ((isT 5).heap ⟨[mRow x],[]⟩) 0 (outV 0 boolR) =

  .ite (decide (x.2<3)) (.ite (decide (x.2≥10)) (.ite (decide (x.2<15)) (.ite (decide (x.3≥10)) (.ite (decide (x.3<3)) (qVa1 x) (qVa9 x)) (.ite (decide (x.3<3)) (qVa1 x) (qVa9 x))) (.ite (decide (x.3<3)) (qVa1 x) (qVa9 x))) (.ite (decide (x.3<3)) (qVa1 x) (qVa9 x))) (.ite (decide (x.2≥10)) (.ite (decide (x.2<15)) (.ite (decide (x.3≥10)) (qVa9 x) (qVa9 x)) (qVa9 x)) (qVa9 x)):=by kernel_rfl
theorem is_6 (x:MMsg):BR Tryz.prog (Am Tryz.prog vaT 300) 42 ((isT 6).vals ⟨[mRow x],[]⟩) ((isT 6).heap ⟨[mRow x],[]⟩) 0 (outV 0 boolR) =

  .ite (decide (x.2<3)) (.ite (decide (x.2≥10)) (.ite (decide (x.2<15)) (.ite (decide (x.3≥10)) (.ite (decide (x.3<3)) (qVa2 x) (qVa10 x)) (.ite (decide (x.3<3)) (qVa2 x) (qVa10 x))) (.ite (decide (x.3<3)) (qVa2 x) (qVa10 x))) (.ite (decide (x.3<3)) (qVa2 x) (qVa10 x))) (.ite (decide (x.2≥10)) (.ite (decide (x.2<15)) (.ite (decide (x.3≥10)) (qVa10 x) (qVa10 x)) (qVa10 x)) (qVa10 x)):=by kernel_rfl
theorem is_17 (x:MMsg):BR Tryz.prog (Am Tryz.prog vaT 300) 42 ((isT 17).vals ⟨[mRow x],[]⟩) ((isT 17).heap ⟨[mRow x],[]⟩) 0 (outV 0 boolR) =

  .ite (decide (x.2<3)) (.ite (decide (x.2≥10)) (.ite (decide (x.2<15)) (.ite (decide (x.3≥10)) (qVa3 x) (qVa3 x)) (qVa3 x)) (qVa3 x)) (.ite (decide (x.2≥10)) (.ite (decide (x.2<15)) (.ite (decide (x.3≥10)) (qVa3 x) (qVa3 x)) (qVa3 x)) (qVa3 x)):=by kernel_rfl
theorem is_18 (x:MMsg):BR Tryz.prog (Am Tryz.prog vaT 300) 42 ((isT 18).vals ⟨[mRow x],[]⟩) ((isT 18).heap ⟨[mRow x],[]⟩) 0 (outV 0 boolR) =

  .ite (decide (x.2<3)) (.ite (decide (x.2≥10)) (.ite (decide (x.2<15)) (.ite (decide (x.3≥10)) (qVa8 x) (qVa8 x)) (qVa8 x)) (qVa8 x)) (qVa11 x):=by kernel_rfl
end Go.Proofs.YtddmgdclmkgpeaaGreat
set_option linter.unusedSimpArgs false
set_option linter.unusedVariables false
namespace Go.Proofs.YtddmgdclmkgpeaaGreat
open Go.Eng Go.RowKit Go.ChangeShapes Go.WideShapes
set_option maxRecDepth 100000
def is1B (x:MMsg):Bool:=(decide (x.frm<3)&&(decide (x.to<3)&&(!(x.frm==x.to)&&((x.acc.n==0&&x.acc.who==0)&&(!x.has&&((x.inc.kind==0&&(x.inc.osd==0&&x.inc.n==0))&&((x.n==0)&&(decide (x.epoch≥2)&&(decide (x.epoch≤60)&&(decide (x.b.n>0)&&(decide (x.b.who<3)&&x.b.who==x.frm)))))))))))
def is2B (x:MMsg):Bool:=(decide (x.frm<3)&&(decide (x.to<3)&&(!(x.frm==x.to)&&((x.n==0)&&(decide (x.epoch≥2)&&(decide (x.epoch≤60)&&(decide (x.b.n>0)&&(decide (x.b.who<3)&&(x.b.who==x.to&&((!x.has&&((x.acc.n==0&&x.acc.who==0)&&(x.inc.kind==0&&(x.inc.osd==0&&x.inc.n==0))))||(x.has&&(decide (x.acc.n>0)&&(decide (x.acc.who<3)&&incOk x.inc)))))))))))))
def is3B (x:MMsg):Bool:=(decide (x.frm<3)&&(decide (x.to<3)&&(!(x.frm==x.to)&&((x.acc.n==0&&x.acc.who==0)&&(!x.has&&((x.n==0)&&(decide (x.epoch≥2)&&(decide (x.epoch≤60)&&(decide (x.b.n>0)&&(decide (x.b.who<3)&&(x.b.who==x.frm&&incOk x.inc)))))))))))
def is4B (x:MMsg):Bool:=(decide (x.frm<3)&&(decide (x.to<3)&&(!(x.frm==x.to)&&((x.acc.n==0&&x.acc.who==0)&&(!x.has&&((x.inc.kind==0&&(x.inc.osd==0&&x.inc.n==0))&&((x.n==0)&&(decide (x.epoch≥2)&&(decide (x.epoch≤60)&&(decide (x.b.n>0)&&(decide (x.b.who<3)&&x.b.who==x.to)))))))))))
def is5B (x:MMsg):Bool:=(((decide (x.frm<3)&&decide (x.to<3))||(decide (x.frm<3)&&(decide (x.to≥10)&&decide (x.to<15))))&&(!(x.frm==x.to)&&((x.acc.n==0&&x.acc.who==0)&&((x.b.n==0&&x.b.who==0)&&(!x.has&&((x.n==0)&&(decide (x.epoch≥2)&&(decide (x.epoch≤60)&&incOk x.inc))))))))
def is6B (x:MMsg):Bool:=(((decide (x.frm<3)&&decide (x.to<3))||(decide (x.frm≥10)&&(decide (x.frm<15)&&decide (x.to<3))))&&(!(x.frm==x.to)&&((x.acc.n==0&&x.acc.who==0)&&((x.b.n==0&&x.b.who==0)&&(!x.has&&((x.inc.kind==0&&(x.inc.osd==0&&x.inc.n==0))&&((x.n==0)&&(decide (x.epoch≥1)&&decide (x.epoch≤60)))))))))
def is17B (x:MMsg):Bool:=(decide (x.frm≥10)&&(decide (x.frm<15)&&(decide (x.to<3)&&(!(x.frm==x.to)&&((x.acc.n==0&&x.acc.who==0)&&((x.epoch==0)&&((x.b.n==0&&x.b.who==0)&&(!x.has&&((x.inc.kind==0&&(x.inc.osd==0&&x.inc.n==0))&&decide (x.n<5))))))))))
def is18B (x:MMsg):Bool:=(decide (x.frm<3)&&(decide (x.to<3)&&(!(x.frm==x.to)&&((x.acc.n==0&&x.acc.who==0)&&(!x.has&&((x.inc.kind==0&&(x.inc.osd==0&&x.inc.n==0))&&((x.n==0)&&(decide (x.epoch≥2)&&(decide (x.epoch≤60)&&(decide (x.b.n>0)&&decide (x.b.who<3)))))))))))
def isM (x:MMsg):Bool:=(bif x.kind==1 then is1B x else (bif x.kind==2 then is2B x else (bif x.kind==3 then is3B x else (bif x.kind==4 then is4B x else (bif x.kind==5 then is5B x else (bif x.kind==6 then is6B x else (bif x.kind==17 then is17B x else (bif x.kind==18 then is18B x else false))))))))
def kindB (k:Int):Bool:=(k==1)||((k==2)||((k==3)||((k==4)||((k==5)||((k==6)||((k==17)||(k==18)))))))
def cIsR (e:EN):Ah (TS×EN):=.must (kindB (BU e 0).kind) (.leaf (boolR,⟨[[.b (isM (BU e 0))]],[]⟩))
theorem nT {b:Bool} (h:(!b)=true):b=false:=by cases b; rfl; cases h
theorem nF {b:Bool} (h:(!b)=false):b=true:=by cases b; cases h; rfl
theorem fT {b:Bool} (h:(false==b)=true):b=false:=by cases b; rfl; cases h
theorem fF {b:Bool} (h:(false==b)=false):b=true:=by cases b; cases h; rfl
theorem gT {b:Bool} (h:(false == !b)=true):b=true:=by cases b; cases h; rfl
theorem gF {b:Bool} (h:(false == !b)=false):b=false:=by cases b; rfl; cases h
set_option maxHeartbeats 4000000 in
theorem is1_std (x:MMsg):BI Tryz.prog 42 (isT 1) ⟨[mRow x],[]⟩ boolR ⟨[[.b (is1B x)]],[]⟩:=by
  have hi:=incF_eq x.inc.kind x.inc.osd x.inc.n
  have hi:incF x.inc.kind x.inc.osd x.inc.n=incOk x.inc:=hi
  refine Aj vaTab Ay rfl (AL (is_1 x) ?_)
  dsimp only [qVa1, qVa2, qVa3, qVa4, qVa5, qVa6, qVa7, qVa8, qVa9, qVa10, qVa11, qVa12]
  unfold is1B
  generalize incOk x.inc=I at hi ⊢
  generalize decide (x.frm<3)=A0
  generalize decide (x.frm≥10)=A1
  generalize decide (x.frm<15)=A2
  generalize decide (x.to≥10)=A3
  generalize decide (x.to<3)=A4
  generalize decide (x.to<15)=A5
  generalize (x.frm==x.to)=A6
  generalize (x.acc.n==0&&x.acc.who==0)=A7
  generalize (x.b.n==0&&x.b.who==0)=A8
  generalize (x.inc.kind==0&&(x.inc.osd==0&&x.inc.n==0))=A9
  generalize (x.n==0)=A10
  generalize decide (x.n<5)=A11
  generalize (x.epoch==0)=A12
  generalize decide (x.epoch≥2)=A13
  generalize decide (x.epoch≥1)=A14
  generalize decide (x.epoch≤60)=A15
  generalize decide (x.b.n>0)=A16
  generalize decide (x.b.who<3)=A17
  generalize (x.b.who==x.frm)=A18
  generalize (x.b.who==x.to)=A19
  generalize decide (x.acc.n>0)=A20
  generalize decide (x.acc.who<3)=A21
  generalize x.has=A22
  repeat' first
    | exact AE ⟨⟨rfl,trivial⟩,trivial⟩
    | refine AK ?_
    | refine AG (fun _=>?_) (fun h=>absurd h (by decide))
    | refine AG (fun h=>absurd h (by decide)) (fun _=>?_)
    | (refine AG (fun h=>?_) (fun h=>?_) <;> first | subst h | (have h:=nT h; subst h) | (have h:=nF h; subst h) | (have h:=gT h; subst h) | (have h:=gF h; subst h) | (have h:=fT h; subst h) | (have h:=fF h; subst h) | (have h:=hi.symm.trans (show incF x.inc.kind x.inc.osd x.inc.n=_ from h); subst h))
  all_goals (refine AE ⟨⟨?_,trivial⟩,trivial⟩; show _=_; simp)
set_option maxHeartbeats 4000000 in
theorem is2_std (x:MMsg):BI Tryz.prog 42 (isT 2) ⟨[mRow x],[]⟩ boolR ⟨[[.b (is2B x)]],[]⟩:=by
  have hi:=incF_eq x.inc.kind x.inc.osd x.inc.n
  have hi:incF x.inc.kind x.inc.osd x.inc.n=incOk x.inc:=hi
  refine Aj vaTab Ay rfl (AL (is_2 x) ?_)
  dsimp only [qVa1, qVa2, qVa3, qVa4, qVa5, qVa6, qVa7, qVa8, qVa9, qVa10, qVa11, qVa12]
  unfold is2B
  generalize incOk x.inc=I at hi ⊢
  generalize decide (x.frm<3)=A0
  generalize decide (x.frm≥10)=A1
  generalize decide (x.frm<15)=A2
  generalize decide (x.to≥10)=A3
  generalize decide (x.to<3)=A4
  generalize decide (x.to<15)=A5
  generalize (x.frm==x.to)=A6
  generalize (x.acc.n==0&&x.acc.who==0)=A7
  generalize (x.b.n==0&&x.b.who==0)=A8
  generalize (x.inc.kind==0&&(x.inc.osd==0&&x.inc.n==0))=A9
  generalize (x.n==0)=A10
  generalize decide (x.n<5)=A11
  generalize (x.epoch==0)=A12
  generalize decide (x.epoch≥2)=A13
  generalize decide (x.epoch≥1)=A14
  generalize decide (x.epoch≤60)=A15
  generalize decide (x.b.n>0)=A16
  generalize decide (x.b.who<3)=A17
  generalize (x.b.who==x.frm)=A18
  generalize (x.b.who==x.to)=A19
  generalize decide (x.acc.n>0)=A20
  generalize decide (x.acc.who<3)=A21
  generalize x.has=A22
  repeat' first
    | exact AE ⟨⟨rfl,trivial⟩,trivial⟩
    | refine AK ?_
    | refine AG (fun _=>?_) (fun h=>absurd h (by decide))
    | refine AG (fun h=>absurd h (by decide)) (fun _=>?_)
    | (refine AG (fun h=>?_) (fun h=>?_) <;> first | subst h | (have h:=nT h; subst h) | (have h:=nF h; subst h) | (have h:=gT h; subst h) | (have h:=gF h; subst h) | (have h:=fT h; subst h) | (have h:=fF h; subst h) | (have h:=hi.symm.trans (show incF x.inc.kind x.inc.osd x.inc.n=_ from h); subst h))
  all_goals (refine AE ⟨⟨?_,trivial⟩,trivial⟩; show _=_; simp)
set_option maxHeartbeats 4000000 in
theorem is3_std (x:MMsg):BI Tryz.prog 42 (isT 3) ⟨[mRow x],[]⟩ boolR ⟨[[.b (is3B x)]],[]⟩:=by
  have hi:=incF_eq x.inc.kind x.inc.osd x.inc.n
  have hi:incF x.inc.kind x.inc.osd x.inc.n=incOk x.inc:=hi
  refine Aj vaTab Ay rfl (AL (is_3 x) ?_)
  dsimp only [qVa1, qVa2, qVa3, qVa4, qVa5, qVa6, qVa7, qVa8, qVa9, qVa10, qVa11, qVa12]
  unfold is3B
  generalize incOk x.inc=I at hi ⊢
  generalize decide (x.frm<3)=A0
  generalize decide (x.frm≥10)=A1
  generalize decide (x.frm<15)=A2
  generalize decide (x.to≥10)=A3
  generalize decide (x.to<3)=A4
  generalize decide (x.to<15)=A5
  generalize (x.frm==x.to)=A6
  generalize (x.acc.n==0&&x.acc.who==0)=A7
  generalize (x.b.n==0&&x.b.who==0)=A8
  generalize (x.inc.kind==0&&(x.inc.osd==0&&x.inc.n==0))=A9
  generalize (x.n==0)=A10
  generalize decide (x.n<5)=A11
  generalize (x.epoch==0)=A12
  generalize decide (x.epoch≥2)=A13
  generalize decide (x.epoch≥1)=A14
  generalize decide (x.epoch≤60)=A15
  generalize decide (x.b.n>0)=A16
  generalize decide (x.b.who<3)=A17
  generalize (x.b.who==x.frm)=A18
  generalize (x.b.who==x.to)=A19
  generalize decide (x.acc.n>0)=A20
  generalize decide (x.acc.who<3)=A21
  generalize x.has=A22
  repeat' first
    | exact AE ⟨⟨rfl,trivial⟩,trivial⟩
    | refine AK ?_
    | refine AG (fun _=>?_) (fun h=>absurd h (by decide))
    | refine AG (fun h=>absurd h (by decide)) (fun _=>?_)
    | (refine AG (fun h=>?_) (fun h=>?_) <;> first | subst h | (have h:=nT h; subst h) | (have h:=nF h; subst h) | (have h:=gT h; subst h) | (have h:=gF h; subst h) | (have h:=fT h; subst h) | (have h:=fF h; subst h) | (have h:=hi.symm.trans (show incF x.inc.kind x.inc.osd x.inc.n=_ from h); subst h))
  all_goals (refine AE ⟨⟨?_,trivial⟩,trivial⟩; show _=_; simp)
set_option maxHeartbeats 4000000 in
theorem is4_std (x:MMsg):BI Tryz.prog 42 (isT 4) ⟨[mRow x],[]⟩ boolR ⟨[[.b (is4B x)]],[]⟩:=by
  have hi:=incF_eq x.inc.kind x.inc.osd x.inc.n
  have hi:incF x.inc.kind x.inc.osd x.inc.n=incOk x.inc:=hi
  refine Aj vaTab Ay rfl (AL (is_4 x) ?_)
  dsimp only [qVa1, qVa2, qVa3, qVa4, qVa5, qVa6, qVa7, qVa8, qVa9, qVa10, qVa11, qVa12]
  unfold is4B
  generalize incOk x.inc=I at hi ⊢
  generalize decide (x.frm<3)=A0
  generalize decide (x.frm≥10)=A1
  generalize decide (x.frm<15)=A2
  generalize decide (x.to≥10)=A3
  generalize decide (x.to<3)=A4
  generalize decide (x.to<15)=A5
  generalize (x.frm==x.to)=A6
  generalize (x.acc.n==0&&x.acc.who==0)=A7
  generalize (x.b.n==0&&x.b.who==0)=A8
  generalize (x.inc.kind==0&&(x.inc.osd==0&&x.inc.n==0))=A9
  generalize (x.n==0)=A10
  generalize decide (x.n<5)=A11
  generalize (x.epoch==0)=A12
  generalize decide (x.epoch≥2)=A13
  generalize decide (x.epoch≥1)=A14
  generalize decide (x.epoch≤60)=A15
  generalize decide (x.b.n>0)=A16
  generalize decide (x.b.who<3)=A17
  generalize (x.b.who==x.frm)=A18
  generalize (x.b.who==x.to)=A19
  generalize decide (x.acc.n>0)=A20
  generalize decide (x.acc.who<3)=A21
  generalize x.has=A22
  repeat' first
    | exact AE ⟨⟨rfl,trivial⟩,trivial⟩
    | refine AK ?_
    | refine AG (fun _=>?_) (fun h=>absurd h (by decide))
    | refine AG (fun h=>absurd h (by decide)) (fun _=>?_)
    | (refine AG (fun h=>?_) (fun h=>?_) <;> first | subst h | (have h:=nT h; subst h) | (have h:=nF h; subst h) | (have h:=gT h; subst h) | (have h:=gF h; subst h) | (have h:=fT h; subst h) | (have h:=fF h; subst h) | (have h:=hi.symm.trans (show incF x.inc.kind x.inc.osd x.inc.n=_ from h); subst h))
  all_goals (refine AE ⟨⟨?_,trivial⟩,trivial⟩; show _=_; simp)
set_option maxHeartbeats 4000000 in
theorem is5_std (x:MMsg):BI Tryz.prog 42 (isT 5) ⟨[mRow x],[]⟩ boolR ⟨[[.b (is5B x)]],[]⟩:=by
  have hi:=incF_eq x.inc.kind x.inc.osd x.inc.n
  have hi:incF x.inc.kind x.inc.osd x.inc.n=incOk x.inc:=hi
  refine Aj vaTab Ay rfl (AL (is_5 x) ?_)
  dsimp only [qVa1, qVa2, qVa3, qVa4, qVa5, qVa6, qVa7, qVa8, qVa9, qVa10, qVa11, qVa12]
  unfold is5B
  generalize incOk x.inc=I at hi ⊢
  generalize decide (x.frm<3)=A0
  generalize decide (x.frm≥10)=A1
  generalize decide (x.frm<15)=A2
  generalize decide (x.to≥10)=A3
  generalize decide (x.to<3)=A4
  generalize decide (x.to<15)=A5
  generalize (x.frm==x.to)=A6
  generalize (x.acc.n==0&&x.acc.who==0)=A7
  generalize (x.b.n==0&&x.b.who==0)=A8
  generalize (x.inc.kind==0&&(x.inc.osd==0&&x.inc.n==0))=A9
  generalize (x.n==0)=A10
  generalize decide (x.n<5)=A11
  generalize (x.epoch==0)=A12
  generalize decide (x.epoch≥2)=A13
  generalize decide (x.epoch≥1)=A14
  generalize decide (x.epoch≤60)=A15
  generalize decide (x.b.n>0)=A16
  generalize decide (x.b.who<3)=A17
  generalize (x.b.who==x.frm)=A18
  generalize (x.b.who==x.to)=A19
  generalize decide (x.acc.n>0)=A20
  generalize decide (x.acc.who<3)=A21
  generalize x.has=A22
  repeat' first
    | exact AE ⟨⟨rfl,trivial⟩,trivial⟩
    | refine AK ?_
    | refine AG (fun _=>?_) (fun h=>absurd h (by decide))
    | refine AG (fun h=>absurd h (by decide)) (fun _=>?_)
    | (refine AG (fun h=>?_) (fun h=>?_) <;> first | subst h | (have h:=nT h; subst h) | (have h:=nF h; subst h) | (have h:=gT h; subst h) | (have h:=gF h; subst h) | (have h:=fT h; subst h) | (have h:=fF h; subst h) | (have h:=hi.symm.trans (show incF x.inc.kind x.inc.osd x.inc.n=_ from h); subst h))
  all_goals (refine AE ⟨⟨?_,trivial⟩,trivial⟩; show _=_; simp)
set_option maxHeartbeats 4000000 in
theorem is6_std (x:MMsg):BI Tryz.prog 42 (isT 6) ⟨[mRow x],[]⟩ boolR ⟨[[.b (is6B x)]],[]⟩:=by
  have hi:=incF_eq x.inc.kind x.inc.osd x.inc.n
  have hi:incF x.inc.kind x.inc.osd x.inc.n=incOk x.inc:=hi
  refine Aj vaTab Ay rfl (AL (is_6 x) ?_)
  dsimp only [qVa1, qVa2, qVa3, qVa4, qVa5, qVa6, qVa7, qVa8, qVa9, qVa10, qVa11, qVa12]
  unfold is6B
  generalize incOk x.inc=I at hi ⊢
  generalize decide (x.frm<3)=A0
  generalize decide (x.frm≥10)=A1
  generalize decide (x.frm<15)=A2
  generalize decide (x.to≥10)=A3
  generalize decide (x.to<3)=A4
  generalize decide (x.to<15)=A5
  generalize (x.frm==x.to)=A6
  generalize (x.acc.n==0&&x.acc.who==0)=A7
  generalize (x.b.n==0&&x.b.who==0)=A8
  generalize (x.inc.kind==0&&(x.inc.osd==0&&x.inc.n==0))=A9
  generalize (x.n==0)=A10
  generalize decide (x.n<5)=A11
  generalize (x.epoch==0)=A12
  generalize decide (x.epoch≥2)=A13
  generalize decide (x.epoch≥1)=A14
  generalize decide (x.epoch≤60)=A15
  generalize decide (x.b.n>0)=A16
  generalize decide (x.b.who<3)=A17
  generalize (x.b.who==x.frm)=A18
  generalize (x.b.who==x.to)=A19
  generalize decide (x.acc.n>0)=A20
  generalize decide (x.acc.who<3)=A21
  generalize x.has=A22
  repeat' first
    | exact AE ⟨⟨rfl,trivial⟩,trivial⟩
    | refine AK ?_
    | refine AG (fun _=>?_) (fun h=>absurd h (by decide))
    | refine AG (fun h=>absurd h (by decide)) (fun _=>?_)
    | (refine AG (fun h=>?_) (fun h=>?_) <;> first | subst h | (have h:=nT h; subst h) | (have h:=nF h; subst h) | (have h:=gT h; subst h) | (have h:=gF h; subst h) | (have h:=fT h; subst h) | (have h:=fF h; subst h) | (have h:=hi.symm.trans (show incF x.inc.kind x.inc.osd x.inc.n=_ from h); subst h))
  all_goals (refine AE ⟨⟨?_,trivial⟩,trivial⟩; show _=_; simp)
set_option maxHeartbeats 4000000 in
theorem is17_std (x:MMsg):BI Tryz.prog 42 (isT 17) ⟨[mRow x],[]⟩ boolR ⟨[[.b (is17B x)]],[]⟩:=by
  have hi:=incF_eq x.inc.kind x.inc.osd x.inc.n
  have hi:incF x.inc.kind x.inc.osd x.inc.n=incOk x.inc:=hi
  refine Aj vaTab Ay rfl (AL (is_17 x) ?_)
  dsimp only [qVa1, qVa2, qVa3, qVa4, qVa5, qVa6, qVa7, qVa8, qVa9, qVa10, qVa11, qVa12]
  unfold is17B
  generalize incOk x.inc=I at hi ⊢
  generalize decide (x.frm<3)=A0
  generalize decide (x.frm≥10)=A1
  generalize decide (x.frm<15)=A2
  generalize decide (x.to≥10)=A3
  generalize decide (x.to<3)=A4
  generalize decide (x.to<15)=A5
  generalize (x.frm==x.to)=A6
  generalize (x.acc.n==0&&x.acc.who==0)=A7
  generalize (x.b.n==0&&x.b.who==0)=A8
  generalize (x.inc.kind==0&&(x.inc.osd==0&&x.inc.n==0))=A9
  generalize (x.n==0)=A10
  generalize decide (x.n<5)=A11
  generalize (x.epoch==0)=A12
  generalize decide (x.epoch≥2)=A13
  generalize decide (x.epoch≥1)=A14
  generalize decide (x.epoch≤60)=A15
  generalize decide (x.b.n>0)=A16
  generalize decide (x.b.who<3)=A17
  generalize (x.b.who==x.frm)=A18
  generalize (x.b.who==x.to)=A19
  generalize decide (x.acc.n>0)=A20
  generalize decide (x.acc.who<3)=A21
  generalize x.has=A22
  repeat' first
    | exact AE ⟨⟨rfl,trivial⟩,trivial⟩
    | refine AK ?_
    | refine AG (fun _=>?_) (fun h=>absurd h (by decide))
    | refine AG (fun h=>absurd h (by decide)) (fun _=>?_)
    | (refine AG (fun h=>?_) (fun h=>?_) <;> first | subst h | (have h:=nT h; subst h) | (have h:=nF h; subst h) | (have h:=gT h; subst h) | (have h:=gF h; subst h) | (have h:=fT h; subst h) | (have h:=fF h; subst h) | (have h:=hi.symm.trans (show incF x.inc.kind x.inc.osd x.inc.n=_ from h); subst h))
  all_goals (refine AE ⟨⟨?_,trivial⟩,trivial⟩; show _=_; simp)
set_option maxHeartbeats 4000000 in
theorem is18_std (x:MMsg):BI Tryz.prog 42 (isT 18) ⟨[mRow x],[]⟩ boolR ⟨[[.b (is18B x)]],[]⟩:=by
  have hi:=incF_eq x.inc.kind x.inc.osd x.inc.n
  have hi:incF x.inc.kind x.inc.osd x.inc.n=incOk x.inc:=hi
  refine Aj vaTab Ay rfl (AL (is_18 x) ?_)
  dsimp only [qVa1, qVa2, qVa3, qVa4, qVa5, qVa6, qVa7, qVa8, qVa9, qVa10, qVa11, qVa12]
  unfold is18B
  generalize incOk x.inc=I at hi ⊢
  generalize decide (x.frm<3)=A0
  generalize decide (x.frm≥10)=A1
  generalize decide (x.frm<15)=A2
  generalize decide (x.to≥10)=A3
  generalize decide (x.to<3)=A4
  generalize decide (x.to<15)=A5
  generalize (x.frm==x.to)=A6
  generalize (x.acc.n==0&&x.acc.who==0)=A7
  generalize (x.b.n==0&&x.b.who==0)=A8
  generalize (x.inc.kind==0&&(x.inc.osd==0&&x.inc.n==0))=A9
  generalize (x.n==0)=A10
  generalize decide (x.n<5)=A11
  generalize (x.epoch==0)=A12
  generalize decide (x.epoch≥2)=A13
  generalize decide (x.epoch≥1)=A14
  generalize decide (x.epoch≤60)=A15
  generalize decide (x.b.n>0)=A16
  generalize decide (x.b.who<3)=A17
  generalize (x.b.who==x.frm)=A18
  generalize (x.b.who==x.to)=A19
  generalize decide (x.acc.n>0)=A20
  generalize decide (x.acc.who<3)=A21
  generalize x.has=A22
  repeat' first
    | exact AE ⟨⟨rfl,trivial⟩,trivial⟩
    | refine AK ?_
    | refine AG (fun _=>?_) (fun h=>absurd h (by decide))
    | refine AG (fun h=>absurd h (by decide)) (fun _=>?_)
    | (refine AG (fun h=>?_) (fun h=>?_) <;> first | subst h | (have h:=nT h; subst h) | (have h:=nF h; subst h) | (have h:=gT h; subst h) | (have h:=gF h; subst h) | (have h:=fT h; subst h) | (have h:=fF h; subst h) | (have h:=hi.symm.trans (show incF x.inc.kind x.inc.osd x.inc.n=_ from h); subst h))
  all_goals (refine AE ⟨⟨?_,trivial⟩,trivial⟩; show _=_; simp)
theorem cIsR_ok:Ak Tryz.prog 42 (AW isTR cIsR):=BN fun e r h=>by
  obtain ⟨hm,h⟩:=Ar h
  cases h
  refine BI.pre (x':=⟨[mRow (BU e 0)],[]⟩) clP ?_
  generalize BU e 0=x at hm ⊢
  unfold kindB at hm
  simp only [Bool.or_eq_true,beq_iff_eq] at hm
  obtain ⟨k,x2,x3,x4,x5,x6,x7,x8,x9⟩:=x
  have hm:k=1∨k=2∨k=3∨k=4∨k=5∨k=6∨k=17∨k=18:=hm
  rcases hm with rfl | rfl | rfl | rfl | rfl | rfl | rfl | rfl
  · exact StdN.args (args':=(isT 1).vals ⟨[mRow ⟨1,x2,x3,x4,x5,x6,x7,x8,x9⟩],[]⟩) (fun E=>congrArg (fun l:List Value=>[Value.agg l.toArray]) (litsL_den (ts:=msgR) (ts':=msgK 1) (xs:=mRow ⟨1,x2,x3,x4,x5,x6,x7,x8,x9⟩) (by repeat' (first | exact trivial | exact Or.inl rfl | exact Or.inr rfl | apply And.intro)) E)) (is1_std ⟨1,x2,x3,x4,x5,x6,x7,x8,x9⟩)
  · exact StdN.args (args':=(isT 2).vals ⟨[mRow ⟨2,x2,x3,x4,x5,x6,x7,x8,x9⟩],[]⟩) (fun E=>congrArg (fun l:List Value=>[Value.agg l.toArray]) (litsL_den (ts:=msgR) (ts':=msgK 2) (xs:=mRow ⟨2,x2,x3,x4,x5,x6,x7,x8,x9⟩) (by repeat' (first | exact trivial | exact Or.inl rfl | exact Or.inr rfl | apply And.intro)) E)) (is2_std ⟨2,x2,x3,x4,x5,x6,x7,x8,x9⟩)
  · exact StdN.args (args':=(isT 3).vals ⟨[mRow ⟨3,x2,x3,x4,x5,x6,x7,x8,x9⟩],[]⟩) (fun E=>congrArg (fun l:List Value=>[Value.agg l.toArray]) (litsL_den (ts:=msgR) (ts':=msgK 3) (xs:=mRow ⟨3,x2,x3,x4,x5,x6,x7,x8,x9⟩) (by repeat' (first | exact trivial | exact Or.inl rfl | exact Or.inr rfl | apply And.intro)) E)) (is3_std ⟨3,x2,x3,x4,x5,x6,x7,x8,x9⟩)
  · exact StdN.args (args':=(isT 4).vals ⟨[mRow ⟨4,x2,x3,x4,x5,x6,x7,x8,x9⟩],[]⟩) (fun E=>congrArg (fun l:List Value=>[Value.agg l.toArray]) (litsL_den (ts:=msgR) (ts':=msgK 4) (xs:=mRow ⟨4,x2,x3,x4,x5,x6,x7,x8,x9⟩) (by repeat' (first | exact trivial | exact Or.inl rfl | exact Or.inr rfl | apply And.intro)) E)) (is4_std ⟨4,x2,x3,x4,x5,x6,x7,x8,x9⟩)
  · exact StdN.args (args':=(isT 5).vals ⟨[mRow ⟨5,x2,x3,x4,x5,x6,x7,x8,x9⟩],[]⟩) (fun E=>congrArg (fun l:List Value=>[Value.agg l.toArray]) (litsL_den (ts:=msgR) (ts':=msgK 5) (xs:=mRow ⟨5,x2,x3,x4,x5,x6,x7,x8,x9⟩) (by repeat' (first | exact trivial | exact Or.inl rfl | exact Or.inr rfl | apply And.intro)) E)) (is5_std ⟨5,x2,x3,x4,x5,x6,x7,x8,x9⟩)
  · exact StdN.args (args':=(isT 6).vals ⟨[mRow ⟨6,x2,x3,x4,x5,x6,x7,x8,x9⟩],[]⟩) (fun E=>congrArg (fun l:List Value=>[Value.agg l.toArray]) (litsL_den (ts:=msgR) (ts':=msgK 6) (xs:=mRow ⟨6,x2,x3,x4,x5,x6,x7,x8,x9⟩) (by repeat' (first | exact trivial | exact Or.inl rfl | exact Or.inr rfl | apply And.intro)) E)) (is6_std ⟨6,x2,x3,x4,x5,x6,x7,x8,x9⟩)
  · exact StdN.args (args':=(isT 17).vals ⟨[mRow ⟨17,x2,x3,x4,x5,x6,x7,x8,x9⟩],[]⟩) (fun E=>congrArg (fun l:List Value=>[Value.agg l.toArray]) (litsL_den (ts:=msgR) (ts':=msgK 17) (xs:=mRow ⟨17,x2,x3,x4,x5,x6,x7,x8,x9⟩) (by repeat' (first | exact trivial | exact Or.inl rfl | exact Or.inr rfl | apply And.intro)) E)) (is17_std ⟨17,x2,x3,x4,x5,x6,x7,x8,x9⟩)
  · exact StdN.args (args':=(isT 18).vals ⟨[mRow ⟨18,x2,x3,x4,x5,x6,x7,x8,x9⟩],[]⟩) (fun E=>congrArg (fun l:List Value=>[Value.agg l.toArray]) (litsL_den (ts:=msgR) (ts':=msgK 18) (xs:=mRow ⟨18,x2,x3,x4,x5,x6,x7,x8,x9⟩) (by repeat' (first | exact trivial | exact Or.inl rfl | exact Or.inr rfl | apply And.intro)) E)) (is18_std ⟨18,x2,x3,x4,x5,x6,x7,x8,x9⟩)
end Go.Proofs.YtddmgdclmkgpeaaGreat
set_option linter.unusedSimpArgs false
set_option linter.unusedVariables false
namespace Go.Proofs.YtddmgdclmkgpeaaGreat
open Go.Eng Go.RowKit Go.ChangeShapes Go.WideShapes
set_option maxRecDepth 100000
def b25:List TV:=[.b,.b,.b,.b,.b,.b,.b,.b,.b,.b,.b,.b,.b,.b,.b,.b,.b,.b,.b,.b,.b,.b,.b,.b,.b]
def on25 (m:Nat→Bool):List Num:=[.b (m 0),.b (m 1),.b (m 2),.b (m 3),.b (m 4),.b (m 5),.b (m 6),.b (m 7),.b (m 8),.b (m 9),.b (m 10),.b (m 11),.b (m 12),.b (m 13),.b (m 14),.b (m 15),.b (m 16),.b (m 17),.b (m 18),.b (m 19),.b (m 20),.b (m 21),.b (m 22),.b (m 23),.b (m 24)]
noncomputable def body187:Code:=Tryz.f187.body.getD .skip
noncomputable def x187:Code:=lp ((flat body187).getD 5 .skip)
noncomputable def body177:Code:=Tryz.f177.body.getD .skip
noncomputable def x177:Code:=lp ((flat body177).getD 3 .skip)
def ofT:TS:=⟨[0,1],[.one (.ptr 0 0),.one (.i .i64)],[(0,.box b25)],1⟩
def ofH:List (Nat×TO):=[(0,.box b25),(1,.lst none [.i .i64] (some 2)),(2,.tok)]
def ofL:TS:=⟨[5,16,17],[.one (.sl 1),.agg [.b,.b,.b,.b,.b],.one (.i .i64)],ofH,3⟩
def ofE:TS:=⟨[5],[.one (.sl 1)],ofH,3⟩
def ofR:TS:=⟨[4],[.one (.sl 1)],ofH,3⟩
def rofL:TS:=⟨[0,1,5,6],[.one (.ptr 0 0),.one (.i .i64),.one (.sl 1),.one (.i .i64)],ofH,3⟩
def ofO (m:Nat→Bool) (l:List Int):List ON:=[.box (on25 m),.lst l.length (AR l),.tok]
def ofN (g:Nat→Bool):Nat→List Int
  | 0=>[]
  | n+1=>if g n then ofN g n++[(n:Int)] else ofN g n
def ofS (m:Nat→Bool) (a:Int):List Int:=if 0≤a∧a<5 then ofN (fun i=>m (5 * a.toNat+i)) 5 else []
noncomputable abbrev qUa1 (v0:List Int) (v1:Int) (v2:Int) (v3:Nat→Bool):Ah (Ex×EN):=.must (decide (((v0.length:Int)+1) * 8≤1099511627776∧(v0.length:Int)+1≤1099511627776)) (.defI (IntKind.i64.wrap (v1+1)) fun z48=>.must (AX [.i .i64] (AP (.sym (v0.length:Int)) (AI [.i .i64] (AR v0)) (Aa 1 [.int .i64 (.sym v1)])) ((v0.length:Int)+1).toNat) (.leaf (.normal,⟨[[.u],[.i v2],[.u],[.i z48]],[.box (on25 v3),.lst ((v0.length:Int)+1).toNat (AH [.i .i64] (AP (.sym (v0.length:Int)) (AI [.i .i64] (AR v0)) (Aa 1 [.int .i64 (.sym v1)]))),.tok]⟩)))
noncomputable abbrev qUa2 (v0:Int) (v1:List Int) (v2:Int) (v3:Nat→Bool):Ah (Ex×EN):=.defI (IntKind.i64.wrap (v0+1)) fun z49=>.must (AX [.i .i64] (AI [.i .i64] (AR v1)) v1.length) (.leaf (.normal,⟨[[.u],[.i v2],[.u],[.i z49]],ofO v3 v1⟩))
noncomputable abbrev qUa3 (v0:List Int) (v1:Int) (v2:Nat→Bool) (v3:Nat→Bool):Ah (Ex×EN):=.must (decide (((v0.length:Int)+1) * 8≤1099511627776∧(v0.length:Int)+1≤1099511627776)) (.defI (IntKind.i64.wrap (v1+1)) fun z8=>.must (AX [.i .i64] (AP (.sym (v0.length:Int)) (AI [.i .i64] (AR v0)) (Aa 1 [.int .i64 (.sym v1)])) ((v0.length:Int)+1).toNat) (.leaf (.normal,⟨[[.u],[.b (v2 0),.b (v2 1),.b (v2 2),.b (v2 3),.b (v2 4)],[.i z8]],[.box (on25 v3),.lst ((v0.length:Int)+1).toNat (AH [.i .i64] (AP (.sym (v0.length:Int)) (AI [.i .i64] (AR v0)) (Aa 1 [.int .i64 (.sym v1)]))),.tok]⟩)))
noncomputable abbrev qUa4 (v0:Int) (v1:List Int) (v2:Nat→Bool) (v3:Nat→Bool):Ah (Ex×EN):=.defI (IntKind.i64.wrap (v0+1)) fun z9=>.must (AX [.i .i64] (AI [.i .i64] (AR v1)) v1.length) (.leaf (.normal,⟨[[.u],[.b (v2 0),.b (v2 1),.b (v2 2),.b (v2 3),.b (v2 4)],[.i z9]],ofO v3 v1⟩))
noncomputable abbrev qUa5 (v0:List Int) (v1:Nat→Bool):Ah (Ex×EN):=.must (AX [.i .i64] (AI [.i .i64] (AR v0)) v0.length) (.leaf (.exit 0,⟨[[.u]],ofO v1 v0⟩))
theorem of_pre (m:Nat→Bool) (a:Int) (τ0:Tm):Am Tryz.prog noTab 300 187 Tryz.f187.ntmps (Eng.ofL ((flat body187).take 5)) (ofT.tm ⟨[[],[.i a]],[.box (on25 m)]⟩++τ0) (ofT.heap ⟨[[],[.i a]],[.box (on25 m)]⟩) 1 (outX 1 ⟨some ofL,[],some ofR⟩) =

  .ite (decide (a≥0)) (.ite (!decide (a<5)) (.leaf (.ret,⟨[[.u]],[.box (on25 m),.lst 0 fun (x:Nat)=>[],.tok]⟩)) (.ite (decide (a=0)) (.leaf (.normal,⟨[[.u],[.b (m 0),.b (m 1),.b (m 2),.b (m 3),.b (m 4)],[.i 0]],[.box (on25 m),.lst 0 fun (x:Nat)=>[],.tok]⟩)) (.ite (decide (a=1)) (.leaf (.normal,⟨[[.u],[.b (m 5),.b (m 6),.b (m 7),.b (m 8),.b (m 9)],[.i 0]],[.box (on25 m),.lst 0 fun (x:Nat)=>[],.tok]⟩)) (.ite (decide (a=2)) (.leaf (.normal,⟨[[.u],[.b (m 10),.b (m 11),.b (m 12),.b (m 13),.b (m 14)],[.i 0]],[.box (on25 m),.lst 0 fun (x:Nat)=>[],.tok]⟩)) (.ite (decide (a=3)) (.leaf (.normal,⟨[[.u],[.b (m 15),.b (m 16),.b (m 17),.b (m 18),.b (m 19)],[.i 0]],[.box (on25 m),.lst 0 fun (x:Nat)=>[],.tok]⟩)) (.ite (decide (a=4)) (.leaf (.normal,⟨[[.u],[.b (m 20),.b (m 21),.b (m 22),.b (m 23),.b (m 24)],[.i 0]],[.box (on25 m),.lst 0 fun (x:Nat)=>[],.tok]⟩)) (.must false (.fail "index")))))))) (.leaf (.ret,⟨[[.u]],[.box (on25 m),.lst 0 fun (x:Nat)=>[],.tok]⟩)):=by kernel_rfl
theorem of_x (m g:Nat→Bool) (l:List Int) (i:Int) (τ0:Tm):Am Tryz.prog noTab 300 187 Tryz.f187.ntmps x187 (ofL.tm ⟨[[],[.b (g 0),.b (g 1),.b (g 2),.b (g 3),.b (g 4)],[.i i]],ofO m l⟩++τ0) (ofL.heap ⟨[[],[.b (g 0),.b (g 1),.b (g 2),.b (g 3),.b (g 4)],[.i i]],ofO m l⟩) 3 (outX 1 ⟨some ofL,[(0,ofE)],some ofR⟩) =

  .ite (decide (i<5)) (.ite (decide (i=0)) (.ite (g 0) (qUa3 l i g m) (qUa4 i l g m)) (.ite (decide (i=1)) (.ite (g 1) (qUa3 l i g m) (qUa4 i l g m)) (.ite (decide (i=2)) (.ite (g 2) (qUa3 l i g m) (qUa4 i l g m)) (.ite (decide (i=3)) (.ite (g 3) (qUa3 l i g m) (qUa4 i l g m)) (.ite (decide (i=4)) (.ite (g 4) (qUa3 l i g m) (qUa4 i l g m)) (.must false (.fail "index"))))))) (qUa5 l m):=by kernel_rfl
theorem of_tail (m:Nat→Bool) (l:List Int) (τ0:Tm):Am Tryz.prog noTab 300 187 Tryz.f187.ntmps (Eng.ofL ((flat body187).drop 6)) (ofE.tm ⟨[[]],ofO m l⟩++τ0) (ofE.heap ⟨[[]],ofO m l⟩) 3 (outX 1 ⟨none,[],some ofR⟩) =

  .must (AX [.i .i64] (AI [.i .i64] (AR l)) l.length) (.leaf (.ret,⟨[[.u]],ofO m l⟩)):=by kernel_rfl
theorem rof_pre (m:Nat→Bool) (a:Int) (τ0:Tm):Am Tryz.prog noTab 300 177 Tryz.f177.ntmps (Eng.ofL ((flat body177).take 3)) (ofT.tm ⟨[[],[.i a]],[.box (on25 m)]⟩++τ0) (ofT.heap ⟨[[],[.i a]],[.box (on25 m)]⟩) 1 (outX 1 ⟨some rofL,[],some ofR⟩) =

  .leaf (.normal,⟨[[.u],[.i a],[.u],[.i 0]],[.box (on25 m),.lst 0 fun (x:Nat)=>[],.tok]⟩):=by kernel_rfl
theorem rof_x (m:Nat→Bool) (l:List Int) (a i:Int) (τ0:Tm):Am Tryz.prog noTab 300 177 Tryz.f177.ntmps x177 (rofL.tm ⟨[[],[.i a],[],[.i i]],ofO m l⟩++τ0) (rofL.heap ⟨[[],[.i a],[],[.i i]],ofO m l⟩) 3 (outX 1 ⟨some rofL,[(0,ofE)],some ofR⟩) =

  .ite (decide (i<5)) (.ite (decide (a≥0)) (.ite (decide (a<5)) (.ite (decide (a=0)) (.ite (decide (i=0)) (.ite (m 0) (qUa1 l i a m) (qUa2 i l a m)) (.ite (decide (i=1)) (.ite (m 1) (qUa1 l i a m) (qUa2 i l a m)) (.ite (decide (i=2)) (.ite (m 2) (qUa1 l i a m) (qUa2 i l a m)) (.ite (decide (i=3)) (.ite (m 3) (qUa1 l i a m) (qUa2 i l a m)) (.ite (decide (i=4)) (.ite (m 4) (qUa1 l i a m) (qUa2 i l a m)) (.must false (.fail "index"))))))) (.ite (decide (a=1)) (.ite (decide (i=0)) (.ite (m 5) (qUa1 l i a m) (qUa2 i l a m)) (.ite (decide (i=1)) (.ite (m 6) (qUa1 l i a m) (qUa2 i l a m)) (.ite (decide (i=2)) (.ite (m 7) (qUa1 l i a m) (qUa2 i l a m)) (.ite (decide (i=3)) (.ite (m 8) (qUa1 l i a m) (qUa2 i l a m)) (.ite (decide (i=4)) (.ite (m 9) (qUa1 l i a m) (qUa2 i l a m)) (.must false (.fail "index"))))))) (.ite (decide (a=2)) (.ite (decide (i=0)) (.ite (m 10) (qUa1 l i a m) (qUa2 i l a m)) (.ite (decide (i=1)) (.ite (m 11) (qUa1 l i a m) (qUa2 i l a m)) (.ite (decide (i=2)) (.ite (m 12) (qUa1 l i a m) (qUa2 i l a m)) (.ite (decide (i=3)) (.ite (m 13) (qUa1 l i a m) (qUa2 i l a m)) (.ite (decide (i=4)) (.ite (m 14) (qUa1 l i a m) (qUa2 i l a m)) (.must false (.fail "index"))))))) (.ite (decide (a=3)) (.ite (decide (i=0)) (.ite (m 15) (qUa1 l i a m) (qUa2 i l a m)) (.ite (decide (i=1)) (.ite (m 16) (qUa1 l i a m) (qUa2 i l a m)) (.ite (decide (i=2)) (.ite (m 17) (qUa1 l i a m) (qUa2 i l a m)) (.ite (decide (i=3)) (.ite (m 18)
 (qUa1 l i a m) (qUa2 i l a m)) (.ite (decide (i=4)) (.ite (m 19) (qUa1 l i a m) (qUa2 i l a m)) (.must false (.fail "index"))))))) (.ite (decide (a=4)) (.ite (decide (i=0)) (.ite (m 20) (qUa1 l i a m) (qUa2 i l a m)) (.ite (decide (i=1)) (.ite (m 21) (qUa1 l i a m) (qUa2 i l a m)) (.ite (decide (i=2)) (.ite (m 22) (qUa1 l i a m) (qUa2 i l a m)) (.ite (decide (i=3)) (.ite (m 23) (qUa1 l i a m) (qUa2 i l a m)) (.ite (decide (i=4)) (.ite (m 24) (qUa1 l i a m) (qUa2 i l a m)) (.must false (.fail "index"))))))) (.must false (.fail "index"))))))) (qUa5 l m)) (qUa5 l m)) (qUa5 l m):=by kernel_rfl
theorem rof_tail (m:Nat→Bool) (l:List Int) (τ0:Tm):Am Tryz.prog noTab 300 177 Tryz.f177.ntmps (Eng.ofL ((flat body177).drop 4)) (ofE.tm ⟨[[]],ofO m l⟩++τ0) (ofE.heap ⟨[[]],ofO m l⟩) 3 (outX 1 ⟨none,[],some ofR⟩) =

  .must (AX [.i .i64] (AI [.i .i64] (AR l)) l.length) (.leaf (.ret,⟨[[.u]],ofO m l⟩)):=by kernel_rfl
end Go.Proofs.YtddmgdclmkgpeaaGreat
set_option linter.unusedSimpArgs false
set_option linter.unusedVariables false
namespace Go.Proofs.YtddmgdclmkgpeaaGreat
open Go.Eng Go.RowKit Go.ChangeShapes Go.WideShapes
set_option maxRecDepth 100000
theorem ofN_len (g:Nat→Bool):∀ n,(ofN g n).length≤n
  | 0=>Nat.le_refl _
  | n+1=>by
    have:=ofN_len g n
    simp only [ofN]
    split
    · rw [List.length_append,List.length_singleton]; omega
    · omega
theorem ofN_t {g:Nat→Bool} {n:Nat} (h:g n=true):ofN g (n+1)=ofN g n++[(n:Int)]:=by simp only [ofN,h,if_true]
theorem ofN_f {g:Nat→Bool} {n:Nat} (h:g n=false):ofN g (n+1)=ofN g n:=by simp only [ofN,h,Bool.false_eq_true,if_false]
theorem six {d:Nat} (h:d≤5):d=0∨d=1∨d=2∨d=3∨d=4∨d=5:=by omega
theorem body187_eq:Tryz.f187.body=some body187:=by kernel_rfl
theorem in187:BT Tryz.prog 187 Tryz.f187.ntmps body187:=within_body Tryz.func187 body187_eq
theorem lp187:(flat body187).drop 5=[.block 0 (.loop x187)]++(flat body187).drop 6:=by kernel_rfl
theorem in187x:BT Tryz.prog 187 Tryz.f187.ntmps x187:=by
  have h:(flat body187)[5]? = some (.block 0 (.loop x187)):=by kernel_rfl
  exact within_loop (within_block (within_at in187 5 h))
theorem body177_eq:Tryz.f177.body=some body177:=by kernel_rfl
theorem in177:BT Tryz.prog 177 Tryz.f177.ntmps body177:=within_body Tryz.func177 body177_eq
theorem lp177:(flat body177).drop 3=[.block 0 (.loop x177)]++(flat body177).drop 4:=by kernel_rfl
theorem in177x:BT Tryz.prog 177 Tryz.f177.ntmps x177:=by
  have h:(flat body177)[3]? = some (.block 0 (.loop x177)):=by kernel_rfl
  exact within_loop (within_block (within_at in177 3 h))
def ofQ (m:Nat→Bool) (l:List Int):Ex→EN→Prop
  | .exit _,e=>ofE.eqv e ⟨[[]],ofO m l⟩
  | _,_=>False
def ofG (g:Nat→Bool):List Num:=[.b (g 0),.b (g 1),.b (g 2),.b (g 3),.b (g 4)]
section
variable (m g:Nat→Bool)
set_option maxHeartbeats 4000000 in
theorem of_loop (d:Nat) (hd:d≤5):HT Tryz.prog Tryz.f187.ntmps 1 (.loop x187) 3 (ofL.tm ⟨[[],ofG g,[.i (d:Int)]],ofO m (ofN g d)⟩) (ofL.heap ⟨[[],ofG g,[.i (d:Int)]],ofO m (ofN g d)⟩) (QX ⟨none,[(0,ofE)],some ofR⟩ (ofQ m (ofN g 5))):=by
  refine HT.loopX (Ao _) Ay (n:=300) in187x ofL _ _ (fun d:Nat=>⟨[[],ofG g,[.i (d:Int)]],ofO m (ofN g d)⟩) (fun d=>d≤5) (fun d=>5 - d) (fun _=>ofQ m (ofN g 5)) (by decide) ?_ d hd
  intro d hd τ0
  refine AL (of_x m g (ofN g d) d τ0) ?_
  have hl:=ofN_len g d
  have nx:∀ e,d<5→ofL.eqv e ⟨[[],ofG g,[.i ((d+1:Nat):Int)]],ofO m (ofN g (d+1))⟩→∃ d':Nat,d'≤5∧5 - d'<5 - d∧ofL.eqv e ⟨[[],ofG g,[.i (d':Int)]],ofO m (ofN g d')⟩∧∀ ex e,ofQ m (ofN g 5) ex e→ofQ m (ofN g 5) ex e :=
    fun e h he=>⟨d+1,by omega,by omega,he,fun _ _ h=>h⟩
  rcases six hd with rfl | rfl | rfl | rfl | rfl | rfl
  all_goals repeat' with_reducible (first | refine AG (fun h=>absurd h (by decide)) (fun _=>?_) | refine AG (fun _=>?_) (fun h=>absurd h (by decide)) | refine AA (AN _ _ _) ?_ | refine AA (BH (by omega)) ?_ | refine AA (decide_eq_true (by omega)) ?_ | refine AB ?_ | refine AG (fun hg=>?_) (fun hg=>?_))
  all_goals refine AE ?_
  all_goals first
    | exact ofE.eqv_refl _
    | (refine nx _ (by decide) ⟨⟨trivial, ⟨rfl, rfl, rfl, rfl, rfl, trivial⟩, rfl, trivial⟩, ?_⟩
       first | rw [ofN_t hg] | rw [ofN_f hg]
       (repeat' (first | exact trivial | exact rfl | exact TS.eqv_refl _ _ | exact AY _ _ | exact AQ | exact fun _ _=>AJ _ _ | exact fun i _=>AF rfl _ i | apply And.intro))
       done)
theorem of_end (l:List Int):HTL Tryz.prog Tryz.f187.ntmps 1 ((flat body187).drop 6) 3 (ofE.tm ⟨[[]],ofO m l⟩) (ofE.heap ⟨[[]],ofO m l⟩) (QX ⟨none,[],some ofR⟩ fun ex en=>ex = .ret→ofR.eqv en ⟨[[]],ofO m l⟩) :=
  HTL.runX (Ao _) Ay (n:=300) (by decide) (within_drop in187 6) (by decide) fun τ0=>AL (of_tail m l τ0) (AA (AN _ _ _) (AE fun _=>by repeat' (first | exact trivial | exact rfl | exact TS.eqv_refl _ _ | exact AY _ _ | exact AQ | exact fun _ _=>AJ _ _ | exact fun i _=>AF rfl _ i | apply And.intro)))
def of1 (m:Nat→Bool) (a:Int):Ex→EN→Prop
  | .normal,e=>0≤a∧a<5∧ofL.eqv e ⟨[[],ofG (fun i=>m (5 * a.toNat+i)),[.i 0]],ofO m []⟩
  | .ret,e=>ofR.eqv e ⟨[[]],ofO m (ofS m a)⟩
  | .exit _,_=>True
theorem ofS_out {m:Nat→Bool} {a:Int} (h:¬ (0≤a∧a<5)):ofS m a=[]:=if_neg h
set_option maxHeartbeats 4000000 in
theorem of_std (a:Int):BI Tryz.prog 187 ofT ⟨[[],[.i a]],[.box (on25 m)]⟩ ofR ⟨[[]],ofO m (ofS m a)⟩:=by
  refine stdX_htX Tryz.func187 body187_eq (by kernel_rfl) rfl (by kernel_rfl) rfl rfl ?_
  refine HT.cutX 5 (t1:=ofL) (R1:=of1 m a) (HTL.runX (Ao _) Ay (n:=300) (by decide) (within_take in187 5) (by decide) fun τ0=>AL (of_pre m a τ0) ?_) ?_ fun en h _=>h
  · refine AG (fun h0=>AG (fun h5=>AE ?_) fun h5=>?_) fun h0=>AE ?_
    · have:¬ (0≤a∧a<5):=by simp at h5; omega
      show ofR.eqv _ _
      rw [ofS_out this]
      (repeat' (first | exact trivial | exact rfl | exact TS.eqv_refl _ _ | exact AY _ _ | exact AQ | exact fun _ _=>AJ _ _ | exact fun i _=>AF rfl _ i | apply And.intro)); all_goals exact fun i hi=>absurd hi (by simp [lnS,ON.len,hdO,tlO,ofO])
    · have h0:=of_decide_eq_true h0
      simp at h5
      repeat' with_reducible (first | refine AG (fun h=>?_) (fun h=>?_))
      all_goals try (refine AE ⟨h0,h5,?_⟩; have h:=of_decide_eq_true h; subst h; (repeat' (first | exact trivial | exact rfl | exact TS.eqv_refl _ _ | exact AY _ _ | exact AQ | exact fun _ _=>AJ _ _ | exact fun i _=>AF rfl _ i | apply And.intro)); all_goals exact fun i hi=>absurd hi (by simp [lnS,ON.len,hdO,tlO,ofO]))
      all_goals (exfalso; simp at *; omega)
    · have:=of_decide_eq_false h0
      show ofR.eqv _ _
      rw [ofS_out (by omega)]
      (repeat' (first | exact trivial | exact rfl | exact TS.eqv_refl _ _ | exact AY _ _ | exact AQ | exact fun _ _=>AJ _ _ | exact fun i _=>AF rfl _ i | apply And.intro)); all_goals exact fun i hi=>absurd hi (by simp [lnS,ON.len,hdO,tlO,ofO])
  · rintro en ⟨h0,h5,he⟩
    refine HTg.pre (WP:=wpL Tryz.prog _) (fun h hq=>wpL_mono h hq) he (HTL.loopThen lp187 (of_loop m _ 0 (by decide)) ?_ ?_)
    · intro en he
      have he:ofE.eqv en _:=he
      have e:ofS m a=ofN (fun i=>m (5 * a.toNat+i)) 5:=if_pos ⟨h0,h5⟩
      rw [e]
      exact HTg.pre (WP:=wpL Tryz.prog _) (fun h hq=>wpL_mono h hq) he (of_end m _)
    · exact fun en h=>h.elim
end
end Go.Proofs.YtddmgdclmkgpeaaGreat
set_option linter.unusedSimpArgs false
set_option linter.unusedVariables false
namespace Go.Proofs.YtddmgdclmkgpeaaGreat
open Go.Eng Go.RowKit Go.ChangeShapes Go.WideShapes
set_option maxRecDepth 100000
def rofQ (m:Nat→Bool) (a:Int):Ex→EN→Prop
  | .exit _,e=>ofE.eqv e ⟨[[]],ofO m (ofS m a)⟩
  | _,_=>False
section
variable (m:Nat→Bool)
set_option maxHeartbeats 40000000 in
theorem rof_loopG (a:Int) (h0:0≤a∧a<5) (g:Nat→Bool) (hG:∀ i,m (5 * a.toNat+i)=g i) (d:Nat) (hd:d≤5):HT Tryz.prog Tryz.f177.ntmps 1 (.loop x177) 3 (rofL.tm ⟨[[],[.i a],[],[.i (d:Int)]],ofO m (ofN g d)⟩) (rofL.heap ⟨[[],[.i a],[],[.i (d:Int)]],ofO m (ofN g d)⟩) (QX ⟨none,[(0,ofE)],some ofR⟩ (rofQ m a)):=by
  refine HT.loopX (Ao _) Ay (n:=300) in177x rofL _ _ (fun d:Nat=>⟨[[],[.i a],[],[.i (d:Int)]],ofO m (ofN g d)⟩) (fun d=>d≤5) (fun d=>5 - d) (fun _=>rofQ m a) (by decide) ?_ d hd
  intro d hd τ0
  refine AL (rof_x m _ a d τ0) ?_
  have hl:=ofN_len g d
  have e5:ofS m a=ofN g 5:=(if_pos h0).trans (congrArg (fun g=>ofN g 5) (funext hG))
  have nx:∀ e,d<5→rofL.eqv e ⟨[[],[.i a],[],[.i ((d+1:Nat):Int)]],ofO m (ofN g (d+1))⟩→∃ d':Nat,d'≤5∧5 - d'<5 - d∧rofL.eqv e ⟨[[],[.i a],[],[.i (d':Int)]],ofO m (ofN g d')⟩∧∀ ex e,rofQ m a ex e→rofQ m a ex e :=
    fun e h he=>⟨d+1,by omega,by omega,he,fun _ _ h=>h⟩
  have ha:a=0∨a=1∨a=2∨a=3∨a=4:=by omega
  rcases ha with rfl | rfl | rfl | rfl | rfl <;> rcases six hd with rfl | rfl | rfl | rfl | rfl | rfl
  all_goals repeat' with_reducible (first | refine AG (fun h=>absurd h (by decide)) (fun _=>?_) | refine AG (fun _=>?_) (fun h=>absurd h (by decide)) | refine AA (AN _ _ _) ?_ | refine AA (BH (by omega)) ?_ | refine AA (decide_eq_true (by omega)) ?_ | refine AB ?_ | refine AG (fun hg=>?_) (fun hg=>?_))
  all_goals refine AE ?_
  all_goals first
    | (show ofE.eqv _ _; rw [e5]; exact ofE.eqv_refl _)
    | (refine nx _ (by decide) ⟨⟨trivial, rfl, trivial, rfl, trivial⟩, ?_⟩
       first | rw [ofN_t (n:=0) ((hG 0).symm.trans hg)] | rw [ofN_f (n:=0) ((hG 0).symm.trans hg)] | rw [ofN_t (n:=1) ((hG 1).symm.trans hg)] | rw [ofN_f (n:=1) ((hG 1).symm.trans hg)] | rw [ofN_t (n:=2) ((hG 2).symm.trans hg)] | rw [ofN_f (n:=2) ((hG 2).symm.trans hg)] | rw [ofN_t (n:=3) ((hG 3).symm.trans hg)] | rw [ofN_f (n:=3) ((hG 3).symm.trans hg)] | rw [ofN_t (n:=4) ((hG 4).symm.trans hg)] | rw [ofN_f (n:=4) ((hG 4).symm.trans hg)]
       (repeat' (first | exact trivial | exact rfl | exact TS.eqv_refl _ _ | exact AY _ _ | exact AQ | exact fun _ _=>AJ _ _ | exact fun i _=>AF rfl _ i | apply And.intro))
       done)
theorem rof_loop (a:Int) (h0:0≤a∧a<5):HT Tryz.prog Tryz.f177.ntmps 1 (.loop x177) 3 (rofL.tm ⟨[[],[.i a],[],[.i 0]],ofO m []⟩) (rofL.heap ⟨[[],[.i a],[],[.i 0]],ofO m []⟩) (QX ⟨none,[(0,ofE)],some ofR⟩ (rofQ m a)):=rof_loopG m a h0 (fun i=>m (5 * a.toNat+i)) (fun _=>rfl) 0 (by decide)
theorem rof_loop0 (a:Int) (h0:¬ (0≤a∧a<5)):HT Tryz.prog Tryz.f177.ntmps 1 (.loop x177) 3 (rofL.tm ⟨[[],[.i a],[],[.i 0]],ofO m []⟩) (rofL.heap ⟨[[],[.i a],[],[.i 0]],ofO m []⟩) (QX ⟨none,[(0,ofE)],some ofR⟩ (rofQ m a)):=by
  refine HT.loopX (Ao _) Ay (n:=300) in177x rofL _ _ (fun _:Unit=>⟨[[],[.i a],[],[.i 0]],ofO m []⟩) (fun _=>True) (fun _=>0) (fun _=>rofQ m a) (by decide) ?_ () trivial
  intro _ _ τ0
  have e0:=ofS_out (m:=m) h0
  refine AL (rof_x m [] a 0 τ0) (AG (fun _=>AG (fun h1=>AG (fun h2=>?_) fun h2=>?_) fun h1=>?_) fun h=>absurd h (by decide))
  · exact absurd ⟨of_decide_eq_true h1,of_decide_eq_true h2⟩ h0
  all_goals (refine AA (AN _ _ _) (AE ?_); show ofE.eqv _ _; rw [e0]; exact ofE.eqv_refl _)
theorem rof_end (l:List Int):HTL Tryz.prog Tryz.f177.ntmps 1 ((flat body177).drop 4) 3 (ofE.tm ⟨[[]],ofO m l⟩) (ofE.heap ⟨[[]],ofO m l⟩) (QX ⟨none,[],some ofR⟩ fun ex en=>ex = .ret→ofR.eqv en ⟨[[]],ofO m l⟩) :=
  HTL.runX (Ao _) Ay (n:=300) (by decide) (within_drop in177 4) (by decide) fun τ0=>AL (rof_tail m l τ0) (AA (AN _ _ _) (AE fun _=>by repeat' (first | exact trivial | exact rfl | exact TS.eqv_refl _ _ | exact AY _ _ | exact AQ | exact fun _ _=>AJ _ _ | exact fun i _=>AF rfl _ i | apply And.intro)))
def rof1 (m:Nat→Bool) (a:Int):Ex→EN→Prop
  | .normal,e=>rofL.eqv e ⟨[[],[.i a],[],[.i 0]],ofO m []⟩
  | _,_=>False
theorem rof_std (a:Int):BI Tryz.prog 177 ofT ⟨[[],[.i a]],[.box (on25 m)]⟩ ofR ⟨[[]],ofO m (ofS m a)⟩:=by
  refine stdX_htX Tryz.func177 body177_eq (by kernel_rfl) rfl (by kernel_rfl) rfl rfl ?_
  refine HT.cutX 3 (t1:=rofL) (R1:=rof1 m a) (HTL.runX (Ao _) Ay (n:=300) (by decide) (within_take in177 3) (by decide) fun τ0=>AL (rof_pre m a τ0) (AE ?_)) ?_ fun en h=>h.elim
  · show rofL.eqv _ _
    (repeat' (first | exact trivial | exact rfl | exact TS.eqv_refl _ _ | exact AY _ _ | exact AQ | exact fun _ _=>AJ _ _ | exact fun i _=>AF rfl _ i | apply And.intro)); all_goals exact fun i hi=>absurd hi (by simp [lnS,ON.len,hdO,tlO,ofO])
  · rintro en he
    have he:rofL.eqv en _:=he
    have lo:HT Tryz.prog Tryz.f177.ntmps 1 (.loop x177) 3 (rofL.tm ⟨[[],[.i a],[],[.i 0]],ofO m []⟩) (rofL.heap ⟨[[],[.i a],[],[.i 0]],ofO m []⟩) (QX ⟨none,[(0,ofE)],some ofR⟩ (rofQ m a)):=by
      by_cases h0:0≤a∧a<5
      · exact rof_loop m a h0
      · exact rof_loop0 m a h0
    refine HTg.pre (WP:=wpL Tryz.prog _) (fun h hq=>wpL_mono h hq) he (HTL.loopThen lp177 lo ?_ ?_)
    · intro en he
      have he:ofE.eqv en _:=he
      exact HTg.pre (WP:=wpL Tryz.prog _) (fun h hq=>wpL_mono h hq) he (rof_end m _)
    · exact fun en h=>h.elim
end
def ofM (e:EN):Nat→Bool:=fun k=>e.bb 0 k
def ofC (e:EN):Ah (TS×EN):=.leaf (ofR,⟨[[]],ofO (ofM e) (ofS (ofM e) (e.ai 1 0))⟩)
def clrF (m:Nat→Bool) (a:Int) (k:Nat):Bool:=bif decide (0≤a)&&decide (a<5)&&decide (k / 5=a.toNat) then false else m k
def setF (m:Nat→Bool) (j k:Nat):Bool:=bif Nat.beq k j then true else m k
def clR:TS:=⟨[],[],[(0,.box b25)],1⟩
def clC (e:EN):Ah (TS×EN):=.leaf (clR,⟨[],[.box (on25 (clrF (ofM e) (e.ai 1 0)))]⟩)
noncomputable def wcSm:List (FuncId×Summ):=[(187,AW ofT ofC),(177,AW ofT ofC),(185,AW ofT clC),(125,AW ofT clC)]
noncomputable def wcT:Tab:=smTab (tabOf wcSm)
noncomputable def body148:Code:=Tryz.f148.body.getD .skip
def wadT:TS:=⟨[0,1,2],[.one (.ptr 0 0),.one (.i .i64),.one (.i .i64)],[(0,.box b25)],1⟩
def wadL:TS:=⟨[0,2],[.one (.ptr 0 0),.one (.i .i64)],[(0,.box b25)],1⟩
def wadR:TS:=⟨[6],[.one .b],[(0,.box b25)],1⟩
theorem cl185 (m:Nat→Bool) (a:Int):BR Tryz.prog (Am Tryz.prog noTab 300) 185 (ofT.vals ⟨[[],[.i a]],[.box (on25 m)]⟩) (ofT.heap ⟨[[],[.i a]],[.box (on25 m)]⟩) 1 (outV 1 clR) =
  .ite (decide (a≥0)) (.ite (decide (a<5)) (.ite (decide (a=0)) (.leaf ⟨[],[.box [.b false,.b false,.b false,.b false,.b false,.b (m 5),.b (m 6),.b (m 7),.b (m 8),.b (m 9),.b (m 10),.b (m 11),.b (m 12),
  .b (m 13),.b (m 14),.b (m 15),.b (m 16),.b (m 17),.b (m 18),.b (m 19),.b (m 20),.b (m 21),.b (m 22),.b (m 23),.b (m 24)]]⟩) (.ite (decide (a=1)) (.leaf ⟨[],[.box [.b (m 0),.b (m 1),.b (m 2),.b (m 3),.b
  (m 4),.b false,.b false,.b false,.b false,.b false,.b (m 10),.b (m 11),.b (m 12),.b (m 13),.b (m 14),.b (m 15),.b (m 16),.b (m 17),.b (m 18),.b (m 19),.b (m 20),.b (m 21),.b (m 22),.b (m 23),.b (m
  24)]]⟩) (.ite (decide (a=2)) (.leaf ⟨[],[.box [.b (m 0),.b (m 1),.b (m 2),.b (m 3),.b (m 4),.b (m 5),.b (m 6),.b (m 7),.b (m 8),.b (m 9),.b false,.b false,.b false,.b false,.b false,.b (m 15),.b (m
  16),.b (m 17),.b (m 18),.b (m 19),.b (m 20),.b (m 21),.b (m 22),.b (m 23),.b (m 24)]]⟩) (.ite (decide (a=3)) (.leaf ⟨[],[.box [.b (m 0),.b (m 1),.b (m 2),.b (m 3),.b (m 4),.b (m 5),.b (m 6),.b (m 7),.b
  (m 8),.b (m 9),.b (m 10),.b (m 11),.b (m 12),.b (m 13),.b (m 14),.b false,.b false,.b false,.b false,.b false,.b (m 20),.b (m 21),.b (m 22),.b (m 23),.b (m 24)]]⟩) (.ite (decide (a=4)) (.leaf ⟨[],[.box
  [.b (m 0),.b (m 1),.b (m 2),.b (m 3),.b (m 4),.b (m 5),.b (m 6),.b (m 7),.b (m 8),.b (m 9),.b (m 10),.b (m 11),.b (m 12),.b (m 13),.b (m 14),.b (m 15),.b (m 16),.b (m 17),.b (m 18),.b (m 19),.b false,
  .b false,.b false,.b false,.b false]]⟩) (.must false (.fail "index"))))))) (.leaf ⟨[],[.box (on25 m)]⟩)) (.leaf ⟨[],[.box (on25 m)]⟩):=by kernel_rfl
theorem cl125 (m:Nat→Bool) (a:Int):BR Tryz.prog (Am Tryz.prog noTab 300) 125 (ofT.vals ⟨[[],[.i a]],[.box (on25 m)]⟩) (ofT.heap ⟨[[],[.i a]],[.box (on25 m)]⟩) 1 (outV 1 clR) =
  .ite (decide (a≥0)) (.ite (decide (a<5)) (.ite (decide (a=0)) (.leaf ⟨[],[.box [.b false,.b false,.b false,.b false,.b false,.b (m 5),.b (m 6),.b (m 7),.b (m 8),.b (m 9),.b (m 10),.b (m 11),.b (m 12),
  .b (m 13),.b (m 14),.b (m 15),.b (m 16),.b (m 17),.b (m 18),.b (m 19),.b (m 20),.b (m 21),.b (m 22),.b (m 23),.b (m 24)]]⟩) (.ite (decide (a=1)) (.leaf ⟨[],[.box [.b (m 0),.b (m 1),.b (m 2),.b (m 3),.b
  (m 4),.b false,.b false,.b false,.b false,.b false,.b (m 10),.b (m 11),.b (m 12),.b (m 13),.b (m 14),.b (m 15),.b (m 16),.b (m 17),.b (m 18),.b (m 19),.b (m 20),.b (m 21),.b (m 22),.b (m 23),.b (m
  24)]]⟩) (.ite (decide (a=2)) (.leaf ⟨[],[.box [.b (m 0),.b (m 1),.b (m 2),.b (m 3),.b (m 4),.b (m 5),.b (m 6),.b (m 7),.b (m 8),.b (m 9),.b false,.b false,.b false,.b false,.b false,.b (m 15),.b (m
  16),.b (m 17),.b (m 18),.b (m 19),.b (m 20),.b (m 21),.b (m 22),.b (m 23),.b (m 24)]]⟩) (.ite (decide (a=3)) (.leaf ⟨[],[.box [.b (m 0),.b (m 1),.b (m 2),.b (m 3),.b (m 4),.b (m 5),.b (m 6),.b (m 7),.b
  (m 8),.b (m 9),.b (m 10),.b (m 11),.b (m 12),.b (m 13),.b (m 14),.b false,.b false,.b false,.b false,.b false,.b (m 20),.b (m 21),.b (m 22),.b (m 23),.b (m 24)]]⟩) (.ite (decide (a=4)) (.leaf ⟨[],[.box
  [.b (m 0),.b (m 1),.b (m 2),.b (m 3),.b (m 4),.b (m 5),.b (m 6),.b (m 7),.b (m 8),.b (m 9),.b (m 10),.b (m 11),.b (m 12),.b (m 13),.b (m 14),.b (m 15),.b (m 16),.b (m 17),.b (m 18),.b (m 19),.b false,
  .b false,.b false,.b false,.b false]]⟩) (.must false (.fail "index"))))))) (.leaf ⟨[],[.box (on25 m)]⟩)) (.leaf ⟨[],[.box (on25 m)]⟩):=by kernel_rfl
theorem ad148_a (m:Nat→Bool) (f a:Int) (τ0:Tm):Am Tryz.prog noTab 300 148 Tryz.f148.ntmps (Eng.ofL ((flat body148).take 4)) (wadT.tm ⟨[[],[.i f],[.i a]],[.box (on25 m)]⟩++τ0) (wadT.heap ⟨[[],[.i f],[.i a]],[.box (on25 m)]⟩) 1 (outX 1 ⟨some wadL,[],some wadR⟩) =
  .ite (decide (f≥0)) (.ite (!decide (f<5)) (.leaf (.ret,⟨[[.b false]],[.box (on25 m)]⟩)) (.ite (decide (a≥0)) (.ite (!decide (a<5)) (.leaf (.ret,⟨[[.b false]],[.box (on25 m)]⟩)) (.ite (f==a) (.leaf (.ret,
  ⟨[[.b false]],[.box (on25 m)]⟩)) (.ite (decide (a=0)) (.ite (decide (f=0)) (.leaf (.normal,⟨[[.u],[.i a]],[.box [.b true,.b (m 1),.b (m 2),.b (m 3),.b (m 4),.b (m 5),.b (m 6),.b (m 7),.b (m 8),.b (m 9),
  .b (m 10),.b (m 11),.b (m 12),.b (m 13),.b (m 14),.b (m 15),.b (m 16),.b (m 17),.b (m 18),.b (m 19),.b (m 20),.b (m 21),.b (m 22),.b (m 23),.b (m 24)]]⟩)) (.ite (decide (f=1)) (.leaf (.normal,⟨[[.u],[.i
  a]],[.box [.b (m 0),.b true,.b (m 2),.b (m 3),.b (m 4),.b (m 5),.b (m 6),.b (m 7),.b (m 8),.b (m 9),.b (m 10),.b (m 11),.b (m 12),.b (m 13),.b (m 14),.b (m 15),.b (m 16),.b (m 17),.b (m 18),.b (m 19),
  .b (m 20),.b (m 21),.b (m 22),.b (m 23),.b (m 24)]]⟩)) (.ite (decide (f=2)) (.leaf (.normal,⟨[[.u],[.i a]],[.box [.b (m 0),.b (m 1),.b true,.b (m 3),.b (m 4),.b (m 5),.b (m 6),.b (m 7),.b (m 8),.b (m
  9),.b (m 10),.b (m 11),.b (m 12),.b (m 13),.b (m 14),.b (m 15),.b (m 16),.b (m 17),.b (m 18),.b (m 19),.b (m 20),.b (m 21),.b (m 22),.b (m 23),.b (m 24)]]⟩)) (.ite (decide (f=3)) (.leaf (.normal,⟨[[.u],
  [.i a]],[.box [.b (m 0),.b (m 1),.b (m 2),.b true,.b (m 4),.b (m 5),.b (m 6),.b (m 7),.b (m 8),.b (m 9),.b (m 10),.b (m 11),.b (m 12),.b (m 13),.b (m 14),.b (m 15),.b (m 16),.b (m 17),.b (m 18),.b (m
  19),.b (m 20),.b (m 21),.b (m 22),.b (m 23),.b (m 24)]]⟩)) (.ite (decide (f=4)) (.leaf (.normal,⟨[[.u],[.i a]],[.box [.b (m 0),.b (m 1),.b (m 2),.b (m 3),.b true,.b (m 5),.b (m 6),.b (m 7),.b (m 8),.b
  (m 9),.b (m 10),.b (m 11),.b (m 12),.b (m 13),.b (m 14),.b (m 15),.b (m 16),.b (m 17),.b (m 18),.b (m 19),.b (m 20),.b (m 21),.b (m 22),.b (m 23),.b (m 24)]]⟩)) (.must false (.fail "index"))))))) (.ite
  (decide (a=1)) (.ite (decide (f=0)) (.leaf (.normal,⟨[[.u],[.i a]],[.box [.b (m 0),.b (m 1),.b (m 2),.b (m 3),.b (m 4),.b true,.b (m 6),.b (m 7),.b (m 8),.b (m 9),.b (m 10),.b (m 11),.b (m 12),.b (m
  13),.b (m 14),.b (m 15),.b (m 16),.b (m 17),.b (m 18),.b (m 19),.b (m 20),.b (m 21),.b (m 22),.b (m 23),.b (m 24)]]⟩)) (.ite (decide (f=1)) (.leaf (.normal,⟨[[.u],[.i a]],[.box [.b (m 0),.b (m 1),.b (m
  2),.b (m 3),.b (m 4),.b (m 5),.b true,.b (m 7),.b (m 8),.b (m 9),.b (m 10),.b (m 11),.b (m 12),.b (m 13),.b (m 14),.b (m 15),.b (m 16),.b (m 17),.b (m 18),.b (m 19),.b (m 20),.b (m 21),.b (m 22),.b
  (m 23),.b (m 24)]]⟩)) (.ite (decide (f=2)) (.leaf (.normal,⟨[[.u],[.i a]],[.box [.b (m 0),.b (m 1),.b (m 2),.b (m 3),.b (m 4),.b (m 5),.b (m 6),.b true,.b (m 8),.b (m 9),.b (m 10),.b (m 11),.b (m 12),
  .b (m 13),.b (m 14),.b (m 15),.b (m 16),.b (m 17),.b (m 18),.b (m 19),.b (m 20),.b (m 21),.b (m 22),.b (m 23),.b (m 24)]]⟩)) (.ite (decide (f=3)) (.leaf (.normal,⟨[[.u],[.i a]],[.box [.b (m 0),.b (m 1),
  .b (m 2),.b (m 3),.b (m 4),.b (m 5),.b (m 6),.b (m 7),.b true,.b (m 9),.b (m 10),.b (m 11),.b (m 12),.b (m 13),.b (m 14),.b (m 15),.b (m 16),.b (m 17),.b (m 18),.b (m 19),.b (m 20),.b (m 21),.b (m
  22),.b (m 23),.b (m 24)]]⟩)) (.ite (decide (f=4)) (.leaf (.normal,⟨[[.u],[.i a]],[.box [.b (m 0),.b (m 1),.b (m 2),.b (m 3),.b (m 4),.b (m 5),.b (m 6),.b (m 7),.b (m 8),.b true,.b (m 10),.b (m 11),.b
  (m 12),.b (m 13),.b (m 14),.b (m 15),.b (m 16),.b (m 17),.b (m 18),.b (m 19),.b (m 20),.b (m 21),.b (m 22),.b (m 23),.b (m 24)]]⟩)) (.must false (.fail "index"))))))) (.ite (decide (a=2)) (.ite (decide (f =
  0)) (.leaf (.normal,⟨[[.u],[.i a]],[.box [.b (m 0),.b (m 1),.b (m 2),.b (m 3),.b (m 4),.b (m 5),.b (m 6),.b (m 7),.b (m 8),.b (m 9),.b true,.b (m 11),.b (m 12),.b (m 13),.b (m 14),.b (m 15),.b (m 16),
  .b (m 17),.b (m 18),.b (m 19),.b (m 20),.b (m 21),.b (m 22),.b (m 23),.b (m 24)]]⟩)) (.ite (decide (f=1)) (.leaf (.normal,⟨[[.u],[.i a]],[.box [.b (m 0),.b (m 1),.b (m 2),.b (m 3),.b (m 4),.b (m 5),.b
  (m 6),.b (m 7),.b (m 8),.b (m 9),.b (m 10),.b true,.b (m 12),.b (m 13),.b (m 14),.b (m 15),.b (m 16),.b (m 17),.b (m 18),.b (m 19),.b (m 20),.b (m 21),.b (m 22),.b (m 23),.b (m 24)]]⟩)) (.ite (decide (f
  = 2)) (.leaf (.normal,⟨[[.u],[.i a]],[.box [.b (m 0),.b (m 1),.b (m 2),.b (m 3),.b (m 4),.b (m 5),.b (m 6),.b (m 7),.b (m 8),.b (m 9),.b (m 10),.b (m 11),.b true,.b (m 13),.b (m 14),.b (m 15),.b (m
  16),.b (m 17),.b (m 18),.b (m 19),.b (m 20),.b (m 21),.b (m 22),.b (m 23),.b (m 24)]]⟩)) (.ite (decide (f=3)) (.leaf (.normal,⟨[[.u],[.i a]],[.box [.b (m 0),.b (m 1),.b (m 2),.b (m 3),.b (m 4),.b (m 5),
  .b (m 6),.b (m 7),.b (m 8),.b (m 9),.b (m 10),.b (m 11),.b (m 12),.b true,.b (m 14),.b (m 15),.b (m 16),.b (m 17),.b (m 18),.b (m 19),.b (m 20),.b (m 21),.b (m 22),.b (m 23),.b (m 24)]]⟩)) (.ite (decide
  (f=4)) (.leaf (.normal,⟨[[.u],[.i a]],[.box [.b (m 0),.b (m 1),.b (m 2),.b (m 3),.b (m 4),.b (m 5),.b (m 6),.b (m 7),.b (m 8),.b (m 9),.b (m 10),.b (m 11),.b (m 12),.b (m 13),.b true,.b (m 15),.b (m
  16),.b (m 17),.b (m 18),.b (m 19),.b (m 20),.b (m 21),.b (m 22),.b (m 23),.b (m 24)]]⟩)) (.must false (.fail "index"))))))) (.ite (decide (a=3)) (.ite (decide (f=0)) (.leaf (.normal,⟨[[.u],[.i a]],[.box
  [.b (m 0),.b (m 1),.b (m 2),.b (m 3),.b (m 4),.b (m 5),.b (m 6),.b (m 7),.b (m 8),.b (m 9),.b (m 10),.b (m 11),.b (m 12),.b (m 13),.b (m 14),.b true,.b (m 16),.b (m 17),.b (m 18),.b (m 19),.b (m 20),
  .b (m 21),.b (m 22),.b (m 23),.b (m 24)]]⟩)) (.ite (decide (f=1)) (.leaf (.normal,⟨[[.u],[.i a]],[.box [.b (m 0),.b (m 1),.b (m 2),.b (m 3),.b (m 4),.b (m 5),.b (m 6),.b (m 7),.b (m 8),.b (m 9),.b (m
  10),.b (m 11),.b (m 12),.b (m 13),.b (m 14),.b (m 15),.b true,.b (m 17),.b (m 18),.b (m 19),.b (m 20),.b (m 21),.b (m 22),.b (m 23),.b (m 24)]]⟩)) (.ite (decide (f=2)) (.leaf (.normal,⟨[[.u],[.i a]],
  [.box [.b (m 0),.b (m 1),.b (m 2),.b (m 3),.b (m 4),.b (m 5),.b (m 6),.b (m 7),.b (m 8),.b (m 9),.b (m 10),.b (m 11),.b (m 12),.b (m 13),.b (m 14),.b (m 15),.b (m 16),.b true,.b (m 18),.b (m 19),.b (m
  20),.b (m 21),.b (m 22),.b (m 23),.b (m 24)]]⟩)) (.ite (decide (f=3)) (.leaf (.normal,⟨[[.u],[.i a]],[.box [.b (m 0),.b (m 1),.b (m 2),.b (m 3),.b (m 4),.b (m 5),.b (m 6),.b (m 7),.b (m 8),.b (m 9),.b
  (m 10),.b (m 11),.b (m 12),.b (m 13),.b (m 14),.b (m 15),.b (m 16),.b (m 17),.b true,.b (m 19),.b (m 20),.b (m 21),.b (m 22),.b (m 23),.b (m 24)]]⟩)) (.ite (decide (f=4)) (.leaf (.normal,⟨[[.u],[.i a]],
  [.box [.b (m 0),.b (m 1),.b (m 2),.b (m 3),.b (m 4),.b (m 5),.b (m 6),.b (m 7),.b (m 8),.b (m 9),.b (m 10),.b (m 11),.b (m 12),.b (m 13),.b (m 14),.b (m 15),.b (m 16),.b (m 17),.b (m 18),.b true,.b (m
  20),.b (m 21),.b (m 22),.b (m 23),.b (m 24)]]⟩)) (.must false (.fail "index"))))))) (.ite (decide (a=4)) (.ite (decide (f=0)) (.leaf (.normal,⟨[[.u],[.i a]],[.box [.b (m 0),.b (m 1),.b (m 2),.b (m 3),.b (m
  4),.b (m 5),.b (m 6),.b (m 7),.b (m 8),.b (m 9),.b (m 10),.b (m 11),.b (m 12),.b (m 13),.b (m 14),.b (m 15),.b (m 16),.b (m 17),.b (m 18),.b (m 19),.b true,.b (m 21),.b (m 22),.b (m 23),.b (m 24)]]⟩))
  (.ite (decide (f=1)) (.leaf (.normal,⟨[[.u],[.i a]],[.box [.b (m 0),.b (m 1),.b (m 2),.b (m 3),.b (m 4),.b (m 5),.b (m 6),.b (m 7),.b (m 8),.b (m 9),.b (m 10),.b (m 11),.b (m 12),.b (m 13),.b (m 14),
  .b (m 15),.b (m 16),.b (m 17),.b (m 18),.b (m 19),.b (m 20),.b true,.b (m 22),.b (m 23),.b (m 24)]]⟩)) (.ite (decide (f=2)) (.leaf (.normal,⟨[[.u],[.i a]],[.box [.b (m 0),.b (m 1),.b (m 2),.b (m 3),.b
  (m 4),.b (m 5),.b (m 6),.b (m 7),.b (m 8),.b (m 9),.b (m 10),.b (m 11),.b (m 12),.b (m 13),.b (m 14),.b (m 15),.b (m 16),.b (m 17),.b (m 18),.b (m 19),.b (m 20),.b (m 21),.b true,.b (m 23),.b (m
  24)]]⟩)) (.ite (decide (f=3)) (.leaf (.normal,⟨[[.u],[.i a]],[.box [.b (m 0),.b (m 1),.b (m 2),.b (m 3),.b (m 4),.b (m 5),.b (m 6),.b (m 7),.b (m 8),.b (m 9),.b (m 10),.b (m 11),.b (m 12),.b (m 13),.b
  (m 14),.b (m 15),.b (m 16),.b (m 17),.b (m 18),.b (m 19),.b (m 20),.b (m 21),.b (m 22),.b true,.b (m 24)]]⟩)) (.ite (decide (f=4)) (.leaf (.normal,⟨[[.u],[.i a]],[.box [.b (m 0),.b (m 1),.b (m 2),.b (m
  3),.b (m 4),.b (m 5),.b (m 6),.b (m 7),.b (m 8),.b (m 9),.b (m 10),.b (m 11),.b (m 12),.b (m 13),.b (m 14),.b (m 15),.b (m 16),.b (m 17),.b (m 18),.b (m 19),.b (m 20),.b (m 21),.b (m 22),.b (m 23),.b
  true]]⟩)) (.must false (.fail "index"))))))) (.must false (.fail "index"))))))))) (.leaf (.ret,⟨[[.b false]],[.box (on25 m)]⟩)))) (.leaf (.ret,⟨[[.b false]],[.box (on25 m)]⟩)):=by kernel_rfl
theorem ad148_b (m:Nat→Bool) (a:Int) (τ0:Tm):Am Tryz.prog wcT 300 148 Tryz.f148.ntmps (Eng.ofL ((flat body148).drop 4)) (wadL.tm ⟨[[],[.i a]],[.box (on25 m)]⟩++τ0) (wadL.heap ⟨[[],[.i a]],[.box (on25 m)]⟩) 1 (outX 1 ⟨none,[],some wadR⟩) =
  .defE ⟨[[.u],[.i a]],[.box (on25 m)]⟩ fun e0=>.defB (ofM e0 0) fun z1=>.defB (ofM e0 1) fun z2=>.defB (ofM e0 2) fun z3=>.defB (ofM e0 3) fun z4=>.defB (ofM e0 4) fun z5=>.defB (ofM e0 5) fun z6=>.defB
  (ofM e0 6) fun z7=>.defB (ofM e0 7) fun z8=>.defB (ofM e0 8) fun z9=>.defB (ofM e0 9) fun z10=>.defB (ofM e0 10) fun z11=>.defB (ofM e0 11) fun z12=>.defB (ofM e0 12) fun z13=>.defB (ofM e0 13) fun z14 =>
  .defB (ofM e0 14) fun z15=>.defB (ofM e0 15) fun z16=>.defB (ofM e0 16) fun z17=>.defB (ofM e0 17) fun z18=>.defB (ofM e0 18) fun z19=>.defB (ofM e0 19) fun z20=>.defB (ofM e0 20) fun z21=>.defB (ofM e0 21)
  fun z22=>.defB (ofM e0 22) fun z23=>.defB (ofM e0 23) fun z24=>.defB (ofM e0 24) fun z25=>.defI ((ofS (ofM e0) (e0.ai 1 0)).length:Int) fun z26=>.ite (decide (z26<2)) (.leaf (.ret,⟨[[.b false]],[.box [.b
  z1,.b z2,.b z3,.b z4,.b z5,.b z6,.b z7,.b z8,.b z9,.b z10,.b z11,.b z12,.b z13,.b z14,.b z15,.b z16,.b z17,.b z18,.b z19,.b z20,.b z21,.b z22,.b z23,.b z24,.b z25]]⟩)) (.defE ⟨[[.u],[.i a]],
  [.box [.b z1,.b z2,.b z3,.b z4,.b z5,.b z6,.b z7,.b z8,.b z9,.b z10,.b z11,.b z12,.b z13,.b z14,.b z15,.b z16,.b z17,.b z18,.b z19,.b z20,.b z21,.b z22,.b z23,.b z24,.b z25]]⟩ fun e27=>.defB
  (clrF (ofM e27) (e27.ai 1 0) 0) fun z28=>.defB (clrF (ofM e27) (e27.ai 1 0) 1) fun z29=>.defB (clrF (ofM e27) (e27.ai 1 0) 2) fun z30=>.defB (clrF (ofM e27) (e27.ai 1 0) 3) fun z31=>.defB (clrF (ofM e27) (e27.ai
  1 0) 4) fun z32=>.defB (clrF (ofM e27) (e27.ai 1 0) 5) fun z33=>.defB (clrF (ofM e27) (e27.ai 1 0) 6) fun z34=>.defB (clrF (ofM e27) (e27.ai 1 0) 7) fun z35=>.defB (clrF (ofM e27) (e27.ai 1 0) 8) fun z36=>.defB
  (clrF (ofM e27) (e27.ai 1 0) 9) fun z37=>.defB (clrF (ofM e27) (e27.ai 1 0) 10) fun z38=>.defB (clrF (ofM e27) (e27.ai 1 0) 11) fun z39=>.defB (clrF (ofM e27) (e27.ai 1 0) 12) fun z40=>.defB (clrF (ofM e27)
  (e27.ai 1 0) 13) fun z41=>.defB (clrF (ofM e27) (e27.ai 1 0) 14) fun z42=>.defB (clrF (ofM e27) (e27.ai 1 0) 15) fun z43=>.defB (clrF (ofM e27) (e27.ai 1 0) 16) fun z44=>.defB (clrF (ofM e27) (e27.ai 1 0) 17) fun
  z45=>.defB (clrF (ofM e27) (e27.ai 1 0) 18) fun z46=>.defB (clrF (ofM e27) (e27.ai 1 0) 19) fun z47=>.defB (clrF (ofM e27) (e27.ai 1 0) 20) fun z48=>.defB (clrF (ofM e27) (e27.ai 1 0) 21) fun z49=>.defB (clrF
  (ofM e27) (e27.ai 1 0) 22) fun z50=>.defB (clrF (ofM e27) (e27.ai 1 0) 23) fun z51=>.defB (clrF (ofM e27) (e27.ai 1 0) 24) fun z52=>.leaf (.ret,⟨[[.b true]],[.box [.b z28,.b z29,.b z30,.b z31,.b z32,.b z33,
  .b z34,.b z35,.b z36,.b z37,.b z38,.b z39,.b z40,.b z41,.b z42,.b z43,.b z44,.b z45,.b z46,.b z47,.b z48,.b z49,.b z50,.b z51,.b z52]]⟩)):=by kernel_rfl
set_option maxHeartbeats 4000000 in
theorem clr_std185 (m:Nat→Bool) (a:Int):BI Tryz.prog 185 ofT ⟨[[],[.i a]],[.box (on25 m)]⟩ clR ⟨[],[.box (on25 (clrF m a))]⟩:=by
  refine Aj (Ao _) Ay rfl (AL (cl185 m a) ?_)
  by_cases h0:0≤a∧a<5
  · have ha:a=0∨a=1∨a=2∨a=3∨a=4:=by omega
    rcases ha with rfl | rfl | rfl | rfl | rfl
    all_goals repeat' with_reducible (first | refine AG (fun h=>absurd h (by decide)) (fun _=>?_) | refine AG (fun _=>?_) (fun h=>absurd h (by decide)) | refine AA (AN _ _ _) ?_ | refine AA (BH (by omega)) ?_ | refine AA (decide_eq_true (by omega)) ?_ | refine AB ?_ | refine AG (fun hg=>?_) (fun hg=>?_))
    all_goals (refine AE ?_; (repeat' (first | exact trivial | exact rfl | exact TS.eqv_refl _ _ | exact AY _ _ | exact AQ | exact fun _ _=>AJ _ _ | exact fun i _=>AF rfl _ i | apply And.intro)))
  · have e : on25 (clrF m a) = on25 m := by
      have:∀ k,clrF m a k=m k:=fun k=>by
        unfold clrF
        rcases Int.lt_or_le a 0 with h | h
        · rw [decide_eq_false (by omega:¬ 0≤a)]; rfl
        · rw [decide_eq_false (by omega:¬ a<5),Bool.and_false]; rfl
      simp only [on25,this]
    rw [e]
    refine AG (fun h1=>AG (fun h2=>absurd ⟨of_decide_eq_true h1,of_decide_eq_true h2⟩ h0) fun h2=>?_) fun h1=>?_
    all_goals exact AE (clR.eqv_refl _)
set_option maxHeartbeats 4000000 in
theorem clr_std125 (m:Nat→Bool) (a:Int):BI Tryz.prog 125 ofT ⟨[[],[.i a]],[.box (on25 m)]⟩ clR ⟨[],[.box (on25 (clrF m a))]⟩:=by
  refine Aj (Ao _) Ay rfl (AL (cl125 m a) ?_)
  by_cases h0:0≤a∧a<5
  · have ha:a=0∨a=1∨a=2∨a=3∨a=4:=by omega
    rcases ha with rfl | rfl | rfl | rfl | rfl
    all_goals repeat' with_reducible (first | refine AG (fun h=>absurd h (by decide)) (fun _=>?_) | refine AG (fun _=>?_) (fun h=>absurd h (by decide)) | refine AA (AN _ _ _) ?_ | refine AA (BH (by omega)) ?_ | refine AA (decide_eq_true (by omega)) ?_ | refine AB ?_ | refine AG (fun hg=>?_) (fun hg=>?_))
    all_goals (refine AE ?_; (repeat' (first | exact trivial | exact rfl | exact TS.eqv_refl _ _ | exact AY _ _ | exact AQ | exact fun _ _=>AJ _ _ | exact fun i _=>AF rfl _ i | apply And.intro)))
  · have e : on25 (clrF m a) = on25 m := by
      have:∀ k,clrF m a k=m k:=fun k=>by
        unfold clrF
        rcases Int.lt_or_le a 0 with h | h
        · rw [decide_eq_false (by omega:¬ 0≤a)]; rfl
        · rw [decide_eq_false (by omega:¬ a<5),Bool.and_false]; rfl
      simp only [on25,this]
    rw [e]
    refine AG (fun h1=>AG (fun h2=>absurd ⟨of_decide_eq_true h1,of_decide_eq_true h2⟩ h0) fun h2=>?_) fun h1=>?_
    all_goals exact AE (clR.eqv_refl _)
theorem ofM_eqv (e:EN):eqvH [(0,.box b25)] e.o [.box (on25 (ofM e))]:=by
  (repeat' (first | exact trivial | exact rfl | exact TS.eqv_refl _ _ | exact AY _ _ | exact AQ | exact fun _ _=>AJ _ _ | exact fun i _=>AF rfl _ i | apply And.intro))
theorem c187_ok:Ak Tryz.prog 187 (AW ofT ofC):=BN fun e r h=>by
  cases h
  refine BI.pre (x':=⟨_,[.box (on25 (ofM e))]⟩) ⟨?_,ofM_eqv e⟩ (of_std (ofM e) (e.ai 1 0))
  (repeat' (first | exact trivial | exact rfl | exact TS.eqv_refl _ _ | exact AY _ _ | exact AQ | exact fun _ _=>AJ _ _ | exact fun i _=>AF rfl _ i | apply And.intro))
theorem c177_ok:Ak Tryz.prog 177 (AW ofT ofC):=BN fun e r h=>by
  cases h
  refine BI.pre (x':=⟨_,[.box (on25 (ofM e))]⟩) ⟨?_,ofM_eqv e⟩ (rof_std (ofM e) (e.ai 1 0))
  (repeat' (first | exact trivial | exact rfl | exact TS.eqv_refl _ _ | exact AY _ _ | exact AQ | exact fun _ _=>AJ _ _ | exact fun i _=>AF rfl _ i | apply And.intro))
theorem c185_ok:Ak Tryz.prog 185 (AW ofT clC):=BN fun e r h=>by
  cases h
  refine BI.pre (x':=⟨_,[.box (on25 (ofM e))]⟩) ⟨?_,ofM_eqv e⟩ (clr_std185 (ofM e) (e.ai 1 0))
  (repeat' (first | exact trivial | exact rfl | exact TS.eqv_refl _ _ | exact AY _ _ | exact AQ | exact fun _ _=>AJ _ _ | exact fun i _=>AF rfl _ i | apply And.intro))
theorem c125_ok:Ak Tryz.prog 125 (AW ofT clC):=BN fun e r h=>by
  cases h
  refine BI.pre (x':=⟨_,[.box (on25 (ofM e))]⟩) ⟨?_,ofM_eqv e⟩ (clr_std125 (ofM e) (e.ai 1 0))
  (repeat' (first | exact trivial | exact rfl | exact TS.eqv_refl _ _ | exact AY _ _ | exact AQ | exact fun _ _=>AJ _ _ | exact fun i _=>AF rfl _ i | apply And.intro))
theorem wcSm_ok:AllOk Tryz.prog wcSm:=⟨c187_ok,c177_ok,c185_ok,c125_ok,trivial⟩
theorem wcTab:TabAll Tryz.prog wcT:=tab_ok wcSm_ok
end Go.Proofs.YtddmgdclmkgpeaaGreat
set_option linter.unusedSimpArgs false
set_option linter.unusedVariables false
namespace Go.Proofs.YtddmgdclmkgpeaaGreat
open Go.Eng Go.RowKit Go.ChangeShapes Go.WideShapes
set_option maxRecDepth 100000
def adOk (f a:Int):Prop:=0≤f∧f<5∧0≤a∧a<5∧f≠a
instance (f a:Int):Decidable (adOk f a):=by unfold adOk; infer_instance
def adM (m:Nat→Bool) (f a:Int):Nat→Bool:=setF m (5 * a.toNat+f.toNat)
def adS (m:Nat→Bool) (f a:Int):Bool×(Nat→Bool):=if adOk f a then (if (ofS (adM m f a) a).length<2 then (false,adM m f a) else (true,clrF (adM m f a) a)) else (false,m)
def wadP:TS:=⟨[],[.one .b],[(0,.box b25)],1⟩
def wadC (e:EN):Ah (TS×EN):=.leaf (wadP,⟨[[.b (adS (ofM e) (e.ai 1 0) (e.ai 2 0)).1]],[.box (on25 (adS (ofM e) (e.ai 1 0) (e.ai 2 0)).2)]⟩)
theorem ofM_lt (u:List (List Num)) (m:Nat→Bool) {k:Nat} (h:k<25):ofM ⟨u,[.box (on25 m)]⟩ k=m k:=by
  match k,h with
  | 0,_=>exact rfl
  | 1,_=>exact rfl
  | 2,_=>exact rfl
  | 3,_=>exact rfl
  | 4,_=>exact rfl
  | 5,_=>exact rfl
  | 6,_=>exact rfl
  | 7,_=>exact rfl
  | 8,_=>exact rfl
  | 9,_=>exact rfl
  | 10,_=>exact rfl
  | 11,_=>exact rfl
  | 12,_=>exact rfl
  | 13,_=>exact rfl
  | 14,_=>exact rfl
  | 15,_=>exact rfl
  | 16,_=>exact rfl
  | 17,_=>exact rfl
  | 18,_=>exact rfl
  | 19,_=>exact rfl
  | 20,_=>exact rfl
  | 21,_=>exact rfl
  | 22,_=>exact rfl
  | 23,_=>exact rfl
  | 24,_=>exact rfl
  | n+25,h=>exact absurd h (by omega)
theorem ofN_congr {g g':Nat→Bool} : ∀ {n:Nat},(∀ i,i<n→g i=g' i)→ofN g n=ofN g' n
  | 0,_=>rfl
  | n+1,h=>by simp only [ofN,ofN_congr (n:=n) (fun i hi=>h i (by omega)),h n (by omega)]
theorem ofS_congr {m m':Nat→Bool} (a:Int) (h:∀ k,k<25→m k=m' k):ofS m a=ofS m' a:=by
  unfold ofS
  split
  · exact ofN_congr fun i hi=>h _ (by omega)
  · rfl
def ad1 (m:Nat→Bool) (f a:Int):Ex→EN→Prop
  | .normal,e=>adOk f a∧wadL.eqv e ⟨[[],[.i a]],[.box (on25 (adM m f a))]⟩
  | .ret,e=>¬ adOk f a∧wadR.eqv e ⟨[[.b false]],[.box (on25 m)]⟩
  | .exit _,_=>True
theorem body148_eq:Tryz.f148.body=some body148:=by kernel_rfl
theorem in148:BT Tryz.prog 148 Tryz.f148.ntmps body148:=within_body Tryz.func148 body148_eq
set_option maxHeartbeats 40000000 in
theorem ad148_std (m:Nat→Bool) (f a:Int):BI Tryz.prog 148 wadT ⟨[[],[.i f],[.i a]],[.box (on25 m)]⟩ wadR ⟨[[.b (adS m f a).1]],[.box (on25 (adS m f a).2)]⟩:=by
  refine stdX_htX Tryz.func148 body148_eq (by kernel_rfl) rfl (by kernel_rfl) rfl rfl ?_
  refine HT.cutX 4 (t1:=wadL) (R1:=ad1 m f a) (HTL.runX (Ao _) Ay (n:=300) (by decide) (within_take in148 4) (Nat.le_refl _) fun τ0=>AL (ad148_a m f a τ0) ?_) ?_ ?_
  · by_cases hf:0≤f∧f<5
    · by_cases ha:0≤a∧a<5
      · have hf':f=0∨f=1∨f=2∨f=3∨f=4:=by omega
        have ha':a=0∨a=1∨a=2∨a=3∨a=4:=by omega
        rcases hf' with rfl | rfl | rfl | rfl | rfl <;> rcases ha' with rfl | rfl | rfl | rfl | rfl
        all_goals repeat' with_reducible (first | refine AG (fun h=>absurd h (by decide)) (fun _=>?_) | refine AG (fun _=>?_) (fun h=>absurd h (by decide)) | refine AA (AN _ _ _) ?_ | refine AA (BH (by omega)) ?_ | refine AA (decide_eq_true (by omega)) ?_ | refine AB ?_ | refine AG (fun hg=>?_) (fun hg=>?_))
        all_goals first
          | exact AE ⟨by decide,wadL.eqv_refl _⟩
          | exact AE ⟨by decide,wadR.eqv_refl _⟩
          | (refine AE ⟨by decide,?_⟩; (repeat' (first | exact trivial | exact rfl | exact TS.eqv_refl _ _ | exact AY _ _ | exact AQ | exact fun _ _=>AJ _ _ | exact fun i _=>AF rfl _ i | apply And.intro)); done)
      · have no:¬ adOk f a:=fun h=>ha ⟨h.2.2.1,h.2.2.2.1⟩
        refine AG (fun _=>AG (fun _=>AE ⟨no,wadR.eqv_refl _⟩) fun _=>AG (fun h1=>AG (fun _=>AE ⟨no,wadR.eqv_refl _⟩) fun h2=>?_) fun _=>AE ⟨no,wadR.eqv_refl _⟩) fun _=>AE ⟨no,wadR.eqv_refl _⟩
        exact absurd ⟨of_decide_eq_true h1,by simpa using h2⟩ ha
    · have no:¬ adOk f a:=fun h=>hf ⟨h.1,h.2.1⟩
      refine AG (fun h1=>AG (fun _=>AE ⟨no,wadR.eqv_refl _⟩) fun h2=>?_) fun _=>AE ⟨no,wadR.eqv_refl _⟩
      exact absurd ⟨of_decide_eq_true h1,by simpa using h2⟩ hf
  · rintro en ⟨hok,he⟩
    refine HTg.pre (WP:=wpL Tryz.prog _) (fun h hq=>wpL_mono h hq) he (HTL.runX wcTab Ay (n:=300) (by decide) (within_drop in148 4) (Nat.le_refl _) fun τ0=>AL (ad148_b (adM m f a) a τ0) (An fun e he=>?_))
    have h1:ofS (ofM e) (e.ai 1 0)=ofS (adM m f a) a:=by rw [he]; exact ofS_congr a fun k hk=>ofM_lt _ _ hk
    simp only [h1]
    (repeat' with_reducible (first | refine AB ?_ | refine AM ?_))
    refine AG (fun hlt=>AE fun _=>?_) fun hge=>An fun e2 he2=>?_
    · have hlt:(ofS (adM m f a) a).length<2:=by have:=of_decide_eq_true hlt; omega
      have e1:adS m f a=(false,adM m f a):=by simp only [adS,if_pos hok,if_pos hlt]
      rw [e1]
      subst he
      (repeat' (first | exact trivial | exact rfl | exact TS.eqv_refl _ _ | exact AY _ _ | exact AQ | exact fun _ _=>AJ _ _ | exact fun i _=>AF rfl _ i | apply And.intro))
    · have hge:¬ (ofS (adM m f a) a).length<2:=by have:=of_decide_eq_false hge; omega
      have e1:adS m f a=(true,clrF (adM m f a) a):=by simp only [adS,if_pos hok,if_neg hge]
      (repeat' with_reducible (first | refine AB ?_ | refine AM ?_))
      refine AE fun _=>?_
      rw [e1]
      subst he2 he
      (repeat' (first | exact trivial | exact rfl | exact TS.eqv_refl _ _ | exact AY _ _ | exact AQ | exact fun _ _=>AJ _ _ | exact fun i _=>AF rfl _ i | apply And.intro))
  · rintro en ⟨hno,he⟩ _
    have e1:adS m f a=(false,m):=by simp only [adS,if_neg hno]
    rw [e1]
    exact he
theorem c148_ok:Ak Tryz.prog 148 (AW wadT wadC):=BN fun e r h=>by
  cases h
  refine BI.pre (x':=⟨_,[.box (on25 (ofM e))]⟩) ⟨?_,ofM_eqv e⟩ (ad148_std (ofM e) (e.ai 1 0) (e.ai 2 0))
  (repeat' (first | exact trivial | exact rfl | exact TS.eqv_refl _ _ | exact AY _ _ | exact AQ | exact fun _ _=>AJ _ _ | exact fun i _=>AF rfl _ i | apply And.intro))
end Go.Proofs.YtddmgdclmkgpeaaGreat
