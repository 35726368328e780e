/- Texts of this claim, laid together (part 5).
   Conditions: none. -/
import Derived.Test.YtddmgdclmkgpeaaGreatZkd
set_option linter.unusedSimpArgs false
set_option linter.unusedVariables false
set_option linter.unusedSimpArgs false
set_option linter.unusedVariables false
namespace Go.Proofs.YtddmgdclmkgpeaaGreat
open Go.Eng Go.RowKit Go.ChangeShapes Go.WideShapes
set_option maxRecDepth 100000
theorem la_t (incs:List Inc) (j:HJ):BR Tryz.prog (Am Tryz.prog noTab 300) 24 [.ptr 0 0] (Ad (histObjs incs j)) 19 (outC [0,1,2,3,4,5,6,7,8,9,10,11,12,13,14,15,16,17,18]) =
  .leaf (.int .u32 (.sym ((incs.length:Int)+1)),Ad (histObjs incs j)):=by kernel_rfl
theorem in_t2 (incs:List Inc) (j:HJ) (e:Int):BR Tryz.prog (Am Tryz.prog noTab 300) 22 [.ptr 0 0,.int .u32 (.sym e)] (Ad (histObjs incs j)) 19 (outC [0,1,2,3,4,5,6,7,8,9,10,11,12,13,14,15,16,17,18]) =
  .ite (decide (2≤e)&&decide (e<2+(incs.length:Int))) (.defI (incs.getD (subL (.sym e) (.lit 2)).v.toNat Inc.zero).1 fun z0=>.defI (incs.getD (subL (.sym e) (.lit 2)).v.toNat Inc.zero).2 fun z1=>.defI
  (incs.getD (subL (.sym e) (.lit 2)).v.toNat Inc.zero).3 fun z2=>.leaf (.tup [.agg [.int .u8 (.sym z0),.int .u8 (.sym z1),.int .i64 (.sym z2)],.bool (.lit true)],Ad (histObjs incs j))) (.leaf (.tup [.agg [.int
  .u8 (.lit 0),.int .u8 (.lit 0),.int .i64 (.lit 0)],.bool (.lit false)],Ad (histObjs incs j))):=by kernel_rfl
theorem ma_t (incs:List Inc) (j:HJ) (e:Int):BR Tryz.prog (Am Tryz.prog noTab 300) 26 [.ptr 0 0,.int .u32 (.sym e)] (Ad (histObjs incs j)) 19 (outC [0,1,2,3,4,5,6,7,8,9,10,11,12,13,14,15,16,17,18]) =
  .ite (decide (1≤e)&&decide (e<1+((incs.length:Int)+1))) (.defI (((e - 1).toNat:Int)+1) fun z0=>.defI (wAt 0 8 (List.take (subL (.sym e) (.lit 1)).v.toNat incs)) fun z1=>.defI 0 fun z2=>.defI (wAt 1
  8 (List.take (subL (.sym e) (.lit 1)).v.toNat incs)) fun z3=>.defI 1 fun z4=>.defI (wAt 2 8 (List.take (subL (.sym e) (.lit 1)).v.toNat incs)) fun z5=>.defI 2 fun z6=>.defI (wAt 3 8 (List.take (subL (.sym e)
  (.lit 1)).v.toNat incs)) fun z7=>.defI 3 fun z8=>.defI (wAt 4 8 (List.take (subL (.sym e) (.lit 1)).v.toNat incs)) fun z9=>.defI 0 fun z10=>.leaf (.tup [.agg [.int .u32 (.sym z0),.bool (.sym (upAt 0 true
  (List.take (subL (.sym e) (.lit 1)).v.toNat incs))),.int .i64 (.sym z1),.int .u8 (.sym z2),.bool (.sym (upAt 1 true (List.take (subL (.sym e) (.lit 1)).v.toNat incs))),.int .i64 (.sym z3),.int .u8 (.sym z4),.bool
  (.sym (upAt 2 true (List.take (subL (.sym e) (.lit 1)).v.toNat incs))),.int .i64 (.sym z5),.int .u8 (.sym z6),.bool (.sym (upAt 3 true (List.take (subL (.sym e) (.lit 1)).v.toNat incs))),.int .i64 (.sym z7),.int .u8
  (.sym z8),.bool (.sym (upAt 4 true (List.take (subL (.sym e) (.lit 1)).v.toNat incs))),.int .i64 (.sym z9),.int .u8 (.sym z10)],.bool (.lit true)],Ad (histObjs incs j))) (.leaf (.tup [.agg [.int .u32 (.lit 0),
  .bool (.lit false),.int .i64 (.lit 0),.int .u8 (.lit 0),.bool (.lit false),.int .i64 (.lit 0),.int .u8 (.lit 0),.bool (.lit false),.int .i64 (.lit 0),.int .u8 (.lit 0),.bool (.lit false),.int .i64 (.lit 0),
  .int .u8 (.lit 0),.bool (.lit false),.int .i64 (.lit 0),.int .u8 (.lit 0)],.bool (.lit false)],Ad (histObjs incs j))):=by kernel_rfl
def hiP:List (Nat×TO):=[(0,.ob 1 Af 1),(1,.tok)]
def hiQ:List (Nat×TO):=[(0,.ob 1 Af 20),(20,.tok)]
def laT:TS:=⟨[],[.one (.ptr 0 0)],hiP,2⟩
def laR:TS:=⟨[],[.one (.i .u32)],hiQ,21⟩
def inT:TS:=⟨[],[.one (.ptr 0 0),.one (.i .u32)],hiP,2⟩
def inR:TS:=⟨[],[.agg BB,.one .b],hiQ,21⟩
def maR:TS:=⟨[],[.agg rMap,.one .b],hiQ,21⟩
def BK (incs:List Inc):Int:=(incs.length:Int)+1
def cLa (e:EN):Ah (TS×EN):=.leaf (laR,⟨[[.i (BK (e.dt 0).incs)]],[.own (e.dt 0),.tok]⟩)
def hasI (incs:List Inc) (e:Int):Bool:=decide (2≤e)&&decide (e<2+(incs.length:Int))
def hasM (incs:List Inc) (e:Int):Bool:=decide (1≤e)&&decide (e<1+((incs.length:Int)+1))
def incK (incs:List Inc) (e:Int):Int:=(incs.getD (e - 2).toNat .zero).kind
def incO (incs:List Inc) (e:Int):Int:=(incs.getD (e - 2).toNat .zero).osd
def incZ (incs:List Inc) (e:Int):Int:=(incs.getD (e - 2).toNat .zero).n
def cHi (e:EN):Ah (TS×EN):=.ite (hasI (e.dt 0).incs (e.ai 1 0)) (.leaf (inR,⟨[incN (incK (e.dt 0).incs (e.ai 1 0)) (incO (e.dt 0).incs (e.ai 1 0)) (incZ (e.dt 0).incs (e.ai 1 0)),[.b true]],[.own (e.dt 0),.tok]⟩)) (.leaf (inR,⟨[incN 0 0 0,[.b false]],[.own (e.dt 0),.tok]⟩))
def upM (incs:List Inc) (e:Int) (o:Nat):Bool:=upAt (o:Int) true (incs.take (e - 1).toNat)
def wM (incs:List Inc) (e:Int) (o:Nat):Int:=wAt (o:Int) 8 (incs.take (e - 1).toNat)
def hM (o:Nat):Int:=[0,1,2,3,0].getD o 0
def cHm (e:EN):Ah (TS×EN):=.ite (hasM (e.dt 0).incs (e.ai 1 0)) (.leaf (maR,⟨[mapN (e.ai 1 0) (upM (e.dt 0).incs (e.ai 1 0)) (wM (e.dt 0).incs (e.ai 1 0)) hM,[.b true]],[.own (e.dt 0),.tok]⟩)) (.leaf (maR,⟨[mapN 0 (fun _=>false) (fun _=>0) (fun _=>0),[.b false]],[.own (e.dt 0),.tok]⟩))
theorem leaf_same {d:Dat} {j:HJs d.incs} {x v:AV} (hx:∀ E1 E2:Env,E2.blk 0=E1.blk 0→den E1 x=den E2 v):(Ah.leaf (x,Ad (histObjs d.incs j.1))).Holds fun o=>HGood d.incs∧(∀ E1 E2:Env,E2.blk 0=E1.blk 0→den E1 o.1=den E2 v)∧NoRo (AO o.2)∧∃ L,lkN L 0=0∧HistAt d.incs L (AO o.2) :=
  AE ⟨j.2.2,hx,canon_noro _ _,_,rfl,canon_at j.2.1⟩
theorem cLa_ok:Ak Tryz.prog 24 (AW laT cLa):=BN fun e r h=>by
  cases h
  refine BI.pre (x':=⟨[[]],[.own (e.dt 0),.tok]⟩) ?_ (hist_call (Ao _) Ay (n:=300) (f:=24) (ks:=[0,1,2,3,4,5,6,7,8,9,10,11,12,13,14,15,16,17,18]) (d:=e.dt 0) (d':=e.dt 0) (t:=1) (argsi:=[.ptr 0 0]) (args:=[.ptr 0 0]) (v:=.int .u32 (.sym (BK (e.dt 0).incs))) rfl (fun E E' h=>by simp only [BM,den,h]) (fun E E' h=>rfl) fun j=>AL (la_t _ _) (leaf_same fun _ _ _=>rfl))
  (repeat' (first | exact trivial | exact rfl | exact TS.eqv_refl _ _ | exact AY _ _ | exact AQ | exact fun _ _=>AJ _ _ | exact fun i _=>AF rfl _ i | apply And.intro))
theorem cHi_ok:Ak Tryz.prog 22 (AW inT cHi):=BN fun e r h=>by
  have pre:inT.eqv e ⟨[[],[.i (e.ai 1 0)]],[.own (e.dt 0),.tok]⟩:=by
    (repeat' (first | exact trivial | exact rfl | exact TS.eqv_refl _ _ | exact AY _ _ | exact AQ | exact fun _ _=>AJ _ _ | exact fun i _=>AF rfl _ i | apply And.intro))
  have go : ∀ v : AV, (∀ E E' : Env, den E' v = den E v) → (∀ j : HJs (e.dt 0).incs, (BR Tryz.prog (Am Tryz.prog noTab 300) 22 [.ptr 0 0, .int .u32 (.sym (e.ai 1 0))] (Ad (histObjs (e.dt 0).incs j.1)) 19 (outC [0, 1, 2, 3, 4, 5, 6, 7, 8, 9, 10, 11, 12, 13, 14, 15, 16, 17, 18])).Holds fun o => HGood (e.dt 0).incs ∧ (∀ E1 E2 : Env, E2.blk 0 = E1.blk 0 → den E1 o.1 = den E2 v) ∧ NoRo (AO o.2) ∧ ∃ L, lkN L 0 = 0 ∧ HistAt (e.dt 0).incs L (AO o.2)) →
      StdN Tryz.prog 22 2 [(0,.own 1 Af (e.dt 0) 1),(1,.tok)] [.ptr 0 0,.int .u32 (.sym (e.ai 1 0))] 21 [(0,.own 1 Af (e.dt 0) 20),(20,.tok)] v:=fun v hv H =>
    hist_call (Ao _) Ay (n:=300) (f:=22) (ks:=[0,1,2,3,4,5,6,7,8,9,10,11,12,13,14,15,16,17,18]) (d:=e.dt 0) (d':=e.dt 0) (t:=1) (argsi:=[.ptr 0 0,.int .u32 (.sym (e.ai 1 0))]) rfl (fun E E' h=>by simp only [BM,den,h]) (fun E E' _=>hv E E') H
  cases hc:hasI (e.dt 0).incs (e.ai 1 0) with
  | true =>
    rw [cHi,hc] at h
    cases h
    exact BI.pre pre (go (.tup [.agg (instL BB (incN (incK (e.dt 0).incs (e.ai 1 0)) (incO (e.dt 0).incs (e.ai 1 0)) (incZ (e.dt 0).incs (e.ai 1 0)))),.bool (.sym true)]) (fun _ _=>rfl) fun j=>AL (in_t2 _ _ _) (AU hc (AB (AB (AB (leaf_same fun _ _ _=>rfl))))))
  | false =>
    rw [cHi,hc] at h
    cases h
    exact BI.pre pre (go (.tup [.agg (instL BB (incN 0 0 0)),.bool (.sym false)]) (fun _ _=>rfl) fun j=>AL (in_t2 _ _ _) (Ab hc (leaf_same fun _ _ _=>rfl)))
theorem cHm_ok:Ak Tryz.prog 26 (AW inT cHm):=BN fun e r h=>by
  have pre:inT.eqv e ⟨[[],[.i (e.ai 1 0)]],[.own (e.dt 0),.tok]⟩:=by
    (repeat' (first | exact trivial | exact rfl | exact TS.eqv_refl _ _ | exact AY _ _ | exact AQ | exact fun _ _=>AJ _ _ | exact fun i _=>AF rfl _ i | apply And.intro))
  have go : ∀ v : AV, (∀ E E' : Env, den E' v = den E v) → (∀ j : HJs (e.dt 0).incs, (BR Tryz.prog (Am Tryz.prog noTab 300) 26 [.ptr 0 0, .int .u32 (.sym (e.ai 1 0))] (Ad (histObjs (e.dt 0).incs j.1)) 19 (outC [0, 1, 2, 3, 4, 5, 6, 7, 8, 9, 10, 11, 12, 13, 14, 15, 16, 17, 18])).Holds fun o => HGood (e.dt 0).incs ∧ (∀ E1 E2 : Env, E2.blk 0 = E1.blk 0 → den E1 o.1 = den E2 v) ∧ NoRo (AO o.2) ∧ ∃ L, lkN L 0 = 0 ∧ HistAt (e.dt 0).incs L (AO o.2)) →
      StdN Tryz.prog 26 2 [(0,.own 1 Af (e.dt 0) 1),(1,.tok)] [.ptr 0 0,.int .u32 (.sym (e.ai 1 0))] 21 [(0,.own 1 Af (e.dt 0) 20),(20,.tok)] v:=fun v hv H =>
    hist_call (Ao _) Ay (n:=300) (f:=26) (ks:=[0,1,2,3,4,5,6,7,8,9,10,11,12,13,14,15,16,17,18]) (d:=e.dt 0) (d':=e.dt 0) (t:=1) (argsi:=[.ptr 0 0,.int .u32 (.sym (e.ai 1 0))]) rfl (fun E E' h=>by simp only [BM,den,h]) (fun E E' _=>hv E E') H
  cases hc:hasM (e.dt 0).incs (e.ai 1 0) with
  | true =>
    have hz:(((e.ai 1 0 - 1).toNat:Int)+1)=e.ai 1 0:=by
      simp only [hasM,Bool.and_eq_true,decide_eq_true_eq] at hc
      omega
    rw [cHm,hc] at h
    cases h
    exact BI.pre pre (go (.tup [.agg (instL rMap (mapN (e.ai 1 0) (upM (e.dt 0).incs (e.ai 1 0)) (wM (e.dt 0).incs (e.ai 1 0)) hM)),.bool (.sym true)]) (fun _ _=>rfl) fun j=>AL (ma_t _ _ _) (AU hc (by rw [hz]; exact AB (AB (AB (AB (AB (AB (AB (AB (AB (AB (AB (leaf_same fun _ _ _=>rfl))))))))))))))
  | false =>
    rw [cHm,hc] at h
    cases h
    exact BI.pre pre (go (.tup [.agg (instL rMap (mapN 0 (fun _=>false) (fun _=>0) (fun _=>0))),.bool (.sym false)]) (fun _ _=>rfl) fun j=>AL (ma_t _ _ _) (Ab hc (leaf_same fun _ _ _=>rfl)))
end Go.Proofs.YtddmgdclmkgpeaaGreat
set_option linter.unusedSimpArgs false
set_option linter.unusedVariables false
namespace Go.Eng
open Go.RowKit
def GrpAt (m:Int) (lk:Look) (k tk a ta:Nat):Prop :=
  (∃ len rows,lk k=some (.lst len 2 rows (some tk))∧lk tk=some .tok∧1≤len.v∧len.v≤m ∧
    (∀ j:Nat,(j:Int)<len.v→∃ x y,rows j=[.int .u32 x,y]∧SlC lk y)∧∃ x y,rows (len.v.toNat - 1)=[.int .u32 x,y]∧∀ E,den E y=den E (.sl a)) ∧
  ∃ al ar,lk a=some (.lst al 1 ar (some ta))∧lk ta=some .tok∧0≤al.v∧al.v≤3∧∀ j:Nat,(j:Int)<al.v→∃ z:SI,ar j=[.int .i64 z]
theorem histAt_of {incs : List Inc} {L : List Nat} {lk : Look} (hl : L.length = 19) (hd : distB L = true)
    (hb:∃ x:SI,x.v=(incs.length:Int)+1∧lk (lkN L 0)=some (.box [.mref (lkN L 1),.mref (lkN L 2),.int .u32 x,.sl (lkN L 3),.sl (lkN L 4),.sl (lkN L 5),.sl (lkN L 6)]))
    (hm:∃ b n vs,lk (lkN L 1)=some (.mp b n vs)∧b.v=1∧n.v=(incs.length:Int)+1∧∀ i:Nat,(i:Int)<n.v→∀ E,den E (vs i)=den E (mapA incs i))
    (hi:∃ b n vs,lk (lkN L 2)=some (.mp b n vs)∧(b.v=2∨n.v=0)∧n.v=(incs.length:Int)∧∀ i:Nat,(i:Int)<n.v→∀ E,den E (vs i)=den E (incA incs i))
    (g0:GrpAt ((incs.length:Int)+1) lk (lkN L 3) (lkN L 7) (lkN L 11) (lkN L 15)) (g1:GrpAt ((incs.length:Int)+1) lk (lkN L 4) (lkN L 8) (lkN L 12) (lkN L 16))
    (g2:GrpAt ((incs.length:Int)+1) lk (lkN L 5) (lkN L 9) (lkN L 13) (lkN L 17)) (g3:GrpAt ((incs.length:Int)+1) lk (lkN L 6) (lkN L 10) (lkN L 14) (lkN L 18)):HistAt incs L lk where
  len:=hl
  dist:=hd
  box:=hb
  maps:=hm
  ics:=hi
  lists i h:=by
    match i,h with
    | 0,_=>exact g0.1
    | 1,_=>exact g1.1
    | 2,_=>exact g2.1
    | 3,_=>exact g3.1
  acts i h:=by
    match i,h with
    | 0,_=>exact g0.2
    | 1,_=>exact g1.2
    | 2,_=>exact g2.2
    | 3,_=>exact g3.2
theorem grp_old {incs : List Inc} {j : HJ} (hj : j.ok incs) (i : Nat) (hi : i < 4) {m : Int} (hm : (incs.length : Int) + 1 ≤ m) {lk : Look}
    (h1:lk (3+i)=some (.lst (.sym (j.len i)) 2 (ivRow j i) (some (7+i)))) (h2:lk (7+i)=some .tok) (h3:lk (11+i)=some (.lst (.sym (j.al i)) 1 (acRow j i) (some (15+i)))) (h4:lk (15+i)=some .tok) :
    GrpAt m lk (3+i) (7+i) (11+i) (15+i):=by
  obtain ⟨a1,a2,a3,a4⟩:=hj i hi
  have e:decide (((((j.len i).toNat - 1:Nat)):Int)=j.len i - 1)=true:=decide_eq_true (by omega)
  refine ⟨⟨_,_,h1,h2,a1,Int.le_trans a2 hm,fun t _=>⟨_,_,rfl,11+i,by rw [h3]; exact fun h=>(by cases h),.inr ⟨_,_,rfl⟩⟩,_,_,rfl,fun E=>?_⟩,_,_,h3,h4,a3,a4,fun t _=>⟨_,rfl⟩⟩
  show den E (.slIf _ _ _)=_
  erw [e]
  rfl
theorem BQ {incs : List Inc} {j : HJ} (hj : j.ok incs) (i : Nat) (hi : i < 4) {lk : Look} {m : Int} (hm : (incs.length : Int) + 2 ≤ m) {k tk a ta : Nat} {len la al x : SI} {rc ar : Nat → List AV}
    (h1:lk k=some (.lst len 2 (AP la (ivRow j i) rc) (some tk))) (h2:lk tk=some .tok) (hla:la.v=j.len i) (hl:len.v=la.v+1) (hr:rc 0=[.int .u32 x,.sl a]) (h5:∃ o,lk (11+i)=some o)
    (h3:lk a=some (.lst al 1 ar (some ta))) (h4:lk ta=some .tok) (a3:0≤al.v∧al.v≤3) (ha:∀ t:Nat,(t:Int)<al.v→∃ z:SI,ar t=[.int .i64 z]):GrpAt m lk k tk a ta:=by
  obtain ⟨a1,a2,_,_⟩:=hj i hi
  have lo:∀ t:Nat,(t:Int)<la.v→AP la (ivRow j i) rc t=ivRow j i t:=fun t ht=>by
    unfold AP
    have:Nat.blt t la.v.toNat=true:=by simp; omega
    rw [this]
  have up:AP la (ivRow j i) rc la.v.toNat=rc 0:=by
    unfold AP
    have:Nat.blt la.v.toNat la.v.toNat=false:=Bool.eq_false_iff.2 fun h=>Nat.lt_irrefl _ (Nat.le_of_ble_eq_true h)
    rw [this]
    show rc (la.v.toNat - la.v.toNat)=_
    rw [Nat.sub_self]
  refine ⟨⟨len,_,h1,h2,by omega,by omega,fun t ht=>?_,x,.sl a,?_,fun E=>rfl⟩,_,_,h3,h4,a3.1,a3.2,ha⟩
  · rcases Nat.lt_or_ge t la.v.toNat with h | h
    · rw [lo t (by omega)]
      obtain ⟨o,ho⟩:=h5
      exact ⟨_,_,rfl,11+i,by rw [ho]; exact fun h=>(by cases h),.inr ⟨_,_,rfl⟩⟩
    · have:t=la.v.toNat:=by omega
      rw [this,up,hr]
      exact ⟨_,_,rfl,a,by rw [h3]; exact fun h=>(by cases h),.inl rfl⟩
  · have:len.v.toNat - 1=la.v.toNat:=by omega
    rw [this,up,hr]
theorem grp_first {lk : Look} {m : Int} (hm : 1 ≤ m) {k tk a ta : Nat} {len al x : SI} {rows ar : Nat → List AV}
    (h1:lk k=some (.lst len 2 rows (some tk))) (h2:lk tk=some .tok) (hl:len.v=1) (hr:rows 0=[.int .u32 x,.sl a])
    (h3:lk a=some (.lst al 1 ar (some ta))) (h4:lk ta=some .tok) (a3:0≤al.v∧al.v≤3) (ha:∀ t:Nat,(t:Int)<al.v→∃ z:SI,ar t=[.int .i64 z]):GrpAt m lk k tk a ta:=by
  refine ⟨⟨len,_,h1,h2,by omega,by omega,fun t ht=>?_,x,.sl a,?_,fun E=>rfl⟩,_,_,h3,h4,a3.1,a3.2,ha⟩
  · have:t=0:=by omega
    rw [this,hr]
    exact ⟨_,_,rfl,a,by rw [h3]; exact fun h=>(by cases h),.inl rfl⟩
  · rw [hl]
    exact hr
theorem upAt_app (o : Int) (u : Bool) (l : List Inc) (x : Inc) : upAt o u (l ++ [x]) = (match x.osd == o && x.kind == 1 with
    | true=>true
    | false=>match x.osd==o&&x.kind==2 with
      | true=>false
      | false=>upAt o u l):=by
  induction l generalizing u with
  | nil=>rfl
  | cons y l ih=>exact ih _
theorem wAt_app (o : Int) (w : Int) (l : List Inc) (x : Inc) : wAt o w (l ++ [x]) = (match x.osd == o && x.kind == 3 with
    | true=>x.n
    | false=>wAt o w l):=by
  induction l generalizing w with
  | nil=>rfl
  | cons y l ih=>exact ih _
theorem wAt_in {l:List Inc} (h:∀ x,x∈l→incOk x=true∧0≤x.osd) (o:Int) (w:Int) (hw:0≤w∧w≤16):0≤wAt o w l∧wAt o w l≤16:=by
  induction l generalizing w with
  | nil=>exact hw
  | cons y l ih =>
    refine ih (fun x hx=>h x (List.mem_cons_of_mem _ hx)) _ ?_
    cases hc:(y.osd==o&&y.kind==3) with
    | false=>exact hw
    | true =>
      have hk:(y.kind==3)=true:=by
        simp only [Bool.and_eq_true] at hc
        exact hc.2
      have hy:=(h y List.mem_cons_self).1
      unfold incOk at hy
      have h12:(y.kind==1||y.kind==2)=false:=by
        have:y.kind=3:=by simpa using hk
        rw [this]; rfl
      rw [h12,hk] at hy
      simp only [Bool.and_eq_true,decide_eq_true_eq] at hy
      exact hy.2
theorem mapA_app (incs:List Inc) (x:Inc) {i:Nat} (hi:i≤incs.length):mapA (incs++[x]) i=mapA incs i:=by
  have e:(incs++[x]).take i=incs.take i:=by rw [List.take_append_of_le_length hi]
  unfold mapA
  rw [e]
theorem incA_app (incs:List Inc) (x:Inc) {i:Nat} (hi:i<incs.length):incA (incs++[x]) i=incA incs i:=by
  have e:(incs++[x]).getD i .zero=incs.getD i .zero:=by
    rw [List.getD,List.getD,List.getElem?_append_left hi]
  unfold incA
  rw [e]
theorem incA_new (incs:List Inc) (x:Inc):incA (incs++[x]) incs.length = .agg [.int .u8 (.sym x.kind),.int .u8 (.sym x.osd),.int .i64 (.sym x.n)]:=by
  have e:(incs++[x]).getD incs.length .zero=x:=by
    rw [List.getD,List.getElem?_append_right (Nat.le_refl _),Nat.sub_self]
    rfl
  unfold incA
  rw [e]
theorem TV.eqv_symm {t:TV} {x y:Num} (h:t.eqv x y):t.eqv y x:=by
  cases t <;> simp only [TV.eqv] at h ⊢ <;> exact h.symm
theorem TV.eqv_trans {t:TV} {x y z:Num} (h:t.eqv x y) (h':t.eqv y z):t.eqv x z:=by
  cases t <;> simp only [TV.eqv] at h h' ⊢ <;> exact h.trans h'
theorem eqvL_symm:∀ {ts:List TV} {xs ys:List Num},eqvL ts xs ys→eqvL ts ys xs
  | [],_,_,_=>trivial
  | _::_,_,_,h=>⟨TV.eqv_symm h.1,eqvL_symm h.2⟩
theorem eqvL_trans:∀ {ts:List TV} {xs ys zs:List Num},eqvL ts xs ys→eqvL ts ys zs→eqvL ts xs zs
  | [],_,_,_,_,_=>trivial
  | _::_,_,_,_,h,h'=>⟨TV.eqv_trans h.1 h'.1,eqvL_trans h.2 h'.2⟩
theorem eqvLn_symm {o:Option Int} {x y:Nat} (h:eqvLn o x y):eqvLn o y x:=by
  cases o
  · exact Eq.symm h
  · trivial
theorem lnS_eqv {o:Option Int} {x y:Nat} (h:eqvLn o x y):(lnS o x).v=(lnS o y).v:=by
  cases o
  · have h:x=y:=h
    rw [h]
  · rfl
theorem TO.eqv_symm {t:TO} {x y:ON} (h:t.eqv x y):t.eqv y x:=by
  cases t with
  | box cs=>exact eqvL_symm (ts:=cs) h
  | lst ln row own =>
    obtain ⟨h1,h2⟩:=h
    exact ⟨eqvLn_symm h1,fun i hi=>eqvL_symm (h2 i (by rw [← lnS_eqv h1]; exact hi))⟩
  | tok=>trivial
  | ob t R g=>exact Eq.symm h
theorem eqvH_symm:∀ {l:List (Nat×TO)} {xs ys:List ON},eqvH l xs ys→eqvH l ys xs
  | [],_,_,_=>trivial
  | _::_,_,_,h=>⟨TO.eqv_symm h.1,eqvH_symm h.2⟩
section
variable {P:Program}
theorem BI.post {f:FuncId} {t t':TS} {x y y':EN} (h:t'.eqv y y') (H:BI P f t x t' y):BI P f t x t' y':=by
  intro E w hU
  refine (H E w hU).mono ?_
  rintro e w' ⟨E1,rfl,h2,h3,h4⟩
  have ev:t'.vals y=t'.vals y':=eqvA_inst h.1
  exact ⟨E1,by rw [ev],h2,eqvH_relU h.2 h3,h4.trans (eqvH_wext h.2)⟩
theorem std_good {f : FuncId} {m m' : Nat} {h h' : List (Nat × Ai)} {args : List AV} {v : AV} {d : Dat} {k g t : Nat} (h1 : AO (Ad h) k = some (.own t Af d g)) (h2 : AO (Ad h) g = some .tok)
    (H:HGood d.incs→StdN P f m h args m' h' v):StdN P f m h args m' h' v:=fun E w hU=>by
  have:=hU.here.obj k _ h1
  exact H (this h2 w (Nat.le_refl _) (fun _ _=>rfl)).1 E w hU
end
end Go.Eng
set_option linter.unusedSimpArgs false
set_option linter.unusedVariables false
namespace Go.Proofs.YtddmgdclmkgpeaaGreat
open Go.Eng Go.RowKit Go.ChangeShapes Go.WideShapes
set_option maxRecDepth 100000
noncomputable def qbSm:List (FuncId×Summ):=[(102,AW apT cAp),(137,AW ckT cAct),(138,AW eqT cEq),(82,AW nilT cFst)]
noncomputable def qbT:Tab:=smTab (tabOf qbSm)
theorem qbSm_ok:AllOk Tryz.prog qbSm:=⟨cAp_ok,cAct_ok,cEq_ok,cFst_ok,trivial⟩
theorem qbTab:TabAll Tryz.prog qbT:=tab_ok qbSm_ok
theorem nw_t  : BR Tryz.prog (Am Tryz.prog qbT 300) 38 [] [] 0 (outK (rootK 8)) =
  .defE ⟨[],[]⟩ fun e0=>.defI 1 fun z1=>.defI 8 fun z2=>.defI 0 fun z3=>.defI 8 fun z4=>.defI 1 fun z5=>.defI 8 fun z6=>.defI 2 fun z7=>.defI 8 fun z8=>.defI 3 fun z9=>.defI 8 fun z10=>.defI 0 fun
  z11=>.defE ⟨[[.i z1,.b true,.i z2,.i z3,.b true,.i z4,.i z5,.b true,.i z6,.i z7,.b true,.i z8,.i z9,.b true,.i z10,.i z11],[.i 0]],[]⟩ fun e12=>.must (mIs (e12.ai 0 0) (Av e12 0 0) (BF e12 0 0))
  (.must (!decide (e12.ai 1 0≥4)) (.defI ((actM (e12.ai 0 0) (Ag e12 0 0) (Av e12 0 0) (BF e12 0 0) (e12.ai 1 0)).length:Int) fun z13=>.defE ⟨[[.i z1,.b true,.i z2,.i z3,.b true,.i z4,.i z5,.b true,.i
  z6,.i z7,.b true,.i z8,.i z9,.b true,.i z10,.i z11],[.i 1]],[]⟩ fun e14=>.must (mIs (e14.ai 0 0) (Av e14 0 0) (BF e14 0 0)) (.must (!decide (e14.ai 1 0≥4)) (.defI ((actM (e14.ai 0 0) (Ag e14 0 0) (Av
  e14 0 0) (BF e14 0 0) (e14.ai 1 0)).length:Int) fun z15=>.defE ⟨[[.i z1,.b true,.i z2,.i z3,.b true,.i z4,.i z5,.b true,.i z6,.i z7,.b true,.i z8,.i z9,.b true,.i z10,.i z11],[.i 2]],[]⟩ fun e16 =>
  .must (mIs (e16.ai 0 0) (Av e16 0 0) (BF e16 0 0)) (.must (!decide (e16.ai 1 0≥4)) (.defI ((actM (e16.ai 0 0) (Ag e16 0 0) (Av e16 0 0) (BF e16 0 0) (e16.ai 1 0)).length:Int) fun z17=>.defE ⟨[[.i z1,.b
  true,.i z2,.i z3,.b true,.i z4,.i z5,.b true,.i z6,.i z7,.b true,.i z8,.i z9,.b true,.i z10,.i z11],[.i 3]],[]⟩ fun e18=>.must (mIs (e18.ai 0 0) (Av e18 0 0) (BF e18 0 0)) (.must (!decide (e18.ai 1
  0≥4)) (.defI ((actM (e18.ai 0 0) (Ag e18 0 0) (Av e18 0 0) (BF e18 0 0) (e18.ai 1 0)).length:Int) fun z19=>.leaf (.ptr 8 0,[(8,some (.box [.mref 2,.mref 4,.int .u32 (.sym z1),.sl 103,.sl 173,.sl 243,
  .sl 313])),(313,some (.lst (.lit 1) 2 (AP (.lit 0) (fun (x:Nat)=>[]) (Aa 2 [.int .u32 (.sym z1),.sl 268])) (some 312))),(312,some Ai.tok),(311,some (.lst (.lit 1) 2 (Aa 2 [.int .u32 (.sym z1),.sl
  268]) (some 310))),(310,some Ai.tok),(268,some (.lst (.sym z19) 1 (AI [.i .i64] (AR ((actM (e18.ai 0 0) (Ag e18 0 0) (Av e18 0 0) (BF e18 0 0) (e18.ai 1 0))))) (some 269))),(269,some Ai.tok),(243,
  some (.lst (.lit 1) 2 (AP (.lit 0) (fun (x:Nat)=>[]) (Aa 2 [.int .u32 (.sym z1),.sl 198])) (some 242))),(242,some Ai.tok),(241,some (.lst (.lit 1) 2 (Aa 2 [.int .u32 (.sym z1),.sl 198]) (some
  240))),(240,some Ai.tok),(198,some (.lst (.sym z17) 1 (AI [.i .i64] (AR ((actM (e16.ai 0 0) (Ag e16 0 0) (Av e16 0 0) (BF e16 0 0) (e16.ai 1 0))))) (some 199))),(199,some Ai.tok),(173,some (.lst
  (.lit 1) 2 (AP (.lit 0) (fun (x:Nat)=>[]) (Aa 2 [.int .u32 (.sym z1),.sl 128])) (some 172))),(172,some Ai.tok),(171,some (.lst (.lit 1) 2 (Aa 2 [.int .u32 (.sym z1),.sl 128]) (some 170))),(170,
  some Ai.tok),(128,some (.lst (.sym z15) 1 (AI [.i .i64] (AR ((actM (e14.ai 0 0) (Ag e14 0 0) (Av e14 0 0) (BF e14 0 0) (e14.ai 1 0))))) (some 129))),(129,some Ai.tok),(103,some (.lst (.lit 1) 2
  (AP (.lit 0) (fun (x:Nat)=>[]) (Aa 2 [.int .u32 (.sym z1),.sl 58])) (some 102))),(102,some Ai.tok),(101,some (.lst (.lit 1) 2 (Aa 2 [.int .u32 (.sym z1),.sl 58]) (some 100))),(100,some Ai.tok),
  (58,some (.lst (.sym z13) 1 (AI [.i .i64] (AR ((actM (e12.ai 0 0) (Ag e12 0 0) (Av e12 0 0) (BF e12 0 0) (e12.ai 1 0))))) (some 59))),(59,some Ai.tok),(2,some (.mp (.sym z1) (.lit 1) fun (x:Nat) =>
  .agg [.int .u32 (.sym z1),.bool (.sym true),.int .i64 (.sym z2),.int .u8 (.sym z3),.bool (.sym true),.int .i64 (.sym z4),.int .u8 (.sym z5),.bool (.sym true),.int .i64 (.sym z6),.int .u8 (.sym z7),.bool (.sym
  true),.int .i64 (.sym z8),.int .u8 (.sym z9),.bool (.sym true),.int .i64 (.sym z10),.int .u8 (.sym z11)])),(4,some (.mp (.lit 0) (.lit 0) fun (x:Nat)=>.raw undef)),(2,some (.mp (.sym z1) (.lit 1) fun (x :
  Nat)=>.agg [.int .u32 (.sym z1),.bool (.sym true),.int .i64 (.sym z2),.int .u8 (.sym z3),.bool (.sym true),.int .i64 (.sym z4),.int .u8 (.sym z5),.bool (.sym true),.int .i64 (.sym z6),.int .u8 (.sym z7),.bool
  (.sym true),.int .i64 (.sym z8),.int .u8 (.sym z9),.bool (.sym true),.int .i64 (.sym z10),.int .u8 (.sym z11)]))]))))))))):=by kernel_rfl
theorem actM_len {ep:Int} {u:Nat→Bool} {w h:Nat→Int} {g:Int} : (actM ep u w h g).length≤3:=by
  unfold actM actL
  exact Nat.le_trans (List.length_filter_le _ _) pickL_len
def noRoB:Aq→Bool
  | []=>true
  | (_,some (.lst _ _ _ none))::_=>false
  | _::h=>noRoB h
theorem noRo_of:∀ {h:Aq},noRoB h=true→NoRo (AO h)
  | [],_=>fun _ _ _ _ e=>by cases e
  | (k0,o)::h,hb=>fun k len sz rows e=>by
    have hb2:noRoB h=true∧∀ len sz rows,o≠some (.lst len sz rows none):=by
      cases o with
      | none=>exact ⟨hb,fun _ _ _ e=>by cases e⟩
      | some o =>
        cases o with
        | lst l s r g =>
          cases g with
          | none=>cases hb
          | some g=>exact ⟨hb,fun _ _ _ e=>by cases e⟩
        | _=>exact ⟨hb,fun _ _ _ e=>by cases e⟩
    rw [look_cons] at e
    split at e
    · exact hb2.2 _ _ _ e
    · exact noRo_of hb2.1 k len sz rows e
theorem mIs_congr {ep ep':Int} {w w' h h':Nat→Int} (he:ep=ep') (hw:∀ i,i<5→w i=w' i) (hh:∀ i,i<5→h i=h' i):mIs ep w h=mIs ep' w' h':=by
  unfold mIs
  rw [he,hw 0 (by decide),hw 1 (by decide),hw 2 (by decide),hw 3 (by decide),hw 4 (by decide),hh 0 (by decide),hh 1 (by decide),hh 2 (by decide),hh 3 (by decide),hh 4 (by decide)]
theorem mIs_h {incs:List Inc} (hg:HGood incs):mIs ((incs.length:Int)+1) (fun i=>wAt (i:Int) 8 incs) hM=true:=by
  have hw:∀ o,0≤wAt o 8 incs∧wAt o 8 incs≤16:=fun o=>wAt_in hg.2 o 8 (by decide)
  have ho:∀ (o:Int) (h:Int),h<8→oIs (wAt o 8 incs) h=true:=fun o h hh=>by
    have:=hw o
    unfold oIs
    rw [decide_eq_false (by omega:¬ wAt o 8 incs<0),decide_eq_false (by omega:¬ wAt o 8 incs>16),decide_eq_false (by omega:¬ h≥8)]
    rfl
  have hl:=hg.1
  unfold mIs
  rw [ho _ _ (by decide),ho _ _ (by decide),ho _ _ (by decide),ho _ _ (by decide),ho _ _ (by decide),decide_eq_true (by omega:(incs.length:Int)+1≥1),decide_eq_true (by omega:(incs.length:Int)+1≤60)]
  rfl
theorem apU_app {incs:List Inc} {k o n:Int} {u:Nat→Bool} {i:Nat} (hu:u i=upAt (i:Int) true incs):apU k o u i=upAt (i:Int) true (incs++[⟨k,o,n⟩]):=by
  rw [upAt_app,← hu]
  unfold apU
  dsimp only
  cases (o==(i:Int)) <;> cases (k==1) <;> cases (k==2) <;> rfl
theorem apW_app {incs:List Inc} {k o n:Int} {w:Nat→Int} {i:Nat} (hw:w i=wAt (i:Int) 8 incs):apW k o n w i=wAt (i:Int) 8 (incs++[⟨k,o,n⟩]):=by
  rw [wAt_app,← hw]
  unfold apW
  dsimp only
  cases (o==(i:Int))
  · rfl
  · cases h3:(k==3)
    · cases (k==1) <;> cases (k==2) <;> rfl
    · have:k=3:=by simpa using h3
      subst this
      rfl
theorem grp_holds {R : Type} {Q : R → Prop} (X : EN) (jl al : Int) (ar : Nat → List AV) {K1 K2 : EN → Int → Ah R} (hm : mIs (X.ai 0 0) (Av X 0 0) (BF X 0 0) = true) (hg : (!decide (X.ai 1 0 ≥ 4)) = true)
    (hl:1≤jl∧jl≤60) (ha:0≤al∧al≤3) (hr:AX [.i .i64] ar al.toNat=true) (h1:∀ e (z:Int),0≤z∧z≤3→(K1 e z).Holds Q) (h2:∀ e (z:Int),0≤z∧z≤3→(K2 e z).Holds Q) :
    (Ah.defE X fun e=>.must (mIs (e.ai 0 0) (Av e 0 0) (BF e 0 0)) (.must (!decide (e.ai 1 0≥4)) (.defI ((actM (e.ai 0 0) (Ag e 0 0) (Av e 0 0) (BF e 0 0) (e.ai 1 0)).length:Int) fun z=>.must (!jl==0) (.defI (IntKind.i64.wrap (jl - 1)) fun z27=>.must (decide (0≤z27∧z27<jl)) (.must (decide (0≤z27∧z27<jl))
      (.must (decide ((z27.toNat:Int)=jl - 1)) (.must (AX [.i .i64] ar al.toNat) (.must (AX [.i .i64] (AI [.i .i64] (AR (actM (e.ai 0 0) (Ag e 0 0) (Av e 0 0) (BF e 0 0) (e.ai 1 0)))) z.toNat)
      (.defE ⟨[[.u],[.u]],[.lst al.toNat (AH [.i .i64] ar),.lst z.toNat (AH [.i .i64] (AI [.i .i64] (AR (actM (e.ai 0 0) (Ag e 0 0) (Av e 0 0) (BF e 0 0) (e.ai 1 0)))))]⟩ fun e28=>.must (decide (((e28.ln 0):Int)<1000000))
      (.ite (!eqI (Ax (e28.ln 0) (e28.rw 0)) (Ax (e28.ln 1) (e28.rw 1))) (.must (decide ((jl+1) * 32≤1099511627776∧jl+1≤1099511627776)) (K1 e z)) (K2 e z))))))))))).Holds Q:=by
  have hw:IntKind.i64.wrap (jl - 1)=jl - 1:=IntWalk.i64_in _ (by omega)
  refine AK (AA hm (AA hg (Ac fun z hz=>AA ?_ (AB (AA ?_ (AA ?_ (AA ?_ (AA hr (AA (AN _ _ _) (AK (AA ?_ (AG (fun _=>AA ?_ (h1 _ _ ?_)) fun _=>h2 _ _ ?_))))))))))))
  · have:jl≠0:=by omega
    simpa using this
  · rw [hw]; exact decide_eq_true (by omega)
  · rw [hw]; exact decide_eq_true (by omega)
  · rw [hw]; exact decide_eq_true (by omega)
  · exact decide_eq_true (show ((al.toNat:Nat):Int)<1000000 by omega)
  · exact decide_eq_true (by omega)
  all_goals
    have:(actM (X.ai 0 0) (Ag X 0 0) (Av X 0 0) (BF X 0 0) (X.ai 1 0)).length≤3:=actM_len
    omega
theorem grp0_holds {R : Type} {Q : R → Prop} (X : EN) {K1 : EN → Int → Ah R} (hm : mIs (X.ai 0 0) (Av X 0 0) (BF X 0 0) = true) (hg : (!decide (X.ai 1 0 ≥ 4)) = true) (h1 : ∀ e (z : Int), 0 ≤ z ∧ z ≤ 3 → (K1 e z).Holds Q) :
    (Ah.defE X fun e=>.must (mIs (e.ai 0 0) (Av e 0 0) (BF e 0 0)) (.must (!decide (e.ai 1 0≥4)) (.defI ((actM (e.ai 0 0) (Ag e 0 0) (Av e 0 0) (BF e 0 0) (e.ai 1 0)).length:Int) fun z=>K1 e z))).Holds Q:=by
  refine AK (AA hm (AA hg (Ac fun z hz=>h1 _ _ ?_)))
  have:(actM (X.ai 0 0) (Ag X 0 0) (Av X 0 0) (BF X 0 0) (X.ai 1 0)).length≤3:=actM_len
  omega
def neR:TS:=⟨[],[.one (.ptr 0 0)],[(0,.ob 1 Af 1),(1,.tok)],2⟩
def hNew:Dat:={ (default:Dat) with incs:=[] }
def cNe (_:EN):Ah (TS×EN):=.leaf (neR,⟨[[.u]],[.own hNew,.tok]⟩)
def addOk (incs:List Inc) (e k o n:Int):Bool:=decide (e=(incs.length:Int)+2)&&(incOk ⟨k,o,n⟩ && !((incs.length:Int)+1==60))
def addErr (incs:List Inc) (e:Int):Int:=bif decide (e≤(incs.length:Int)+1) then 51 else bif decide (e>(incs.length:Int)+2) then 50 else 40
def adT:TS:=⟨[],[.one (.ptr 0 0),.one (.i .u32),.agg BB],hiP,2⟩
def adR:TS:=⟨[],[.one (.i .i64)],hiQ,21⟩
def addD (d:Dat) (k o n:Int):Dat:={ d with incs:=d.incs++[⟨k,o,n⟩] }
def cAd (e:EN):Ah (TS×EN):=.must (decide (0≤e.ai 2 1∧e.ai 1 0<4294967296)) (.ite (addOk (e.dt 0).incs (e.ai 1 0) (e.ai 2 0) (e.ai 2 1) (e.ai 2 2))
  (.leaf (adR,⟨[[.i 0]],[.own (addD (e.dt 0) (e.ai 2 0) (e.ai 2 1) (e.ai 2 2)),.tok]⟩)) (.leaf (adR,⟨[[.i (addErr (e.dt 0).incs (e.ai 1 0))]],[.own (e.dt 0),.tok]⟩)))
theorem cNe_ok:Ak Tryz.prog 38 (AW nilT cNe):=BN fun e r h=>by
  cases h
  refine BI.pre (x':=⟨[],[]⟩) ?_ (StdN.leafOwn qbTab Ay (n:=300) (f:=38) (m:=0) (r0:=8) (rp:=0) (kf:=rootK 8) (h:=[]) (args:=[]) (v:=.ptr 0 0) (t:=1) (R:=Af) (d:=hNew) rfl (.inr rfl) (AL nw_t ?_))
  · exact clP
  · have hm:(1:Int)≤((([]:List Inc).length:Int)+1):=by decide
    have gm:mIs 1 (fun _=>8) hM=true:=by decide
    refine AK ?_
    iterate 11 refine AB ?_
    refine grp0_holds _ gm rfl fun _ _ b0=>?_
    refine grp0_holds _ gm rfl fun _ _ b1=>?_
    refine grp0_holds _ gm rfl fun _ _ b2=>?_
    refine grp0_holds _ gm rfl fun _ _ b3=>?_
    refine AE ⟨⟨_,rfl⟩,noRo_of rfl,fun mm blk fp w hp=>⟨⟨by decide,fun _ h=>by cases h⟩,mm,8,_,[8,2,4,103,173,243,313,102,172,242,312,58,128,198,268,59,129,199,269],hp,rfl,histAt_of rfl rfl ⟨.sym 1,rfl,rfl⟩ ⟨_,_,_,rfl,rfl,rfl,fun i hi E=>?_⟩ ⟨_,_,_,rfl,.inr rfl,rfl,fun i hi=>?_⟩ (grp_first hm rfl rfl rfl rfl rfl rfl b0 (fun _ _=>⟨_,rfl⟩)) (grp_first hm rfl rfl rfl rfl rfl rfl b1 (fun _ _=>⟨_,rfl⟩)) (grp_first hm rfl rfl rfl rfl rfl rfl b2 (fun _ _=>⟨_,rfl⟩)) (grp_first hm rfl rfl rfl rfl rfl rfl b3 (fun _ _=>⟨_,rfl⟩))⟩,fun E1 E2 hb _=>?_⟩
    · have : i = 0 := by
        have hi:(i:Int)<1:=hi
        omega
      subst this
      rfl
    · have hi:(i:Int)<0:=hi
      omega
    · show Value.pointer _=Value.pointer _
      rw [hb]
end Go.Proofs.YtddmgdclmkgpeaaGreat
set_option linter.unusedSimpArgs false
set_option linter.unusedVariables false
namespace Go.Proofs.YtddmgdclmkgpeaaGreat
open Go.Eng Go.RowKit Go.ChangeShapes Go.WideShapes
set_option maxRecDepth 100000
theorem ad_t (incs:List Inc) (j:HJ) (e k o n:Int):(BR Tryz.prog (Am Tryz.prog qbT 300) 44 [.ptr 0 0,.int .u32 (.sym e),.agg [.int .u8 (.sym k),.int .u8 (.sym o),.int .i64 (.sym n)]] (Ad (histObjs incs j)) 19 (outK (rootK 0))).cut [some false,some false,some true,some true,some false,some false,none,some false,none,some false,none,some false,none] =
  .must (!decide (e≤(incs.length:Int)+1)) (.defI (IntKind.u32.wrap (e - ((incs.length:Int)+1))) fun z0=>.must (!decide (z0>1)) (.must (decide (1≤(incs.length:Int)+1)&&decide ((incs.length:Int)+1 <
  1+((incs.length:Int)+1))) (.defI ((((incs.length:Int)+1 - 1).toNat:Int)+1) fun z1=>.defI (wAt 0 8 (List.take (subL (.sym ((incs.length:Int)+1)) (.lit 1)).v.toNat incs)) fun z2=>.defI 0 fun z3 =>
  .defI (wAt 1 8 (List.take (subL (.sym ((incs.length:Int)+1)) (.lit 1)).v.toNat incs)) fun z4=>.defI 1 fun z5=>.defI (wAt 2 8 (List.take (subL (.sym ((incs.length:Int)+1)) (.lit 1)).v.toNat incs)) fun z6 =>
  .defI 2 fun z7=>.defI (wAt 3 8 (List.take (subL (.sym ((incs.length:Int)+1)) (.lit 1)).v.toNat incs)) fun z8=>.defI 3 fun z9=>.defI (wAt 4 8 (List.take (subL (.sym ((incs.length:Int)+1)) (.lit 1)).v.toNat
  incs)) fun z10=>.defI 0 fun z11=>.defE ⟨[[.i z1,.b (upAt 0 true (List.take (subL (.sym ((incs.length:Int)+1)) (.lit 1)).v.toNat incs)),.i z2,.i z3,.b (upAt 1 true (List.take (subL (.sym ((incs.length:Int) +
  1)) (.lit 1)).v.toNat incs)),.i z4,.i z5,.b (upAt 2 true (List.take (subL (.sym ((incs.length:Int)+1)) (.lit 1)).v.toNat incs)),.i z6,.i z7,.b (upAt 3 true (List.take (subL (.sym ((incs.length:Int)+1))
  (.lit 1)).v.toNat incs)),.i z8,.i z9,.b (upAt 4 true (List.take (subL (.sym ((incs.length:Int)+1)) (.lit 1)).v.toNat incs)),.i z10,.i z11],[.i k,.i o,.i n]],[]⟩ fun e12=>.must (decide (0≤e12.ai 1 1))
  (.must (apOk (e12.ai 0 0) (Av e12 0 0) (BF e12 0 0) (e12.ai 1 0) (e12.ai 1 1) (e12.ai 1 2)) (.defI (e12.ai 0 0+1) fun z13=>.defI (apW (e12.ai 1 0) (e12.ai 1 1) (e12.ai 1 2) (Av e12 0 0) 0) fun z14=>.defI
  (BF e12 0 0 0) fun z15=>.defI (apW (e12.ai 1 0) (e12.ai 1 1) (e12.ai 1 2) (Av e12 0 0) 1) fun z16=>.defI (BF e12 0 0 1) fun z17=>.defI (apW (e12.ai 1 0) (e12.ai 1 1) (e12.ai 1 2) (Av e12 0 0) 2) fun z18 =>
  .defI (BF e12 0 0 2) fun z19=>.defI (apW (e12.ai 1 0) (e12.ai 1 1) (e12.ai 1 2) (Av e12 0 0) 3) fun z20=>.defI (BF e12 0 0 3) fun z21=>.defI (apW (e12.ai 1 0) (e12.ai 1 1) (e12.ai 1 2) (Av e12 0 0) 4) fun
  z22=>.defI (BF e12 0 0 4) fun z23=>.defI 0 fun z24=>.must (!z24 != 0) (.must (decide (e=2+(incs.length:Int))) (.must (decide (z13=1+((incs.length:Int)+1))) (.defE ⟨[[.i z13,.b (apU (e12.ai 1 0)
  (e12.ai 1 1) (Ag e12 0 0) 0),.i z14,.i z15,.b (apU (e12.ai 1 0) (e12.ai 1 1) (Ag e12 0 0) 1),.i z16,.i z17,.b (apU (e12.ai 1 0) (e12.ai 1 1) (Ag e12 0 0) 2),.i z18,.i z19,.b (apU (e12.ai 1 0) (e12.ai 1 1)
  (Ag e12 0 0) 3),.i z20,.i z21,.b (apU (e12.ai 1 0) (e12.ai 1 1) (Ag e12 0 0) 4),.i z22,.i z23],[.i 0]],[]⟩ fun e25=>.must (mIs (e25.ai 0 0) (Av e25 0 0) (BF e25 0 0)) (.must (!decide (e25.ai 1 0≥4))
  (.defI ((actM (e25.ai 0 0) (Ag e25 0 0) (Av e25 0 0) (BF e25 0 0) (e25.ai 1 0)).length:Int) fun z26=>.must (!j.1 0==0) (.defI (IntKind.i64.wrap (j.1 0 - 1)) fun z27=>.must (decide (0≤z27∧z27<j.1 0))
  (.must (decide (0≤z27∧z27<j.1 0)) (.must (decide ((z27.toNat:Int)=j.1 0 - 1)) (.must (AX [.i .i64] (fun (t:Nat)=>[.int .i64 (.sym (j.5 0 t))]) (j.4 0).toNat) (.must (AX [.i .i64] (AI [.i .i64]
  (AR ((actM (e25.ai 0 0) (Ag e25 0 0) (Av e25 0 0) (BF e25 0 0) (e25.ai 1 0))))) z26.toNat) (.defE ⟨[[.u],[.u]],[.lst (j.4 0).toNat (AH [.i .i64] fun (t:Nat)=>[.int .i64 (.sym (j.5 0 t))]),.lst
  z26.toNat (AH [.i .i64] (AI [.i .i64] (AR ((actM (e25.ai 0 0) (Ag e25 0 0) (Av e25 0 0) (BF e25 0 0) (e25.ai 1 0))))))]⟩ fun e28=>.must (decide (((e28.ln 0):Int)<1000000)) (.ite (!eqI (Ax (e28.ln
  0) (e28.rw 0)) (Ax (e28.ln 1) (e28.rw 1))) (.must (decide ((j.1 0+1) * 32≤1099511627776∧j.1 0+1≤1099511627776)) (.defE ⟨[[.i z13,.b (apU (e12.ai 1 0) (e12.ai 1 1) (Ag e12 0 0) 0),.i z14,.i z15,.b (apU
  (e12.ai 1 0) (e12.ai 1 1) (Ag e12 0 0) 1),.i z16,.i z17,.b (apU (e12.ai 1 0) (e12.ai 1 1) (Ag e12 0 0) 2),.i z18,.i z19,.b (apU (e12.ai 1 0) (e12.ai 1 1) (Ag e12 0 0) 3),.i z20,.i z21,.b (apU (e12.ai 1 0)
  (e12.ai 1 1) (Ag e12 0 0) 4),.i z22,.i z23],[.i 1]],[]⟩ fun e29=>.must (mIs (e29.ai 0 0) (Av e29 0 0) (BF e29 0 0)) (.must (!decide (e29.ai 1 0≥4)) (.defI ((actM (e29.ai 0 0) (Ag e29 0 0) (Av e29 0 0)
  (BF e29 0 0) (e29.ai 1 0)).length:Int) fun z30=>.must (!j.1 1==0) (.defI (IntKind.i64.wrap (j.1 1 - 1)) fun z31=>.must (decide (0≤z31∧z31<j.1 1)) (.must (decide (0≤z31∧z31<j.1 1)) (.must (decide
  ((z31.toNat:Int)=j.1 1 - 1)) (.must (AX [.i .i64] (fun (t:Nat)=>[.int .i64 (.sym (j.5 1 t))]) (j.4 1).toNat) (.must (AX [.i .i64] (AI [.i .i64] (AR ((actM (e29.ai 0 0) (Ag e29 0 0) (Av e29 0 0)
  (BF e29 0 0) (e29.ai 1 0))))) z30.toNat) (.defE ⟨[[.u],[.u]],[.lst (j.4 1).toNat (AH [.i .i64] fun (t:Nat)=>[.int .i64 (.sym (j.5 1 t))]),.lst z30.toNat (AH [.i .i64] (AI [.i .i64] (AR ((actM
  (e29.ai 0 0) (Ag e29 0 0) (Av e29 0 0) (BF e29 0 0) (e29.ai 1 0))))))]⟩ fun e32=>.must (decide (((e32.ln 0):Int)<1000000)) (.ite (!eqI (Ax (e32.ln 0) (e32.rw 0)) (Ax (e32.ln 1) (e32.rw 1))) (.must (decide
  ((j.1 1+1) * 32≤1099511627776∧j.1 1+1≤1099511627776)) (.defE ⟨[[.i z13,.b (apU (e12.ai 1 0) (e12.ai 1 1) (Ag e12 0 0) 0),.i z14,.i z15,.b (apU (e12.ai 1 0) (e12.ai 1 1) (Ag e12 0 0) 1),.i z16,.i z17,
  .b (apU (e12.ai 1 0) (e12.ai 1 1) (Ag e12 0 0) 2),.i z18,.i z19,.b (apU (e12.ai 1 0) (e12.ai 1 1) (Ag e12 0 0) 3),.i z20,.i z21,.b (apU (e12.ai 1 0) (e12.ai 1 1) (Ag e12 0 0) 4),.i z22,.i z23],[.i 2]],[]⟩
  fun e33=>.must (mIs (e33.ai 0 0) (Av e33 0 0) (BF e33 0 0)) (.must (!decide (e33.ai 1 0≥4)) (.defI ((actM (e33.ai 0 0) (Ag e33 0 0) (Av e33 0 0) (BF e33 0 0) (e33.ai 1 0)).length:Int) fun z34=>.must
  (!j.1 2==0) (.defI (IntKind.i64.wrap (j.1 2 - 1)) fun z35=>.must (decide (0≤z35∧z35<j.1 2)) (.must (decide (0≤z35∧z35<j.1 2)) (.must (decide ((z35.toNat:Int)=j.1 2 - 1)) (.must (AX [.i .i64] (fun
  (t:Nat)=>[.int .i64 (.sym (j.5 2 t))]) (j.4 2).toNat) (.must (AX [.i .i64] (AI [.i .i64] (AR ((actM (e33.ai 0 0) (Ag e33 0 0) (Av e33 0 0) (BF e33 0 0) (e33.ai 1 0))))) z34.toNat) (.defE ⟨[[.u],[.u]],
  [.lst (j.4 2).toNat (AH [.i .i64] fun (t:Nat)=>[.int .i64 (.sym (j.5 2 t))]),.lst z34.toNat (AH [.i .i64] (AI [.i .i64] (AR ((actM (e33.ai 0 0) (Ag e33 0 0) (Av e33 0 0) (BF e33 0 0) (e33.ai 1
  0))))))]⟩ fun e36=>.must (decide (((e36.ln 0):Int)<1000000)) (.ite (!eqI (Ax (e36.ln 0) (e36.rw 0)) (Ax (e36.ln 1) (e36.rw 1))) (.must (decide ((j.1 2+1) * 32≤1099511627776∧j.1 2+1≤1099511627776))
  (.defE ⟨[[.i z13,.b (apU (e12.ai 1 0) (e12.ai 1 1) (Ag e12 0 0) 0),.i z14,.i z15,.b (apU (e12.ai 1 0) (e12.ai 1 1) (Ag e12 0 0) 1),.i z16,.i z17,.b (apU (e12.ai 1 0) (e12.ai 1 1) (Ag e12 0 0) 2),.i z18,.i
  z19,.b (apU (e12.ai 1 0) (e12.ai 1 1) (Ag e12 0 0) 3),.i z20,.i z21,.b (apU (e12.ai 1 0) (e12.ai 1 1) (Ag e12 0 0) 4),.i z22,.i z23],[.i 3]],[]⟩ fun e37=>.must (mIs (e37.ai 0 0) (Av e37 0 0) (BF e37 0
  0)) (.must (!decide (e37.ai 1 0≥4)) (.defI ((actM (e37.ai 0 0) (Ag e37 0 0) (Av e37 0 0) (BF e37 0 0) (e37.ai 1 0)).length:Int) fun z38=>.must (!j.1 3==0) (.defI (IntKind.i64.wrap (j.1 3 - 1)) fun z39 =>
  .must (decide (0≤z39∧z39<j.1 3)) (.must (decide (0≤z39∧z39<j.1 3)) (.must (decide ((z39.toNat:Int)=j.1 3 - 1)) (.must (AX [.i .i64] (fun (t:Nat)=>[.int .i64 (.sym (j.5 3 t))]) (j.4 3).toNat) (.must
  (AX [.i .i64] (AI [.i .i64] (AR ((actM (e37.ai 0 0) (Ag e37 0 0) (Av e37 0 0) (BF e37 0 0) (e37.ai 1 0))))) z38.toNat) (.defE ⟨[[.u],[.u]],[.lst (j.4 3).toNat (AH [.i .i64] fun (t:Nat)=>[.int
  .i64 (.sym (j.5 3 t))]),.lst z38.toNat (AH [.i .i64] (AI [.i .i64] (AR ((actM (e37.ai 0 0) (Ag e37 0 0) (Av e37 0 0) (BF e37 0 0) (e37.ai 1 0))))))]⟩ fun e40=>.must (decide (((e40.ln 0):Int) <
  1000000)) (.ite (!eqI (Ax (e40.ln 0) (e40.rw 0)) (Ax (e40.ln 1) (e40.rw 1))) (.must (decide ((j.1 3+1) * 32≤1099511627776∧j.1 3+1≤1099511627776)) (.leaf (.int .i64 (.lit 0),[(0,some (.box [.mref 1,.mref
  2,.int .u32 (.sym z13),.sl 214,.sl 302,.sl 390,.sl 478])),(478,some (.lst (.sym (j.1 3+1)) 2 (AP (.sym (j.1 3)) (fun (t:Nat)=>[.int .u32 (.sym (j.2 3 t)),.slIf (decide ((t:Int)=j.1 3 - 1)) 14 (j.3
  3 t)]) (Aa 2 [.int .u32 (.sym z13),.sl 415])) (some 477))),(477,some Ai.tok),(476,some (.lst (.lit 1) 2 (Aa 2 [.int .u32 (.sym z13),.sl 415]) (some 475))),(475,some Ai.tok),(415,some (.lst (.sym z38)
  1 (AI [.i .i64] (AR ((actM (e37.ai 0 0) (Ag e37 0 0) (Av e37 0 0) (BF e37 0 0) (e37.ai 1 0))))) (some 416))),(416,some Ai.tok),(390,some (.lst (.sym (j.1 2+1)) 2 (AP (.sym (j.1 2)) (fun (t:Nat)
  => [.int .u32 (.sym (j.2 2 t)),.slIf (decide ((t:Int)=j.1 2 - 1)) 13 (j.3 2 t)]) (Aa 2 [.int .u32 (.sym z13),.sl 327])) (some 389))),(389,some Ai.tok),(388,some (.lst (.lit 1) 2 (Aa 2 [.int .u32 (.sym
  z13),.sl 327]) (some 387))),(387,some Ai.tok),(327,some (.lst (.sym z34) 1 (AI [.i .i64] (AR ((actM (e33.ai 0 0) (Ag e33 0 0) (Av e33 0 0) (BF e33 0 0) (e33.ai 1 0))))) (some 328))),(328,some
  Ai.tok),(302,some (.lst (.sym (j.1 1+1)) 2 (AP (.sym (j.1 1)) (fun (t:Nat)=>[.int .u32 (.sym (j.2 1 t)),.slIf (decide ((t:Int)=j.1 1 - 1)) 12 (j.3 1 t)]) (Aa 2 [.int .u32 (.sym z13),.sl 239]))
  (some 301))),(301,some Ai.tok),(300,some (.lst (.lit 1) 2 (Aa 2 [.int .u32 (.sym z13),.sl 239]) (some 299))),(299,some Ai.tok),(239,some (.lst (.sym z30) 1 (AI [.i .i64] (AR ((actM (e29.ai 0 0) (Ag
  e29 0 0) (Av e29 0 0) (BF e29 0 0) (e29.ai 1 0))))) (some 240))),(240,some Ai.tok),(214,some (.lst (.sym (j.1 0+1)) 2 (AP (.sym (j.1 0)) (fun (t:Nat)=>[.int .u32 (.sym (j.2 0 t)),.slIf (decide ((t :
  Int)=j.1 0 - 1)) 11 (j.3 0 t)]) (Aa 2 [.int .u32 (.sym z13),.sl 151])) (some 213))),(213,some Ai.tok),(212,some (.lst (.lit 1) 2 (Aa 2 [.int .u32 (.sym z13),.sl 151]) (some 211))),(211,some Ai.tok),
  (151,some (.lst (.sym z26) 1 (AI [.i .i64] (AR ((actM (e25.ai 0 0) (Ag e25 0 0) (Av e25 0 0) (BF e25 0 0) (e25.ai 1 0))))) (some 152))),(152,some Ai.tok),(1,some (.mp (.lit 1) (.sym ((incs.length:Int)
  + 1+1)) (pushV (.sym ((incs.length:Int)+1)) (mapA incs) (.agg [.int .u32 (.sym z13),.bool (.sym (apU (e12.ai 1 0) (e12.ai 1 1) (Ag e12 0 0) 0)),.int .i64 (.sym z14),.int .u8 (.sym z15),.bool (.sym (apU
  (e12.ai 1 0) (e12.ai 1 1) (Ag e12 0 0) 1)),.int .i64 (.sym z16),.int .u8 (.sym z17),.bool (.sym (apU (e12.ai 1 0) (e12.ai 1 1) (Ag e12 0 0) 2)),.int .i64 (.sym z18),.int .u8 (.sym z19),.bool (.sym (apU (e12.ai
  1 0) (e12.ai 1 1) (Ag e12 0 0) 3)),.int .i64 (.sym z20),.int .u8 (.sym z21),.bool (.sym (apU (e12.ai 1 0) (e12.ai 1 1) (Ag e12 0 0) 4)),.int .i64 (.sym z22),.int .u8 (.sym z23)])))),(2,some (.mp (.lit 2) (.sym
  ((incs.length:Int)+1)) (pushV (.sym (incs.length:Int)) (incA incs) (.agg [.int .u8 (.sym k),.int .u8 (.sym o),.int .i64 (.sym n)])))),(1,some (.mp (.lit 1) (.sym ((incs.length:Int)+1+1)) (pushV (.sym
  ((incs.length:Int)+1)) (mapA incs) (.agg [.int .u32 (.sym z13),.bool (.sym (apU (e12.ai 1 0) (e12.ai 1 1) (Ag e12 0 0) 0)),.int .i64 (.sym z14),.int .u8 (.sym z15),.bool (.sym (apU (e12.ai 1 0) (e12.ai 1 1)
  (Ag e12 0 0) 1)),.int .i64 (.sym z16),.int .u8 (.sym z17),.bool (.sym (apU (e12.ai 1 0) (e12.ai 1 1) (Ag e12 0 0) 2)),.int .i64 (.sym z18),.int .u8 (.sym z19),.bool (.sym (apU (e12.ai 1 0) (e12.ai 1 1) (Ag
  e12 0 0) 3)),.int .i64 (.sym z20),.int .u8 (.sym z21),.bool (.sym (apU (e12.ai 1 0) (e12.ai 1 1) (Ag e12 0 0) 4)),.int .i64 (.sym z22),.int .u8 (.sym z23)])))),(2,some (.mp (.lit 2) (.sym ((incs.length:Int) +
  1)) (pushV (.sym (incs.length:Int)) (incA incs) (.agg [.int .u8 (.sym k),.int .u8 (.sym o),.int .i64 (.sym n)])))),(3,some (.lst (.sym (j.1 0)) 2 (fun (t:Nat)=>[.int .u32 (.sym (j.2 0 t)),.slIf (decide ((t :
  Int)=j.1 0 - 1)) 11 (j.3 0 t)]) (some 7))),(7,none),(4,some (.lst (.sym (j.1 1)) 2 (fun (t:Nat)=>[.int .u32 (.sym (j.2 1 t)),.slIf (decide ((t:Int)=j.1 1 - 1)) 12 (j.3 1 t)]) (some 8))),(8,none),(5,
  some (.lst (.sym (j.1 2)) 2 (fun (t:Nat)=>[.int .u32 (.sym (j.2 2 t)),.slIf (decide ((t:Int)=j.1 2 - 1)) 13 (j.3 2 t)]) (some 9))),(9,none),(6,some (.lst (.sym (j.1 3)) 2 (fun (t:Nat)=>[.int .u32 (.sym
  (j.2 3 t)),.slIf (decide ((t:Int)=j.1 3 - 1)) 14 (j.3 3 t)]) (some 10))),(10,none),(11,some (.lst (.sym (j.4 0)) 1 (fun (t:Nat)=>[.int .i64 (.sym (j.5 0 t))]) (some 15))),(15,some Ai.tok),(12,some
  (.lst (.sym (j.4 1)) 1 (fun (t:Nat)=>[.int .i64 (.sym (j.5 1 t))]) (some 16))),(16,some Ai.tok),(13,some (.lst (.sym (j.4 2)) 1 (fun (t:Nat)=>[.int .i64 (.sym (j.5 2 t))]) (some 17))),(17,some Ai.tok),
  (14,some (.lst (.sym (j.4 3)) 1 (fun (t:Nat)=>[.int .i64 (.sym (j.5 3 t))]) (some 18))),(18,some Ai.tok)]))) (.leaf (.int .i64 (.lit 0),[(0,some (.box [.mref 1,.mref 2,.int .u32 (.sym z13),.sl 214,.sl 302,
  .sl 390,.sl 6])),(415,some (.lst (.sym z38) 1 (AI [.i .i64] (AR ((actM (e37.ai 0 0) (Ag e37 0 0) (Av e37 0 0) (BF e37 0 0) (e37.ai 1 0))))) (some 416))),(416,some Ai.tok),(390,some (.lst (.sym (j.1 2
  + 1)) 2 (AP (.sym (j.1 2)) (fun (t:Nat)=>[.int .u32 (.sym (j.2 2 t)),.slIf (decide ((t:Int)=j.1 2 - 1)) 13 (j.3 2 t)]) (Aa 2 [.int .u32 (.sym z13),.sl 327])) (some 389))),(389,some Ai.tok),(388,
  some (.lst (.lit 1) 2 (Aa 2 [.int .u32 (.sym z13),.sl 327]) (some 387))),(387,some Ai.tok),(327,some (.lst (.sym z34) 1 (AI [.i .i64] (AR ((actM (e33.ai 0 0) (Ag e33 0 0) (Av e33 0 0) (BF e33 0 0)
  (e33.ai 1 0))))) (some 328))),(328,some Ai.tok),(302,some (.lst (.sym (j.1 1+1)) 2 (AP (.sym (j.1 1)) (fun (t:Nat)=>[.int .u32 (.sym (j.2 1 t)),.slIf (decide ((t:Int)=j.1 1 - 1)) 12 (j.3 1 t)])
  (Aa 2 [.int .u32 (.sym z13),.sl 239])) (some 301))),(301,some Ai.tok),(300,some (.lst (.lit 1) 2 (Aa 2 [.int .u32 (.sym z13),.sl 239]) (some 299))),(299,some Ai.tok),(239,some (.lst (.sym z30) 1
  (AI [.i .i64] (AR ((actM (e29.ai 0 0) (Ag e29 0 0) (Av e29 0 0) (BF e29 0 0) (e29.ai 1 0))))) (some 240))),(240,some Ai.tok),(214,some (.lst (.sym (j.1 0+1)) 2 (AP (.sym (j.1 0)) (fun (t:Nat) =>
  [.int .u32 (.sym (j.2 0 t)),.slIf (decide ((t:Int)=j.1 0 - 1)) 11 (j.3 0 t)]) (Aa 2 [.int .u32 (.sym z13),.sl 151])) (some 213))),(213,some Ai.tok),(212,some (.lst (.lit 1) 2 (Aa 2 [.int .u32 (.sym
  z13),.sl 151]) (some 211))),(211,some Ai.tok),(151,some (.lst (.sym z26) 1 (AI [.i .i64] (AR ((actM (e25.ai 0 0) (Ag e25 0 0) (Av e25 0 0) (BF e25 0 0) (e25.ai 1 0))))) (some 152))),(152,some
  Ai.tok),(1,some (.mp (.lit 1) (.sym ((incs.length:Int)+1+1)) (pushV (.sym ((incs.length:Int)+1)) (mapA incs) (.agg [.int .u32 (.sym z13),.bool (.sym (apU (e12.ai 1 0) (e12.ai 1 1) (Ag e12 0 0) 0)),.int
  .i64 (.sym z14),.int .u8 (.sym z15),.bool (.sym (apU (e12.ai 1 0) (e12.ai 1 1) (Ag e12 0 0) 1)),.int .i64 (.sym z16),.int .u8 (.sym z17),.bool (.sym (apU (e12.ai 1 0) (e12.ai 1 1) (Ag e12 0 0) 2)),.int .i64
  (.sym z18),.int .u8 (.sym z19),.bool (.sym (apU (e12.ai 1 0) (e12.ai 1 1) (Ag e12 0 0) 3)),.int .i64 (.sym z20),.int .u8 (.sym z21),.bool (.sym (apU (e12.ai 1 0) (e12.ai 1 1) (Ag e12 0 0) 4)),.int .i64 (.sym
  z22),.int .u8 (.sym z23)])))),(2,some (.mp (.lit 2) (.sym ((incs.length:Int)+1)) (pushV (.sym (incs.length:Int)) (incA incs) (.agg [.int .u8 (.sym k),.int .u8 (.sym o),.int .i64 (.sym n)])))),(1,some (.mp
  (.lit 1) (.sym ((incs.length:Int)+1+1)) (pushV (.sym ((incs.length:Int)+1)) (mapA incs) (.agg [.int .u32 (.sym z13),.bool (.sym (apU (e12.ai 1 0) (e12.ai 1 1) (Ag e12 0 0) 0)),.int .i64 (.sym z14),.int .u8
  (.sym z15),.bool (.sym (apU (e12.ai 1 0) (e12.ai 1 1) (Ag e12 0 0) 1)),.int .i64 (.sym z16),.int .u8 (.sym z17),.bool (.sym (apU (e12.ai 1 0) (e12.ai 1 1) (Ag e12 0 0) 2)),.int .i64 (.sym z18),.int .u8 (.sym
  z19),.bool (.sym (apU (e12.ai 1 0) (e12.ai 1 1) (Ag e12 0 0) 3)),.int .i64 (.sym z20),.int .u8 (.sym z21),.bool (.sym (apU (e12.ai 1 0) (e12.ai 1 1) (Ag e12 0 0) 4)),.int .i64 (.sym z22),.int .u8 (.sym
  z23)])))),(2,some (.mp (.lit 2) (.sym ((incs.length:Int)+1)) (pushV (.sym (incs.length:Int)) (incA incs) (.agg [.int .u8 (.sym k),.int .u8 (.sym o),.int .i64 (.sym n)])))),(3,some (.lst (.sym (j.1 0)) 2 (fun
  (t:Nat)=>[.int .u32 (.sym (j.2 0 t)),.slIf (decide ((t:Int)=j.1 0 - 1)) 11 (j.3 0 t)]) (some 7))),(7,none),(4,some (.lst (.sym (j.1 1)) 2 (fun (t:Nat)=>[.int .u32 (.sym (j.2 1 t)),.slIf (decide ((t :
  Int)=j.1 1 - 1)) 12 (j.3 1 t)]) (some 8))),(8,none),(5,some (.lst (.sym (j.1 2)) 2 (fun (t:Nat)=>[.int .u32 (.sym (j.2 2 t)),.slIf (decide ((t:Int)=j.1 2 - 1)) 13 (j.3 2 t)]) (some 9))),(9,none),(6,
  some (.lst (.sym (j.1 3)) 2 (fun (t:Nat)=>[.int .u32 (.sym (j.2 3 t)),.slIf (decide ((t:Int)=j.1 3 - 1)) 14 (j.3 3 t)]) (some 10))),(10,some Ai.tok),(11,some (.lst (.sym (j.4 0)) 1 (fun (t:Nat)=>[.int
  .i64 (.sym (j.5 0 t))]) (some 15))),(15,some Ai.tok),(12,some (.lst (.sym (j.4 1)) 1 (fun (t:Nat)=>[.int .i64 (.sym (j.5 1 t))]) (some 16))),(16,some Ai.tok),(13,some (.lst (.sym (j.4 2)) 1 (fun (t:Nat)
  => [.int .i64 (.sym (j.5 2 t))]) (some 17))),(17,some Ai.tok),(14,some (.lst (.sym (j.4 3)) 1 (fun (t:Nat)=>[.int .i64 (.sym (j.5 3 t))]) (some 18))),(18,some Ai.tok)]))))))))))))) (.defE ⟨[[.i z13,.b (apU
  (e12.ai 1 0) (e12.ai 1 1) (Ag e12 0 0) 0),.i z14,.i z15,.b (apU (e12.ai 1 0) (e12.ai 1 1) (Ag e12 0 0) 1),.i z16,.i z17,.b (apU (e12.ai 1 0) (e12.ai 1 1) (Ag e12 0 0) 2),.i z18,.i z19,.b (apU (e12.ai 1 0)
  (e12.ai 1 1) (Ag e12 0 0) 3),.i z20,.i z21,.b (apU (e12.ai 1 0) (e12.ai 1 1) (Ag e12 0 0) 4),.i z22,.i z23],[.i 3]],[]⟩ fun e41=>.must (mIs (e41.ai 0 0) (Av e41 0 0) (BF e41 0 0)) (.must (!decide (e41.ai
  1 0≥4)) (.defI ((actM (e41.ai 0 0) (Ag e41 0 0) (Av e41 0 0) (BF e41 0 0) (e41.ai 1 0)).length:Int) fun z42=>.must (!j.1 3==0) (.defI (IntKind.i64.wrap (j.1 3 - 1)) fun z43=>.must (decide (0≤z43∧z43 <
  j.1 3)) (.must (decide (0≤z43∧z43<j.1 3)) (.must (decide ((z43.toNat:Int)=j.1 3 - 1)) (.must (AX [.i .i64] (fun (t:Nat)=>[.int .i64 (.sym (j.5 3 t))]) (j.4 3).toNat) (.must (AX [.i .i64] (AI [.i
  .i64] (AR ((actM (e41.ai 0 0) (Ag e41 0 0) (Av e41 0 0) (BF e41 0 0) (e41.ai 1 0))))) z42.toNat) (.defE ⟨[[.u],[.u]],[.lst (j.4 3).toNat (AH [.i .i64] fun (t:Nat)=>[.int .i64 (.sym (j.5 3 t))]),.lst
  z42.toNat (AH [.i .i64] (AI [.i .i64] (AR ((actM (e41.ai 0 0) (Ag e41 0 0) (Av e41 0 0) (BF e41 0 0) (e41.ai 1 0))))))]⟩ fun e44=>.must (decide (((e44.ln 0):Int)<1000000)) (.ite (!eqI (Ax (e44.ln
  0) (e44.rw 0)) (Ax (e44.ln 1) (e44.rw 1))) (.must (decide ((j.1 3+1) * 32≤1099511627776∧j.1 3+1≤1099511627776)) (.leaf (.int .i64 (.lit 0),[(0,some (.box [.mref 1,.mref 2,.int .u32 (.sym z13),.sl 214,
  .sl 302,.sl 5,.sl 452])),(452,some (.lst (.sym (j.1 3+1)) 2 (AP (.sym (j.1 3)) (fun (t:Nat)=>[.int .u32 (.sym (j.2 3 t)),.slIf (decide ((t:Int)=j.1 3 - 1)) 14 (j.3 3 t)]) (Aa 2 [.int .u32 (.sym
  z13),.sl 389])) (some 451))),(451,some Ai.tok),(450,some (.lst (.lit 1) 2 (Aa 2 [.int .u32 (.sym z13),.sl 389]) (some 449))),(449,some Ai.tok),(389,some (.lst (.sym z42) 1 (AI [.i .i64] (AR ((actM
  (e41.ai 0 0) (Ag e41 0 0) (Av e41 0 0) (BF e41 0 0) (e41.ai 1 0))))) (some 390))),(390,some Ai.tok),(327,some (.lst (.sym z34) 1 (AI [.i .i64] (AR ((actM (e33.ai 0 0) (Ag e33 0 0) (Av e33 0 0) (BF
  e33 0 0) (e33.ai 1 0))))) (some 328))),(328,some Ai.tok),(302,some (.lst (.sym (j.1 1+1)) 2 (AP (.sym (j.1 1)) (fun (t:Nat)=>[.int .u32 (.sym (j.2 1 t)),.slIf (decide ((t:Int)=j.1 1 - 1)) 12 (j.3 1
  t)]) (Aa 2 [.int .u32 (.sym z13),.sl 239])) (some 301))),(301,some Ai.tok),(300,some (.lst (.lit 1) 2 (Aa 2 [.int .u32 (.sym z13),.sl 239]) (some 299))),(299,some Ai.tok),(239,some (.lst (.sym z30) 1
  (AI [.i .i64] (AR ((actM (e29.ai 0 0) (Ag e29 0 0) (Av e29 0 0) (BF e29 0 0) (e29.ai 1 0))))) (some 240))),(240,some Ai.tok),(214,some (.lst (.sym (j.1 0+1)) 2 (AP (.sym (j.1 0)) (fun (t:Nat) =>
  [.int .u32 (.sym (j.2 0 t)),.slIf (decide ((t:Int)=j.1 0 - 1)) 11 (j.3 0 t)]) (Aa 2 [.int .u32 (.sym z13),.sl 151])) (some 213))),(213,some Ai.tok),(212,some (.lst (.lit 1) 2 (Aa 2 [.int .u32 (.sym
  z13),.sl 151]) (some 211))),(211,some Ai.tok),(151,some (.lst (.sym z26) 1 (AI [.i .i64] (AR ((actM (e25.ai 0 0) (Ag e25 0 0) (Av e25 0 0) (BF e25 0 0) (e25.ai 1 0))))) (some 152))),(152,some
  Ai.tok),(1,some (.mp (.lit 1) (.sym ((incs.length:Int)+1+1)) (pushV (.sym ((incs.length:Int)+1)) (mapA incs) (.agg [.int .u32 (.sym z13),.bool (.sym (apU (e12.ai 1 0) (e12.ai 1 1) (Ag e12 0 0) 0)),.int
  .i64 (.sym z14),.int .u8 (.sym z15),.bool (.sym (apU (e12.ai 1 0) (e12.ai 1 1) (Ag e12 0 0) 1)),.int .i64 (.sym z16),.int .u8 (.sym z17),.bool (.sym (apU (e12.ai 1 0) (e12.ai 1 1) (Ag e12 0 0) 2)),.int .i64
  (.sym z18),.int .u8 (.sym z19),.bool (.sym (apU (e12.ai 1 0) (e12.ai 1 1) (Ag e12 0 0) 3)),.int .i64 (.sym z20),.int .u8 (.sym z21),.bool (.sym (apU (e12.ai 1 0) (e12.ai 1 1) (Ag e12 0 0) 4)),.int .i64 (.sym
  z22),.int .u8 (.sym z23)])))),(2,some (.mp (.lit 2) (.sym ((incs.length:Int)+1)) (pushV (.sym (incs.length:Int)) (incA incs) (.agg [.int .u8 (.sym k),.int .u8 (.sym o),.int .i64 (.sym n)])))),(1,some (.mp
  (.lit 1) (.sym ((incs.length:Int)+1+1)) (pushV (.sym ((incs.length:Int)+1)) (mapA incs) (.agg [.int .u32 (.sym z13),.bool (.sym (apU (e12.ai 1 0) (e12.ai 1 1) (Ag e12 0 0) 0)),.int .i64 (.sym z14),.int .u8
  (.sym z15),.bool (.sym (apU (e12.ai 1 0) (e12.ai 1 1) (Ag e12 0 0) 1)),.int .i64 (.sym z16),.int .u8 (.sym z17),.bool (.sym (apU (e12.ai 1 0) (e12.ai 1 1) (Ag e12 0 0) 2)),.int .i64 (.sym z18),.int .u8 (.sym
  z19),.bool (.sym (apU (e12.ai 1 0) (e12.ai 1 1) (Ag e12 0 0) 3)),.int .i64 (.sym z20),.int .u8 (.sym z21),.bool (.sym (apU (e12.ai 1 0) (e12.ai 1 1) (Ag e12 0 0) 4)),.int .i64 (.sym z22),.int .u8 (.sym
  z23)])))),(2,some (.mp (.lit 2) (.sym ((incs.length:Int)+1)) (pushV (.sym (incs.length:Int)) (incA incs) (.agg [.int .u8 (.sym k),.int .u8 (.sym o),.int .i64 (.sym n)])))),(3,some (.lst (.sym (j.1 0)) 2 (fun
  (t:Nat)=>[.int .u32 (.sym (j.2 0 t)),.slIf (decide ((t:Int)=j.1 0 - 1)) 11 (j.3 0 t)]) (some 7))),(7,none),(4,some (.lst (.sym (j.1 1)) 2 (fun (t:Nat)=>[.int .u32 (.sym (j.2 1 t)),.slIf (decide ((t :
  Int)=j.1 1 - 1)) 12 (j.3 1 t)]) (some 8))),(8,none),(5,some (.lst (.sym (j.1 2)) 2 (fun (t:Nat)=>[.int .u32 (.sym (j.2 2 t)),.slIf (decide ((t:Int)=j.1 2 - 1)) 13 (j.3 2 t)]) (some 9))),(9,some
  Ai.tok),(6,some (.lst (.sym (j.1 3)) 2 (fun (t:Nat)=>[.int .u32 (.sym (j.2 3 t)),.slIf (decide ((t:Int)=j.1 3 - 1)) 14 (j.3 3 t)]) (some 10))),(10,none),(11,some (.lst (.sym (j.4 0)) 1 (fun (t:Nat) =>
  [.int .i64 (.sym (j.5 0 t))]) (some 15))),(15,some Ai.tok),(12,some (.lst (.sym (j.4 1)) 1 (fun (t:Nat)=>[.int .i64 (.sym (j.5 1 t))]) (some 16))),(16,some Ai.tok),(13,some (.lst (.sym (j.4 2)) 1 (fun (t
  : Nat)=>[.int .i64 (.sym (j.5 2 t))]) (some 17))),(17,some Ai.tok),(14,some (.lst (.sym (j.4 3)) 1 (fun (t:Nat)=>[.int .i64 (.sym (j.5 3 t))]) (some 18))),(18,some Ai.tok)]))) (.leaf (.int .i64 (.lit 0),
  [(0,some (.box [.mref 1,.mref 2,.int .u32 (.sym z13),.sl 214,.sl 302,.sl 5,.sl 6])),(389,some (.lst (.sym z42) 1 (AI [.i .i64] (AR ((actM (e41.ai 0 0) (Ag e41 0 0) (Av e41 0 0) (BF e41 0 0) (e41.ai 1
  0))))) (some 390))),(390,some Ai.tok),(327,some (.lst (.sym z34) 1 (AI [.i .i64] (AR ((actM (e33.ai 0 0) (Ag e33 0 0) (Av e33 0 0) (BF e33 0 0) (e33.ai 1 0))))) (some 328))),(328,some Ai.tok),(302,
  some (.lst (.sym (j.1 1+1)) 2 (AP (.sym (j.1 1)) (fun (t:Nat)=>[.int .u32 (.sym (j.2 1 t)),.slIf (decide ((t:Int)=j.1 1 - 1)) 12 (j.3 1 t)]) (Aa 2 [.int .u32 (.sym z13),.sl 239])) (some 301))),(301,
  some Ai.tok),(300,some (.lst (.lit 1) 2 (Aa 2 [.int .u32 (.sym z13),.sl 239]) (some 299))),(299,some Ai.tok),(239,some (.lst (.sym z30) 1 (AI [.i .i64] (AR ((actM (e29.ai 0 0) (Ag e29 0 0) (Av e29
  0 0) (BF e29 0 0) (e29.ai 1 0))))) (some 240))),(240,some Ai.tok),(214,some (.lst (.sym (j.1 0+1)) 2 (AP (.sym (j.1 0)) (fun (t:Nat)=>[.int .u32 (.sym (j.2 0 t)),.slIf (decide ((t:Int)=j.1 0 - 1))
  11 (j.3 0 t)]) (Aa 2 [.int .u32 (.sym z13),.sl 151])) (some 213))),(213,some Ai.tok),(212,some (.lst (.lit 1) 2 (Aa 2 [.int .u32 (.sym z13),.sl 151]) (some 211))),(211,some Ai.tok),(151,some (.lst
  (.sym z26) 1 (AI [.i .i64] (AR ((actM (e25.ai 0 0) (Ag e25 0 0) (Av e25 0 0) (BF e25 0 0) (e25.ai 1 0))))) (some 152))),(152,some Ai.tok),(1,some (.mp (.lit 1) (.sym ((incs.length:Int)+1+1)) (pushV
  (.sym ((incs.length:Int)+1)) (mapA incs) (.agg [.int .u32 (.sym z13),.bool (.sym (apU (e12.ai 1 0) (e12.ai 1 1) (Ag e12 0 0) 0)),.int .i64 (.sym z14),.int .u8 (.sym z15),.bool (.sym (apU (e12.ai 1 0) (e12.ai 1
  1) (Ag e12 0 0) 1)),.int .i64 (.sym z16),.int .u8 (.sym z17),.bool (.sym (apU (e12.ai 1 0) (e12.ai 1 1) (Ag e12 0 0) 2)),.int .i64 (.sym z18),.int .u8 (.sym z19),.bool (.sym (apU (e12.ai 1 0) (e12.ai 1 1) (Ag
  e12 0 0) 3)),.int .i64 (.sym z20),.int .u8 (.sym z21),.bool (.sym (apU (e12.ai 1 0) (e12.ai 1 1) (Ag e12 0 0) 4)),.int .i64 (.sym z22),.int .u8 (.sym z23)])))),(2,some (.mp (.lit 2) (.sym ((incs.length:Int) +
  1)) (pushV (.sym (incs.length:Int)) (incA incs) (.agg [.int .u8 (.sym k),.int .u8 (.sym o),.int .i64 (.sym n)])))),(1,some (.mp (.lit 1) (.sym ((incs.length:Int)+1+1)) (pushV (.sym ((incs.length:Int)+1))
  (mapA incs) (.agg [.int .u32 (.sym z13),.bool (.sym (apU (e12.ai 1 0) (e12.ai 1 1) (Ag e12 0 0) 0)),.int .i64 (.sym z14),.int .u8 (.sym z15),.bool (.sym (apU (e12.ai 1 0) (e12.ai 1 1) (Ag e12 0 0) 1)),.int .i64
  (.sym z16),.int .u8 (.sym z17),.bool (.sym (apU (e12.ai 1 0) (e12.ai 1 1) (Ag e12 0 0) 2)),.int .i64 (.sym z18),.int .u8 (.sym z19),.bool (.sym (apU (e12.ai 1 0) (e12.ai 1 1) (Ag e12 0 0) 3)),.int .i64 (.sym
  z20),.int .u8 (.sym z21),.bool (.sym (apU (e12.ai 1 0) (e12.ai 1 1) (Ag e12 0 0) 4)),.int .i64 (.sym z22),.int .u8 (.sym z23)])))),(2,some (.mp (.lit 2) (.sym ((incs.length:Int)+1)) (pushV (.sym (incs.length
  : Int)) (incA incs) (.agg [.int .u8 (.sym k),.int .u8 (.sym o),.int .i64 (.sym n)])))),(3,some (.lst (.sym (j.1 0)) 2 (fun (t:Nat)=>[.int .u32 (.sym (j.2 0 t)),.slIf (decide ((t:Int)=j.1 0 - 1)) 11 (j.3 0
  t)]) (some 7))),(7,none),(4,some (.lst (.sym (j.1 1)) 2 (fun (t:Nat)=>[.int .u32 (.sym (j.2 1 t)),.slIf (decide ((t:Int)=j.1 1 - 1)) 12 (j.3 1 t)]) (some 8))),(8,none),(5,some (.lst (.sym (j.1 2)) 2 (fun
  (t:Nat)=>[.int .u32 (.sym (j.2 2 t)),.slIf (decide ((t:Int)=j.1 2 - 1)) 13 (j.3 2 t)]) (some 9))),(9,some Ai.tok),(6,some (.lst (.sym (j.1 3)) 2 (fun (t:Nat)=>[.int .u32 (.sym (j.2 3 t)),.slIf (decide
  ((t:Int)=j.1 3 - 1)) 14 (j.3 3 t)]) (some 10))),(10,some Ai.tok),(11,some (.lst (.sym (j.4 0)) 1 (fun (t:Nat)=>[.int .i64 (.sym (j.5 0 t))]) (some 15))),(15,some Ai.tok),(12,some (.lst (.sym (j.4 1))
  1 (fun (t:Nat)=>[.int .i64 (.sym (j.5 1 t))]) (some 16))),(16,some Ai.tok),(13,some (.lst (.sym (j.4 2)) 1 (fun (t:Nat)=>[.int .i64 (.sym (j.5 2 t))]) (some 17))),(17,some Ai.tok),(14,some (.lst (.sym
  (j.4 3)) 1 (fun (t:Nat)=>[.int .i64 (.sym (j.5 3 t))]) (some 18))),(18,some Ai.tok)]))))))))))))))))))))))) (.defE ⟨[[.i z13,.b (apU (e12.ai 1 0) (e12.ai 1 1) (Ag e12 0 0) 0),.i z14,.i z15,.b (apU (e12.ai 1
  0) (e12.ai 1 1) (Ag e12 0 0) 1),.i z16,.i z17,.b (apU (e12.ai 1 0) (e12.ai 1 1) (Ag e12 0 0) 2),.i z18,.i z19,.b (apU (e12.ai 1 0) (e12.ai 1 1) (Ag e12 0 0) 3),.i z20,.i z21,.b (apU (e12.ai 1 0) (e12.ai 1
  1) (Ag e12 0 0) 4),.i z22,.i z23],[.i 2]],[]⟩ fun e45=>.must (mIs (e45.ai 0 0) (Av e45 0 0) (BF e45 0 0)) (.must (!decide (e45.ai 1 0≥4)) (.defI ((actM (e45.ai 0 0) (Ag e45 0 0) (Av e45 0 0) (BF e45 0
  0) (e45.ai 1 0)).length:Int) fun z46=>.must (!j.1 2==0) (.defI (IntKind.i64.wrap (j.1 2 - 1)) fun z47=>.must (decide (0≤z47∧z47<j.1 2)) (.must (decide (0≤z47∧z47<j.1 2)) (.must (decide ((z47.toNat :
  Int)=j.1 2 - 1)) (.must (AX [.i .i64] (fun (t:Nat)=>[.int .i64 (.sym (j.5 2 t))]) (j.4 2).toNat) (.must (AX [.i .i64] (AI [.i .i64] (AR ((actM (e45.ai 0 0) (Ag e45 0 0) (Av e45 0 0) (BF e45 0 0)
  (e45.ai 1 0))))) z46.toNat) (.defE ⟨[[.u],[.u]],[.lst (j.4 2).toNat (AH [.i .i64] fun (t:Nat)=>[.int .i64 (.sym (j.5 2 t))]),.lst z46.toNat (AH [.i .i64] (AI [.i .i64] (AR ((actM (e45.ai 0 0) (Ag
  e45 0 0) (Av e45 0 0) (BF e45 0 0) (e45.ai 1 0))))))]⟩ fun e48=>.must (decide (((e48.ln 0):Int)<1000000)) (.ite (!eqI (Ax (e48.ln 0) (e48.rw 0)) (Ax (e48.ln 1) (e48.rw 1))) (.must (decide ((j.1 2+1) * 32
  ≤ 1099511627776∧j.1 2+1≤1099511627776)) (.defE ⟨[[.i z13,.b (apU (e12.ai 1 0) (e12.ai 1 1) (Ag e12 0 0) 0),.i z14,.i z15,.b (apU (e12.ai 1 0) (e12.ai 1 1) (Ag e12 0 0) 1),.i z16,.i z17,.b (apU (e12.ai 1
  0) (e12.ai 1 1) (Ag e12 0 0) 2),.i z18,.i z19,.b (apU (e12.ai 1 0) (e12.ai 1 1) (Ag e12 0 0) 3),.i z20,.i z21,.b (apU (e12.ai 1 0) (e12.ai 1 1) (Ag e12 0 0) 4),.i z22,.i z23],[.i 3]],[]⟩ fun e49=>.must
  (mIs (e49.ai 0 0) (Av e49 0 0) (BF e49 0 0)) (.must (!decide (e49.ai 1 0≥4)) (.defI ((actM (e49.ai 0 0) (Ag e49 0 0) (Av e49 0 0) (BF e49 0 0) (e49.ai 1 0)).length:Int) fun z50=>.must (!j.1 3==0) (.defI
  (IntKind.i64.wrap (j.1 3 - 1)) fun z51=>.must (decide (0≤z51∧z51<j.1 3)) (.must (decide (0≤z51∧z51<j.1 3)) (.must (decide ((z51.toNat:Int)=j.1 3 - 1)) (.must (AX [.i .i64] (fun (t:Nat)=>[.int
  .i64 (.sym (j.5 3 t))]) (j.4 3).toNat) (.must (AX [.i .i64] (AI [.i .i64] (AR ((actM (e49.ai 0 0) (Ag e49 0 0) (Av e49 0 0) (BF e49 0 0) (e49.ai 1 0))))) z50.toNat) (.defE ⟨[[.u],[.u]],[.lst (j.4 3).toNat
  (AH [.i .i64] fun (t:Nat)=>[.int .i64 (.sym (j.5 3 t))]),.lst z50.toNat (AH [.i .i64] (AI [.i .i64] (AR ((actM (e49.ai 0 0) (Ag e49 0 0) (Av e49 0 0) (BF e49 0 0) (e49.ai 1 0))))))]⟩ fun e52 =>
  .must (decide (((e52.ln 0):Int)<1000000)) (.ite (!eqI (Ax (e52.ln 0) (e52.rw 0)) (Ax (e52.ln 1) (e52.rw 1))) (.must (decide ((j.1 3+1) * 32≤1099511627776∧j.1 3+1≤1099511627776)) (.leaf (.int .i64 (.lit
  0),[(0,some (.box [.mref 1,.mref 2,.int .u32 (.sym z13),.sl 214,.sl 4,.sl 364,.sl 452])),(452,some (.lst (.sym (j.1 3+1)) 2 (AP (.sym (j.1 3)) (fun (t:Nat)=>[.int .u32 (.sym (j.2 3 t)),.slIf (decide
  ((t:Int)=j.1 3 - 1)) 14 (j.3 3 t)]) (Aa 2 [.int .u32 (.sym z13),.sl 389])) (some 451))),(451,some Ai.tok),(450,some (.lst (.lit 1) 2 (Aa 2 [.int .u32 (.sym z13),.sl 389]) (some 449))),(449,some
  Ai.tok),(389,some (.lst (.sym z50) 1 (AI [.i .i64] (AR ((actM (e49.ai 0 0) (Ag e49 0 0) (Av e49 0 0) (BF e49 0 0) (e49.ai 1 0))))) (some 390))),(390,some Ai.tok),(364,some (.lst (.sym (j.1 2+1)) 2
  (AP (.sym (j.1 2)) (fun (t:Nat)=>[.int .u32 (.sym (j.2 2 t)),.slIf (decide ((t:Int)=j.1 2 - 1)) 13 (j.3 2 t)]) (Aa 2 [.int .u32 (.sym z13),.sl 301])) (some 363))),(363,some Ai.tok),(362,some (.lst
  (.lit 1) 2 (Aa 2 [.int .u32 (.sym z13),.sl 301]) (some 361))),(361,some Ai.tok),(301,some (.lst (.sym z46) 1 (AI [.i .i64] (AR ((actM (e45.ai 0 0) (Ag e45 0 0) (Av e45 0 0) (BF e45 0 0) (e45.ai 1
  0))))) (some 302))),(302,some Ai.tok),(239,some (.lst (.sym z30) 1 (AI [.i .i64] (AR ((actM (e29.ai 0 0) (Ag e29 0 0) (Av e29 0 0) (BF e29 0 0) (e29.ai 1 0))))) (some 240))),(240,some Ai.tok),(214,
  some (.lst (.sym (j.1 0+1)) 2 (AP (.sym (j.1 0)) (fun (t:Nat)=>[.int .u32 (.sym (j.2 0 t)),.slIf (decide ((t:Int)=j.1 0 - 1)) 11 (j.3 0 t)]) (Aa 2 [.int .u32 (.sym z13),.sl 151])) (some 213))),(213,
  some Ai.tok),(212,some (.lst (.lit 1) 2 (Aa 2 [.int .u32 (.sym z13),.sl 151]) (some 211))),(211,some Ai.tok),(151,some (.lst (.sym z26) 1 (AI [.i .i64] (AR ((actM (e25.ai 0 0) (Ag e25 0 0) (Av e25
  0 0) (BF e25 0 0) (e25.ai 1 0))))) (some 152))),(152,some Ai.tok),(1,some (.mp (.lit 1) (.sym ((incs.length:Int)+1+1)) (pushV (.sym ((incs.length:Int)+1)) (mapA incs) (.agg [.int .u32 (.sym z13),.bool
  (.sym (apU (e12.ai 1 0) (e12.ai 1 1) (Ag e12 0 0) 0)),.int .i64 (.sym z14),.int .u8 (.sym z15),.bool (.sym (apU (e12.ai 1 0) (e12.ai 1 1) (Ag e12 0 0) 1)),.int .i64 (.sym z16),.int .u8 (.sym z17),.bool (.sym
  (apU (e12.ai 1 0) (e12.ai 1 1) (Ag e12 0 0) 2)),.int .i64 (.sym z18),.int .u8 (.sym z19),.bool (.sym (apU (e12.ai 1 0) (e12.ai 1 1) (Ag e12 0 0) 3)),.int .i64 (.sym z20),.int .u8 (.sym z21),.bool (.sym (apU
  (e12.ai 1 0) (e12.ai 1 1) (Ag e12 0 0) 4)),.int .i64 (.sym z22),.int .u8 (.sym z23)])))),(2,some (.mp (.lit 2) (.sym ((incs.length:Int)+1)) (pushV (.sym (incs.length:Int)) (incA incs) (.agg [.int .u8 (.sym
  k),.int .u8 (.sym o),.int .i64 (.sym n)])))),(1,some (.mp (.lit 1) (.sym ((incs.length:Int)+1+1)) (pushV (.sym ((incs.length:Int)+1)) (mapA incs) (.agg [.int .u32 (.sym z13),.bool (.sym (apU (e12.ai 1 0)
  (e12.ai 1 1) (Ag e12 0 0) 0)),.int .i64 (.sym z14),.int .u8 (.sym z15),.bool (.sym (apU (e12.ai 1 0) (e12.ai 1 1) (Ag e12 0 0) 1)),.int .i64 (.sym z16),.int .u8 (.sym z17),.bool (.sym (apU (e12.ai 1 0) (e12.ai
  1 1) (Ag e12 0 0) 2)),.int .i64 (.sym z18),.int .u8 (.sym z19),.bool (.sym (apU (e12.ai 1 0) (e12.ai 1 1) (Ag e12 0 0) 3)),.int .i64 (.sym z20),.int .u8 (.sym z21),.bool (.sym (apU (e12.ai 1 0) (e12.ai 1 1)
  (Ag e12 0 0) 4)),.int .i64 (.sym z22),.int .u8 (.sym z23)])))),(2,some (.mp (.lit 2) (.sym ((incs.length:Int)+1)) (pushV (.sym (incs.length:Int)) (incA incs) (.agg [.int .u8 (.sym k),.int .u8 (.sym o),.int
  .i64 (.sym n)])))),(3,some (.lst (.sym (j.1 0)) 2 (fun (t:Nat)=>[.int .u32 (.sym (j.2 0 t)),.slIf (decide ((t:Int)=j.1 0 - 1)) 11 (j.3 0 t)]) (some 7))),(7,none),(4,some (.lst (.sym (j.1 1)) 2 (fun (t :
  Nat)=>[.int .u32 (.sym (j.2 1 t)),.slIf (decide ((t:Int)=j.1 1 - 1)) 12 (j.3 1 t)]) (some 8))),(8,some Ai.tok),(5,some (.lst (.sym (j.1 2)) 2 (fun (t:Nat)=>[.int .u32 (.sym (j.2 2 t)),.slIf (decide ((t
  : Int)=j.1 2 - 1)) 13 (j.3 2 t)]) (some 9))),(9,none),(6,some (.lst (.sym (j.1 3)) 2 (fun (t:Nat)=>[.int .u32 (.sym (j.2 3 t)),.slIf (decide ((t:Int)=j.1 3 - 1)) 14 (j.3 3 t)]) (some 10))),(10,none),
  (11,some (.lst (.sym (j.4 0)) 1 (fun (t:Nat)=>[.int .i64 (.sym (j.5 0 t))]) (some 15))),(15,some Ai.tok),(12,some (.lst (.sym (j.4 1)) 1 (fun (t:Nat)=>[.int .i64 (.sym (j.5 1 t))]) (some 16))),(16,some
  Ai.tok),(13,some (.lst (.sym (j.4 2)) 1 (fun (t:Nat)=>[.int .i64 (.sym (j.5 2 t))]) (some 17))),(17,some Ai.tok),(14,some (.lst (.sym (j.4 3)) 1 (fun (t:Nat)=>[.int .i64 (.sym (j.5 3 t))]) (some 18))),
  (18,some Ai.tok)]))) (.leaf (.int .i64 (.lit 0),[(0,some (.box [.mref 1,.mref 2,.int .u32 (.sym z13),.sl 214,.sl 4,.sl 364,.sl 6])),(389,some (.lst (.sym z50) 1 (AI [.i .i64] (AR ((actM (e49.ai 0 0)
  (Ag e49 0 0) (Av e49 0 0) (BF e49 0 0) (e49.ai 1 0))))) (some 390))),(390,some Ai.tok),(364,some (.lst (.sym (j.1 2+1)) 2 (AP (.sym (j.1 2)) (fun (t:Nat)=>[.int .u32 (.sym (j.2 2 t)),.slIf (decide
  ((t:Int)=j.1 2 - 1)) 13 (j.3 2 t)]) (Aa 2 [.int .u32 (.sym z13),.sl 301])) (some 363))),(363,some Ai.tok),(362,some (.lst (.lit 1) 2 (Aa 2 [.int .u32 (.sym z13),.sl 301]) (some 361))),(361,some
  Ai.tok),(301,some (.lst (.sym z46) 1 (AI [.i .i64] (AR ((actM (e45.ai 0 0) (Ag e45 0 0) (Av e45 0 0) (BF e45 0 0) (e45.ai 1 0))))) (some 302))),(302,some Ai.tok),(239,some (.lst (.sym z30) 1 (AI
  [.i .i64] (AR ((actM (e29.ai 0 0) (Ag e29 0 0) (Av e29 0 0) (BF e29 0 0) (e29.ai 1 0))))) (some 240))),(240,some Ai.tok),(214,some (.lst (.sym (j.1 0+1)) 2 (AP (.sym (j.1 0)) (fun (t:Nat)=>[.int
  .u32 (.sym (j.2 0 t)),.slIf (decide ((t:Int)=j.1 0 - 1)) 11 (j.3 0 t)]) (Aa 2 [.int .u32 (.sym z13),.sl 151])) (some 213))),(213,some Ai.tok),(212,some (.lst (.lit 1) 2 (Aa 2 [.int .u32 (.sym z13),.sl
  151]) (some 211))),(211,some Ai.tok),(151,some (.lst (.sym z26) 1 (AI [.i .i64] (AR ((actM (e25.ai 0 0) (Ag e25 0 0) (Av e25 0 0) (BF e25 0 0) (e25.ai 1 0))))) (some 152))),(152,some Ai.tok),(1,
  some (.mp (.lit 1) (.sym ((incs.length:Int)+1+1)) (pushV (.sym ((incs.length:Int)+1)) (mapA incs) (.agg [.int .u32 (.sym z13),.bool (.sym (apU (e12.ai 1 0) (e12.ai 1 1) (Ag e12 0 0) 0)),.int .i64 (.sym
  z14),.int .u8 (.sym z15),.bool (.sym (apU (e12.ai 1 0) (e12.ai 1 1) (Ag e12 0 0) 1)),.int .i64 (.sym z16),.int .u8 (.sym z17),.bool (.sym (apU (e12.ai 1 0) (e12.ai 1 1) (Ag e12 0 0) 2)),.int .i64 (.sym z18),
  .int .u8 (.sym z19),.bool (.sym (apU (e12.ai 1 0) (e12.ai 1 1) (Ag e12 0 0) 3)),.int .i64 (.sym z20),.int .u8 (.sym z21),.bool (.sym (apU (e12.ai 1 0) (e12.ai 1 1) (Ag e12 0 0) 4)),.int .i64 (.sym z22),.int .u8
  (.sym z23)])))),(2,some (.mp (.lit 2) (.sym ((incs.length:Int)+1)) (pushV (.sym (incs.length:Int)) (incA incs) (.agg [.int .u8 (.sym k),.int .u8 (.sym o),.int .i64 (.sym n)])))),(1,some (.mp (.lit 1) (.sym
  ((incs.length:Int)+1+1)) (pushV (.sym ((incs.length:Int)+1)) (mapA incs) (.agg [.int .u32 (.sym z13),.bool (.sym (apU (e12.ai 1 0) (e12.ai 1 1) (Ag e12 0 0) 0)),.int .i64 (.sym z14),.int .u8 (.sym z15),
  .bool (.sym (apU (e12.ai 1 0) (e12.ai 1 1) (Ag e12 0 0) 1)),.int .i64 (.sym z16),.int .u8 (.sym z17),.bool (.sym (apU (e12.ai 1 0) (e12.ai 1 1) (Ag e12 0 0) 2)),.int .i64 (.sym z18),.int .u8 (.sym z19),.bool
  (.sym (apU (e12.ai 1 0) (e12.ai 1 1) (Ag e12 0 0) 3)),.int .i64 (.sym z20),.int .u8 (.sym z21),.bool (.sym (apU (e12.ai 1 0) (e12.ai 1 1) (Ag e12 0 0) 4)),.int .i64 (.sym z22),.int .u8 (.sym z23)])))),(2,some
  (.mp (.lit 2) (.sym ((incs.length:Int)+1)) (pushV (.sym (incs.length:Int)) (incA incs) (.agg [.int .u8 (.sym k),.int .u8 (.sym o),.int .i64 (.sym n)])))),(3,some (.lst (.sym (j.1 0)) 2 (fun (t:Nat)=>[.int
  .u32 (.sym (j.2 0 t)),.slIf (decide ((t:Int)=j.1 0 - 1)) 11 (j.3 0 t)]) (some 7))),(7,none),(4,some (.lst (.sym (j.1 1)) 2 (fun (t:Nat)=>[.int .u32 (.sym (j.2 1 t)),.slIf (decide ((t:Int)=j.1 1 - 1)) 12
  (j.3 1 t)]) (some 8))),(8,some Ai.tok),(5,some (.lst (.sym (j.1 2)) 2 (fun (t:Nat)=>[.int .u32 (.sym (j.2 2 t)),.slIf (decide ((t:Int)=j.1 2 - 1)) 13 (j.3 2 t)]) (some 9))),(9,none),(6,some (.lst (.sym
  (j.1 3)) 2 (fun (t:Nat)=>[.int .u32 (.sym (j.2 3 t)),.slIf (decide ((t:Int)=j.1 3 - 1)) 14 (j.3 3 t)]) (some 10))),(10,some Ai.tok),(11,some (.lst (.sym (j.4 0)) 1 (fun (t:Nat)=>[.int .i64 (.sym (j.5 0
  t))]) (some 15))),(15,some Ai.tok),(12,some (.lst (.sym (j.4 1)) 1 (fun (t:Nat)=>[.int .i64 (.sym (j.5 1 t))]) (some 16))),(16,some Ai.tok),(13,some (.lst (.sym (j.4 2)) 1 (fun (t:Nat)=>[.int .i64
  (.sym (j.5 2 t))]) (some 17))),(17,some Ai.tok),(14,some (.lst (.sym (j.4 3)) 1 (fun (t:Nat)=>[.int .i64 (.sym (j.5 3 t))]) (some 18))),(18,some Ai.tok)]))))))))))))) (.defE ⟨[[.i z13,.b (apU (e12.ai 1 0)
  (e12.ai 1 1) (Ag e12 0 0) 0),.i z14,.i z15,.b (apU (e12.ai 1 0) (e12.ai 1 1) (Ag e12 0 0) 1),.i z16,.i z17,.b (apU (e12.ai 1 0) (e12.ai 1 1) (Ag e12 0 0) 2),.i z18,.i z19,.b (apU (e12.ai 1 0) (e12.ai 1 1)
  (Ag e12 0 0) 3),.i z20,.i z21,.b (apU (e12.ai 1 0) (e12.ai 1 1) (Ag e12 0 0) 4),.i z22,.i z23],[.i 3]],[]⟩ fun e53=>.must (mIs (e53.ai 0 0) (Av e53 0 0) (BF e53 0 0)) (.must (!decide (e53.ai 1 0≥4))
  (.defI ((actM (e53.ai 0 0) (Ag e53 0 0) (Av e53 0 0) (BF e53 0 0) (e53.ai 1 0)).length:Int) fun z54=>.must (!j.1 3==0) (.defI (IntKind.i64.wrap (j.1 3 - 1)) fun z55=>.must (decide (0≤z55∧z55<j.1 3))
  (.must (decide (0≤z55∧z55<j.1 3)) (.must (decide ((z55.toNat:Int)=j.1 3 - 1)) (.must (AX [.i .i64] (fun (t:Nat)=>[.int .i64 (.sym (j.5 3 t))]) (j.4 3).toNat) (.must (AX [.i .i64] (AI [.i .i64]
  (AR ((actM (e53.ai 0 0) (Ag e53 0 0) (Av e53 0 0) (BF e53 0 0) (e53.ai 1 0))))) z54.toNat) (.defE ⟨[[.u],[.u]],[.lst (j.4 3).toNat (AH [.i .i64] fun (t:Nat)=>[.int .i64 (.sym (j.5 3 t))]),.lst
  z54.toNat (AH [.i .i64] (AI [.i .i64] (AR ((actM (e53.ai 0 0) (Ag e53 0 0) (Av e53 0 0) (BF e53 0 0) (e53.ai 1 0))))))]⟩ fun e56=>.must (decide (((e56.ln 0):Int)<1000000)) (.ite (!eqI (Ax (e56.ln
  0) (e56.rw 0)) (Ax (e56.ln 1) (e56.rw 1))) (.must (decide ((j.1 3+1) * 32≤1099511627776∧j.1 3+1≤1099511627776)) (.leaf (.int .i64 (.lit 0),[(0,some (.box [.mref 1,.mref 2,.int .u32 (.sym z13),.sl 214,
  .sl 4,.sl 5,.sl 426])),(426,some (.lst (.sym (j.1 3+1)) 2 (AP (.sym (j.1 3)) (fun (t:Nat)=>[.int .u32 (.sym (j.2 3 t)),.slIf (decide ((t:Int)=j.1 3 - 1)) 14 (j.3 3 t)]) (Aa 2 [.int .u32 (.sym z13),
  .sl 363])) (some 425))),(425,some Ai.tok),(424,some (.lst (.lit 1) 2 (Aa 2 [.int .u32 (.sym z13),.sl 363]) (some 423))),(423,some Ai.tok),(363,some (.lst (.sym z54) 1 (AI [.i .i64] (AR ((actM (e53.ai
  0 0) (Ag e53 0 0) (Av e53 0 0) (BF e53 0 0) (e53.ai 1 0))))) (some 364))),(364,some Ai.tok),(301,some (.lst (.sym z46) 1 (AI [.i .i64] (AR ((actM (e45.ai 0 0) (Ag e45 0 0) (Av e45 0 0) (BF e45 0 0)
  (e45.ai 1 0))))) (some 302))),(302,some Ai.tok),(239,some (.lst (.sym z30) 1 (AI [.i .i64] (AR ((actM (e29.ai 0 0) (Ag e29 0 0) (Av e29 0 0) (BF e29 0 0) (e29.ai 1 0))))) (some 240))),(240,some
  Ai.tok),(214,some (.lst (.sym (j.1 0+1)) 2 (AP (.sym (j.1 0)) (fun (t:Nat)=>[.int .u32 (.sym (j.2 0 t)),.slIf (decide ((t:Int)=j.1 0 - 1)) 11 (j.3 0 t)]) (Aa 2 [.int .u32 (.sym z13),.sl 151]))
  (some 213))),(213,some Ai.tok),(212,some (.lst (.lit 1) 2 (Aa 2 [.int .u32 (.sym z13),.sl 151]) (some 211))),(211,some Ai.tok),(151,some (.lst (.sym z26) 1 (AI [.i .i64] (AR ((actM (e25.ai 0 0) (Ag
  e25 0 0) (Av e25 0 0) (BF e25 0 0) (e25.ai 1 0))))) (some 152))),(152,some Ai.tok),(1,some (.mp (.lit 1) (.sym ((incs.length:Int)+1+1)) (pushV (.sym ((incs.length:Int)+1)) (mapA incs) (.agg [.int .u32
  (.sym z13),.bool (.sym (apU (e12.ai 1 0) (e12.ai 1 1) (Ag e12 0 0) 0)),.int .i64 (.sym z14),.int .u8 (.sym z15),.bool (.sym (apU (e12.ai 1 0) (e12.ai 1 1) (Ag e12 0 0) 1)),.int .i64 (.sym z16),.int .u8 (.sym
  z17),.bool (.sym (apU (e12.ai 1 0) (e12.ai 1 1) (Ag e12 0 0) 2)),.int .i64 (.sym z18),.int .u8 (.sym z19),.bool (.sym (apU (e12.ai 1 0) (e12.ai 1 1) (Ag e12 0 0) 3)),.int .i64 (.sym z20),.int .u8 (.sym z21),
  .bool (.sym (apU (e12.ai 1 0) (e12.ai 1 1) (Ag e12 0 0) 4)),.int .i64 (.sym z22),.int .u8 (.sym z23)])))),(2,some (.mp (.lit 2) (.sym ((incs.length:Int)+1)) (pushV (.sym (incs.length:Int)) (incA incs) (.agg
  [.int .u8 (.sym k),.int .u8 (.sym o),.int .i64 (.sym n)])))),(1,some (.mp (.lit 1) (.sym ((incs.length:Int)+1+1)) (pushV (.sym ((incs.length:Int)+1)) (mapA incs) (.agg [.int .u32 (.sym z13),.bool (.sym
  (apU (e12.ai 1 0) (e12.ai 1 1) (Ag e12 0 0) 0)),.int .i64 (.sym z14),.int .u8 (.sym z15),.bool (.sym (apU (e12.ai 1 0) (e12.ai 1 1) (Ag e12 0 0) 1)),.int .i64 (.sym z16),.int .u8 (.sym z17),.bool (.sym (apU
  (e12.ai 1 0) (e12.ai 1 1) (Ag e12 0 0) 2)),.int .i64 (.sym z18),.int .u8 (.sym z19),.bool (.sym (apU (e12.ai 1 0) (e12.ai 1 1) (Ag e12 0 0) 3)),.int .i64 (.sym z20),.int .u8 (.sym z21),.bool (.sym (apU (e12.ai
  1 0) (e12.ai 1 1) (Ag e12 0 0) 4)),.int .i64 (.sym z22),.int .u8 (.sym z23)])))),(2,some (.mp (.lit 2) (.sym ((incs.length:Int)+1)) (pushV (.sym (incs.length:Int)) (incA incs) (.agg [.int .u8 (.sym k),.int
  .u8 (.sym o),.int .i64 (.sym n)])))),(3,some (.lst (.sym (j.1 0)) 2 (fun (t:Nat)=>[.int .u32 (.sym (j.2 0 t)),.slIf (decide ((t:Int)=j.1 0 - 1)) 11 (j.3 0 t)]) (some 7))),(7,none),(4,some (.lst (.sym (j.1
  1)) 2 (fun (t:Nat)=>[.int .u32 (.sym (j.2 1 t)),.slIf (decide ((t:Int)=j.1 1 - 1)) 12 (j.3 1 t)]) (some 8))),(8,some Ai.tok),(5,some (.lst (.sym (j.1 2)) 2 (fun (t:Nat)=>[.int .u32 (.sym (j.2 2 t)),
  .slIf (decide ((t:Int)=j.1 2 - 1)) 13 (j.3 2 t)]) (some 9))),(9,some Ai.tok),(6,some (.lst (.sym (j.1 3)) 2 (fun (t:Nat)=>[.int .u32 (.sym (j.2 3 t)),.slIf (decide ((t:Int)=j.1 3 - 1)) 14 (j.3 3 t)])
  (some 10))),(10,none),(11,some (.lst (.sym (j.4 0)) 1 (fun (t:Nat)=>[.int .i64 (.sym (j.5 0 t))]) (some 15))),(15,some Ai.tok),(12,some (.lst (.sym (j.4 1)) 1 (fun (t:Nat)=>[.int .i64 (.sym (j.5 1 t))])
  (some 16))),(16,some Ai.tok),(13,some (.lst (.sym (j.4 2)) 1 (fun (t:Nat)=>[.int .i64 (.sym (j.5 2 t))]) (some 17))),(17,some Ai.tok),(14,some (.lst (.sym (j.4 3)) 1 (fun (t:Nat)=>[.int .i64 (.sym
  (j.5 3 t))]) (some 18))),(18,some Ai.tok)]))) (.leaf (.int .i64 (.lit 0),[(0,some (.box [.mref 1,.mref 2,.int .u32 (.sym z13),.sl 214,.sl 4,.sl 5,.sl 6])),(363,some (.lst (.sym z54) 1 (AI [.i .i64] (AR
  ((actM (e53.ai 0 0) (Ag e53 0 0) (Av e53 0 0) (BF e53 0 0) (e53.ai 1 0))))) (some 364))),(364,some Ai.tok),(301,some (.lst (.sym z46) 1 (AI [.i .i64] (AR ((actM (e45.ai 0 0) (Ag e45 0 0) (Av e45 0 0)
  (BF e45 0 0) (e45.ai 1 0))))) (some 302))),(302,some Ai.tok),(239,some (.lst (.sym z30) 1 (AI [.i .i64] (AR ((actM (e29.ai 0 0) (Ag e29 0 0) (Av e29 0 0) (BF e29 0 0) (e29.ai 1 0))))) (some 240))),
  (240,some Ai.tok),(214,some (.lst (.sym (j.1 0+1)) 2 (AP (.sym (j.1 0)) (fun (t:Nat)=>[.int .u32 (.sym (j.2 0 t)),.slIf (decide ((t:Int)=j.1 0 - 1)) 11 (j.3 0 t)]) (Aa 2 [.int .u32 (.sym z13),.sl
  151])) (some 213))),(213,some Ai.tok),(212,some (.lst (.lit 1) 2 (Aa 2 [.int .u32 (.sym z13),.sl 151]) (some 211))),(211,some Ai.tok),(151,some (.lst (.sym z26) 1 (AI [.i .i64] (AR ((actM (e25.ai 0
  0) (Ag e25 0 0) (Av e25 0 0) (BF e25 0 0) (e25.ai 1 0))))) (some 152))),(152,some Ai.tok),(1,some (.mp (.lit 1) (.sym ((incs.length:Int)+1+1)) (pushV (.sym ((incs.length:Int)+1)) (mapA incs) (.agg
  [.int .u32 (.sym z13),.bool (.sym (apU (e12.ai 1 0) (e12.ai 1 1) (Ag e12 0 0) 0)),.int .i64 (.sym z14),.int .u8 (.sym z15),.bool (.sym (apU (e12.ai 1 0) (e12.ai 1 1) (Ag e12 0 0) 1)),.int .i64 (.sym z16),.int
  .u8 (.sym z17),.bool (.sym (apU (e12.ai 1 0) (e12.ai 1 1) (Ag e12 0 0) 2)),.int .i64 (.sym z18),.int .u8 (.sym z19),.bool (.sym (apU (e12.ai 1 0) (e12.ai 1 1) (Ag e12 0 0) 3)),.int .i64 (.sym z20),.int .u8
  (.sym z21),.bool (.sym (apU (e12.ai 1 0) (e12.ai 1 1) (Ag e12 0 0) 4)),.int .i64 (.sym z22),.int .u8 (.sym z23)])))),(2,some (.mp (.lit 2) (.sym ((incs.length:Int)+1)) (pushV (.sym (incs.length:Int)) (incA
  incs) (.agg [.int .u8 (.sym k),.int .u8 (.sym o),.int .i64 (.sym n)])))),(1,some (.mp (.lit 1) (.sym ((incs.length:Int)+1+1)) (pushV (.sym ((incs.length:Int)+1)) (mapA incs) (.agg [.int .u32 (.sym z13),
  .bool (.sym (apU (e12.ai 1 0) (e12.ai 1 1) (Ag e12 0 0) 0)),.int .i64 (.sym z14),.int .u8 (.sym z15),.bool (.sym (apU (e12.ai 1 0) (e12.ai 1 1) (Ag e12 0 0) 1)),.int .i64 (.sym z16),.int .u8 (.sym z17),.bool
  (.sym (apU (e12.ai 1 0) (e12.ai 1 1) (Ag e12 0 0) 2)),.int .i64 (.sym z18),.int .u8 (.sym z19),.bool (.sym (apU (e12.ai 1 0) (e12.ai 1 1) (Ag e12 0 0) 3)),.int .i64 (.sym z20),.int .u8 (.sym z21),.bool (.sym
  (apU (e12.ai 1 0) (e12.ai 1 1) (Ag e12 0 0) 4)),.int .i64 (.sym z22),.int .u8 (.sym z23)])))),(2,some (.mp (.lit 2) (.sym ((incs.length:Int)+1)) (pushV (.sym (incs.length:Int)) (incA incs) (.agg [.int .u8
  (.sym k),.int .u8 (.sym o),.int .i64 (.sym n)])))),(3,some (.lst (.sym (j.1 0)) 2 (fun (t:Nat)=>[.int .u32 (.sym (j.2 0 t)),.slIf (decide ((t:Int)=j.1 0 - 1)) 11 (j.3 0 t)]) (some 7))),(7,none),(4,some
  (.lst (.sym (j.1 1)) 2 (fun (t:Nat)=>[.int .u32 (.sym (j.2 1 t)),.slIf (decide ((t:Int)=j.1 1 - 1)) 12 (j.3 1 t)]) (some 8))),(8,some Ai.tok),(5,some (.lst (.sym (j.1 2)) 2 (fun (t:Nat)=>[.int .u32
  (.sym (j.2 2 t)),.slIf (decide ((t:Int)=j.1 2 - 1)) 13 (j.3 2 t)]) (some 9))),(9,some Ai.tok),(6,some (.lst (.sym (j.1 3)) 2 (fun (t:Nat)=>[.int .u32 (.sym (j.2 3 t)),.slIf (decide ((t:Int)=j.1 3 -
  1)) 14 (j.3 3 t)]) (some 10))),(10,some Ai.tok),(11,some (.lst (.sym (j.4 0)) 1 (fun (t:Nat)=>[.int .i64 (.sym (j.5 0 t))]) (some 15))),(15,some Ai.tok),(12,some (.lst (.sym (j.4 1)) 1 (fun (t:Nat) =>
  [.int .i64 (.sym (j.5 1 t))]) (some 16))),(16,some Ai.tok),(13,some (.lst (.sym (j.4 2)) 1 (fun (t:Nat)=>[.int .i64 (.sym (j.5 2 t))]) (some 17))),(17,some Ai.tok),(14,some (.lst (.sym (j.4 3)) 1 (fun (t
  : Nat)=>[.int .i64 (.sym (j.5 3 t))]) (some 18))),(18,some Ai.tok)]))))))))))))))))))))))))))))))))) (.defE ⟨[[.i z13,.b (apU (e12.ai 1 0) (e12.ai 1 1) (Ag e12 0 0) 0),.i z14,.i z15,.b (apU (e12.ai 1 0)
  (e12.ai 1 1) (Ag e12 0 0) 1),.i z16,.i z17,.b (apU (e12.ai 1 0) (e12.ai 1 1) (Ag e12 0 0) 2),.i z18,.i z19,.b (apU (e12.ai 1 0) (e12.ai 1 1) (Ag e12 0 0) 3),.i z20,.i z21,.b (apU (e12.ai 1 0) (e12.ai 1 1)
  (Ag e12 0 0) 4),.i z22,.i z23],[.i 1]],[]⟩ fun e57=>.must (mIs (e57.ai 0 0) (Av e57 0 0) (BF e57 0 0)) (.must (!decide (e57.ai 1 0≥4)) (.defI ((actM (e57.ai 0 0) (Ag e57 0 0) (Av e57 0 0) (BF e57 0 0)
  (e57.ai 1 0)).length:Int) fun z58=>.must (!j.1 1==0) (.defI (IntKind.i64.wrap (j.1 1 - 1)) fun z59=>.must (decide (0≤z59∧z59<j.1 1)) (.must (decide (0≤z59∧z59<j.1 1)) (.must (decide ((z59.toNat:Int)
  = j.1 1 - 1)) (.must (AX [.i .i64] (fun (t:Nat)=>[.int .i64 (.sym (j.5 1 t))]) (j.4 1).toNat) (.must (AX [.i .i64] (AI [.i .i64] (AR ((actM (e57.ai 0 0) (Ag e57 0 0) (Av e57 0 0) (BF e57 0 0) (e57.ai
  1 0))))) z58.toNat) (.defE ⟨[[.u],[.u]],[.lst (j.4 1).toNat (AH [.i .i64] fun (t:Nat)=>[.int .i64 (.sym (j.5 1 t))]),.lst z58.toNat (AH [.i .i64] (AI [.i .i64] (AR ((actM (e57.ai 0 0) (Ag e57 0 0)
  (Av e57 0 0) (BF e57 0 0) (e57.ai 1 0))))))]⟩ fun e60=>.must (decide (((e60.ln 0):Int)<1000000)) (.ite (!eqI (Ax (e60.ln 0) (e60.rw 0)) (Ax (e60.ln 1) (e60.rw 1))) (.must (decide ((j.1 1+1) * 32 ≤
  1099511627776∧j.1 1+1≤1099511627776)) (.defE ⟨[[.i z13,.b (apU (e12.ai 1 0) (e12.ai 1 1) (Ag e12 0 0) 0),.i z14,.i z15,.b (apU (e12.ai 1 0) (e12.ai 1 1) (Ag e12 0 0) 1),.i z16,.i z17,.b (apU (e12.ai 1 0)
  (e12.ai 1 1) (Ag e12 0 0) 2),.i z18,.i z19,.b (apU (e12.ai 1 0) (e12.ai 1 1) (Ag e12 0 0) 3),.i z20,.i z21,.b (apU (e12.ai 1 0) (e12.ai 1 1) (Ag e12 0 0) 4),.i z22,.i z23],[.i 2]],[]⟩ fun e61=>.must
  (mIs (e61.ai 0 0) (Av e61 0 0) (BF e61 0 0)) (.must (!decide (e61.ai 1 0≥4)) (.defI ((actM (e61.ai 0 0) (Ag e61 0 0) (Av e61 0 0) (BF e61 0 0) (e61.ai 1 0)).length:Int) fun z62=>.must (!j.1 2==0) (.defI
  (IntKind.i64.wrap (j.1 2 - 1)) fun z63=>.must (decide (0≤z63∧z63<j.1 2)) (.must (decide (0≤z63∧z63<j.1 2)) (.must (decide ((z63.toNat:Int)=j.1 2 - 1)) (.must (AX [.i .i64] (fun (t:Nat)=>[.int
  .i64 (.sym (j.5 2 t))]) (j.4 2).toNat) (.must (AX [.i .i64] (AI [.i .i64] (AR ((actM (e61.ai 0 0) (Ag e61 0 0) (Av e61 0 0) (BF e61 0 0) (e61.ai 1 0))))) z62.toNat) (.defE ⟨[[.u],[.u]],[.lst (j.4 2).toNat
  (AH [.i .i64] fun (t:Nat)=>[.int .i64 (.sym (j.5 2 t))]),.lst z62.toNat (AH [.i .i64] (AI [.i .i64] (AR ((actM (e61.ai 0 0) (Ag e61 0 0) (Av e61 0 0) (BF e61 0 0) (e61.ai 1 0))))))]⟩ fun e64 =>
  .must (decide (((e64.ln 0):Int)<1000000)) (.ite (!eqI (Ax (e64.ln 0) (e64.rw 0)) (Ax (e64.ln 1) (e64.rw 1))) (.must (decide ((j.1 2+1) * 32≤1099511627776∧j.1 2+1≤1099511627776)) (.defE ⟨[[.i z13,.b
  (apU (e12.ai 1 0) (e12.ai 1 1) (Ag e12 0 0) 0),.i z14,.i z15,.b (apU (e12.ai 1 0) (e12.ai 1 1) (Ag e12 0 0) 1),.i z16,.i z17,.b (apU (e12.ai 1 0) (e12.ai 1 1) (Ag e12 0 0) 2),.i z18,.i z19,.b (apU (e12.ai
  1 0) (e12.ai 1 1) (Ag e12 0 0) 3),.i z20,.i z21,.b (apU (e12.ai 1 0) (e12.ai 1 1) (Ag e12 0 0) 4),.i z22,.i z23],[.i 3]],[]⟩ fun e65=>.must (mIs (e65.ai 0 0) (Av e65 0 0) (BF e65 0 0)) (.must (!decide
  (e65.ai 1 0≥4)) (.defI ((actM (e65.ai 0 0) (Ag e65 0 0) (Av e65 0 0) (BF e65 0 0) (e65.ai 1 0)).length:Int) fun z66=>.must (!j.1 3==0) (.defI (IntKind.i64.wrap (j.1 3 - 1)) fun z67=>.must (decide (0≤z67
  ∧ z67<j.1 3)) (.must (decide (0≤z67∧z67<j.1 3)) (.must (decide ((z67.toNat:Int)=j.1 3 - 1)) (.must (AX [.i .i64] (fun (t:Nat)=>[.int .i64 (.sym (j.5 3 t))]) (j.4 3).toNat) (.must (AX [.i .i64]
  (AI [.i .i64] (AR ((actM (e65.ai 0 0) (Ag e65 0 0) (Av e65 0 0) (BF e65 0 0) (e65.ai 1 0))))) z66.toNat) (.defE ⟨[[.u],[.u]],[.lst (j.4 3).toNat (AH [.i .i64] fun (t:Nat)=>[.int .i64 (.sym (j.5 3
  t))]),.lst z66.toNat (AH [.i .i64] (AI [.i .i64] (AR ((actM (e65.ai 0 0) (Ag e65 0 0) (Av e65 0 0) (BF e65 0 0) (e65.ai 1 0))))))]⟩ fun e68=>.must (decide (((e68.ln 0):Int)<1000000)) (.ite (!eqI
  (Ax (e68.ln 0) (e68.rw 0)) (Ax (e68.ln 1) (e68.rw 1))) (.must (decide ((j.1 3+1) * 32≤1099511627776∧j.1 3+1≤1099511627776)) (.leaf (.int .i64 (.lit 0),[(0,some (.box [.mref 1,.mref 2,.int .u32 (.sym
  z13),.sl 3,.sl 276,.sl 364,.sl 452])),(452,some (.lst (.sym (j.1 3+1)) 2 (AP (.sym (j.1 3)) (fun (t:Nat)=>[.int .u32 (.sym (j.2 3 t)),.slIf (decide ((t:Int)=j.1 3 - 1)) 14 (j.3 3 t)]) (Aa 2 [.int
  .u32 (.sym z13),.sl 389])) (some 451))),(451,some Ai.tok),(450,some (.lst (.lit 1) 2 (Aa 2 [.int .u32 (.sym z13),.sl 389]) (some 449))),(449,some Ai.tok),(389,some (.lst (.sym z66) 1 (AI [.i .i64]
  (AR ((actM (e65.ai 0 0) (Ag e65 0 0) (Av e65 0 0) (BF e65 0 0) (e65.ai 1 0))))) (some 390))),(390,some Ai.tok),(364,some (.lst (.sym (j.1 2+1)) 2 (AP (.sym (j.1 2)) (fun (t:Nat)=>[.int .u32 (.sym
  (j.2 2 t)),.slIf (decide ((t:Int)=j.1 2 - 1)) 13 (j.3 2 t)]) (Aa 2 [.int .u32 (.sym z13),.sl 301])) (some 363))),(363,some Ai.tok),(362,some (.lst (.lit 1) 2 (Aa 2 [.int .u32 (.sym z13),.sl 301]) (some
  361))),(361,some Ai.tok),(301,some (.lst (.sym z62) 1 (AI [.i .i64] (AR ((actM (e61.ai 0 0) (Ag e61 0 0) (Av e61 0 0) (BF e61 0 0) (e61.ai 1 0))))) (some 302))),(302,some Ai.tok),(276,some (.lst
  (.sym (j.1 1+1)) 2 (AP (.sym (j.1 1)) (fun (t:Nat)=>[.int .u32 (.sym (j.2 1 t)),.slIf (decide ((t:Int)=j.1 1 - 1)) 12 (j.3 1 t)]) (Aa 2 [.int .u32 (.sym z13),.sl 213])) (some 275))),(275,some
  Ai.tok),(274,some (.lst (.lit 1) 2 (Aa 2 [.int .u32 (.sym z13),.sl 213]) (some 273))),(273,some Ai.tok),(213,some (.lst (.sym z58) 1 (AI [.i .i64] (AR ((actM (e57.ai 0 0) (Ag e57 0 0) (Av e57 0 0)
  (BF e57 0 0) (e57.ai 1 0))))) (some 214))),(214,some Ai.tok),(151,some (.lst (.sym z26) 1 (AI [.i .i64] (AR ((actM (e25.ai 0 0) (Ag e25 0 0) (Av e25 0 0) (BF e25 0 0) (e25.ai 1 0))))) (some 152))),
  (152,some Ai.tok),(1,some (.mp (.lit 1) (.sym ((incs.length:Int)+1+1)) (pushV (.sym ((incs.length:Int)+1)) (mapA incs) (.agg [.int .u32 (.sym z13),.bool (.sym (apU (e12.ai 1 0) (e12.ai 1 1) (Ag e12 0 0)
  0)),.int .i64 (.sym z14),.int .u8 (.sym z15),.bool (.sym (apU (e12.ai 1 0) (e12.ai 1 1) (Ag e12 0 0) 1)),.int .i64 (.sym z16),.int .u8 (.sym z17),.bool (.sym (apU (e12.ai 1 0) (e12.ai 1 1) (Ag e12 0 0) 2)),
  .int .i64 (.sym z18),.int .u8 (.sym z19),.bool (.sym (apU (e12.ai 1 0) (e12.ai 1 1) (Ag e12 0 0) 3)),.int .i64 (.sym z20),.int .u8 (.sym z21),.bool (.sym (apU (e12.ai 1 0) (e12.ai 1 1) (Ag e12 0 0) 4)),.int
  .i64 (.sym z22),.int .u8 (.sym z23)])))),(2,some (.mp (.lit 2) (.sym ((incs.length:Int)+1)) (pushV (.sym (incs.length:Int)) (incA incs) (.agg [.int .u8 (.sym k),.int .u8 (.sym o),.int .i64 (.sym n)])))),(1,
  some (.mp (.lit 1) (.sym ((incs.length:Int)+1+1)) (pushV (.sym ((incs.length:Int)+1)) (mapA incs) (.agg [.int .u32 (.sym z13),.bool (.sym (apU (e12.ai 1 0) (e12.ai 1 1) (Ag e12 0 0) 0)),.int .i64 (.sym
  z14),.int .u8 (.sym z15),.bool (.sym (apU (e12.ai 1 0) (e12.ai 1 1) (Ag e12 0 0) 1)),.int .i64 (.sym z16),.int .u8 (.sym z17),.bool (.sym (apU (e12.ai 1 0) (e12.ai 1 1) (Ag e12 0 0) 2)),.int .i64 (.sym z18),
  .int .u8 (.sym z19),.bool (.sym (apU (e12.ai 1 0) (e12.ai 1 1) (Ag e12 0 0) 3)),.int .i64 (.sym z20),.int .u8 (.sym z21),.bool (.sym (apU (e12.ai 1 0) (e12.ai 1 1) (Ag e12 0 0) 4)),.int .i64 (.sym z22),.int .u8
  (.sym z23)])))),(2,some (.mp (.lit 2) (.sym ((incs.length:Int)+1)) (pushV (.sym (incs.length:Int)) (incA incs) (.agg [.int .u8 (.sym k),.int .u8 (.sym o),.int .i64 (.sym n)])))),(3,some (.lst (.sym (j.1 0)) 2
  (fun (t:Nat)=>[.int .u32 (.sym (j.2 0 t)),.slIf (decide ((t:Int)=j.1 0 - 1)) 11 (j.3 0 t)]) (some 7))),(7,some Ai.tok),(4,some (.lst (.sym (j.1 1)) 2 (fun (t:Nat)=>[.int .u32 (.sym (j.2 1 t)),.slIf
  (decide ((t:Int)=j.1 1 - 1)) 12 (j.3 1 t)]) (some 8))),(8,none),(5,some (.lst (.sym (j.1 2)) 2 (fun (t:Nat)=>[.int .u32 (.sym (j.2 2 t)),.slIf (decide ((t:Int)=j.1 2 - 1)) 13 (j.3 2 t)]) (some 9))),(9,
  none),(6,some (.lst (.sym (j.1 3)) 2 (fun (t:Nat)=>[.int .u32 (.sym (j.2 3 t)),.slIf (decide ((t:Int)=j.1 3 - 1)) 14 (j.3 3 t)]) (some 10))),(10,none),(11,some (.lst (.sym (j.4 0)) 1 (fun (t:Nat) =>
  [.int .i64 (.sym (j.5 0 t))]) (some 15))),(15,some Ai.tok),(12,some (.lst (.sym (j.4 1)) 1 (fun (t:Nat)=>[.int .i64 (.sym (j.5 1 t))]) (some 16))),(16,some Ai.tok),(13,some (.lst (.sym (j.4 2)) 1 (fun (t
  : Nat)=>[.int .i64 (.sym (j.5 2 t))]) (some 17))),(17,some Ai.tok),(14,some (.lst (.sym (j.4 3)) 1 (fun (t:Nat)=>[.int .i64 (.sym (j.5 3 t))]) (some 18))),(18,some Ai.tok)]))) (.leaf (.int .i64 (.lit 0),
  [(0,some (.box [.mref 1,.mref 2,.int .u32 (.sym z13),.sl 3,.sl 276,.sl 364,.sl 6])),(389,some (.lst (.sym z66) 1 (AI [.i .i64] (AR ((actM (e65.ai 0 0) (Ag e65 0 0) (Av e65 0 0) (BF e65 0 0) (e65.ai 1
  0))))) (some 390))),(390,some Ai.tok),(364,some (.lst (.sym (j.1 2+1)) 2 (AP (.sym (j.1 2)) (fun (t:Nat)=>[.int .u32 (.sym (j.2 2 t)),.slIf (decide ((t:Int)=j.1 2 - 1)) 13 (j.3 2 t)]) (Aa 2 [.int
  .u32 (.sym z13),.sl 301])) (some 363))),(363,some Ai.tok),(362,some (.lst (.lit 1) 2 (Aa 2 [.int .u32 (.sym z13),.sl 301]) (some 361))),(361,some Ai.tok),(301,some (.lst (.sym z62) 1 (AI [.i .i64]
  (AR ((actM (e61.ai 0 0) (Ag e61 0 0) (Av e61 0 0) (BF e61 0 0) (e61.ai 1 0))))) (some 302))),(302,some Ai.tok),(276,some (.lst (.sym (j.1 1+1)) 2 (AP (.sym (j.1 1)) (fun (t:Nat)=>[.int .u32 (.sym
  (j.2 1 t)),.slIf (decide ((t:Int)=j.1 1 - 1)) 12 (j.3 1 t)]) (Aa 2 [.int .u32 (.sym z13),.sl 213])) (some 275))),(275,some Ai.tok),(274,some (.lst (.lit 1) 2 (Aa 2 [.int .u32 (.sym z13),.sl 213]) (some
  273))),(273,some Ai.tok),(213,some (.lst (.sym z58) 1 (AI [.i .i64] (AR ((actM (e57.ai 0 0) (Ag e57 0 0) (Av e57 0 0) (BF e57 0 0) (e57.ai 1 0))))) (some 214))),(214,some Ai.tok),(151,some (.lst
  (.sym z26) 1 (AI [.i .i64] (AR ((actM (e25.ai 0 0) (Ag e25 0 0) (Av e25 0 0) (BF e25 0 0) (e25.ai 1 0))))) (some 152))),(152,some Ai.tok),(1,some (.mp (.lit 1) (.sym ((incs.length:Int)+1+1)) (pushV
  (.sym ((incs.length:Int)+1)) (mapA incs) (.agg [.int .u32 (.sym z13),.bool (.sym (apU (e12.ai 1 0) (e12.ai 1 1) (Ag e12 0 0) 0)),.int .i64 (.sym z14),.int .u8 (.sym z15),.bool (.sym (apU (e12.ai 1 0) (e12.ai 1
  1) (Ag e12 0 0) 1)),.int .i64 (.sym z16),.int .u8 (.sym z17),.bool (.sym (apU (e12.ai 1 0) (e12.ai 1 1) (Ag e12 0 0) 2)),.int .i64 (.sym z18),.int .u8 (.sym z19),.bool (.sym (apU (e12.ai 1 0) (e12.ai 1 1) (Ag
  e12 0 0) 3)),.int .i64 (.sym z20),.int .u8 (.sym z21),.bool (.sym (apU (e12.ai 1 0) (e12.ai 1 1) (Ag e12 0 0) 4)),.int .i64 (.sym z22),.int .u8 (.sym z23)])))),(2,some (.mp (.lit 2) (.sym ((incs.length:Int) +
  1)) (pushV (.sym (incs.length:Int)) (incA incs) (.agg [.int .u8 (.sym k),.int .u8 (.sym o),.int .i64 (.sym n)])))),(1,some (.mp (.lit 1) (.sym ((incs.length:Int)+1+1)) (pushV (.sym ((incs.length:Int)+1))
  (mapA incs) (.agg [.int .u32 (.sym z13),.bool (.sym (apU (e12.ai 1 0) (e12.ai 1 1) (Ag e12 0 0) 0)),.int .i64 (.sym z14),.int .u8 (.sym z15),.bool (.sym (apU (e12.ai 1 0) (e12.ai 1 1) (Ag e12 0 0) 1)),.int .i64
  (.sym z16),.int .u8 (.sym z17),.bool (.sym (apU (e12.ai 1 0) (e12.ai 1 1) (Ag e12 0 0) 2)),.int .i64 (.sym z18),.int .u8 (.sym z19),.bool (.sym (apU (e12.ai 1 0) (e12.ai 1 1) (Ag e12 0 0) 3)),.int .i64 (.sym
  z20),.int .u8 (.sym z21),.bool (.sym (apU (e12.ai 1 0) (e12.ai 1 1) (Ag e12 0 0) 4)),.int .i64 (.sym z22),.int .u8 (.sym z23)])))),(2,some (.mp (.lit 2) (.sym ((incs.length:Int)+1)) (pushV (.sym (incs.length
  : Int)) (incA incs) (.agg [.int .u8 (.sym k),.int .u8 (.sym o),.int .i64 (.sym n)])))),(3,some (.lst (.sym (j.1 0)) 2 (fun (t:Nat)=>[.int .u32 (.sym (j.2 0 t)),.slIf (decide ((t:Int)=j.1 0 - 1)) 11 (j.3 0
  t)]) (some 7))),(7,some Ai.tok),(4,some (.lst (.sym (j.1 1)) 2 (fun (t:Nat)=>[.int .u32 (.sym (j.2 1 t)),.slIf (decide ((t:Int)=j.1 1 - 1)) 12 (j.3 1 t)]) (some 8))),(8,none),(5,some (.lst (.sym (j.1
  2)) 2 (fun (t:Nat)=>[.int .u32 (.sym (j.2 2 t)),.slIf (decide ((t:Int)=j.1 2 - 1)) 13 (j.3 2 t)]) (some 9))),(9,none),(6,some (.lst (.sym (j.1 3)) 2 (fun (t:Nat)=>[.int .u32 (.sym (j.2 3 t)),.slIf
  (decide ((t:Int)=j.1 3 - 1)) 14 (j.3 3 t)]) (some 10))),(10,some Ai.tok),(11,some (.lst (.sym (j.4 0)) 1 (fun (t:Nat)=>[.int .i64 (.sym (j.5 0 t))]) (some 15))),(15,some Ai.tok),(12,some (.lst (.sym
  (j.4 1)) 1 (fun (t:Nat)=>[.int .i64 (.sym (j.5 1 t))]) (some 16))),(16,some Ai.tok),(13,some (.lst (.sym (j.4 2)) 1 (fun (t:Nat)=>[.int .i64 (.sym (j.5 2 t))]) (some 17))),(17,some Ai.tok),(14,some
  (.lst (.sym (j.4 3)) 1 (fun (t:Nat)=>[.int .i64 (.sym (j.5 3 t))]) (some 18))),(18,some Ai.tok)]))))))))))))) (.defE ⟨[[.i z13,.b (apU (e12.ai 1 0) (e12.ai 1 1) (Ag e12 0 0) 0),.i z14,.i z15,.b (apU (e12.ai
  1 0) (e12.ai 1 1) (Ag e12 0 0) 1),.i z16,.i z17,.b (apU (e12.ai 1 0) (e12.ai 1 1) (Ag e12 0 0) 2),.i z18,.i z19,.b (apU (e12.ai 1 0) (e12.ai 1 1) (Ag e12 0 0) 3),.i z20,.i z21,.b (apU (e12.ai 1 0) (e12.ai
  1 1) (Ag e12 0 0) 4),.i z22,.i z23],[.i 3]],[]⟩ fun e69=>.must (mIs (e69.ai 0 0) (Av e69 0 0) (BF e69 0 0)) (.must (!decide (e69.ai 1 0≥4)) (.defI ((actM (e69.ai 0 0) (Ag e69 0 0) (Av e69 0 0) (BF e69
  0 0) (e69.ai 1 0)).length:Int) fun z70=>.must (!j.1 3==0) (.defI (IntKind.i64.wrap (j.1 3 - 1)) fun z71=>.must (decide (0≤z71∧z71<j.1 3)) (.must (decide (0≤z71∧z71<j.1 3)) (.must (decide ((z71.toNat :
  Int)=j.1 3 - 1)) (.must (AX [.i .i64] (fun (t:Nat)=>[.int .i64 (.sym (j.5 3 t))]) (j.4 3).toNat) (.must (AX [.i .i64] (AI [.i .i64] (AR ((actM (e69.ai 0 0) (Ag e69 0 0) (Av e69 0 0) (BF e69 0 0)
  (e69.ai 1 0))))) z70.toNat) (.defE ⟨[[.u],[.u]],[.lst (j.4 3).toNat (AH [.i .i64] fun (t:Nat)=>[.int .i64 (.sym (j.5 3 t))]),.lst z70.toNat (AH [.i .i64] (AI [.i .i64] (AR ((actM (e69.ai 0 0) (Ag
  e69 0 0) (Av e69 0 0) (BF e69 0 0) (e69.ai 1 0))))))]⟩ fun e72=>.must (decide (((e72.ln 0):Int)<1000000)) (.ite (!eqI (Ax (e72.ln 0) (e72.rw 0)) (Ax (e72.ln 1) (e72.rw 1))) (.must (decide ((j.1 3+1) * 32
  ≤ 1099511627776∧j.1 3+1≤1099511627776)) (.leaf (.int .i64 (.lit 0),[(0,some (.box [.mref 1,.mref 2,.int .u32 (.sym z13),.sl 3,.sl 276,.sl 5,.sl 426])),(426,some (.lst (.sym (j.1 3+1)) 2 (AP (.sym
  (j.1 3)) (fun (t:Nat)=>[.int .u32 (.sym (j.2 3 t)),.slIf (decide ((t:Int)=j.1 3 - 1)) 14 (j.3 3 t)]) (Aa 2 [.int .u32 (.sym z13),.sl 363])) (some 425))),(425,some Ai.tok),(424,some (.lst (.lit 1) 2
  (Aa 2 [.int .u32 (.sym z13),.sl 363]) (some 423))),(423,some Ai.tok),(363,some (.lst (.sym z70) 1 (AI [.i .i64] (AR ((actM (e69.ai 0 0) (Ag e69 0 0) (Av e69 0 0) (BF e69 0 0) (e69.ai 1 0))))) (some
  364))),(364,some Ai.tok),(301,some (.lst (.sym z62) 1 (AI [.i .i64] (AR ((actM (e61.ai 0 0) (Ag e61 0 0) (Av e61 0 0) (BF e61 0 0) (e61.ai 1 0))))) (some 302))),(302,some Ai.tok),(276,some (.lst
  (.sym (j.1 1+1)) 2 (AP (.sym (j.1 1)) (fun (t:Nat)=>[.int .u32 (.sym (j.2 1 t)),.slIf (decide ((t:Int)=j.1 1 - 1)) 12 (j.3 1 t)]) (Aa 2 [.int .u32 (.sym z13),.sl 213])) (some 275))),(275,some
  Ai.tok),(274,some (.lst (.lit 1) 2 (Aa 2 [.int .u32 (.sym z13),.sl 213]) (some 273))),(273,some Ai.tok),(213,some (.lst (.sym z58) 1 (AI [.i .i64] (AR ((actM (e57.ai 0 0) (Ag e57 0 0) (Av e57 0 0)
  (BF e57 0 0) (e57.ai 1 0))))) (some 214))),(214,some Ai.tok),(151,some (.lst (.sym z26) 1 (AI [.i .i64] (AR ((actM (e25.ai 0 0) (Ag e25 0 0) (Av e25 0 0) (BF e25 0 0) (e25.ai 1 0))))) (some 152))),
  (152,some Ai.tok),(1,some (.mp (.lit 1) (.sym ((incs.length:Int)+1+1)) (pushV (.sym ((incs.length:Int)+1)) (mapA incs) (.agg [.int .u32 (.sym z13),.bool (.sym (apU (e12.ai 1 0) (e12.ai 1 1) (Ag e12 0 0)
  0)),.int .i64 (.sym z14),.int .u8 (.sym z15),.bool (.sym (apU (e12.ai 1 0) (e12.ai 1 1) (Ag e12 0 0) 1)),.int .i64 (.sym z16),.int .u8 (.sym z17),.bool (.sym (apU (e12.ai 1 0) (e12.ai 1 1) (Ag e12 0 0) 2)),
  .int .i64 (.sym z18),.int .u8 (.sym z19),.bool (.sym (apU (e12.ai 1 0) (e12.ai 1 1) (Ag e12 0 0) 3)),.int .i64 (.sym z20),.int .u8 (.sym z21),.bool (.sym (apU (e12.ai 1 0) (e12.ai 1 1) (Ag e12 0 0) 4)),.int
  .i64 (.sym z22),.int .u8 (.sym z23)])))),(2,some (.mp (.lit 2) (.sym ((incs.length:Int)+1)) (pushV (.sym (incs.length:Int)) (incA incs) (.agg [.int .u8 (.sym k),.int .u8 (.sym o),.int .i64 (.sym n)])))),(1,
  some (.mp (.lit 1) (.sym ((incs.length:Int)+1+1)) (pushV (.sym ((incs.length:Int)+1)) (mapA incs) (.agg [.int .u32 (.sym z13),.bool (.sym (apU (e12.ai 1 0) (e12.ai 1 1) (Ag e12 0 0) 0)),.int .i64 (.sym
  z14),.int .u8 (.sym z15),.bool (.sym (apU (e12.ai 1 0) (e12.ai 1 1) (Ag e12 0 0) 1)),.int .i64 (.sym z16),.int .u8 (.sym z17),.bool (.sym (apU (e12.ai 1 0) (e12.ai 1 1) (Ag e12 0 0) 2)),.int .i64 (.sym z18),
  .int .u8 (.sym z19),.bool (.sym (apU (e12.ai 1 0) (e12.ai 1 1) (Ag e12 0 0) 3)),.int .i64 (.sym z20),.int .u8 (.sym z21),.bool (.sym (apU (e12.ai 1 0) (e12.ai 1 1) (Ag e12 0 0) 4)),.int .i64 (.sym z22),.int .u8
  (.sym z23)])))),(2,some (.mp (.lit 2) (.sym ((incs.length:Int)+1)) (pushV (.sym (incs.length:Int)) (incA incs) (.agg [.int .u8 (.sym k),.int .u8 (.sym o),.int .i64 (.sym n)])))),(3,some (.lst (.sym (j.1 0)) 2
  (fun (t:Nat)=>[.int .u32 (.sym (j.2 0 t)),.slIf (decide ((t:Int)=j.1 0 - 1)) 11 (j.3 0 t)]) (some 7))),(7,some Ai.tok),(4,some (.lst (.sym (j.1 1)) 2 (fun (t:Nat)=>[.int .u32 (.sym (j.2 1 t)),.slIf
  (decide ((t:Int)=j.1 1 - 1)) 12 (j.3 1 t)]) (some 8))),(8,none),(5,some (.lst (.sym (j.1 2)) 2 (fun (t:Nat)=>[.int .u32 (.sym (j.2 2 t)),.slIf (decide ((t:Int)=j.1 2 - 1)) 13 (j.3 2 t)]) (some 9))),(9,
  some Ai.tok),(6,some (.lst (.sym (j.1 3)) 2 (fun (t:Nat)=>[.int .u32 (.sym (j.2 3 t)),.slIf (decide ((t:Int)=j.1 3 - 1)) 14 (j.3 3 t)]) (some 10))),(10,none),(11,some (.lst (.sym (j.4 0)) 1 (fun (t :
  Nat)=>[.int .i64 (.sym (j.5 0 t))]) (some 15))),(15,some Ai.tok),(12,some (.lst (.sym (j.4 1)) 1 (fun (t:Nat)=>[.int .i64 (.sym (j.5 1 t))]) (some 16))),(16,some Ai.tok),(13,some (.lst (.sym (j.4 2)) 1
  (fun (t:Nat)=>[.int .i64 (.sym (j.5 2 t))]) (some 17))),(17,some Ai.tok),(14,some (.lst (.sym (j.4 3)) 1 (fun (t:Nat)=>[.int .i64 (.sym (j.5 3 t))]) (some 18))),(18,some Ai.tok)]))) (.leaf (.int .i64
  (.lit 0),[(0,some (.box [.mref 1,.mref 2,.int .u32 (.sym z13),.sl 3,.sl 276,.sl 5,.sl 6])),(363,some (.lst (.sym z70) 1 (AI [.i .i64] (AR ((actM (e69.ai 0 0) (Ag e69 0 0) (Av e69 0 0) (BF e69 0 0)
  (e69.ai 1 0))))) (some 364))),(364,some Ai.tok),(301,some (.lst (.sym z62) 1 (AI [.i .i64] (AR ((actM (e61.ai 0 0) (Ag e61 0 0) (Av e61 0 0) (BF e61 0 0) (e61.ai 1 0))))) (some 302))),(302,some
  Ai.tok),(276,some (.lst (.sym (j.1 1+1)) 2 (AP (.sym (j.1 1)) (fun (t:Nat)=>[.int .u32 (.sym (j.2 1 t)),.slIf (decide ((t:Int)=j.1 1 - 1)) 12 (j.3 1 t)]) (Aa 2 [.int .u32 (.sym z13),.sl 213]))
  (some 275))),(275,some Ai.tok),(274,some (.lst (.lit 1) 2 (Aa 2 [.int .u32 (.sym z13),.sl 213]) (some 273))),(273,some Ai.tok),(213,some (.lst (.sym z58) 1 (AI [.i .i64] (AR ((actM (e57.ai 0 0) (Ag
  e57 0 0) (Av e57 0 0) (BF e57 0 0) (e57.ai 1 0))))) (some 214))),(214,some Ai.tok),(151,some (.lst (.sym z26) 1 (AI [.i .i64] (AR ((actM (e25.ai 0 0) (Ag e25 0 0) (Av e25 0 0) (BF e25 0 0) (e25.ai 1
  0))))) (some 152))),(152,some Ai.tok),(1,some (.mp (.lit 1) (.sym ((incs.length:Int)+1+1)) (pushV (.sym ((incs.length:Int)+1)) (mapA incs) (.agg [.int .u32 (.sym z13),.bool (.sym (apU (e12.ai 1 0)
  (e12.ai 1 1) (Ag e12 0 0) 0)),.int .i64 (.sym z14),.int .u8 (.sym z15),.bool (.sym (apU (e12.ai 1 0) (e12.ai 1 1) (Ag e12 0 0) 1)),.int .i64 (.sym z16),.int .u8 (.sym z17),.bool (.sym (apU (e12.ai 1 0) (e12.ai
  1 1) (Ag e12 0 0) 2)),.int .i64 (.sym z18),.int .u8 (.sym z19),.bool (.sym (apU (e12.ai 1 0) (e12.ai 1 1) (Ag e12 0 0) 3)),.int .i64 (.sym z20),.int .u8 (.sym z21),.bool (.sym (apU (e12.ai 1 0) (e12.ai 1 1)
  (Ag e12 0 0) 4)),.int .i64 (.sym z22),.int .u8 (.sym z23)])))),(2,some (.mp (.lit 2) (.sym ((incs.length:Int)+1)) (pushV (.sym (incs.length:Int)) (incA incs) (.agg [.int .u8 (.sym k),.int .u8 (.sym o),.int
  .i64 (.sym n)])))),(1,some (.mp (.lit 1) (.sym ((incs.length:Int)+1+1)) (pushV (.sym ((incs.length:Int)+1)) (mapA incs) (.agg [.int .u32 (.sym z13),.bool (.sym (apU (e12.ai 1 0) (e12.ai 1 1) (Ag e12 0 0)
  0)),.int .i64 (.sym z14),.int .u8 (.sym z15),.bool (.sym (apU (e12.ai 1 0) (e12.ai 1 1) (Ag e12 0 0) 1)),.int .i64 (.sym z16),.int .u8 (.sym z17),.bool (.sym (apU (e12.ai 1 0) (e12.ai 1 1) (Ag e12 0 0) 2)),
  .int .i64 (.sym z18),.int .u8 (.sym z19),.bool (.sym (apU (e12.ai 1 0) (e12.ai 1 1) (Ag e12 0 0) 3)),.int .i64 (.sym z20),.int .u8 (.sym z21),.bool (.sym (apU (e12.ai 1 0) (e12.ai 1 1) (Ag e12 0 0) 4)),.int
  .i64 (.sym z22),.int .u8 (.sym z23)])))),(2,some (.mp (.lit 2) (.sym ((incs.length:Int)+1)) (pushV (.sym (incs.length:Int)) (incA incs) (.agg [.int .u8 (.sym k),.int .u8 (.sym o),.int .i64 (.sym n)])))),(3,
  some (.lst (.sym (j.1 0)) 2 (fun (t:Nat)=>[.int .u32 (.sym (j.2 0 t)),.slIf (decide ((t:Int)=j.1 0 - 1)) 11 (j.3 0 t)]) (some 7))),(7,some Ai.tok),(4,some (.lst (.sym (j.1 1)) 2 (fun (t:Nat)=>[.int
  .u32 (.sym (j.2 1 t)),.slIf (decide ((t:Int)=j.1 1 - 1)) 12 (j.3 1 t)]) (some 8))),(8,none),(5,some (.lst (.sym (j.1 2)) 2 (fun (t:Nat)=>[.int .u32 (.sym (j.2 2 t)),.slIf (decide ((t:Int)=j.1 2 - 1)) 13
  (j.3 2 t)]) (some 9))),(9,some Ai.tok),(6,some (.lst (.sym (j.1 3)) 2 (fun (t:Nat)=>[.int .u32 (.sym (j.2 3 t)),.slIf (decide ((t:Int)=j.1 3 - 1)) 14 (j.3 3 t)]) (some 10))),(10,some Ai.tok),(11,some
  (.lst (.sym (j.4 0)) 1 (fun (t:Nat)=>[.int .i64 (.sym (j.5 0 t))]) (some 15))),(15,some Ai.tok),(12,some (.lst (.sym (j.4 1)) 1 (fun (t:Nat)=>[.int .i64 (.sym (j.5 1 t))]) (some 16))),(16,some Ai.tok),
  (13,some (.lst (.sym (j.4 2)) 1 (fun (t:Nat)=>[.int .i64 (.sym (j.5 2 t))]) (some 17))),(17,some Ai.tok),(14,some (.lst (.sym (j.4 3)) 1 (fun (t:Nat)=>[.int .i64 (.sym (j.5 3 t))]) (some 18))),(18,some
  Ai.tok)]))))))))))))))))))))))) (.defE ⟨[[.i z13,.b (apU (e12.ai 1 0) (e12.ai 1 1) (Ag e12 0 0) 0),.i z14,.i z15,.b (apU (e12.ai 1 0) (e12.ai 1 1) (Ag e12 0 0) 1),.i z16,.i z17,.b (apU (e12.ai 1 0) (e12.ai 1
  1) (Ag e12 0 0) 2),.i z18,.i z19,.b (apU (e12.ai 1 0) (e12.ai 1 1) (Ag e12 0 0) 3),.i z20,.i z21,.b (apU (e12.ai 1 0) (e12.ai 1 1) (Ag e12 0 0) 4),.i z22,.i z23],[.i 2]],[]⟩ fun e73=>.must (mIs (e73.ai
  0 0) (Av e73 0 0) (BF e73 0 0)) (.must (!decide (e73.ai 1 0≥4)) (.defI ((actM (e73.ai 0 0) (Ag e73 0 0) (Av e73 0 0) (BF e73 0 0) (e73.ai 1 0)).length:Int) fun z74=>.must (!j.1 2==0) (.defI
  (IntKind.i64.wrap (j.1 2 - 1)) fun z75=>.must (decide (0≤z75∧z75<j.1 2)) (.must (decide (0≤z75∧z75<j.1 2)) (.must (decide ((z75.toNat:Int)=j.1 2 - 1)) (.must (AX [.i .i64] (fun (t:Nat)=>[.int
  .i64 (.sym (j.5 2 t))]) (j.4 2).toNat) (.must (AX [.i .i64] (AI [.i .i64] (AR ((actM (e73.ai 0 0) (Ag e73 0 0) (Av e73 0 0) (BF e73 0 0) (e73.ai 1 0))))) z74.toNat) (.defE ⟨[[.u],[.u]],[.lst (j.4 2).toNat
  (AH [.i .i64] fun (t:Nat)=>[.int .i64 (.sym (j.5 2 t))]),.lst z74.toNat (AH [.i .i64] (AI [.i .i64] (AR ((actM (e73.ai 0 0) (Ag e73 0 0) (Av e73 0 0) (BF e73 0 0) (e73.ai 1 0))))))]⟩ fun e76 =>
  .must (decide (((e76.ln 0):Int)<1000000)) (.ite (!eqI (Ax (e76.ln 0) (e76.rw 0)) (Ax (e76.ln 1) (e76.rw 1))) (.must (decide ((j.1 2+1) * 32≤1099511627776∧j.1 2+1≤1099511627776)) (.defE ⟨[[.i z13,.b
  (apU (e12.ai 1 0) (e12.ai 1 1) (Ag e12 0 0) 0),.i z14,.i z15,.b (apU (e12.ai 1 0) (e12.ai 1 1) (Ag e12 0 0) 1),.i z16,.i z17,.b (apU (e12.ai 1 0) (e12.ai 1 1) (Ag e12 0 0) 2),.i z18,.i z19,.b (apU (e12.ai
  1 0) (e12.ai 1 1) (Ag e12 0 0) 3),.i z20,.i z21,.b (apU (e12.ai 1 0) (e12.ai 1 1) (Ag e12 0 0) 4),.i z22,.i z23],[.i 3]],[]⟩ fun e77=>.must (mIs (e77.ai 0 0) (Av e77 0 0) (BF e77 0 0)) (.must (!decide
  (e77.ai 1 0≥4)) (.defI ((actM (e77.ai 0 0) (Ag e77 0 0) (Av e77 0 0) (BF e77 0 0) (e77.ai 1 0)).length:Int) fun z78=>.must (!j.1 3==0) (.defI (IntKind.i64.wrap (j.1 3 - 1)) fun z79=>.must (decide (0≤z79
  ∧ z79<j.1 3)) (.must (decide (0≤z79∧z79<j.1 3)) (.must (decide ((z79.toNat:Int)=j.1 3 - 1)) (.must (AX [.i .i64] (fun (t:Nat)=>[.int .i64 (.sym (j.5 3 t))]) (j.4 3).toNat) (.must (AX [.i .i64]
  (AI [.i .i64] (AR ((actM (e77.ai 0 0) (Ag e77 0 0) (Av e77 0 0) (BF e77 0 0) (e77.ai 1 0))))) z78.toNat) (.defE ⟨[[.u],[.u]],[.lst (j.4 3).toNat (AH [.i .i64] fun (t:Nat)=>[.int .i64 (.sym (j.5 3
  t))]),.lst z78.toNat (AH [.i .i64] (AI [.i .i64] (AR ((actM (e77.ai 0 0) (Ag e77 0 0) (Av e77 0 0) (BF e77 0 0) (e77.ai 1 0))))))]⟩ fun e80=>.must (decide (((e80.ln 0):Int)<1000000)) (.ite (!eqI
  (Ax (e80.ln 0) (e80.rw 0)) (Ax (e80.ln 1) (e80.rw 1))) (.must (decide ((j.1 3+1) * 32≤1099511627776∧j.1 3+1≤1099511627776)) (.leaf (.int .i64 (.lit 0),[(0,some (.box [.mref 1,.mref 2,.int .u32 (.sym
  z13),.sl 3,.sl 4,.sl 338,.sl 426])),(426,some (.lst (.sym (j.1 3+1)) 2 (AP (.sym (j.1 3)) (fun (t:Nat)=>[.int .u32 (.sym (j.2 3 t)),.slIf (decide ((t:Int)=j.1 3 - 1)) 14 (j.3 3 t)]) (Aa 2 [.int
  .u32 (.sym z13),.sl 363])) (some 425))),(425,some Ai.tok),(424,some (.lst (.lit 1) 2 (Aa 2 [.int .u32 (.sym z13),.sl 363]) (some 423))),(423,some Ai.tok),(363,some (.lst (.sym z78) 1 (AI [.i .i64]
  (AR ((actM (e77.ai 0 0) (Ag e77 0 0) (Av e77 0 0) (BF e77 0 0) (e77.ai 1 0))))) (some 364))),(364,some Ai.tok),(338,some (.lst (.sym (j.1 2+1)) 2 (AP (.sym (j.1 2)) (fun (t:Nat)=>[.int .u32 (.sym
  (j.2 2 t)),.slIf (decide ((t:Int)=j.1 2 - 1)) 13 (j.3 2 t)]) (Aa 2 [.int .u32 (.sym z13),.sl 275])) (some 337))),(337,some Ai.tok),(336,some (.lst (.lit 1) 2 (Aa 2 [.int .u32 (.sym z13),.sl 275]) (some
  335))),(335,some Ai.tok),(275,some (.lst (.sym z74) 1 (AI [.i .i64] (AR ((actM (e73.ai 0 0) (Ag e73 0 0) (Av e73 0 0) (BF e73 0 0) (e73.ai 1 0))))) (some 276))),(276,some Ai.tok),(213,some (.lst
  (.sym z58) 1 (AI [.i .i64] (AR ((actM (e57.ai 0 0) (Ag e57 0 0) (Av e57 0 0) (BF e57 0 0) (e57.ai 1 0))))) (some 214))),(214,some Ai.tok),(151,some (.lst (.sym z26) 1 (AI [.i .i64] (AR ((actM
  (e25.ai 0 0) (Ag e25 0 0) (Av e25 0 0) (BF e25 0 0) (e25.ai 1 0))))) (some 152))),(152,some Ai.tok),(1,some (.mp (.lit 1) (.sym ((incs.length:Int)+1+1)) (pushV (.sym ((incs.length:Int)+1)) (mapA
  incs) (.agg [.int .u32 (.sym z13),.bool (.sym (apU (e12.ai 1 0) (e12.ai 1 1) (Ag e12 0 0) 0)),.int .i64 (.sym z14),.int .u8 (.sym z15),.bool (.sym (apU (e12.ai 1 0) (e12.ai 1 1) (Ag e12 0 0) 1)),.int .i64 (.sym
  z16),.int .u8 (.sym z17),.bool (.sym (apU (e12.ai 1 0) (e12.ai 1 1) (Ag e12 0 0) 2)),.int .i64 (.sym z18),.int .u8 (.sym z19),.bool (.sym (apU (e12.ai 1 0) (e12.ai 1 1) (Ag e12 0 0) 3)),.int .i64 (.sym z20),
  .int .u8 (.sym z21),.bool (.sym (apU (e12.ai 1 0) (e12.ai 1 1) (Ag e12 0 0) 4)),.int .i64 (.sym z22),.int .u8 (.sym z23)])))),(2,some (.mp (.lit 2) (.sym ((incs.length:Int)+1)) (pushV (.sym (incs.length :
  Int)) (incA incs) (.agg [.int .u8 (.sym k),.int .u8 (.sym o),.int .i64 (.sym n)])))),(1,some (.mp (.lit 1) (.sym ((incs.length:Int)+1+1)) (pushV (.sym ((incs.length:Int)+1)) (mapA incs) (.agg [.int .u32
  (.sym z13),.bool (.sym (apU (e12.ai 1 0) (e12.ai 1 1) (Ag e12 0 0) 0)),.int .i64 (.sym z14),.int .u8 (.sym z15),.bool (.sym (apU (e12.ai 1 0) (e12.ai 1 1) (Ag e12 0 0) 1)),.int .i64 (.sym z16),.int .u8 (.sym
  z17),.bool (.sym (apU (e12.ai 1 0) (e12.ai 1 1) (Ag e12 0 0) 2)),.int .i64 (.sym z18),.int .u8 (.sym z19),.bool (.sym (apU (e12.ai 1 0) (e12.ai 1 1) (Ag e12 0 0) 3)),.int .i64 (.sym z20),.int .u8 (.sym z21),
  .bool (.sym (apU (e12.ai 1 0) (e12.ai 1 1) (Ag e12 0 0) 4)),.int .i64 (.sym z22),.int .u8 (.sym z23)])))),(2,some (.mp (.lit 2) (.sym ((incs.length:Int)+1)) (pushV (.sym (incs.length:Int)) (incA incs) (.agg
  [.int .u8 (.sym k),.int .u8 (.sym o),.int .i64 (.sym n)])))),(3,some (.lst (.sym (j.1 0)) 2 (fun (t:Nat)=>[.int .u32 (.sym (j.2 0 t)),.slIf (decide ((t:Int)=j.1 0 - 1)) 11 (j.3 0 t)]) (some 7))),(7,some
  Ai.tok),(4,some (.lst (.sym (j.1 1)) 2 (fun (t:Nat)=>[.int .u32 (.sym (j.2 1 t)),.slIf (decide ((t:Int)=j.1 1 - 1)) 12 (j.3 1 t)]) (some 8))),(8,some Ai.tok),(5,some (.lst (.sym (j.1 2)) 2 (fun (t :
  Nat)=>[.int .u32 (.sym (j.2 2 t)),.slIf (decide ((t:Int)=j.1 2 - 1)) 13 (j.3 2 t)]) (some 9))),(9,none),(6,some (.lst (.sym (j.1 3)) 2 (fun (t:Nat)=>[.int .u32 (.sym (j.2 3 t)),.slIf (decide ((t:Int) =
  j.1 3 - 1)) 14 (j.3 3 t)]) (some 10))),(10,none),(11,some (.lst (.sym (j.4 0)) 1 (fun (t:Nat)=>[.int .i64 (.sym (j.5 0 t))]) (some 15))),(15,some Ai.tok),(12,some (.lst (.sym (j.4 1)) 1 (fun (t:Nat) =>
  [.int .i64 (.sym (j.5 1 t))]) (some 16))),(16,some Ai.tok),(13,some (.lst (.sym (j.4 2)) 1 (fun (t:Nat)=>[.int .i64 (.sym (j.5 2 t))]) (some 17))),(17,some Ai.tok),(14,some (.lst (.sym (j.4 3)) 1 (fun (t
  : Nat)=>[.int .i64 (.sym (j.5 3 t))]) (some 18))),(18,some Ai.tok)]))) (.leaf (.int .i64 (.lit 0),[(0,some (.box [.mref 1,.mref 2,.int .u32 (.sym z13),.sl 3,.sl 4,.sl 338,.sl 6])),(363,some (.lst (.sym
  z78) 1 (AI [.i .i64] (AR ((actM (e77.ai 0 0) (Ag e77 0 0) (Av e77 0 0) (BF e77 0 0) (e77.ai 1 0))))) (some 364))),(364,some Ai.tok),(338,some (.lst (.sym (j.1 2+1)) 2 (AP (.sym (j.1 2)) (fun (t :
  Nat)=>[.int .u32 (.sym (j.2 2 t)),.slIf (decide ((t:Int)=j.1 2 - 1)) 13 (j.3 2 t)]) (Aa 2 [.int .u32 (.sym z13),.sl 275])) (some 337))),(337,some Ai.tok),(336,some (.lst (.lit 1) 2 (Aa 2 [.int .u32
  (.sym z13),.sl 275]) (some 335))),(335,some Ai.tok),(275,some (.lst (.sym z74) 1 (AI [.i .i64] (AR ((actM (e73.ai 0 0) (Ag e73 0 0) (Av e73 0 0) (BF e73 0 0) (e73.ai 1 0))))) (some 276))),(276,some
  Ai.tok),(213,some (.lst (.sym z58) 1 (AI [.i .i64] (AR ((actM (e57.ai 0 0) (Ag e57 0 0) (Av e57 0 0) (BF e57 0 0) (e57.ai 1 0))))) (some 214))),(214,some Ai.tok),(151,some (.lst (.sym z26) 1 (AI
  [.i .i64] (AR ((actM (e25.ai 0 0) (Ag e25 0 0) (Av e25 0 0) (BF e25 0 0) (e25.ai 1 0))))) (some 152))),(152,some Ai.tok),(1,some (.mp (.lit 1) (.sym ((incs.length:Int)+1+1)) (pushV (.sym ((incs.length
  : Int)+1)) (mapA incs) (.agg [.int .u32 (.sym z13),.bool (.sym (apU (e12.ai 1 0) (e12.ai 1 1) (Ag e12 0 0) 0)),.int .i64 (.sym z14),.int .u8 (.sym z15),.bool (.sym (apU (e12.ai 1 0) (e12.ai 1 1) (Ag e12 0 0)
  1)),.int .i64 (.sym z16),.int .u8 (.sym z17),.bool (.sym (apU (e12.ai 1 0) (e12.ai 1 1) (Ag e12 0 0) 2)),.int .i64 (.sym z18),.int .u8 (.sym z19),.bool (.sym (apU (e12.ai 1 0) (e12.ai 1 1) (Ag e12 0 0) 3)),
  .int .i64 (.sym z20),.int .u8 (.sym z21),.bool (.sym (apU (e12.ai 1 0) (e12.ai 1 1) (Ag e12 0 0) 4)),.int .i64 (.sym z22),.int .u8 (.sym z23)])))),(2,some (.mp (.lit 2) (.sym ((incs.length:Int)+1)) (pushV
  (.sym (incs.length:Int)) (incA incs) (.agg [.int .u8 (.sym k),.int .u8 (.sym o),.int .i64 (.sym n)])))),(1,some (.mp (.lit 1) (.sym ((incs.length:Int)+1+1)) (pushV (.sym ((incs.length:Int)+1)) (mapA incs)
  (.agg [.int .u32 (.sym z13),.bool (.sym (apU (e12.ai 1 0) (e12.ai 1 1) (Ag e12 0 0) 0)),.int .i64 (.sym z14),.int .u8 (.sym z15),.bool (.sym (apU (e12.ai 1 0) (e12.ai 1 1) (Ag e12 0 0) 1)),.int .i64 (.sym z16),
  .int .u8 (.sym z17),.bool (.sym (apU (e12.ai 1 0) (e12.ai 1 1) (Ag e12 0 0) 2)),.int .i64 (.sym z18),.int .u8 (.sym z19),.bool (.sym (apU (e12.ai 1 0) (e12.ai 1 1) (Ag e12 0 0) 3)),.int .i64 (.sym z20),.int .u8
  (.sym z21),.bool (.sym (apU (e12.ai 1 0) (e12.ai 1 1) (Ag e12 0 0) 4)),.int .i64 (.sym z22),.int .u8 (.sym z23)])))),(2,some (.mp (.lit 2) (.sym ((incs.length:Int)+1)) (pushV (.sym (incs.length:Int)) (incA
  incs) (.agg [.int .u8 (.sym k),.int .u8 (.sym o),.int .i64 (.sym n)])))),(3,some (.lst (.sym (j.1 0)) 2 (fun (t:Nat)=>[.int .u32 (.sym (j.2 0 t)),.slIf (decide ((t:Int)=j.1 0 - 1)) 11 (j.3 0 t)]) (some 7))),
  (7,some Ai.tok),(4,some (.lst (.sym (j.1 1)) 2 (fun (t:Nat)=>[.int .u32 (.sym (j.2 1 t)),.slIf (decide ((t:Int)=j.1 1 - 1)) 12 (j.3 1 t)]) (some 8))),(8,some Ai.tok),(5,some (.lst (.sym (j.1 2)) 2
  (fun (t:Nat)=>[.int .u32 (.sym (j.2 2 t)),.slIf (decide ((t:Int)=j.1 2 - 1)) 13 (j.3 2 t)]) (some 9))),(9,none),(6,some (.lst (.sym (j.1 3)) 2 (fun (t:Nat)=>[.int .u32 (.sym (j.2 3 t)),.slIf (decide ((t
  : Int)=j.1 3 - 1)) 14 (j.3 3 t)]) (some 10))),(10,some Ai.tok),(11,some (.lst (.sym (j.4 0)) 1 (fun (t:Nat)=>[.int .i64 (.sym (j.5 0 t))]) (some 15))),(15,some Ai.tok),(12,some (.lst (.sym (j.4 1)) 1
  (fun (t:Nat)=>[.int .i64 (.sym (j.5 1 t))]) (some 16))),(16,some Ai.tok),(13,some (.lst (.sym (j.4 2)) 1 (fun (t:Nat)=>[.int .i64 (.sym (j.5 2 t))]) (some 17))),(17,some Ai.tok),(14,some (.lst (.sym
  (j.4 3)) 1 (fun (t:Nat)=>[.int .i64 (.sym (j.5 3 t))]) (some 18))),(18,some Ai.tok)]))))))))))))) (.defE ⟨[[.i z13,.b (apU (e12.ai 1 0) (e12.ai 1 1) (Ag e12 0 0) 0),.i z14,.i z15,.b (apU (e12.ai 1 0)
  (e12.ai 1 1) (Ag e12 0 0) 1),.i z16,.i z17,.b (apU (e12.ai 1 0) (e12.ai 1 1) (Ag e12 0 0) 2),.i z18,.i z19,.b (apU (e12.ai 1 0) (e12.ai 1 1) (Ag e12 0 0) 3),.i z20,.i z21,.b (apU (e12.ai 1 0) (e12.ai 1 1)
  (Ag e12 0 0) 4),.i z22,.i z23],[.i 3]],[]⟩ fun e81=>.must (mIs (e81.ai 0 0) (Av e81 0 0) (BF e81 0 0)) (.must (!decide (e81.ai 1 0≥4)) (.defI ((actM (e81.ai 0 0) (Ag e81 0 0) (Av e81 0 0) (BF e81 0 0)
  (e81.ai 1 0)).length:Int) fun z82=>.must (!j.1 3==0) (.defI (IntKind.i64.wrap (j.1 3 - 1)) fun z83=>.must (decide (0≤z83∧z83<j.1 3)) (.must (decide (0≤z83∧z83<j.1 3)) (.must (decide ((z83.toNat:Int)
  = j.1 3 - 1)) (.must (AX [.i .i64] (fun (t:Nat)=>[.int .i64 (.sym (j.5 3 t))]) (j.4 3).toNat) (.must (AX [.i .i64] (AI [.i .i64] (AR ((actM (e81.ai 0 0) (Ag e81 0 0) (Av e81 0 0) (BF e81 0 0) (e81.ai
  1 0))))) z82.toNat) (.defE ⟨[[.u],[.u]],[.lst (j.4 3).toNat (AH [.i .i64] fun (t:Nat)=>[.int .i64 (.sym (j.5 3 t))]),.lst z82.toNat (AH [.i .i64] (AI [.i .i64] (AR ((actM (e81.ai 0 0) (Ag e81 0 0)
  (Av e81 0 0) (BF e81 0 0) (e81.ai 1 0))))))]⟩ fun e84=>.must (decide (((e84.ln 0):Int)<1000000)) (.ite (!eqI (Ax (e84.ln 0) (e84.rw 0)) (Ax (e84.ln 1) (e84.rw 1))) (.must (decide ((j.1 3+1) * 32 ≤
  1099511627776∧j.1 3+1≤1099511627776)) (.leaf (.int .i64 (.lit 0),[(0,some (.box [.mref 1,.mref 2,.int .u32 (.sym z13),.sl 3,.sl 4,.sl 5,.sl 400])),(400,some (.lst (.sym (j.1 3+1)) 2 (AP (.sym (j.1
  3)) (fun (t:Nat)=>[.int .u32 (.sym (j.2 3 t)),.slIf (decide ((t:Int)=j.1 3 - 1)) 14 (j.3 3 t)]) (Aa 2 [.int .u32 (.sym z13),.sl 337])) (some 399))),(399,some Ai.tok),(398,some (.lst (.lit 1) 2 (Aa 2
  [.int .u32 (.sym z13),.sl 337]) (some 397))),(397,some Ai.tok),(337,some (.lst (.sym z82) 1 (AI [.i .i64] (AR ((actM (e81.ai 0 0) (Ag e81 0 0) (Av e81 0 0) (BF e81 0 0) (e81.ai 1 0))))) (some 338))),
  (338,some Ai.tok),(275,some (.lst (.sym z74) 1 (AI [.i .i64] (AR ((actM (e73.ai 0 0) (Ag e73 0 0) (Av e73 0 0) (BF e73 0 0) (e73.ai 1 0))))) (some 276))),(276,some Ai.tok),(213,some (.lst (.sym z58)
  1 (AI [.i .i64] (AR ((actM (e57.ai 0 0) (Ag e57 0 0) (Av e57 0 0) (BF e57 0 0) (e57.ai 1 0))))) (some 214))),(214,some Ai.tok),(151,some (.lst (.sym z26) 1 (AI [.i .i64] (AR ((actM (e25.ai 0 0)
  (Ag e25 0 0) (Av e25 0 0) (BF e25 0 0) (e25.ai 1 0))))) (some 152))),(152,some Ai.tok),(1,some (.mp (.lit 1) (.sym ((incs.length:Int)+1+1)) (pushV (.sym ((incs.length:Int)+1)) (mapA incs) (.agg
  [.int .u32 (.sym z13),.bool (.sym (apU (e12.ai 1 0) (e12.ai 1 1) (Ag e12 0 0) 0)),.int .i64 (.sym z14),.int .u8 (.sym z15),.bool (.sym (apU (e12.ai 1 0) (e12.ai 1 1) (Ag e12 0 0) 1)),.int .i64 (.sym z16),.int
  .u8 (.sym z17),.bool (.sym (apU (e12.ai 1 0) (e12.ai 1 1) (Ag e12 0 0) 2)),.int .i64 (.sym z18),.int .u8 (.sym z19),.bool (.sym (apU (e12.ai 1 0) (e12.ai 1 1) (Ag e12 0 0) 3)),.int .i64 (.sym z20),.int .u8
  (.sym z21),.bool (.sym (apU (e12.ai 1 0) (e12.ai 1 1) (Ag e12 0 0) 4)),.int .i64 (.sym z22),.int .u8 (.sym z23)])))),(2,some (.mp (.lit 2) (.sym ((incs.length:Int)+1)) (pushV (.sym (incs.length:Int)) (incA
  incs) (.agg [.int .u8 (.sym k),.int .u8 (.sym o),.int .i64 (.sym n)])))),(1,some (.mp (.lit 1) (.sym ((incs.length:Int)+1+1)) (pushV (.sym ((incs.length:Int)+1)) (mapA incs) (.agg [.int .u32 (.sym z13),
  .bool (.sym (apU (e12.ai 1 0) (e12.ai 1 1) (Ag e12 0 0) 0)),.int .i64 (.sym z14),.int .u8 (.sym z15),.bool (.sym (apU (e12.ai 1 0) (e12.ai 1 1) (Ag e12 0 0) 1)),.int .i64 (.sym z16),.int .u8 (.sym z17),.bool
  (.sym (apU (e12.ai 1 0) (e12.ai 1 1) (Ag e12 0 0) 2)),.int .i64 (.sym z18),.int .u8 (.sym z19),.bool (.sym (apU (e12.ai 1 0) (e12.ai 1 1) (Ag e12 0 0) 3)),.int .i64 (.sym z20),.int .u8 (.sym z21),.bool (.sym
  (apU (e12.ai 1 0) (e12.ai 1 1) (Ag e12 0 0) 4)),.int .i64 (.sym z22),.int .u8 (.sym z23)])))),(2,some (.mp (.lit 2) (.sym ((incs.length:Int)+1)) (pushV (.sym (incs.length:Int)) (incA incs) (.agg [.int .u8
  (.sym k),.int .u8 (.sym o),.int .i64 (.sym n)])))),(3,some (.lst (.sym (j.1 0)) 2 (fun (t:Nat)=>[.int .u32 (.sym (j.2 0 t)),.slIf (decide ((t:Int)=j.1 0 - 1)) 11 (j.3 0 t)]) (some 7))),(7,some Ai.tok),
  (4,some (.lst (.sym (j.1 1)) 2 (fun (t:Nat)=>[.int .u32 (.sym (j.2 1 t)),.slIf (decide ((t:Int)=j.1 1 - 1)) 12 (j.3 1 t)]) (some 8))),(8,some Ai.tok),(5,some (.lst (.sym (j.1 2)) 2 (fun (t:Nat)=>[.int
  .u32 (.sym (j.2 2 t)),.slIf (decide ((t:Int)=j.1 2 - 1)) 13 (j.3 2 t)]) (some 9))),(9,some Ai.tok),(6,some (.lst (.sym (j.1 3)) 2 (fun (t:Nat)=>[.int .u32 (.sym (j.2 3 t)),.slIf (decide ((t:Int)=j.1 3
  - 1)) 14 (j.3 3 t)]) (some 10))),(10,none),(11,some (.lst (.sym (j.4 0)) 1 (fun (t:Nat)=>[.int .i64 (.sym (j.5 0 t))]) (some 15))),(15,some Ai.tok),(12,some (.lst (.sym (j.4 1)) 1 (fun (t:Nat)=>[.int
  .i64 (.sym (j.5 1 t))]) (some 16))),(16,some Ai.tok),(13,some (.lst (.sym (j.4 2)) 1 (fun (t:Nat)=>[.int .i64 (.sym (j.5 2 t))]) (some 17))),(17,some Ai.tok),(14,some (.lst (.sym (j.4 3)) 1 (fun (t:Nat)
  => [.int .i64 (.sym (j.5 3 t))]) (some 18))),(18,some Ai.tok)]))) (.leaf (.int .i64 (.lit 0),[(0,some (.box [.mref 1,.mref 2,.int .u32 (.sym z13),.sl 3,.sl 4,.sl 5,.sl 6])),(337,some (.lst (.sym z82) 1
  (AI [.i .i64] (AR ((actM (e81.ai 0 0) (Ag e81 0 0) (Av e81 0 0) (BF e81 0 0) (e81.ai 1 0))))) (some 338))),(338,some Ai.tok),(275,some (.lst (.sym z74) 1 (AI [.i .i64] (AR ((actM (e73.ai 0 0) (Ag
  e73 0 0) (Av e73 0 0) (BF e73 0 0) (e73.ai 1 0))))) (some 276))),(276,some Ai.tok),(213,some (.lst (.sym z58) 1 (AI [.i .i64] (AR ((actM (e57.ai 0 0) (Ag e57 0 0) (Av e57 0 0) (BF e57 0 0) (e57.ai 1
  0))))) (some 214))),(214,some Ai.tok),(151,some (.lst (.sym z26) 1 (AI [.i .i64] (AR ((actM (e25.ai 0 0) (Ag e25 0 0) (Av e25 0 0) (BF e25 0 0) (e25.ai 1 0))))) (some 152))),(152,some Ai.tok),(1,
  some (.mp (.lit 1) (.sym ((incs.length:Int)+1+1)) (pushV (.sym ((incs.length:Int)+1)) (mapA incs) (.agg [.int .u32 (.sym z13),.bool (.sym (apU (e12.ai 1 0) (e12.ai 1 1) (Ag e12 0 0) 0)),.int .i64 (.sym
  z14),.int .u8 (.sym z15),.bool (.sym (apU (e12.ai 1 0) (e12.ai 1 1) (Ag e12 0 0) 1)),.int .i64 (.sym z16),.int .u8 (.sym z17),.bool (.sym (apU (e12.ai 1 0) (e12.ai 1 1) (Ag e12 0 0) 2)),.int .i64 (.sym z18),
  .int .u8 (.sym z19),.bool (.sym (apU (e12.ai 1 0) (e12.ai 1 1) (Ag e12 0 0) 3)),.int .i64 (.sym z20),.int .u8 (.sym z21),.bool (.sym (apU (e12.ai 1 0) (e12.ai 1 1) (Ag e12 0 0) 4)),.int .i64 (.sym z22),.int .u8
  (.sym z23)])))),(2,some (.mp (.lit 2) (.sym ((incs.length:Int)+1)) (pushV (.sym (incs.length:Int)) (incA incs) (.agg [.int .u8 (.sym k),.int .u8 (.sym o),.int .i64 (.sym n)])))),(1,some (.mp (.lit 1) (.sym
  ((incs.length:Int)+1+1)) (pushV (.sym ((incs.length:Int)+1)) (mapA incs) (.agg [.int .u32 (.sym z13),.bool (.sym (apU (e12.ai 1 0) (e12.ai 1 1) (Ag e12 0 0) 0)),.int .i64 (.sym z14),.int .u8 (.sym z15),
  .bool (.sym (apU (e12.ai 1 0) (e12.ai 1 1) (Ag e12 0 0) 1)),.int .i64 (.sym z16),.int .u8 (.sym z17),.bool (.sym (apU (e12.ai 1 0) (e12.ai 1 1) (Ag e12 0 0) 2)),.int .i64 (.sym z18),.int .u8 (.sym z19),.bool
  (.sym (apU (e12.ai 1 0) (e12.ai 1 1) (Ag e12 0 0) 3)),.int .i64 (.sym z20),.int .u8 (.sym z21),.bool (.sym (apU (e12.ai 1 0) (e12.ai 1 1) (Ag e12 0 0) 4)),.int .i64 (.sym z22),.int .u8 (.sym z23)])))),(2,some
  (.mp (.lit 2) (.sym ((incs.length:Int)+1)) (pushV (.sym (incs.length:Int)) (incA incs) (.agg [.int .u8 (.sym k),.int .u8 (.sym o),.int .i64 (.sym n)])))),(3,some (.lst (.sym (j.1 0)) 2 (fun (t:Nat)=>[.int
  .u32 (.sym (j.2 0 t)),.slIf (decide ((t:Int)=j.1 0 - 1)) 11 (j.3 0 t)]) (some 7))),(7,some Ai.tok),(4,some (.lst (.sym (j.1 1)) 2 (fun (t:Nat)=>[.int .u32 (.sym (j.2 1 t)),.slIf (decide ((t:Int)=j.1 1
  - 1)) 12 (j.3 1 t)]) (some 8))),(8,some Ai.tok),(5,some (.lst (.sym (j.1 2)) 2 (fun (t:Nat)=>[.int .u32 (.sym (j.2 2 t)),.slIf (decide ((t:Int)=j.1 2 - 1)) 13 (j.3 2 t)]) (some 9))),(9,some Ai.tok),
  (6,some (.lst (.sym (j.1 3)) 2 (fun (t:Nat)=>[.int .u32 (.sym (j.2 3 t)),.slIf (decide ((t:Int)=j.1 3 - 1)) 14 (j.3 3 t)]) (some 10))),(10,some Ai.tok),(11,some (.lst (.sym (j.4 0)) 1 (fun (t:Nat) =>
  [.int .i64 (.sym (j.5 0 t))]) (some 15))),(15,some Ai.tok),(12,some (.lst (.sym (j.4 1)) 1 (fun (t:Nat)=>[.int .i64 (.sym (j.5 1 t))]) (some 16))),(16,some Ai.tok),(13,some (.lst (.sym (j.4 2)) 1 (fun (t
  : Nat)=>[.int .i64 (.sym (j.5 2 t))]) (some 17))),(17,some Ai.tok),(14,some (.lst (.sym (j.4 3)) 1 (fun (t:Nat)=>[.int .i64 (.sym (j.5 3 t))]) (some 18))),(18,some
  Ai.tok)]))))))))))))))))))))))))))))))))))))))))))))))))):=by kernel_rfl
theorem ad_e (incs:List Inc) (j:HJ) (e k o n:Int):(BR Tryz.prog (Am Tryz.prog qbT 300) 44 [.ptr 0 0,.int .u32 (.sym e),.agg [.int .u8 (.sym k),.int .u8 (.sym o),.int .i64 (.sym n)]] (Ad (histObjs incs j)) 19 (outK (rootK 0))).cut [none,none,some true,some false,some true] =
  .ite (decide (e≤(incs.length:Int)+1)) (.leaf (.int .i64 (.lit 51),[(0,some (.box [.mref 1,.mref 2,.int .u32 (.sym ((incs.length:Int)+1)),.sl 3,.sl 4,.sl 5,.sl 6])),(1,some (.mp (.lit 1) (.sym
  ((incs.length:Int)+1)) fun (i:Nat)=>.agg [.int .u32 (.sym ((i:Int)+1)),.bool (.sym (upAt 0 true (List.take i incs))),.int .i64 (.sym (wAt 0 8 (List.take i incs))),.int .u8 (.sym 0),.bool (.sym (upAt 1
  true (List.take i incs))),.int .i64 (.sym (wAt 1 8 (List.take i incs))),.int .u8 (.sym 1),.bool (.sym (upAt 2 true (List.take i incs))),.int .i64 (.sym (wAt 2 8 (List.take i incs))),.int .u8 (.sym 2),.bool (.sym
  (upAt 3 true (List.take i incs))),.int .i64 (.sym (wAt 3 8 (List.take i incs))),.int .u8 (.sym 3),.bool (.sym (upAt 4 true (List.take i incs))),.int .i64 (.sym (wAt 4 8 (List.take i incs))),.int .u8 (.sym 0)])),(2,
  some (.mp (.lit 2) (.sym (incs.length:Int)) fun (i:Nat)=>.agg [.int .u8 (.sym (incs.getD i Inc.zero).1),.int .u8 (.sym (incs.getD i Inc.zero).2),.int .i64 (.sym (incs.getD i Inc.zero).3)])),(3,some (.lst (.sym
  (j.1 0)) 2 (fun (t:Nat)=>[.int .u32 (.sym (j.2 0 t)),.slIf (decide ((t:Int)=j.1 0 - 1)) 11 (j.3 0 t)]) (some 7))),(7,some Ai.tok),(4,some (.lst (.sym (j.1 1)) 2 (fun (t:Nat)=>[.int .u32 (.sym (j.2 1
  t)),.slIf (decide ((t:Int)=j.1 1 - 1)) 12 (j.3 1 t)]) (some 8))),(8,some Ai.tok),(5,some (.lst (.sym (j.1 2)) 2 (fun (t:Nat)=>[.int .u32 (.sym (j.2 2 t)),.slIf (decide ((t:Int)=j.1 2 - 1)) 13 (j.3 2
  t)]) (some 9))),(9,some Ai.tok),(6,some (.lst (.sym (j.1 3)) 2 (fun (t:Nat)=>[.int .u32 (.sym (j.2 3 t)),.slIf (decide ((t:Int)=j.1 3 - 1)) 14 (j.3 3 t)]) (some 10))),(10,some Ai.tok),(11,some (.lst
  (.sym (j.4 0)) 1 (fun (t:Nat)=>[.int .i64 (.sym (j.5 0 t))]) (some 15))),(15,some Ai.tok),(12,some (.lst (.sym (j.4 1)) 1 (fun (t:Nat)=>[.int .i64 (.sym (j.5 1 t))]) (some 16))),(16,some Ai.tok),(13,
  some (.lst (.sym (j.4 2)) 1 (fun (t:Nat)=>[.int .i64 (.sym (j.5 2 t))]) (some 17))),(17,some Ai.tok),(14,some (.lst (.sym (j.4 3)) 1 (fun (t:Nat)=>[.int .i64 (.sym (j.5 3 t))]) (some 18))),(18,some
  Ai.tok)])) (.defI (IntKind.u32.wrap (e - ((incs.length:Int)+1))) fun z0=>.ite (decide (z0>1)) (.leaf (.int .i64 (.lit 50),[(0,some (.box [.mref 1,.mref 2,.int .u32 (.sym ((incs.length:Int)+1)),.sl 3,
  .sl 4,.sl 5,.sl 6])),(1,some (.mp (.lit 1) (.sym ((incs.length:Int)+1)) fun (i:Nat)=>.agg [.int .u32 (.sym ((i:Int)+1)),.bool (.sym (upAt 0 true (List.take i incs))),.int .i64 (.sym (wAt 0 8 (List.take
  i incs))),.int .u8 (.sym 0),.bool (.sym (upAt 1 true (List.take i incs))),.int .i64 (.sym (wAt 1 8 (List.take i incs))),.int .u8 (.sym 1),.bool (.sym (upAt 2 true (List.take i incs))),.int .i64 (.sym (wAt 2 8
  (List.take i incs))),.int .u8 (.sym 2),.bool (.sym (upAt 3 true (List.take i incs))),.int .i64 (.sym (wAt 3 8 (List.take i incs))),.int .u8 (.sym 3),.bool (.sym (upAt 4 true (List.take i incs))),.int .i64 (.sym
  (wAt 4 8 (List.take i incs))),.int .u8 (.sym 0)])),(2,some (.mp (.lit 2) (.sym (incs.length:Int)) fun (i:Nat)=>.agg [.int .u8 (.sym (incs.getD i Inc.zero).1),.int .u8 (.sym (incs.getD i Inc.zero).2),.int .i64
  (.sym (incs.getD i Inc.zero).3)])),(3,some (.lst (.sym (j.1 0)) 2 (fun (t:Nat)=>[.int .u32 (.sym (j.2 0 t)),.slIf (decide ((t:Int)=j.1 0 - 1)) 11 (j.3 0 t)]) (some 7))),(7,some Ai.tok),(4,some (.lst
  (.sym (j.1 1)) 2 (fun (t:Nat)=>[.int .u32 (.sym (j.2 1 t)),.slIf (decide ((t:Int)=j.1 1 - 1)) 12 (j.3 1 t)]) (some 8))),(8,some Ai.tok),(5,some (.lst (.sym (j.1 2)) 2 (fun (t:Nat)=>[.int .u32 (.sym
  (j.2 2 t)),.slIf (decide ((t:Int)=j.1 2 - 1)) 13 (j.3 2 t)]) (some 9))),(9,some Ai.tok),(6,some (.lst (.sym (j.1 3)) 2 (fun (t:Nat)=>[.int .u32 (.sym (j.2 3 t)),.slIf (decide ((t:Int)=j.1 3 - 1)) 14
  (j.3 3 t)]) (some 10))),(10,some Ai.tok),(11,some (.lst (.sym (j.4 0)) 1 (fun (t:Nat)=>[.int .i64 (.sym (j.5 0 t))]) (some 15))),(15,some Ai.tok),(12,some (.lst (.sym (j.4 1)) 1 (fun (t:Nat)=>[.int
  .i64 (.sym (j.5 1 t))]) (some 16))),(16,some Ai.tok),(13,some (.lst (.sym (j.4 2)) 1 (fun (t:Nat)=>[.int .i64 (.sym (j.5 2 t))]) (some 17))),(17,some Ai.tok),(14,some (.lst (.sym (j.4 3)) 1 (fun (t:Nat)
  => [.int .i64 (.sym (j.5 3 t))]) (some 18))),(18,some Ai.tok)])) (.must (decide (1≤(incs.length:Int)+1)&&decide ((incs.length:Int)+1<1+((incs.length:Int)+1))) (.defI ((((incs.length:Int)+1 -
  1).toNat:Int)+1) fun z1=>.defI (wAt 0 8 (List.take (subL (.sym ((incs.length:Int)+1)) (.lit 1)).v.toNat incs)) fun z2=>.defI 0 fun z3=>.defI (wAt 1 8 (List.take (subL (.sym ((incs.length:Int)+1)) (.lit
  1)).v.toNat incs)) fun z4=>.defI 1 fun z5=>.defI (wAt 2 8 (List.take (subL (.sym ((incs.length:Int)+1)) (.lit 1)).v.toNat incs)) fun z6=>.defI 2 fun z7=>.defI (wAt 3 8 (List.take (subL (.sym ((incs.length :
  Int)+1)) (.lit 1)).v.toNat incs)) fun z8=>.defI 3 fun z9=>.defI (wAt 4 8 (List.take (subL (.sym ((incs.length:Int)+1)) (.lit 1)).v.toNat incs)) fun z10=>.defI 0 fun z11=>.defE ⟨[[.i z1,.b (upAt 0 true
  (List.take (subL (.sym ((incs.length:Int)+1)) (.lit 1)).v.toNat incs)),.i z2,.i z3,.b (upAt 1 true (List.take (subL (.sym ((incs.length:Int)+1)) (.lit 1)).v.toNat incs)),.i z4,.i z5,.b (upAt 2 true
  (List.take (subL (.sym ((incs.length:Int)+1)) (.lit 1)).v.toNat incs)),.i z6,.i z7,.b (upAt 3 true (List.take (subL (.sym ((incs.length:Int)+1)) (.lit 1)).v.toNat incs)),.i z8,.i z9,.b (upAt 4 true
  (List.take (subL (.sym ((incs.length:Int)+1)) (.lit 1)).v.toNat incs)),.i z10,.i z11],[.i k,.i o,.i n]],[]⟩ fun e12=>.must (decide (0≤e12.ai 1 1)) (.must (!apOk (e12.ai 0 0) (Av e12 0 0) (BF e12 0 0)
  (e12.ai 1 0) (e12.ai 1 1) (e12.ai 1 2)) (.defI 0 fun z13=>.defI 0 fun z14=>.defI 0 fun z15=>.defI 0 fun z16=>.defI 0 fun z17=>.defI 0 fun z18=>.defI 0 fun z19=>.defI 0 fun z20=>.defI 0 fun z21=>.defI 0
  fun z22=>.defI 0 fun z23=>.defI 40 fun z24=>.must (z24 != 0) (.leaf (.int .i64 (.sym z24),[(0,some (.box [.mref 1,.mref 2,.int .u32 (.sym ((incs.length:Int)+1)),.sl 3,.sl 4,.sl 5,.sl 6])),(1,some (.mp
  (.lit 1) (.sym ((incs.length:Int)+1)) fun (i:Nat)=>.agg [.int .u32 (.sym ((i:Int)+1)),.bool (.sym (upAt 0 true (List.take i incs))),.int .i64 (.sym (wAt 0 8 (List.take i incs))),.int .u8 (.sym 0),.bool
  (.sym (upAt 1 true (List.take i incs))),.int .i64 (.sym (wAt 1 8 (List.take i incs))),.int .u8 (.sym 1),.bool (.sym (upAt 2 true (List.take i incs))),.int .i64 (.sym (wAt 2 8 (List.take i incs))),.int .u8 (.sym 2),
  .bool (.sym (upAt 3 true (List.take i incs))),.int .i64 (.sym (wAt 3 8 (List.take i incs))),.int .u8 (.sym 3),.bool (.sym (upAt 4 true (List.take i incs))),.int .i64 (.sym (wAt 4 8 (List.take i incs))),.int .u8
  (.sym 0)])),(2,some (.mp (.lit 2) (.sym (incs.length:Int)) fun (i:Nat)=>.agg [.int .u8 (.sym (incs.getD i Inc.zero).1),.int .u8 (.sym (incs.getD i Inc.zero).2),.int .i64 (.sym (incs.getD i Inc.zero).3)])),(3,
  some (.lst (.sym (j.1 0)) 2 (fun (t:Nat)=>[.int .u32 (.sym (j.2 0 t)),.slIf (decide ((t:Int)=j.1 0 - 1)) 11 (j.3 0 t)]) (some 7))),(7,some Ai.tok),(4,some (.lst (.sym (j.1 1)) 2 (fun (t:Nat)=>[.int
  .u32 (.sym (j.2 1 t)),.slIf (decide ((t:Int)=j.1 1 - 1)) 12 (j.3 1 t)]) (some 8))),(8,some Ai.tok),(5,some (.lst (.sym (j.1 2)) 2 (fun (t:Nat)=>[.int .u32 (.sym (j.2 2 t)),.slIf (decide ((t:Int)=j.1 2
  - 1)) 13 (j.3 2 t)]) (some 9))),(9,some Ai.tok),(6,some (.lst (.sym (j.1 3)) 2 (fun (t:Nat)=>[.int .u32 (.sym (j.2 3 t)),.slIf (decide ((t:Int)=j.1 3 - 1)) 14 (j.3 3 t)]) (some 10))),(10,some Ai.tok),
  (11,some (.lst (.sym (j.4 0)) 1 (fun (t:Nat)=>[.int .i64 (.sym (j.5 0 t))]) (some 15))),(15,some Ai.tok),(12,some (.lst (.sym (j.4 1)) 1 (fun (t:Nat)=>[.int .i64 (.sym (j.5 1 t))]) (some 16))),(16,some
  Ai.tok),(13,some (.lst (.sym (j.4 2)) 1 (fun (t:Nat)=>[.int .i64 (.sym (j.5 2 t))]) (some 17))),(17,some Ai.tok),(14,some (.lst (.sym (j.4 3)) 1 (fun (t:Nat)=>[.int .i64 (.sym (j.5 3 t))]) (some 18))),
  (18,some Ai.tok)]))))))):=by kernel_rfl
theorem subL_take (incs:List Inc):List.take (subL (.sym ((incs.length:Int)+1)) (.lit 1)).v.toNat incs=incs:=by
  have:(subL (.sym ((incs.length:Int)+1)) (.lit 1)).v.toNat=incs.length:=by
    show ((incs.length:Int)+1 - 1).toNat=incs.length
    omega
  rw [this,List.take_length]
theorem mapA_new (incs:List Inc) (x:Inc):mapA (incs++[x]) (incs.length+1) = .agg [.int .u32 (.sym ((incs.length:Int)+2)),.bool (.sym (upAt 0 true (incs++[x]))),.int .i64 (.sym (wAt 0 8 (incs++[x]))),.int .u8 (.sym 0),.bool (.sym (upAt 1 true (incs++[x]))),.int .i64 (.sym (wAt 1 8 (incs++[x]))),.int .u8 (.sym 1),.bool (.sym (upAt 2 true (incs++[x]))),.int .i64 (.sym (wAt 2 8 (incs++[x]))),.int .u8 (.sym 2),.bool (.sym (upAt 3 true (incs++[x]))),.int .i64 (.sym (wAt 3 8 (incs++[x]))),.int .u8 (.sym 3),.bool (.sym (upAt 4 true (incs++[x]))),.int .i64 (.sym (wAt 4 8 (incs++[x]))),.int .u8 (.sym 0)]:=by
  have e:List.take (incs.length+1) (incs++[x])=incs++[x]:=List.take_of_length_le (by simp)
  have e2:(((incs.length+1:Nat):Int)+1)=(incs.length:Int)+2:=by omega
  unfold mapA
  rw [e,e2]
theorem push_maps (incs:List Inc) (x:Inc) {V:AV} (hV:V=mapA (incs++[x]) (incs.length+1)):∀ i:Nat,(i:Int)<(incs.length:Int)+1+1→∀ E,den E (pushV (.sym ((incs.length:Int)+1)) (mapA incs) V i)=den E (mapA (incs++[x]) i):=by
  intro i hi E
  unfold pushV
  cases hb:Nat.blt i (SI.sym ((incs.length:Int)+1)).v.toNat with
  | true =>
    have:i+1≤((incs.length:Int)+1).toNat:=Nat.le_of_ble_eq_true hb
    rw [mapA_app incs x (by omega)]
  | false =>
    have hn:¬ (i+1≤((incs.length:Int)+1).toNat):=fun h=>by
      have:=Nat.ble_eq_true_of_le h
      have hb:Nat.ble (i+1) ((incs.length:Int)+1).toNat=false:=hb
      rw [this] at hb
      cases hb
    have:i=incs.length+1:=by omega
    rw [this,hV]
theorem push_incs (incs:List Inc) (x:Inc):∀ i:Nat,(i:Int)<(incs.length:Int)+1→∀ E,den E (pushV (.sym (incs.length:Int)) (incA incs) (.agg [.int .u8 (.sym x.kind),.int .u8 (.sym x.osd),.int .i64 (.sym x.n)]) i)=den E (incA (incs++[x]) i):=by
  intro i hi E
  unfold pushV
  cases hb:Nat.blt i (SI.sym (incs.length:Int)).v.toNat with
  | true =>
    have:i+1≤((incs.length:Int)).toNat:=Nat.le_of_ble_eq_true hb
    rw [incA_app incs x (by omega)]
  | false =>
    have hn:¬ (i+1≤((incs.length:Int)).toNat):=fun h=>by
      have:=Nat.ble_eq_true_of_le h
      have hb:Nat.ble (i+1) ((incs.length:Int)).toNat=false:=hb
      rw [this] at hb
      cases hb
    have:i=incs.length:=by omega
    rw [this,incA_new]
set_option maxHeartbeats 4000000 in
theorem add_more (incs : List Inc) (j : HJ) (k o n : Int) (hj : j.ok incs) (hg : HGood incs) (hi : incOk ⟨k, o, n⟩ = true) (h60 : ((incs.length : Int) + 1 == 60) = false) (ho : 0 ≤ o) :
    (BR Tryz.prog (Am Tryz.prog qbT 300) 44 [.ptr 0 0,.int .u32 (.sym ((incs.length:Int)+2)),.agg [.int .u8 (.sym k),.int .u8 (.sym o),.int .i64 (.sym n)]] (Ad (histObjs incs j)) 19 (outK (rootK 0))).Holds fun p =>
      HGood (incs++[(⟨k,o,n⟩:Inc)])∧(∀ E1 E2:Env,E2.blk 0=E1.blk 0→den E1 p.1=den E2 (.int .i64 (.sym 0)))∧NoRo (AO p.2)∧∃ L,lkN L 0=0∧HistAt (incs++[(⟨k,o,n⟩:Inc)]) L (AO p.2):=by
  have hn59:(incs.length:Int)≤58:=by
    have:=hg.1
    have h60:¬ (incs.length:Int)+1=60:=by simpa using h60
    omega
  have hL:(((incs++[(⟨k,o,n⟩:Inc)]).length:Nat):Int)=(incs.length:Int)+1:=by simp
  have hg2:HGood (incs++[(⟨k,o,n⟩:Inc)]):=by
    refine ⟨by simp; omega,fun x hx=>?_⟩
    rcases List.mem_append.1 hx with h | h
    · exact hg.2 x h
    · have:x=(⟨k,o,n⟩:Inc):=by simpa using h
      subst this
      exact ⟨hi,ho⟩
  have hm1:(incs.length:Int)+1≤(((incs++[(⟨k,o,n⟩:Inc)]).length:Nat):Int)+1:=by omega
  have hm2:(incs.length:Int)+2≤(((incs++[(⟨k,o,n⟩:Inc)]).length:Nat):Int)+1:=by omega
  have hmI:=mIs_h hg2
  rw [hL] at hmI
  have hlen:∀ i,i<4→1≤j.len i∧j.len i≤60:=fun i h=>by
    have:=hj i h
    omega
  have hal:∀ i,i<4→0≤j.al i∧j.al i≤3:=fun i h=>⟨(hj i h).2.2.1,(hj i h).2.2.2⟩
  refine BG [some false,some false,some true,some true,some false,some false,none,some false,none,some false,none,some false,none] (AL (ad_t incs j ((incs.length:Int)+2) k o n) ?_)
  have w1:IntKind.u32.wrap ((incs.length:Int)+2 - ((incs.length:Int)+1))=1:=by
    rw [show (incs.length:Int)+2 - ((incs.length:Int)+1)=1 by omega]
    decide
  refine AA (by rw [decide_eq_false (by omega)]; rfl) (AB (AA (by rw [w1]; rfl) (AA (by rw [decide_eq_true (by omega),decide_eq_true (by omega)]; rfl) ?_)))
  refine Ac fun z1 h1=>Ac fun z2 h2=>Ac fun z3 h3=>Ac fun z4 h4=>Ac fun z5 h5=>Ac fun z6 h6=>Ac fun z7 h7=>Ac fun z8 h8=>Ac fun z9 h9=>Ac fun z10 h10=>Ac fun z11 h11=>An fun e12 he=>?_
  have ht:=subL_take incs
  rw [ht] at h2 h4 h6 h8 h10 he
  have hz1:z1=(incs.length:Int)+1:=by rw [h1]; omega
  have f0:e12.ai 0 0=(incs.length:Int)+1:=by rw [he]; exact hz1
  have fk:e12.ai 1 0=k:=by rw [he]; rfl
  have fo:e12.ai 1 1=o:=by rw [he]; rfl
  have fn:e12.ai 1 2=n:=by rw [he]; rfl
  have fw:∀ i:Nat,i<5→Av e12 0 0 i=wAt (i:Int) 8 incs:=by
    intro i hi
    rw [he]
    match i,hi with
    | 0,_=>exact h2
    | 1,_=>exact h4
    | 2,_=>exact h6
    | 3,_=>exact h8
    | 4,_=>exact h10
  have fh:∀ i:Nat,i<5→BF e12 0 0 i=hM i:=by
    intro i hi
    rw [he]
    match i,hi with
    | 0,_=>exact h3
    | 1,_=>exact h5
    | 2,_=>exact h7
    | 3,_=>exact h9
    | 4,_=>exact h11
  have fu:∀ i:Nat,i<5→Ag e12 0 0 i=upAt (i:Int) true incs:=by
    intro i hi
    rw [he]
    match i,hi with
    | 0,_=>rfl
    | 1,_=>rfl
    | 2,_=>rfl
    | 3,_=>rfl
    | 4,_=>rfl
  clear he h1 h2 h3 h4 h5 h6 h7 h8 h9 h10 h11
  refine AA (by rw [fo]; exact decide_eq_true ho) (AA (by
    unfold apOk
    rw [fk,fo,fn,incF_eq,hi,f0,h60,mIs_congr rfl fw fh,mIs_h hg]
    rfl) ?_)
  refine Ac fun z13 h13=>Ac fun z14 h14=>Ac fun z15 h15=>Ac fun z16 h16=>Ac fun z17 h17=>Ac fun z18 h18=>Ac fun z19 h19=>Ac fun z20 h20=>Ac fun z21 h21=>Ac fun z22 h22=>Ac fun z23 h23=>AB (AA rfl ?_)
  have hz13:z13=(incs.length:Int)+2:=by rw [h13,f0]; omega
  have q0:z14=wAt 0 8 (incs++[(⟨k,o,n⟩:Inc)]):=by rw [h14,fk,fo,fn]; exact apW_app (i:=0) (fw 0 (by decide))
  have q1:z16=wAt 1 8 (incs++[(⟨k,o,n⟩:Inc)]):=by rw [h16,fk,fo,fn]; exact apW_app (i:=1) (fw 1 (by decide))
  have q2:z18=wAt 2 8 (incs++[(⟨k,o,n⟩:Inc)]):=by rw [h18,fk,fo,fn]; exact apW_app (i:=2) (fw 2 (by decide))
  have q3:z20=wAt 3 8 (incs++[(⟨k,o,n⟩:Inc)]):=by rw [h20,fk,fo,fn]; exact apW_app (i:=3) (fw 3 (by decide))
  have q4:z22=wAt 4 8 (incs++[(⟨k,o,n⟩:Inc)]):=by rw [h22,fk,fo,fn]; exact apW_app (i:=4) (fw 4 (by decide))
  have p0:z15=0:=h15.trans (fh 0 (by decide))
  have p1:z17=1:=h17.trans (fh 1 (by decide))
  have p2:z19=2:=h19.trans (fh 2 (by decide))
  have p3:z21=3:=h21.trans (fh 3 (by decide))
  have p4:z23=0:=h23.trans (fh 4 (by decide))
  clear h13 h14 h15 h16 h17 h18 h19 h20 h21 h22 h23
  have hV : .agg [.int .u32 (.sym z13),.bool (.sym (apU (e12.ai 1 0) (e12.ai 1 1) (Ag e12 0 0) 0)),.int .i64 (.sym z14),.int .u8 (.sym z15),.bool (.sym (apU (e12.ai 1 0) (e12.ai 1 1) (Ag e12 0 0) 1)),.int .i64 (.sym z16),.int .u8 (.sym z17),.bool (.sym (apU (e12.ai 1 0) (e12.ai 1 1) (Ag e12 0 0) 2)),.int .i64 (.sym z18),.int .u8 (.sym z19),.bool (.sym (apU (e12.ai 1 0) (e12.ai 1 1) (Ag e12 0 0) 3)),.int .i64 (.sym z20),.int .u8 (.sym z21),.bool (.sym (apU (e12.ai 1 0) (e12.ai 1 1) (Ag e12 0 0) 4)),.int .i64 (.sym z22),.int .u8 (.sym z23)]=mapA (incs++[(⟨k,o,n⟩:Inc)]) (incs.length+1):=by
    rw [mapA_new,hz13,fk,fo,q0,q1,q2,q3,q4,p0,p1,p2,p3,p4,apU_app (n:=n) (fu 0 (by decide)),apU_app (n:=n) (fu 1 (by decide)),apU_app (n:=n) (fu 2 (by decide)),apU_app (n:=n) (fu 3 (by decide)),apU_app (n:=n) (fu 4 (by decide))]
    rfl
  have hmaps:=push_maps incs (⟨k,o,n⟩:Inc) hV
  have hics:=push_incs incs (⟨k,o,n⟩:Inc)
  have hl13:z13=(((incs++[(⟨k,o,n⟩:Inc)]).length:Nat):Int)+1:=by omega
  have hl14:(incs.length:Int)+1+1=(((incs++[(⟨k,o,n⟩:Inc)]).length:Nat):Int)+1:=by omega
  have hl15:(incs.length:Int)+1=(((incs++[(⟨k,o,n⟩:Inc)]).length:Nat):Int):=by omega
  have hmI:mIs z13 (fun i=>[z14,z16,z18,z20,z22].getD i 0) (fun i=>[z15,z17,z19,z21,z23].getD i 0)=true:=by
    rw [← hmI]
    refine mIs_congr (by omega) (fun i h=>?_) (fun i h=>?_)
    · match i,h with
      | 0,_=>exact q0
      | 1,_=>exact q1
      | 2,_=>exact q2
      | 3,_=>exact q3
      | 4,_=>exact q4
    · match i,h with
      | 0,_=>exact p0
      | 1,_=>exact p1
      | 2,_=>exact p2
      | 3,_=>exact p3
      | 4,_=>exact p4
  refine AA (decide_eq_true (by omega)) (AA (decide_eq_true (by omega)) ?_)
  refine grp_holds _ _ _ _ hmI rfl (hlen 0 (by decide)) (hal 0 (by decide)) (rowsB_of fun _=>rfl) (fun _ _ b0=>?_) (fun _ _ b0=>?_)
  · refine grp_holds _ _ _ _ hmI rfl (hlen 1 (by decide)) (hal 1 (by decide)) (rowsB_of fun _=>rfl) (fun _ _ b1=>?_) (fun _ _ b1=>?_)
    · refine grp_holds _ _ _ _ hmI rfl (hlen 2 (by decide)) (hal 2 (by decide)) (rowsB_of fun _=>rfl) (fun _ _ b2=>?_) (fun _ _ b2=>?_)
      · refine grp_holds _ _ _ _ hmI rfl (hlen 3 (by decide)) (hal 3 (by decide)) (rowsB_of fun _=>rfl) (fun _ _ b3=>?_) (fun _ _ b3=>?_)
        · refine AE ⟨hg2,fun _ _ _=>rfl,noRo_of rfl,[0,1,2,214,302,390,478,213,301,389,477,151,239,327,415,152,240,328,416],rfl,histAt_of rfl rfl ⟨.sym z13,hl13,rfl⟩ ⟨_,_,_,rfl,rfl,hl14,hmaps⟩ ⟨_,_,_,rfl,.inl rfl,hl15,hics⟩ (BQ hj 0 (by decide) hm2 rfl rfl rfl rfl rfl ⟨_,rfl⟩ rfl rfl b0 (fun _ _=>⟨_,rfl⟩)) (BQ hj 1 (by decide) hm2 rfl rfl rfl rfl rfl ⟨_,rfl⟩ rfl rfl b1 (fun _ _=>⟨_,rfl⟩)) (BQ hj 2 (by decide) hm2 rfl rfl rfl rfl rfl ⟨_,rfl⟩ rfl rfl b2 (fun _ _=>⟨_,rfl⟩)) (BQ hj 3 (by decide) hm2 rfl rfl rfl rfl rfl ⟨_,rfl⟩ rfl rfl b3 (fun _ _=>⟨_,rfl⟩))⟩
        · refine AE ⟨hg2,fun _ _ _=>rfl,noRo_of rfl,[0,1,2,214,302,390,6,213,301,389,10,151,239,327,14,152,240,328,18],rfl,histAt_of rfl rfl ⟨.sym z13,hl13,rfl⟩ ⟨_,_,_,rfl,rfl,hl14,hmaps⟩ ⟨_,_,_,rfl,.inl rfl,hl15,hics⟩ (BQ hj 0 (by decide) hm2 rfl rfl rfl rfl rfl ⟨_,rfl⟩ rfl rfl b0 (fun _ _=>⟨_,rfl⟩)) (BQ hj 1 (by decide) hm2 rfl rfl rfl rfl rfl ⟨_,rfl⟩ rfl rfl b1 (fun _ _=>⟨_,rfl⟩)) (BQ hj 2 (by decide) hm2 rfl rfl rfl rfl rfl ⟨_,rfl⟩ rfl rfl b2 (fun _ _=>⟨_,rfl⟩)) (grp_old hj 3 (by decide) hm1 rfl rfl rfl rfl)⟩
      · refine grp_holds _ _ _ _ hmI rfl (hlen 3 (by decide)) (hal 3 (by decide)) (rowsB_of fun _=>rfl) (fun _ _ b3=>?_) (fun _ _ b3=>?_)
        · refine AE ⟨hg2,fun _ _ _=>rfl,noRo_of rfl,[0,1,2,214,302,5,452,213,301,9,451,151,239,13,389,152,240,17,390],rfl,histAt_of rfl rfl ⟨.sym z13,hl13,rfl⟩ ⟨_,_,_,rfl,rfl,hl14,hmaps⟩ ⟨_,_,_,rfl,.inl rfl,hl15,hics⟩ (BQ hj 0 (by decide) hm2 rfl rfl rfl rfl rfl ⟨_,rfl⟩ rfl rfl b0 (fun _ _=>⟨_,rfl⟩)) (BQ hj 1 (by decide) hm2 rfl rfl rfl rfl rfl ⟨_,rfl⟩ rfl rfl b1 (fun _ _=>⟨_,rfl⟩)) (grp_old hj 2 (by decide) hm1 rfl rfl rfl rfl) (BQ hj 3 (by decide) hm2 rfl rfl rfl rfl rfl ⟨_,rfl⟩ rfl rfl b3 (fun _ _=>⟨_,rfl⟩))⟩
        · refine AE ⟨hg2,fun _ _ _=>rfl,noRo_of rfl,[0,1,2,214,302,5,6,213,301,9,10,151,239,13,14,152,240,17,18],rfl,histAt_of rfl rfl ⟨.sym z13,hl13,rfl⟩ ⟨_,_,_,rfl,rfl,hl14,hmaps⟩ ⟨_,_,_,rfl,.inl rfl,hl15,hics⟩ (BQ hj 0 (by decide) hm2 rfl rfl rfl rfl rfl ⟨_,rfl⟩ rfl rfl b0 (fun _ _=>⟨_,rfl⟩)) (BQ hj 1 (by decide) hm2 rfl rfl rfl rfl rfl ⟨_,rfl⟩ rfl rfl b1 (fun _ _=>⟨_,rfl⟩)) (grp_old hj 2 (by decide) hm1 rfl rfl rfl rfl) (grp_old hj 3 (by decide) hm1 rfl rfl rfl rfl)⟩
    · refine grp_holds _ _ _ _ hmI rfl (hlen 2 (by decide)) (hal 2 (by decide)) (rowsB_of fun _=>rfl) (fun _ _ b2=>?_) (fun _ _ b2=>?_)
      · refine grp_holds _ _ _ _ hmI rfl (hlen 3 (by decide)) (hal 3 (by decide)) (rowsB_of fun _=>rfl) (fun _ _ b3=>?_) (fun _ _ b3=>?_)
        · refine AE ⟨hg2,fun _ _ _=>rfl,noRo_of rfl,[0,1,2,214,4,364,452,213,8,363,451,151,12,301,389,152,16,302,390],rfl,histAt_of rfl rfl ⟨.sym z13,hl13,rfl⟩ ⟨_,_,_,rfl,rfl,hl14,hmaps⟩ ⟨_,_,_,rfl,.inl rfl,hl15,hics⟩ (BQ hj 0 (by decide) hm2 rfl rfl rfl rfl rfl ⟨_,rfl⟩ rfl rfl b0 (fun _ _=>⟨_,rfl⟩)) (grp_old hj 1 (by decide) hm1 rfl rfl rfl rfl) (BQ hj 2 (by decide) hm2 rfl rfl rfl rfl rfl ⟨_,rfl⟩ rfl rfl b2 (fun _ _=>⟨_,rfl⟩)) (BQ hj 3 (by decide) hm2 rfl rfl rfl rfl rfl ⟨_,rfl⟩ rfl rfl b3 (fun _ _=>⟨_,rfl⟩))⟩
        · refine AE ⟨hg2,fun _ _ _=>rfl,noRo_of rfl,[0,1,2,214,4,364,6,213,8,363,10,151,12,301,14,152,16,302,18],rfl,histAt_of rfl rfl ⟨.sym z13,hl13,rfl⟩ ⟨_,_,_,rfl,rfl,hl14,hmaps⟩ ⟨_,_,_,rfl,.inl rfl,hl15,hics⟩ (BQ hj 0 (by decide) hm2 rfl rfl rfl rfl rfl ⟨_,rfl⟩ rfl rfl b0 (fun _ _=>⟨_,rfl⟩)) (grp_old hj 1 (by decide) hm1 rfl rfl rfl rfl) (BQ hj 2 (by decide) hm2 rfl rfl rfl rfl rfl ⟨_,rfl⟩ rfl rfl b2 (fun _ _=>⟨_,rfl⟩)) (grp_old hj 3 (by decide) hm1 rfl rfl rfl rfl)⟩
      · refine grp_holds _ _ _ _ hmI rfl (hlen 3 (by decide)) (hal 3 (by decide)) (rowsB_of fun _=>rfl) (fun _ _ b3=>?_) (fun _ _ b3=>?_)
        · refine AE ⟨hg2,fun _ _ _=>rfl,noRo_of rfl,[0,1,2,214,4,5,426,213,8,9,425,151,12,13,363,152,16,17,364],rfl,histAt_of rfl rfl ⟨.sym z13,hl13,rfl⟩ ⟨_,_,_,rfl,rfl,hl14,hmaps⟩ ⟨_,_,_,rfl,.inl rfl,hl15,hics⟩ (BQ hj 0 (by decide) hm2 rfl rfl rfl rfl rfl ⟨_,rfl⟩ rfl rfl b0 (fun _ _=>⟨_,rfl⟩)) (grp_old hj 1 (by decide) hm1 rfl rfl rfl rfl) (grp_old hj 2 (by decide) hm1 rfl rfl rfl rfl) (BQ hj 3 (by decide) hm2 rfl rfl rfl rfl rfl ⟨_,rfl⟩ rfl rfl b3 (fun _ _=>⟨_,rfl⟩))⟩
        · refine AE ⟨hg2,fun _ _ _=>rfl,noRo_of rfl,[0,1,2,214,4,5,6,213,8,9,10,151,12,13,14,152,16,17,18],rfl,histAt_of rfl rfl ⟨.sym z13,hl13,rfl⟩ ⟨_,_,_,rfl,rfl,hl14,hmaps⟩ ⟨_,_,_,rfl,.inl rfl,hl15,hics⟩ (BQ hj 0 (by decide) hm2 rfl rfl rfl rfl rfl ⟨_,rfl⟩ rfl rfl b0 (fun _ _=>⟨_,rfl⟩)) (grp_old hj 1 (by decide) hm1 rfl rfl rfl rfl) (grp_old hj 2 (by decide) hm1 rfl rfl rfl rfl) (grp_old hj 3 (by decide) hm1 rfl rfl rfl rfl)⟩
  · refine grp_holds _ _ _ _ hmI rfl (hlen 1 (by decide)) (hal 1 (by decide)) (rowsB_of fun _=>rfl) (fun _ _ b1=>?_) (fun _ _ b1=>?_)
    · refine grp_holds _ _ _ _ hmI rfl (hlen 2 (by decide)) (hal 2 (by decide)) (rowsB_of fun _=>rfl) (fun _ _ b2=>?_) (fun _ _ b2=>?_)
      · refine grp_holds _ _ _ _ hmI rfl (hlen 3 (by decide)) (hal 3 (by decide)) (rowsB_of fun _=>rfl) (fun _ _ b3=>?_) (fun _ _ b3=>?_)
        · refine AE ⟨hg2,fun _ _ _=>rfl,noRo_of rfl,[0,1,2,3,276,364,452,7,275,363,451,11,213,301,389,15,214,302,390],rfl,histAt_of rfl rfl ⟨.sym z13,hl13,rfl⟩ ⟨_,_,_,rfl,rfl,hl14,hmaps⟩ ⟨_,_,_,rfl,.inl rfl,hl15,hics⟩ (grp_old hj 0 (by decide) hm1 rfl rfl rfl rfl) (BQ hj 1 (by decide) hm2 rfl rfl rfl rfl rfl ⟨_,rfl⟩ rfl rfl b1 (fun _ _=>⟨_,rfl⟩)) (BQ hj 2 (by decide) hm2 rfl rfl rfl rfl rfl ⟨_,rfl⟩ rfl rfl b2 (fun _ _=>⟨_,rfl⟩)) (BQ hj 3 (by decide) hm2 rfl rfl rfl rfl rfl ⟨_,rfl⟩ rfl rfl b3 (fun _ _=>⟨_,rfl⟩))⟩
        · refine AE ⟨hg2,fun _ _ _=>rfl,noRo_of rfl,[0,1,2,3,276,364,6,7,275,363,10,11,213,301,14,15,214,302,18],rfl,histAt_of rfl rfl ⟨.sym z13,hl13,rfl⟩ ⟨_,_,_,rfl,rfl,hl14,hmaps⟩ ⟨_,_,_,rfl,.inl rfl,hl15,hics⟩ (grp_old hj 0 (by decide) hm1 rfl rfl rfl rfl) (BQ hj 1 (by decide) hm2 rfl rfl rfl rfl rfl ⟨_,rfl⟩ rfl rfl b1 (fun _ _=>⟨_,rfl⟩)) (BQ hj 2 (by decide) hm2 rfl rfl rfl rfl rfl ⟨_,rfl⟩ rfl rfl b2 (fun _ _=>⟨_,rfl⟩)) (grp_old hj 3 (by decide) hm1 rfl rfl rfl rfl)⟩
      · refine grp_holds _ _ _ _ hmI rfl (hlen 3 (by decide)) (hal 3 (by decide)) (rowsB_of fun _=>rfl) (fun _ _ b3=>?_) (fun _ _ b3=>?_)
        · refine AE ⟨hg2,fun _ _ _=>rfl,noRo_of rfl,[0,1,2,3,276,5,426,7,275,9,425,11,213,13,363,15,214,17,364],rfl,histAt_of rfl rfl ⟨.sym z13,hl13,rfl⟩ ⟨_,_,_,rfl,rfl,hl14,hmaps⟩ ⟨_,_,_,rfl,.inl rfl,hl15,hics⟩ (grp_old hj 0 (by decide) hm1 rfl rfl rfl rfl) (BQ hj 1 (by decide) hm2 rfl rfl rfl rfl rfl ⟨_,rfl⟩ rfl rfl b1 (fun _ _=>⟨_,rfl⟩)) (grp_old hj 2 (by decide) hm1 rfl rfl rfl rfl) (BQ hj 3 (by decide) hm2 rfl rfl rfl rfl rfl ⟨_,rfl⟩ rfl rfl b3 (fun _ _=>⟨_,rfl⟩))⟩
        · refine AE ⟨hg2,fun _ _ _=>rfl,noRo_of rfl,[0,1,2,3,276,5,6,7,275,9,10,11,213,13,14,15,214,17,18],rfl,histAt_of rfl rfl ⟨.sym z13,hl13,rfl⟩ ⟨_,_,_,rfl,rfl,hl14,hmaps⟩ ⟨_,_,_,rfl,.inl rfl,hl15,hics⟩ (grp_old hj 0 (by decide) hm1 rfl rfl rfl rfl) (BQ hj 1 (by decide) hm2 rfl rfl rfl rfl rfl ⟨_,rfl⟩ rfl rfl b1 (fun _ _=>⟨_,rfl⟩)) (grp_old hj 2 (by decide) hm1 rfl rfl rfl rfl) (grp_old hj 3 (by decide) hm1 rfl rfl rfl rfl)⟩
    · refine grp_holds _ _ _ _ hmI rfl (hlen 2 (by decide)) (hal 2 (by decide)) (rowsB_of fun _=>rfl) (fun _ _ b2=>?_) (fun _ _ b2=>?_)
      · refine grp_holds _ _ _ _ hmI rfl (hlen 3 (by decide)) (hal 3 (by decide)) (rowsB_of fun _=>rfl) (fun _ _ b3=>?_) (fun _ _ b3=>?_)
        · refine AE ⟨hg2,fun _ _ _=>rfl,noRo_of rfl,[0,1,2,3,4,338,426,7,8,337,425,11,12,275,363,15,16,276,364],rfl,histAt_of rfl rfl ⟨.sym z13,hl13,rfl⟩ ⟨_,_,_,rfl,rfl,hl14,hmaps⟩ ⟨_,_,_,rfl,.inl rfl,hl15,hics⟩ (grp_old hj 0 (by decide) hm1 rfl rfl rfl rfl) (grp_old hj 1 (by decide) hm1 rfl rfl rfl rfl) (BQ hj 2 (by decide) hm2 rfl rfl rfl rfl rfl ⟨_,rfl⟩ rfl rfl b2 (fun _ _=>⟨_,rfl⟩)) (BQ hj 3 (by decide) hm2 rfl rfl rfl rfl rfl ⟨_,rfl⟩ rfl rfl b3 (fun _ _=>⟨_,rfl⟩))⟩
        · refine AE ⟨hg2,fun _ _ _=>rfl,noRo_of rfl,[0,1,2,3,4,338,6,7,8,337,10,11,12,275,14,15,16,276,18],rfl,histAt_of rfl rfl ⟨.sym z13,hl13,rfl⟩ ⟨_,_,_,rfl,rfl,hl14,hmaps⟩ ⟨_,_,_,rfl,.inl rfl,hl15,hics⟩ (grp_old hj 0 (by decide) hm1 rfl rfl rfl rfl) (grp_old hj 1 (by decide) hm1 rfl rfl rfl rfl) (BQ hj 2 (by decide) hm2 rfl rfl rfl rfl rfl ⟨_,rfl⟩ rfl rfl b2 (fun _ _=>⟨_,rfl⟩)) (grp_old hj 3 (by decide) hm1 rfl rfl rfl rfl)⟩
      · refine grp_holds _ _ _ _ hmI rfl (hlen 3 (by decide)) (hal 3 (by decide)) (rowsB_of fun _=>rfl) (fun _ _ b3=>?_) (fun _ _ b3=>?_)
        · refine AE ⟨hg2,fun _ _ _=>rfl,noRo_of rfl,[0,1,2,3,4,5,400,7,8,9,399,11,12,13,337,15,16,17,338],rfl,histAt_of rfl rfl ⟨.sym z13,hl13,rfl⟩ ⟨_,_,_,rfl,rfl,hl14,hmaps⟩ ⟨_,_,_,rfl,.inl rfl,hl15,hics⟩ (grp_old hj 0 (by decide) hm1 rfl rfl rfl rfl) (grp_old hj 1 (by decide) hm1 rfl rfl rfl rfl) (grp_old hj 2 (by decide) hm1 rfl rfl rfl rfl) (BQ hj 3 (by decide) hm2 rfl rfl rfl rfl rfl ⟨_,rfl⟩ rfl rfl b3 (fun _ _=>⟨_,rfl⟩))⟩
        · refine AE ⟨hg2,fun _ _ _=>rfl,noRo_of rfl,[0,1,2,3,4,5,6,7,8,9,10,11,12,13,14,15,16,17,18],rfl,histAt_of rfl rfl ⟨.sym z13,hl13,rfl⟩ ⟨_,_,_,rfl,rfl,hl14,hmaps⟩ ⟨_,_,_,rfl,.inl rfl,hl15,hics⟩ (grp_old hj 0 (by decide) hm1 rfl rfl rfl rfl) (grp_old hj 1 (by decide) hm1 rfl rfl rfl rfl) (grp_old hj 2 (by decide) hm1 rfl rfl rfl rfl) (grp_old hj 3 (by decide) hm1 rfl rfl rfl rfl)⟩
theorem add_less (incs : List Inc) (j : HJ) (e k o n : Int) (hj : j.ok incs) (hg : HGood incs) (hc : addOk incs e k o n = false) (he : e < 4294967296) (ho : 0 ≤ o) :
    (BR Tryz.prog (Am Tryz.prog qbT 300) 44 [.ptr 0 0,.int .u32 (.sym e),.agg [.int .u8 (.sym k),.int .u8 (.sym o),.int .i64 (.sym n)]] (Ad (histObjs incs j)) 19 (outK (rootK 0))).Holds fun p =>
      HGood incs∧(∀ E1 E2:Env,E2.blk 0=E1.blk 0→den E1 p.1=den E2 (.int .i64 (.sym (addErr incs e))))∧NoRo (AO p.2)∧∃ L,lkN L 0=0∧HistAt incs L (AO p.2):=by
  refine BG [none,none,some true,some false,some true] (AL (ad_e incs j e k o n) ?_)
  have hH : ∀ lk : Look, lk 0 = some (.box [.mref 1, .mref 2, .int .u32 (.sym ((incs.length : Int) + 1)), .sl 3, .sl 4, .sl 5, .sl 6]) → lk 1 = some (.mp (.lit 1) (.sym ((incs.length : Int) + 1)) (mapA incs)) → lk 2 = some (.mp (.lit 2) (.sym (incs.length : Int)) (incA incs)) →
      (∀ i,i<4→lk (3+i)=some (.lst (.sym (j.len i)) 2 (ivRow j i) (some (7+i)))∧lk (7+i)=some .tok∧lk (11+i)=some (.lst (.sym (j.al i)) 1 (acRow j i) (some (15+i)))∧lk (15+i)=some .tok) →
      HistAt incs [0,1,2,3,4,5,6,7,8,9,10,11,12,13,14,15,16,17,18] lk:=fun lk h0 h1 h2 h3 =>
    histAt_of rfl rfl ⟨_,rfl,h0⟩ ⟨_,_,_,h1,rfl,rfl,fun _ _ _=>rfl⟩ ⟨_,_,_,h2,.inl rfl,rfl,fun _ _ _=>rfl⟩
      (grp_old hj 0 (by decide) (Int.le_refl _) (h3 0 (by decide)).1 (h3 0 (by decide)).2.1 (h3 0 (by decide)).2.2.1 (h3 0 (by decide)).2.2.2) (grp_old hj 1 (by decide) (Int.le_refl _) (h3 1 (by decide)).1 (h3 1 (by decide)).2.1 (h3 1 (by decide)).2.2.1 (h3 1 (by decide)).2.2.2) (grp_old hj 2 (by decide) (Int.le_refl _) (h3 2 (by decide)).1 (h3 2 (by decide)).2.1 (h3 2 (by decide)).2.2.1 (h3 2 (by decide)).2.2.2) (grp_old hj 3 (by decide) (Int.le_refl _) (h3 3 (by decide)).1 (h3 3 (by decide)).2.1 (h3 3 (by decide)).2.2.1 (h3 3 (by decide)).2.2.2)
  have h4:∀ (P:Nat→Prop),P 0→P 1→P 2→P 3→∀ i,i<4→P i:=fun P a b c d i hi=>by
    match i,hi with
    | 0,_=>exact a
    | 1,_=>exact b
    | 2,_=>exact c
    | 3,_=>exact d
  refine AG (fun h1=>?_) (fun h1=>Ac fun z0 hz0=>?_)
  · have h1:=of_decide_eq_true h1
    refine AE ⟨hg,fun _ _ _=>?_,noRo_of rfl,_,rfl,hH _ rfl rfl rfl (h4 _ ⟨rfl,rfl,rfl,rfl⟩ ⟨rfl,rfl,rfl,rfl⟩ ⟨rfl,rfl,rfl,rfl⟩ ⟨rfl,rfl,rfl,rfl⟩)⟩
    unfold addErr
    rw [decide_eq_true h1]
    rfl
  have h1:=of_decide_eq_false h1
  have hw:z0=e - ((incs.length:Int)+1):=by
    rw [hz0]
    exact IntWalk.u32_in _ (by omega)
  refine AG (fun h2=>?_) (fun h2=>?_)
  · have h2:=of_decide_eq_true h2
    refine AE ⟨hg,fun _ _ _=>?_,noRo_of rfl,_,rfl,hH _ rfl rfl rfl (h4 _ ⟨rfl,rfl,rfl,rfl⟩ ⟨rfl,rfl,rfl,rfl⟩ ⟨rfl,rfl,rfl,rfl⟩ ⟨rfl,rfl,rfl,rfl⟩)⟩
    unfold addErr
    rw [decide_eq_false h1,decide_eq_true (by omega:e>(incs.length:Int)+2)]
    rfl
  have h2:=of_decide_eq_false h2
  have he2:e=(incs.length:Int)+2:=by omega
  refine AA (by rw [decide_eq_true (by omega),decide_eq_true (by omega)]; rfl) ?_
  refine Ac fun z1 a1=>Ac fun z2 a2=>Ac fun z3 a3=>Ac fun z4 a4=>Ac fun z5 a5=>Ac fun z6 a6=>Ac fun z7 a7=>Ac fun z8 a8=>Ac fun z9 a9=>Ac fun z10 a10=>Ac fun z11 a11=>An fun e12 he=>?_
  have ht:=subL_take incs
  rw [ht] at a2 a4 a6 a8 a10 he
  have hz1:z1=(incs.length:Int)+1:=by rw [a1]; omega
  have f0:e12.ai 0 0=(incs.length:Int)+1:=by rw [he]; exact hz1
  have fk:e12.ai 1 0=k:=by rw [he]; rfl
  have fo:e12.ai 1 1=o:=by rw [he]; rfl
  have fn:e12.ai 1 2=n:=by rw [he]; rfl
  have fw:∀ i:Nat,i<5→Av e12 0 0 i=wAt (i:Int) 8 incs:=by
    intro i hi
    rw [he]
    match i,hi with
    | 0,_=>exact a2
    | 1,_=>exact a4
    | 2,_=>exact a6
    | 3,_=>exact a8
    | 4,_=>exact a10
  have fh:∀ i:Nat,i<5→BF e12 0 0 i=hM i:=by
    intro i hi
    rw [he]
    match i,hi with
    | 0,_=>exact a3
    | 1,_=>exact a5
    | 2,_=>exact a7
    | 3,_=>exact a9
    | 4,_=>exact a11
  refine AA (by rw [fo]; exact decide_eq_true ho) (AA (by
    unfold apOk
    rw [fk,fo,fn,incF_eq,f0,mIs_congr rfl fw fh,mIs_h hg]
    unfold addOk at hc
    rw [decide_eq_true he2] at hc
    simp only [Bool.true_and] at hc ⊢
    rw [hc]
    rfl) ?_)
  iterate 12 refine AB ?_
  refine AA rfl (AE ⟨hg,fun _ _ _=>?_,noRo_of rfl,_,rfl,hH _ rfl rfl rfl (h4 _ ⟨rfl,rfl,rfl,rfl⟩ ⟨rfl,rfl,rfl,rfl⟩ ⟨rfl,rfl,rfl,rfl⟩ ⟨rfl,rfl,rfl,rfl⟩)⟩)
  unfold addErr
  rw [decide_eq_false h1,decide_eq_false (by omega:¬ e>(incs.length:Int)+2)]
  rfl
theorem cAd_ok:Ak Tryz.prog 44 (AW adT cAd):=BN fun e r h=>by
  obtain ⟨hm,h⟩:=Ar h
  obtain ⟨ho,he⟩:=of_decide_eq_true hm
  have pre:adT.eqv e ⟨[[],[.i (e.ai 1 0)],[.i (e.ai 2 0),.i (e.ai 2 1),.i (e.ai 2 2)]],[.own (e.dt 0),.tok]⟩:=by
    (repeat' (first | exact trivial | exact rfl | exact TS.eqv_refl _ _ | exact AY _ _ | exact AQ | exact fun _ _=>AJ _ _ | exact fun i _=>AF rfl _ i | apply And.intro))
  cases hc:addOk (e.dt 0).incs (e.ai 1 0) (e.ai 2 0) (e.ai 2 1) (e.ai 2 2) with
  | true =>
    rw [hc] at h
    cases h
    have hc:=hc
    unfold addOk at hc
    simp only [Bool.and_eq_true,decide_eq_true_eq,Bool.not_eq_true'] at hc
    obtain ⟨h1,h2,h3⟩:=hc
    refine BI.pre pre ?_
    show StdN Tryz.prog 44 2 [(0,.own 1 Af (e.dt 0) 1),(1,.tok)] [.ptr 0 0,.int .u32 (.sym (e.ai 1 0)),.agg [.int .u8 (.sym (e.ai 2 0)),.int .u8 (.sym (e.ai 2 1)),.int .i64 (.sym (e.ai 2 2))]] 21 [(0,.own 1 Af (addD (e.dt 0) (e.ai 2 0) (e.ai 2 1) (e.ai 2 2)) 20),(20,.tok)] (.int .i64 (.sym 0))
    rw [h1]
    exact hist_callK qbTab Ay (n:=300) (f:=44) (kf:=rootK 0) (d:=e.dt 0) (t:=1) (argsi:=[.ptr 0 0,.int .u32 (.sym (((e.dt 0).incs.length:Int)+2)),.agg [.int .u8 (.sym (e.ai 2 0)),.int .u8 (.sym (e.ai 2 1)),.int .i64 (.sym (e.ai 2 2))]]) rfl (fun E E' h=>by simp only [BM,den,h]) (fun E E' h=>rfl) fun j=>add_more _ _ _ _ _ j.2.1 j.2.2 h2 h3 ho
  | false =>
    rw [hc] at h
    cases h
    refine BI.pre pre ?_
    exact hist_callK qbTab Ay (n:=300) (f:=44) (kf:=rootK 0) (d:=e.dt 0) (d':=e.dt 0) (t:=1) (argsi:=[.ptr 0 0,.int .u32 (.sym (e.ai 1 0)),.agg [.int .u8 (.sym (e.ai 2 0)),.int .u8 (.sym (e.ai 2 1)),.int .i64 (.sym (e.ai 2 2))]]) (args:=[.ptr 0 0,.int .u32 (.sym (e.ai 1 0)),.agg [.int .u8 (.sym (e.ai 2 0)),.int .u8 (.sym (e.ai 2 1)),.int .i64 (.sym (e.ai 2 2))]]) (v:=.int .i64 (.sym (addErr (e.dt 0).incs (e.ai 1 0)))) rfl (fun E E' h=>by simp only [BM,den,h]) (fun E E' h=>rfl) fun j=>add_less _ _ _ _ _ _ j.2.1 j.2.2 hc he ho
end Go.Proofs.YtddmgdclmkgpeaaGreat
set_option linter.unusedSimpArgs false
set_option linter.unusedVariables false
namespace Go.Proofs.YtddmgdclmkgpeaaGreat
open Go.Eng Go.RowKit Go.ChangeShapes Go.WideShapes
set_option maxRecDepth 100000
abbrev eS:TV:=.ls (ByteArray.mk #[])
def acB:List TV:=[.i .u32,.i .u8,.i .u32,.i .u8,.i .u8,.i .u8,.i .i64]
def rpB:List TV:=[.b,.b,.b,.b,.b,.b,.b,.b,.b,.b,.b,.b,.b,.b,.b,.b,.b,.b,.b,.b,.b,.b,.b,.b,.b]
def msgR:List TV:=[.i .u8,.i .u8,.i .u8,.i .u32,.i .u32,.i .u8,.i .u32,.i .u8,.b,.i .u8,.i .u8,.i .i64,.il .u8 0,.il .u32 0,.bl false,eS,eS,eS,eS,.bl false,eS,eS,eS,eS,.bl false,eS,eS,eS,eS,.bl false,eS,eS,eS,eS,.bl false,eS,eS,eS,eS,.bl false,eS,eS,eS,eS,.il .u32 0,.il .u8 0,eS,.il .u32 0,.il .u8 0,eS,.il .u32 0,.il .u8 0,eS,.il .u32 0,.il .u32 0,.il .u8 0,.il .u32 0,.il .u8 0,.il .u8 0,.il .u8 0,eS,.nils,.il .i64 0,.il .u32 0,.nils,.il .u32 0,.bl false,eS,eS,eS,eS,.bl false,eS,eS,eS,eS,.bl false,eS,eS,eS,eS,.bl false,eS,eS,eS,eS,.bl false,eS,eS,eS,eS,.bl false,eS,eS,eS,eS,.il .u32 0,.il .u8 0,eS,.il .u32 0,.il .u8 0,eS,.il .u32 0,.il .u8 0,eS,.il .u32 0,.il .u32 0,.il .u8 0,.il .u32 0,.il .u8 0,.il .u8 0,.il .u8 0,eS,.nils,.il .u32 0,.il .u32 0,.il .u8 0,.il .u32 0,.il .u8 0,.il .u8 0,.il .u8 0,eS,.i .u32,.il .u8 0,.il .u32 0,.il .u8 0,.il .u8 0,.il .u8 0,eS,.il .u8 0,eS]
def mp0:List (Nat×TO):=[(0,.box [.i .u8,.ptr 1 0,.ptr 3 0,.sl 4,.nilp,.i .i64,.i .u32,.i .u8,.ptr 6 0]),(1,.ob 1 Af 2),(2,.tok),(3,.box acB),(4,.lst none BB (some 5)),(5,.tok),(6,.box rpB)]
def mp1:List (Nat×TO):=[(0,.box [.i .u8,.ptr 1 0,.ptr 3 0,.sl 4,.ptr 7 0,.i .i64,.i .u32,.i .u8,.ptr 6 0]),(1,.ob 1 Af 2),(2,.tok),(3,.box acB),(4,.lst none BB (some 5)),(5,.tok),(6,.box rpB),(7,.box [.i .u8,.i .u8,.i .u8,.i .i64,.i .u8,.i .u8,.i .i64,.i .u8,.i .u8,.i .i64,.i .u32,.i .u8,.i .u32,.i .u8,.sl 8,.sl 9,.b,.b,.i .u8,.i .u8,.i .i64,.b,.b]),(8,.lst none [.i .u8] (some 10)),(9,.lst none [.i .u8] (some 11)),(10,.tok),(11,.tok)]
def rowJ (l:List Inc) (i:Nat):List Num:=[.i (l.getD i .zero).kind,.i (l.getD i .zero).osd,.i (l.getD i .zero).n]
def incR (r:List Num):Inc:=⟨(hdN r).I,(hdN (tlN r)).I,(hdN (tlN (tlN r))).I⟩
def incsL (n:Nat) (r:Nat→List Num):List Inc:=(List.range n).map fun i=>incR (r i)
def hdW (hd:Dat) (l:List Inc):Dat:={ hd with incs:=l }
def mCom (hd:Dat) (s:Al):List ON:=[.own (hdW hd s.incs),.tok,.box [.i s.prom.n,.i s.prom.who,.i s.acc.n,.i s.acc.who,.i s.ainc.kind,.i s.ainc.osd,.i s.ainc.n],.lst s.wishes.length (rowJ s.wishes),.tok,.box [.b (s.rep 0),.b (s.rep 1),.b (s.rep 2),.b (s.rep 3),.b (s.rep 4),.b (s.rep 5),.b (s.rep 6),.b (s.rep 7),.b (s.rep 8),.b (s.rep 9),.b (s.rep 10),.b (s.rep 11),.b (s.rep 12),.b (s.rep 13),.b (s.rep 14),.b (s.rep 15),.b (s.rep 16),.b (s.rep 17),.b (s.rep 18),.b (s.rep 19),.b (s.rep 20),.b (s.rep 21),.b (s.rep 22),.b (s.rep 23),.b (s.rep 24)]]
def mBox (s:Al):ON:=.box [.i s.id,.u,.u,.u,.u,.i s.ticks,.i s.over.n,.i s.over.who,.u]
def mn0 (hd:Dat) (s:Al):List ON:=mBox s::mCom hd s
def mPr (id:Int) (p:BA):List ON:=[.box [.i id,.i p.want.kind,.i p.want.osd,.i p.want.n,.i p.value.kind,.i p.value.osd,.i p.value.n,.i p.best.kind,.i p.best.osd,.i p.best.n,.i p.b.n,.i p.b.who,.i p.acc.n,.i p.acc.who,.u,.u,.b p.has,.b p.valued,.i p.decided.kind,.i p.decided.osd,.i p.decided.n,.b p.done,.b p.ever],
  .lst p.hp.length (AR p.hp),.lst p.ha.length (AR p.ha),.tok,.tok]
def mn1 (hd:Dat) (s:Al) (p:BA):List ON:=mn0 hd s++mPr s.id p
def repOf (e:EN) (i:Nat):Bool:=[e.bb 6 0,e.bb 6 1,e.bb 6 2,e.bb 6 3,e.bb 6 4,e.bb 6 5,e.bb 6 6,e.bb 6 7,e.bb 6 8,e.bb 6 9,e.bb 6 10,e.bb 6 11,e.bb 6 12,e.bb 6 13,e.bb 6 14,e.bb 6 15,e.bb 6 16,e.bb 6 17,e.bb 6 18,e.bb 6 19,e.bb 6 20,e.bb 6 21,e.bb 6 22,e.bb 6 23,e.bb 6 24].getD i false
def propOf (e:EN):BA:=⟨⟨e.bi 7 1,e.bi 7 2,e.bi 7 3⟩,⟨e.bi 7 4,e.bi 7 5,e.bi 7 6⟩,⟨e.bi 7 7,e.bi 7 8,e.bi 7 9⟩,⟨e.bi 7 10,e.bi 7 11⟩,⟨e.bi 7 12,e.bi 7 13⟩,Ax (e.ln 8) (e.rw 8),Ax (e.ln 9) (e.rw 9),e.bb 7 16,e.bb 7 17,⟨e.bi 7 18,e.bi 7 19,e.bi 7 20⟩,e.bb 7 21,e.bb 7 22⟩
def monOf (e:EN) (p:Option BA):Al:=⟨e.bi 0 0,(e.dt 1).incs,⟨e.bi 3 0,e.bi 3 1⟩,⟨e.bi 3 2,e.bi 3 3⟩,⟨e.bi 3 4,e.bi 3 5,e.bi 3 6⟩,incsL (e.ln 4) (e.rw 4),p,e.bi 0 5,⟨e.bi 0 6,e.bi 0 7⟩,repOf e⟩
def mon0 (e:EN):Al:=monOf e none
def mon1 (e:EN):Al:=monOf e (some (propOf e))
def mRow (x:MMsg):List Num:=[.i x.kind,.i x.frm,.i x.to,.i x.epoch,.i x.b.n,.i x.b.who,.i x.acc.n,.i x.acc.who,.b x.has,.i x.inc.kind,.i x.inc.osd,.i x.inc.n,.u,.u,.u,.u,.u,.u,.u,.u,.u,.u,.u,.u,.u,.u,.u,.u,.u,.u,.u,.u,.u,.u,.u,.u,.u,.u,.u,.u,.u,.u,.u,.u,.u,.u,.u,.u,.u,.u,.u,.u,.u,.u,.u,.u,.u,.u,.u,.u,.u,.u,.u,.u,.u,.u,.u,.u,.u,.u,.u,.u,.u,.u,.u,.u,.u,.u,.u,.u,.u,.u,.u,.u,.u,.u,.u,.u,.u,.u,.u,.u,.u,.u,.u,.u,.u,.u,.u,.u,.u,.u,.u,.u,.u,.u,.u,.u,.u,.u,.u,.u,.u,.u,.u,.u,.u,.u,.u,.u,.u,.u,.i x.n,.u,.u,.u,.u,.u,.u,.u,.u]
def mZero:MMsg:=MMsg.mk0 0 0
def rowM (l:List MMsg) (i:Nat):List Num:=mRow (l.getD i mZero)
def oT1:TS:=⟨[],[.one (.ptr 0 0),.agg msgR],mp1,12⟩
def oR1:TS:=⟨[],[.one (.sl 19)],[(0,.box [.i .u8,.ptr 1 0,.ptr 3 0,.sl 13,.ptr 7 0,.i .i64,.i .u32,.i .u8,.ptr 6 0]),(1,.ob 1 Af 12),(12,.tok),(3,.box acB),(13,.lst none BB (some 14)),(14,.tok),(6,.box rpB),(7,.box [.i .u8,.i .u8,.i .u8,.i .i64,.i .u8,.i .u8,.i .i64,.i .u8,.i .u8,.i .i64,.i .u32,.i .u8,.i .u32,.i .u8,.sl 15,.sl 16,.b,.b,.i .u8,.i .u8,.i .i64,.b,.b]),(15,.lst none [.i .u8] (some 17)),(16,.lst none [.i .u8] (some 18)),(17,.tok),(18,.tok),(19,.lst (some 2) msgR (some 20)),(20,.tok)],21⟩
def dR1:TS:=⟨[],[.one (.sl 19)],[(0,.box [.i .u8,.ptr 1 0,.ptr 3 0,.sl 13,.ptr 7 0,.i .i64,.i .u32,.i .u8,.ptr 6 0]),(1,.ob 1 Af 12),(12,.tok),(3,.box acB),(13,.lst none BB (some 14)),(14,.tok),(6,.box rpB),(7,.box [.i .u8,.i .u8,.i .u8,.i .i64,.i .u8,.i .u8,.i .i64,.i .u8,.i .u8,.i .i64,.i .u32,.i .u8,.i .u32,.i .u8,.sl 15,.sl 16,.b,.b,.i .u8,.i .u8,.i .i64,.b,.b]),(15,.lst none [.i .u8] (some 17)),(16,.lst none [.i .u8] (some 18)),(17,.tok),(18,.tok),(19,.lst (some 5) msgR (some 20)),(20,.tok)],21⟩
abbrev midA:List AV:=[.int .u8 (.lit 0),.int .u32 (.lit 0),.bool (.lit false),.str (SS.lit (ByteArray.mk #[])),.str (SS.lit (ByteArray.mk #[])),.str (SS.lit (ByteArray.mk #[])),.str (SS.lit (ByteArray.mk #[])),.bool (.lit false),.str (SS.lit (ByteArray.mk #[])),.str (SS.lit (ByteArray.mk #[])),.str (SS.lit (ByteArray.mk #[])),.str (SS.lit (ByteArray.mk #[])),.bool (.lit false),.str (SS.lit (ByteArray.mk #[])),.str (SS.lit (ByteArray.mk #[])),.str (SS.lit (ByteArray.mk #[])),.str (SS.lit (ByteArray.mk #[])),.bool (.lit false),.str (SS.lit (ByteArray.mk #[])),.str (SS.lit (ByteArray.mk #[])),.str (SS.lit (ByteArray.mk #[])),.str (SS.lit (ByteArray.mk #[])),.bool (.lit false),.str (SS.lit (ByteArray.mk #[])),.str (SS.lit (ByteArray.mk #[])),.str (SS.lit (ByteArray.mk #[])),.str (SS.lit (ByteArray.mk #[])),.bool (.lit false),.str (SS.lit (ByteArray.mk #[])),.str (SS.lit (ByteArray.mk #[])),.str (SS.lit (ByteArray.mk #[])),.str (SS.lit (ByteArray.mk #[])),.int .u32 (.lit 0),.int .u8 (.lit 0),.str (SS.lit (ByteArray.mk #[])),.int .u32 (.lit 0),.int .u8 (.lit 0),.str (SS.lit (ByteArray.mk #[])),.int .u32 (.lit 0),.int .u8 (.lit 0),.str (SS.lit (ByteArray.mk #[])),.int .u32 (.lit 0),.int .u32 (.lit 0),.int .u8 (.lit 0),.int .u32 (.lit 0),.int .u8 (.lit 0),.int .u8 (.lit 0),.int .u8 (.lit 0),.str (SS.lit (ByteArray.mk #[])),.nils,.int .i64 (.lit 0),.int .u32 (.lit 0),.nils,.int .u32 (.lit 0),.bool (.lit false),.str (SS.lit (ByteArray.mk #[])),.str (SS.lit (ByteArray.mk #[])),.str (SS.lit (ByteArray.mk #[])),.str (SS.lit (ByteArray.mk #[])),.bool (.lit false),.str (SS.lit (ByteArray.mk #[])),.str (SS.lit (ByteArray.mk #[])),.str (SS.lit (ByteArray.mk #[])),.str (SS.lit (ByteArray.mk #[])),.bool (.lit false),.str (SS.lit (ByteArray.mk #[])),.str (SS.lit (ByteArray.mk #[])),.str (SS.lit (ByteArray.mk #[])),.str (SS.lit (ByteArray.mk #[])),.bool (.lit false),.str (SS.lit (ByteArray.mk #[])),.str (SS.lit (ByteArray.mk #[])),.str (SS.lit (ByteArray.mk #[])),.str (SS.lit (ByteArray.mk #[])),.bool (.lit false),.str (SS.lit (ByteArray.mk #[])),.str (SS.lit (ByteArray.mk #[])),.str (SS.lit (ByteArray.mk #[])),.str (SS.lit (ByteArray.mk #[])),.bool (.lit false),.str (SS.lit (ByteArray.mk #[])),.str (SS.lit (ByteArray.mk #[])),.str (SS.lit (ByteArray.mk #[])),.str (SS.lit (ByteArray.mk #[])),.int .u32 (.lit 0),.int .u8 (.lit 0),.str (SS.lit (ByteArray.mk #[])),.int .u32 (.lit 0),.int .u8 (.lit 0),.str (SS.lit (ByteArray.mk #[])),.int .u32 (.lit 0),.int .u8 (.lit 0),.str (SS.lit (ByteArray.mk #[])),.int .u32 (.lit 0),.int .u32 (.lit 0),.int .u8 (.lit 0),.int .u32 (.lit 0),.int .u8 (.lit 0),.int .u8 (.lit 0),.int .u8 (.lit 0),.str (SS.lit (ByteArray.mk #[])),.nils,.int .u32 (.lit 0),.int .u32 (.lit 0),.int .u8 (.lit 0),.int .u32 (.lit 0),.int .u8 (.lit 0),.int .u8 (.lit 0),.int .u8 (.lit 0),.str (SS.lit (ByteArray.mk #[]))]
abbrev mtA:List AV:=[.int .u8 (.lit 0),.int .u32 (.lit 0),.int .u8 (.lit 0),.int .u8 (.lit 0),.int .u8 (.lit 0),.str (SS.lit (ByteArray.mk #[])),.int .u8 (.lit 0),.str (SS.lit (ByteArray.mk #[]))]
abbrev mAV (l:List AV) (n:AV):List AV:=l++(midA++(n::mtA))
noncomputable abbrev qRa1 (v0:Al):ON:=.box [.b (v0.10 0),.b (v0.10 1),.b (v0.10 2),.b (v0.10 3),.b (v0.10 4),.b (v0.10 5),.b (v0.10 6),.b (v0.10 7),.b (v0.10 8),.b (v0.10 9),.b (v0.10 10),.b (v0.10 11),.b (v0.10 12),.b (v0.10 13),.b (v0.10 14),.b (v0.10 15),.b (v0.10 16),.b (v0.10 17),.b (v0.10 18),.b (v0.10 19),.b (v0.10 20),.b (v0.10 21),.b (v0.10 22),.b (v0.10 23),.b (v0.10 24)]
noncomputable abbrev qRa2 (v0:Al) (v1:BA):ON:=.box [.i v0.1,.i v1.want.1,.i v1.want.2,.i v1.want.3,.i v1.value.1,.i v1.value.2,.i v1.value.3,.i v1.best.1,.i v1.best.2,.i v1.best.3,.i v1.b.1,.i v1.b.2,.i v1.acc.1,.i v1.acc.2,.u,.u,.b v1.8,.b v1.9,.i v1.decided.1,.i v1.decided.2,.i v1.decided.3,.b v1.11,.b v1.12]
noncomputable abbrev qRa3 (v0:MMsg) (v1:Al):List AV:=(mAV [.int .u8 (.sym v0.1),.int .u8 (.sym v1.1),.int .u8 (.lit 1),.int .u32 (.sym v0.4),.int .u32 (.sym v0.b.1),.int .u8 (.sym v0.b.2),.int .u32 (.sym v0.acc.1),.int .u8 (.sym v0.acc.2),.bool (.sym v0.7),.int .u8 (.sym v0.inc.1),.int .u8 (.sym v0.inc.2),.int .i64 (.sym v0.inc.3)] (.int .u32 (.sym v0.9)))
noncomputable abbrev qRa4 (v0:MMsg) (v1:Al):List AV:=(mAV [.int .u8 (.sym v0.1),.int .u8 (.sym v1.1),.int .u8 (.lit 2),.int .u32 (.sym v0.4),.int .u32 (.sym v0.b.1),.int .u8 (.sym v0.b.2),.int .u32 (.sym v0.acc.1),.int .u8 (.sym v0.acc.2),.bool (.sym v0.7),.int .u8 (.sym v0.inc.1),.int .u8 (.sym v0.inc.2),.int .i64 (.sym v0.inc.3)] (.int .u32 (.sym v0.9)))
noncomputable abbrev qRa5 (v0:MMsg) (v1:Al):List AV:=(mAV [.int .u8 (.sym v0.1),.int .u8 (.sym v1.1),.int .u8 (.lit 0),.int .u32 (.sym v0.4),.int .u32 (.sym v0.b.1),.int .u8 (.sym v0.b.2),.int .u32 (.sym v0.acc.1),.int .u8 (.sym v0.acc.2),.bool (.sym v0.7),.int .u8 (.sym v0.inc.1),.int .u8 (.sym v0.inc.2),.int .i64 (.sym v0.inc.3)] (.int .u32 (.sym v0.9)))
noncomputable abbrev qRa6 (v0:Al):ON:=.box [.i v0.prom.1,.i v0.prom.2,.i v0.acc.1,.i v0.acc.2,.i v0.ainc.1,.i v0.ainc.2,.i v0.ainc.3]
theorem o_t0 (hd:Dat) (s:Al) (p:BA) (x:MMsg):(BR Tryz.prog (Am Tryz.prog noTab 300) 109 (oT1.vals ⟨[[],mRow x],mn1 hd s p⟩) (oT1.heap ⟨[[],mRow x],mn1 hd s p⟩) 12 (outV 12 oR1)).cut [some false,some true,some true] =

  .must (!0 != s.1) (.must (1 != s.1) (.must (2 != s.1) (.must (BE Af Af) (.must (AX BB (AI BB (rowJ s.wishes)) s.6.length) (.must (AX [.i .u8] (AI [.i .u8] (AR p.6)) p.6.length) (.must (AX [.i .u8] (AI [.i .u8] (AR p.7)) p.7.length) (.leaf ⟨[[.u]],[.box [.i s.1,.u,.u,.u,.u,.i s.8,.i s.over.1,.i s.over.2,.u],.own (hdW hd s.2),.tok,(qRa6 s),.lst s.6.length (AH BB (AI BB (rowJ s.wishes))),.tok,(qRa1 s),(qRa2 s p),.lst p.6.length (AR p.6),.lst p.7.length (AR p.7),.tok,.tok,.lst 2 (AH msgR (AP (.lit 1) (AP (.lit 0) (fun (x:Nat)=>[]) (Aa 131 (qRa3 x s))) (Aa 131 (qRa4 x s)))),.tok]⟩))))))):=by kernel_rfl
theorem o_t1 (hd:Dat) (s:Al) (p:BA) (x:MMsg):(BR Tryz.prog (Am Tryz.prog noTab 300) 109 (oT1.vals ⟨[[],mRow x],mn1 hd s p⟩) (oT1.heap ⟨[[],mRow x],mn1 hd s p⟩) 12 (outV 12 oR1)).cut [some true,some false,some true] =

  .must (0 != s.1) (.must (!1 != s.1) (.must (2 != s.1) (.must (BE Af Af) (.must (AX BB (AI BB (rowJ s.wishes)) s.6.length) (.must (AX [.i .u8] (AI [.i .u8] (AR p.6)) p.6.length) (.must (AX [.i .u8] (AI [.i .u8] (AR p.7)) p.7.length) (.leaf ⟨[[.u]],[.box [.i s.1,.u,.u,.u,.u,.i s.8,.i s.over.1,.i s.over.2,.u],.own (hdW hd s.2),.tok,(qRa6 s),.lst s.6.length (AH BB (AI BB (rowJ s.wishes))),.tok,(qRa1 s),(qRa2 s p),.lst p.6.length (AR p.6),.lst p.7.length (AR p.7),.tok,.tok,.lst 2 (AH msgR (AP (.lit 1) (AP (.lit 0) (fun (x:Nat)=>[]) (Aa 131 (qRa5 x s))) (Aa 131 (qRa4 x s)))),.tok]⟩))))))):=by kernel_rfl
theorem o_t2 (hd:Dat) (s:Al) (p:BA) (x:MMsg):(BR Tryz.prog (Am Tryz.prog noTab 300) 109 (oT1.vals ⟨[[],mRow x],mn1 hd s p⟩) (oT1.heap ⟨[[],mRow x],mn1 hd s p⟩) 12 (outV 12 oR1)).cut [some true,some true,some false] =

  .must (0 != s.1) (.must (1 != s.1) (.must (!2 != s.1) (.must (BE Af Af) (.must (AX BB (AI BB (rowJ s.wishes)) s.6.length) (.must (AX [.i .u8] (AI [.i .u8] (AR p.6)) p.6.length) (.must (AX [.i .u8] (AI [.i .u8] (AR p.7)) p.7.length) (.leaf ⟨[[.u]],[.box [.i s.1,.u,.u,.u,.u,.i s.8,.i s.over.1,.i s.over.2,.u],.own (hdW hd s.2),.tok,(qRa6 s),.lst s.6.length (AH BB (AI BB (rowJ s.wishes))),.tok,(qRa1 s),(qRa2 s p),.lst p.6.length (AR p.6),.lst p.7.length (AR p.7),.tok,.tok,.lst 2 (AH msgR (AP (.lit 1) (AP (.lit 0) (fun (x:Nat)=>[]) (Aa 131 (qRa5 x s))) (Aa 131 (qRa3 x s)))),.tok]⟩))))))):=by kernel_rfl
theorem d_t (hd:Dat) (s:Al) (p:BA) (x:MMsg):BR Tryz.prog (Am Tryz.prog noTab 300) 145 (oT1.vals ⟨[[],mRow x],mn1 hd s p⟩) (oT1.heap ⟨[[],mRow x],mn1 hd s p⟩) 12 (outV 12 dR1) =

  .must (BE Af Af) (.must (AX BB (AI BB (rowJ s.wishes)) s.6.length) (.must (AX [.i .u8] (AI [.i .u8] (AR p.6)) p.6.length) (.must (AX [.i .u8] (AI [.i .u8] (AR p.7)) p.7.length) (.leaf ⟨[[.u]],[.box [.i s.1,.u,.u,.u,.u,.i s.8,.i s.over.1,.i s.over.2,.u],.own (hdW hd s.2),.tok,(qRa6 s),.lst s.6.length (AH BB (AI BB (rowJ s.wishes))),.tok,(qRa1 s),(qRa2 s p),.lst p.6.length (AR p.6),.lst p.7.length (AR p.7),.tok,.tok,.lst 5 (AH msgR (AP (.lit 4) (AP (.lit 3) (AP (.lit 2) (AP (.lit 1) (AP (.lit 0) (fun (x:Nat)=>[]) (Aa 131 (mAV [.int .u8 (.sym x.1),.int .u8 (.sym s.1),.int .u8 (.lit 10),.int .u32 (.sym x.4),.int .u32 (.sym x.b.1),.int .u8 (.sym x.b.2),.int .u32 (.sym x.acc.1),.int .u8 (.sym x.acc.2),.bool (.sym x.7),.int .u8 (.sym x.inc.1),.int .u8 (.sym x.inc.2),.int .i64 (.sym x.inc.3)] (.int .u32 (.sym x.9))))) (Aa 131 (mAV [.int .u8 (.sym x.1),.int .u8 (.sym s.1),.int .u8 (.lit 11),.int .u32 (.sym x.4),.int .u32 (.sym x.b.1),.int .u8 (.sym x.b.2),.int .u32 (.sym x.acc.1),.int .u8 (.sym x.acc.2),.bool (.sym x.7),.int .u8 (.sym x.inc.1),.int .u8 (.sym x.inc.2),.int .i64 (.sym x.inc.3)] (.int .u32 (.sym x.9))))) (Aa 131 (mAV [.int .u8 (.sym x.1),.int .u8 (.sym s.1),.int .u8 (.lit 12),.int .u32 (.sym x.4),.int .u32 (.sym x.b.1),.int .u8 (.sym x.b.2),.int .u32 (.sym x.acc.1),.int .u8 (.sym x.acc.2),.bool (.sym x.7),.int .u8 (.sym
 x.inc.1),.int .u8 (.sym x.inc.2),.int .i64 (.sym x.inc.3)] (.int .u32 (.sym x.9))))) (Aa 131 (mAV [.int .u8 (.sym x.1),.int .u8 (.sym s.1),.int .u8 (.lit 13),.int .u32 (.sym x.4),.int .u32 (.sym x.b.1),.int .u8 (.sym x.b.2),.int .u32 (.sym x.acc.1),.int .u8 (.sym x.acc.2),.bool (.sym x.7),.int .u8 (.sym x.inc.1),.int .u8 (.sym x.inc.2),.int .i64 (.sym x.inc.3)] (.int .u32 (.sym x.9))))) (Aa 131 (mAV [.int .u8 (.sym x.1),.int .u8 (.sym s.1),.int .u8 (.lit 14),.int .u32 (.sym x.4),.int .u32 (.sym x.b.1),.int .u8 (.sym x.b.2),.int .u32 (.sym x.acc.1),.int .u8 (.sym x.acc.2),.bool (.sym x.7),.int .u8 (.sym x.inc.1),.int .u8 (.sym x.inc.2),.int .i64 (.sym x.inc.3)] (.int .u32 (.sym x.9)))))),.tok]⟩)))):=by kernel_rfl
def BU (e:EN) (j:Nat):MMsg:=⟨e.ai j 0,e.ai j 1,e.ai j 2,e.ai j 3,⟨e.ai j 4,e.ai j 5⟩,⟨e.ai j 6,e.ai j 7⟩,e.ab j 8,⟨e.ai j 9,e.ai j 10,e.ai j 11⟩,e.ai j 122⟩
def idOk (n:Int):Bool:=decide (0≤n∧n<3)
def ok1 (e:EN):Bool:=idOk (e.bi 0 0)&&decide (e.bi 7 0=e.bi 0 0)
def rawM (e:EN):List ON:=[.box [.i (e.bi 0 0),.u,.u,.u,.u,.i (e.bi 0 5),.i (e.bi 0 6),.i (e.bi 0 7),.u],.own (e.dt 1),.tok,.box [.i (e.bi 3 0),.i (e.bi 3 1),.i (e.bi 3 2),.i (e.bi 3 3),.i (e.bi 3 4),.i (e.bi 3 5),.i (e.bi 3 6)],.lst (e.ln 4) (e.rw 4),.tok,.box [.b (e.bb 6 0),.b (e.bb 6 1),.b (e.bb 6 2),.b (e.bb 6 3),.b (e.bb 6 4),.b (e.bb 6 5),.b (e.bb 6 6),.b (e.bb 6 7),.b (e.bb 6 8),.b (e.bb 6 9),.b (e.bb 6 10),.b (e.bb 6 11),.b (e.bb 6 12),.b (e.bb 6 13),.b (e.bb 6 14),.b (e.bb 6 15),.b (e.bb 6 16),.b (e.bb 6 17),.b (e.bb 6 18),.b (e.bb 6 19),.b (e.bb 6 20),.b (e.bb 6 21),.b (e.bb 6 22),.b (e.bb 6 23),.b (e.bb 6 24)]]
def rawP (e:EN):List ON:=[.box [.i (e.bi 7 0),.i (e.bi 7 1),.i (e.bi 7 2),.i (e.bi 7 3),.i (e.bi 7 4),.i (e.bi 7 5),.i (e.bi 7 6),.i (e.bi 7 7),.i (e.bi 7 8),.i (e.bi 7 9),.i (e.bi 7 10),.i (e.bi 7 11),.i (e.bi 7 12),.i (e.bi 7 13),.u,.u,.b (e.bb 7 16),.b (e.bb 7 17),.i (e.bi 7 18),.i (e.bi 7 19),.i (e.bi 7 20),.b (e.bb 7 21),.b (e.bb 7 22)],.lst (e.ln 8) (e.rw 8),.lst (e.ln 9) (e.rw 9),.tok,.tok]
def cOth (e:EN):Ah (TS×EN):=.must (ok1 e) (.leaf (oR1,⟨[[.u]],rawM e++rawP e++[.lst 2 (rowM ((mon1 e).others (BU e 1))),.tok]⟩))
def cOsd (e:EN):Ah (TS×EN):=.must (ok1 e) (.leaf (dR1,⟨[[.u]],rawM e++rawP e++[.lst 5 (rowM ((mon1 e).osds (BU e 1))),.tok]⟩))
theorem rowM_of {rows:Nat→List AV} {l:List MMsg} {n:Int} (hn:(l.length:Int)=n) (h:∀ i:Nat,i<l.length→eqvL msgR (AH msgR rows i) (mRow (l.getD i mZero))):∀ i:Nat,(i:Int)<n→eqvL msgR (AH msgR rows i) (rowM l i):=fun i hi=>h i (by omega)
theorem incsL_length (n:Nat) (r:Nat→List Num):(incsL n r).length=n:=by simp [incsL]
theorem incsL_get {n:Nat} {r:Nat→List Num} {i:Nat} (h:i<n):(incsL n r).getD i .zero=incR (r i):=by
  rw [List.getD,List.getElem?_eq_getElem (by rw [incsL_length]; exact h)]
  simp [incsL]
theorem rowJ_eqv {n:Nat} {r:Nat→List Num} {i:Nat} (h:i<n):eqvL BB (r i) (rowJ (incsL n r) i):=by
  unfold rowJ
  rw [incsL_get h]
  exact ⟨rfl,rfl,rfl,trivial⟩
theorem pre1 (e:EN) (a:List (List Num)) (vs:List TA) (tmps:List Nat) (m:Nat) (hw:e.bi 7 0=e.bi 0 0) (ha:eqvA vs e.a a):(⟨tmps,vs,mp1,m⟩:TS).eqv e ⟨a,mn1 (e.dt 1) (mon1 e) (propOf e)⟩:=by
  refine ⟨ha,?_,rfl,trivial,?_,⟨(incsL_length _ _).symm,fun i hi=>rowJ_eqv ?_⟩,trivial,?_,?_,⟨(As _ _).symm,fun i hi=>rowI_eqv ?_⟩,⟨(As _ _).symm,fun i hi=>rowI_eqv ?_⟩,trivial,trivial,trivial⟩
  · exact clP
  · exact clP
  · have hi:(i:Int)<((incsL (e.ln 4) (e.rw 4)).length:Int):=hi
    rw [incsL_length] at hi
    exact_mod_cast hi
  · exact clP
  · refine ⟨hw,?_⟩
    (repeat' (first | exact trivial | exact rfl | exact TS.eqv_refl _ _ | exact AY _ _ | exact AQ | exact fun _ _=>AJ _ _ | exact fun i _=>AF rfl _ i | apply And.intro))
  · have hi:(i:Int)<((Ax (e.ln 8) (e.rw 8)).length:Int):=hi
    rw [As] at hi
    exact_mod_cast hi
  · have hi:(i:Int)<((Ax (e.ln 9) (e.rw 9)).length:Int):=hi
    rw [As] at hi
    exact_mod_cast hi
theorem pre0 (e:EN) (a:List (List Num)) (vs:List TA) (tmps:List Nat) (m:Nat) (ha:eqvA vs e.a a):(⟨tmps,vs,mp0,m⟩:TS).eqv e ⟨a,mn0 (e.dt 1) (mon0 e)⟩:=by
  refine ⟨ha,?_,rfl,trivial,?_,⟨(incsL_length _ _).symm,fun i hi=>rowJ_eqv ?_⟩,trivial,?_,trivial⟩
  · exact clP
  · exact clP
  · have hi:(i:Int)<((incsL (e.ln 4) (e.rw 4)).length:Int):=hi
    rw [incsL_length] at hi
    exact_mod_cast hi
  · exact clP
theorem oth_std (hd:Dat) (s:Al) (p:BA) (x:MMsg) (hs:0≤s.id∧s.id<3):BI Tryz.prog 109 oT1 ⟨[[],mRow x],mn1 hd s p⟩ oR1 ⟨[[.u]],mn1 hd s p++[.lst 2 (rowM (s.others x)),.tok]⟩:=by
  have h3:s.id=0∨s.id=1∨s.id=2:=by omega
  rcases h3 with h | h | h
  · have e : s.others x = [{ x with frm := s.id, to := 1 }, { x with frm := s.id, to := 2 }] := by
      unfold Al.others
      rw [h]
      rfl
    rw [e]
    refine Aj (Ao _) Ay rfl (BG [some false,some true,some true] (AL (o_t0 hd s p x) (AA (by rw [h]; rfl) (AA (by rw [h]; rfl) (AA (by rw [h]; rfl) (AA (AS _) (AA (AZ rfl _ _) (AA (AN _ _ _) (AA (AN _ _ _) (AE ?_))))))))))
    refine ⟨⟨trivial,trivial⟩,?_,rfl,trivial,?_,⟨rfl,fun i _=>AF rfl _ i⟩,trivial,?_,?_,⟨rfl,fun _ _=>AJ _ _⟩,⟨rfl,fun _ _=>AJ _ _⟩,trivial,trivial,⟨trivial,rowM_of rfl fun i hi=>?_⟩,trivial,trivial⟩
    · exact clP
    · exact clP
    · exact clP
    · exact clP
    · match i,hi with
      | 0,_=>exact by repeat' (first | exact trivial | exact rfl | apply And.intro)
      | 1,_=>exact by repeat' (first | exact trivial | exact rfl | apply And.intro)
  · have e : s.others x = [{ x with frm := s.id, to := 0 }, { x with frm := s.id, to := 2 }] := by
      unfold Al.others
      rw [h]
      rfl
    rw [e]
    refine Aj (Ao _) Ay rfl (BG [some true,some false,some true] (AL (o_t1 hd s p x) (AA (by rw [h]; rfl) (AA (by rw [h]; rfl) (AA (by rw [h]; rfl) (AA (AS _) (AA (AZ rfl _ _) (AA (AN _ _ _) (AA (AN _ _ _) (AE ?_))))))))))
    refine ⟨⟨trivial,trivial⟩,?_,rfl,trivial,?_,⟨rfl,fun i _=>AF rfl _ i⟩,trivial,?_,?_,⟨rfl,fun _ _=>AJ _ _⟩,⟨rfl,fun _ _=>AJ _ _⟩,trivial,trivial,⟨trivial,rowM_of rfl fun i hi=>?_⟩,trivial,trivial⟩
    · exact clP
    · exact clP
    · exact clP
    · exact clP
    · match i,hi with
      | 0,_=>exact by repeat' (first | exact trivial | exact rfl | apply And.intro)
      | 1,_=>exact by repeat' (first | exact trivial | exact rfl | apply And.intro)
  · have e : s.others x = [{ x with frm := s.id, to := 0 }, { x with frm := s.id, to := 1 }] := by
      unfold Al.others
      rw [h]
      rfl
    rw [e]
    refine Aj (Ao _) Ay rfl (BG [some true,some true,some false] (AL (o_t2 hd s p x) (AA (by rw [h]; rfl) (AA (by rw [h]; rfl) (AA (by rw [h]; rfl) (AA (AS _) (AA (AZ rfl _ _) (AA (AN _ _ _) (AA (AN _ _ _) (AE ?_))))))))))
    refine ⟨⟨trivial,trivial⟩,?_,rfl,trivial,?_,⟨rfl,fun i _=>AF rfl _ i⟩,trivial,?_,?_,⟨rfl,fun _ _=>AJ _ _⟩,⟨rfl,fun _ _=>AJ _ _⟩,trivial,trivial,⟨trivial,rowM_of rfl fun i hi=>?_⟩,trivial,trivial⟩
    · exact clP
    · exact clP
    · exact clP
    · exact clP
    · match i,hi with
      | 0,_=>exact by repeat' (first | exact trivial | exact rfl | apply And.intro)
      | 1,_=>exact by repeat' (first | exact trivial | exact rfl | apply And.intro)
theorem osd_std (hd:Dat) (s:Al) (p:BA) (x:MMsg):BI Tryz.prog 145 oT1 ⟨[[],mRow x],mn1 hd s p⟩ dR1 ⟨[[.u]],mn1 hd s p++[.lst 5 (rowM (s.osds x)),.tok]⟩:=by
  refine Aj (Ao _) Ay rfl (AL (d_t hd s p x) (AA (AS _) (AA (AZ rfl _ _) (AA (AN _ _ _) (AA (AN _ _ _) (AE ?_))))))
  refine ⟨⟨trivial,trivial⟩,?_,rfl,trivial,?_,⟨rfl,fun i _=>AF rfl _ i⟩,trivial,?_,?_,⟨rfl,fun _ _=>AJ _ _⟩,⟨rfl,fun _ _=>AJ _ _⟩,trivial,trivial,⟨trivial,rowM_of rfl fun i hi=>?_⟩,trivial,trivial⟩
  · exact clP
  · exact clP
  · exact clP
  · exact clP
  · match i,hi with
    | 0,_=>exact by repeat' (first | exact trivial | exact rfl | apply And.intro)
    | 1,_=>exact by repeat' (first | exact trivial | exact rfl | apply And.intro)
    | 2,_=>exact by repeat' (first | exact trivial | exact rfl | apply And.intro)
    | 3,_=>exact by repeat' (first | exact trivial | exact rfl | apply And.intro)
    | 4,_=>exact by repeat' (first | exact trivial | exact rfl | apply And.intro)
theorem cOth_ok:Ak Tryz.prog 109 (AW oT1 cOth):=BN fun e r h=>by
  obtain ⟨hm,h⟩:=Ar h
  cases h
  simp only [ok1,idOk,Bool.and_eq_true,decide_eq_true_eq] at hm
  have pre:=pre1 e [[],mRow (BU e 1)] oT1.vs [] 12 hm.2 clP
  refine BI.pre (t:=oT1) pre (BI.post (t':=oR1) (y:=⟨[[.u]],mn1 (e.dt 1) (mon1 e) (propOf e)++[.lst 2 (rowM ((mon1 e).others (BU e 1))),.tok]⟩) ⟨by (repeat' (first | exact trivial | exact rfl | exact TS.eqv_refl _ _ | exact AY _ _ | exact AQ | exact fun _ _=>AJ _ _ | exact fun i _=>AF rfl _ i | apply And.intro)),?_⟩ (oth_std (e.dt 1) (mon1 e) (propOf e) (BU e 1) hm.1))
  obtain ⟨h0,h1,h2,h3,h4,h5,h6,h7,h8,h9,h10,h11,_⟩:=eqvH_symm pre.2
  exact ⟨h0,h1,trivial,h3,h4,trivial,h6,h7,h8,h9,trivial,trivial,⟨trivial,fun _ _=>AJ _ _⟩,trivial,trivial⟩
theorem cOsd_ok:Ak Tryz.prog 145 (AW oT1 cOsd):=BN fun e r h=>by
  obtain ⟨hm,h⟩:=Ar h
  cases h
  simp only [ok1,idOk,Bool.and_eq_true,decide_eq_true_eq] at hm
  have pre:=pre1 e [[],mRow (BU e 1)] oT1.vs [] 12 hm.2 clP
  refine BI.pre (t:=oT1) pre (BI.post (t':=dR1) (y:=⟨[[.u]],mn1 (e.dt 1) (mon1 e) (propOf e)++[.lst 5 (rowM ((mon1 e).osds (BU e 1))),.tok]⟩) ⟨by (repeat' (first | exact trivial | exact rfl | exact TS.eqv_refl _ _ | exact AY _ _ | exact AQ | exact fun _ _=>AJ _ _ | exact fun i _=>AF rfl _ i | apply And.intro)),?_⟩ (osd_std (e.dt 1) (mon1 e) (propOf e) (BU e 1)))
  obtain ⟨h0,h1,h2,h3,h4,h5,h6,h7,h8,h9,h10,h11,_⟩:=eqvH_symm pre.2
  exact ⟨h0,h1,trivial,h3,h4,trivial,h6,h7,h8,h9,trivial,trivial,⟨trivial,fun _ _=>AJ _ _⟩,trivial,trivial⟩
end Go.Proofs.YtddmgdclmkgpeaaGreat
set_option linter.unusedSimpArgs false
set_option linter.unusedVariables false
namespace Go.Proofs.YtddmgdclmkgpeaaGreat
open Go.Eng Go.RowKit Go.ChangeShapes Go.WideShapes
set_option maxRecDepth 100000
def bigL:Int:=1099511627776
noncomputable def body198:Code:=Tryz.f198.body.getD .skip
noncomputable def x198:Code:=lp ((flat body198).getD 2 .skip)
def ixT:TS:=⟨[0,1],[.one (.sl 0),.one (.i .u8)],[(0,.lst none [.i .u8] none)],1⟩
def ixL:TS:=⟨[0,1,7,8],[.one (.sl 0),.one (.i .u8),.one (.i .i64),.one (.i .i64)],[(0,.lst none [.i .u8] none)],1⟩
def ixR:TS:=⟨[4],[.one (.i .i64)],[],1⟩
def ixE:TS:=⟨[],[],[],1⟩
theorem ix_pre (len:Nat) (v:Int) (r:Nat→List Num) (τ0:Tm):Am Tryz.prog noTab 300 198 Tryz.f198.ntmps (Eng.ofL ((flat body198).take 2)) (ixT.tm ⟨[[],[.i v]],[.lst len r]⟩++τ0) (ixT.heap ⟨[[],[.i v]],[.lst len r]⟩) 1 (outX 1 ⟨some ixL,[],some ixR⟩) =
  .must (AX [.i .u8] (AI [.i .u8] r) len) (.leaf (.normal,⟨[[.u],[.i v],[.i (len:Int)],[.i 0]],[.lst len (AH [.i .u8] (AI [.i .u8] r))]⟩)):=by kernel_rfl
theorem ix_x (len:Nat) (v i:Int) (r:Nat→List Num) (τ0:Tm):Am Tryz.prog noTab 300 198 Tryz.f198.ntmps x198 (ixL.tm ⟨[[],[.i v],[.i (len:Int)],[.i i]],[.lst len r]⟩++τ0) (ixL.heap ⟨[[],[.i v],[.i (len:Int)],[.i i]],[.lst len r]⟩) 1 (outX 1 ⟨some ixL,[(0,ixE)],some ixR⟩) =
  .ite (decide (i<(len:Int))) (.must (decide (0≤i∧i<(len:Int))) (.must (decide (0≤i∧i<(len:Int))) (.defI (hdN (r i.toNat)).I fun z0=>.ite (v==z0) (.leaf (.ret,⟨[[.i i]],[]⟩)) (.defI
  (IntKind.i64.wrap (i+1)) fun z1=>.must (AX [.i .u8] (AI [.i .u8] r) len) (.leaf (.normal,⟨[[.u],[.i v],[.i (len:Int)],[.i z1]],[.lst len (AH [.i .u8] (AI [.i .u8] r))]⟩)))))) (.leaf (.exit 0,
  ⟨[],[]⟩)):=by kernel_rfl
theorem ix_tail (τ0:Tm):Am Tryz.prog noTab 300 198 Tryz.f198.ntmps (Eng.ofL ((flat body198).drop 3)) (ixE.tm ⟨[],[]⟩++τ0) (ixE.heap ⟨[],[]⟩) 1 (outX 1 ⟨none,[],some ixR⟩) =
  .leaf (.ret,⟨[[.i (-1)]],[]⟩):=by kernel_rfl
theorem body198_eq:Tryz.f198.body=some body198:=by kernel_rfl
theorem in198:BT Tryz.prog 198 Tryz.f198.ntmps body198:=within_body Tryz.func198 body198_eq
theorem lp198:(flat body198).drop 2=[.block 0 (.loop x198)]++(flat body198).drop 3:=by kernel_rfl
theorem in198x:BT Tryz.prog 198 Tryz.f198.ntmps x198:=by
  have h:(flat body198)[2]? = some (.block 0 (.loop x198)):=by kernel_rfl
  exact within_loop (within_block (within_at in198 2 h))
section
variable (len:Nat) (v:Int) (r:Nat→List Num)
abbrev ixP (j:Nat):Bool:=v==(hdN (r j)).I
def ixN (i:Int):EN:=⟨[[],[.i v],[.i (len:Int)],[.i i]],[.lst len r]⟩
def ixQ:Ex→EN→Prop
  | .exit _,_=>anyN (ixP v r) len=false
  | .ret,e=>ixR.eqv e ⟨[[.i (fstN (ixP v r) len)]],[]⟩
  | .normal,_=>True
theorem ix_loop (hl:(len:Int)≤bigL) (i:Int) (h:0≤i∧(i≤(len:Int)∨i=0)∧anyN (ixP v r) i.toNat=false):HT Tryz.prog Tryz.f198.ntmps 1 (.loop x198) 1 (ixL.tm (ixN len v r i)) (ixL.heap (ixN len v r i)) (QX ⟨none,[(0,ixE)],some ixR⟩ (ixQ len v r)):=by
  refine HT.loopX (Ao _) Ay (n:=300) in198x ixL _ _ (ixN len v r) (fun i=>0≤i∧(i≤(len:Int)∨i=0)∧anyN (ixP v r) i.toNat=false) (fun i=>((len:Int) - i).toNat) (fun _=>ixQ len v r) (Nat.le_refl _) ?_ i h
  rintro i ⟨h0,h1,h2⟩ τ0
  refine AL (ix_x len v i r τ0) (AG (fun hlt=>?_) fun hge=>AE ?_)
  · have hlt:i<(len:Int):=of_decide_eq_true hlt
    have hm:decide (0≤i∧i<(len:Int))=true:=decide_eq_true ⟨h0,hlt⟩
    refine AA hm (AA hm (AB (AG (fun hit=>AE ?_) fun hno=>AB (AA (AZ rfl _ _) (AE ?_)))))
    · refine ⟨⟨?_,trivial⟩,trivial⟩
      show i=fstN (ixP v r) len
      rw [fstN_hit h2 (show ixP v r i.toNat=true from hit) (by omega)]
      omega
    · unfold bigL at hl
      have e1:IntKind.i64.wrap (i+1)=i+1:=IntWalk.i64_in _ (by omega)
      have e2:(i+1).toNat=i.toNat+1:=by omega
      refine ⟨i+1,⟨by omega,by omega,?_⟩,by omega,⟨⟨trivial,rfl,rfl,e1,trivial⟩,⟨rfl,fun j _=>⟨rfl,trivial⟩⟩,trivial⟩,fun _ _ h=>h⟩
      rw [e2]
      simp only [anyN,h2,Bool.false_or]
      exact hno
  · have hge:¬ i<(len:Int):=of_decide_eq_false hge
    show anyN (ixP v r) len=false
    rw [show len=i.toNat by omega]
    exact h2
theorem ix_std (hl:(len:Int)≤bigL):BI Tryz.prog 198 ixT ⟨[[],[.i v]],[.lst len r]⟩ ixR ⟨[[.i (fstN (ixP v r) len)]],[]⟩:=by
  refine stdX_htX Tryz.func198 body198_eq (by kernel_rfl) rfl (by kernel_rfl) rfl rfl ?_
  refine HT.cutX 2 (t1:=ixL) (R1:=fun ex e=>ex = .normal∧ixL.eqv e (ixN len v r 0)) (HTL.runX (Ao _) Ay (n:=300) (by decide) (within_take in198 2) (Nat.le_refl _) fun τ0=>AL (ix_pre len v r τ0) (AA (AZ rfl _ _) (AE ⟨rfl,⟨⟨trivial,rfl,rfl,rfl,trivial⟩,⟨rfl,fun j _=>⟨rfl,trivial⟩⟩,trivial⟩⟩))) ?_ ?_
  · rintro en ⟨_,he⟩
    refine HTg.pre (WP:=wpL Tryz.prog _) (fun h hq=>wpL_mono h hq) he (HTL.loopThen lp198 (ix_loop len v r hl 0 ⟨Int.le_refl _,.inr rfl,rfl⟩) ?_ ?_)
    · intro en hn
      have hn:anyN (ixP v r) len=false:=hn
      refine HTL.runX (Ao _) Ay (n:=300) (by decide) (within_drop in198 3) (Nat.le_refl _) fun τ0=>AL (ix_tail τ0) (AE fun _=>⟨⟨?_,trivial⟩,trivial⟩)
      show (-1:Int)=fstN (ixP v r) len
      rw [fstN_none hn]
    · exact fun en h _=>h
  · rintro en ⟨h,_⟩
    cases h
end
def ixC (e:EN):Ah (TS×EN):=.must (decide ((e.ln 0:Int)≤bigL)) (.leaf (ixR,⟨[[.i (fstN (ixP (e.ai 1 0) (e.rw 0)) (e.ln 0))]],[]⟩))
theorem ixC_ok:Ak Tryz.prog 198 (ctrSumm0 ixT ixC):=ctr0_ok fun e r h=>by
  unfold ixC at h
  obtain ⟨hl,h⟩:=Ar h
  cases h
  refine BI.pre (x':=⟨_,_⟩) ⟨?_,?_⟩ (ix_std (e.ln 0) (e.ai 1 0) (e.rw 0) (of_decide_eq_true hl))
  all_goals (repeat' (first | exact trivial | exact rfl | exact fun _ _=>AJ _ _ | apply And.intro))
end Go.Proofs.YtddmgdclmkgpeaaGreat
set_option linter.unusedSimpArgs false
set_option linter.unusedVariables false
namespace Go.Proofs.YtddmgdclmkgpeaaGreat
open Go.Eng Go.RowKit Go.ChangeShapes Go.WideShapes
set_option maxRecDepth 100000
noncomputable def ixSm:List (FuncId×Summ):=[(198,ctrSumm0 ixT ixC)]
noncomputable def ixTab:Tab:=smTab (tabOf ixSm)
def tB1:TS:=⟨[],[.one .b],[],1⟩
def cCon (e:EN):Ah (TS×EN):=.must (decide ((e.ln 0:Int)≤bigL)) (.leaf (tB1,⟨[[.b (anyN (ixP (e.ai 1 0) (e.rw 0)) (e.ln 0))]],[]⟩))
noncomputable abbrev qRb1 (v0:Bal) (v1:Bal) (v2:Inc):ON:=.box [.i v0.1,.i v0.2,.i v1.1,.i v1.2,.i v2.1,.i v2.2,.i v2.3]
theorem con_t (len:Nat) (v:Int) (r:Nat→List Num):BR Tryz.prog (Am Tryz.prog ixTab 300) 193 (ixT.vals ⟨[[],[.i v]],[.lst len r]⟩) (ixT.heap ⟨[[],[.i v]],[.lst len r]⟩) 1 (outV 1 tB1) =

  .must (AX [.i .u8] (AI [.i .u8] r) len) (.must (decide ((len:Int)≤1099511627776)) (.defI (fstN (ixP v (AH [.i .u8] (AI [.i .u8] r))) len) fun z0=>.leaf ⟨[[.b (decide (z0≥0))]],[]⟩)):=by kernel_rfl
theorem ixSm_ok:AllOk Tryz.prog ixSm:=⟨ixC_ok,trivial⟩
theorem ixTab_ok:TabAll Tryz.prog ixTab:=tab_ok ixSm_ok
theorem cCon_ok:Ak Tryz.prog 193 (ctrSumm0 ixT cCon):=ctr0_ok fun e r h=>by
  unfold cCon at h
  obtain ⟨hl,h⟩:=Ar h
  have hl:=of_decide_eq_true hl
  cases h
  refine BI.pre (x':=⟨[[],[.i (e.ai 1 0)]],[.lst (e.ln 0) (e.rw 0)]⟩) ⟨?_,?_⟩ (Aj ixTab_ok Ay rfl (AL (con_t (e.ln 0) (e.ai 1 0) (e.rw 0)) ?_))
  · exact clP
  · exact clP
  · refine AA (AN _ _ _) (AA (decide_eq_true hl) (AB (AE ?_)))
    exact ⟨⟨fstN_ge,trivial⟩,trivial⟩
def rBal:List TV:=[.i .u32,.i .u8]
def lsT:TS:=⟨[],[.agg rBal,.agg rBal],[],0⟩
def balN (b:Bal):List Num:=[.i b.n,.i b.who]
def incNm (x:Inc):List Num:=[.i x.kind,.i x.osd,.i x.n]
def acN (p a:Bal) (x:Inc):ON:=.box [.i p.n,.i p.who,.i a.n,.i a.who,.i x.kind,.i x.osd,.i x.n]
def acP:List (Nat×TO):=[(0,.box acB)]
def ppT:TS:=⟨[],[.one (.ptr 0 0),.agg rBal],acP,1⟩
def ppR:TS:=⟨[],[.agg rBal,.agg BB,.one .b,.one (.i .i64)],acP,1⟩
def akT:TS:=⟨[],[.one (.ptr 0 0),.agg rBal,.agg BB],acP,1⟩
def akR:TS:=⟨[],[.one (.i .i64)],acP,1⟩
noncomputable def rbSm0:List (FuncId×Summ):=[(47,AW incT cInc)]
noncomputable def rbT0:Tab:=smTab (tabOf rbSm0)
theorem rbSm0_ok:AllOk Tryz.prog rbSm0:=⟨cInc_ok,trivial⟩
theorem rbTab0:TabAll Tryz.prog rbT0:=tab_ok rbSm0_ok
theorem ls_t (a b:Bal):BR Tryz.prog (Am Tryz.prog noTab 300) 48 (lsT.vals ⟨[balN a,balN b],[]⟩) (lsT.heap ⟨[balN a,balN b],[]⟩) 0 (outV 0 boolR) =

  .ite (decide (a.1<b.1)) (.leaf ⟨[[.b true]],[]⟩) (.ite (a.1==b.1) (.leaf ⟨[[.b (decide (a.2<b.2))]],[]⟩) (.leaf ⟨[[.b false]],[]⟩)):=by kernel_rfl
theorem pp_t (p a b:Bal) (x:Inc):BR Tryz.prog (Am Tryz.prog noTab 300) 107 (ppT.vals ⟨[[],balN b],[acN p a x]⟩) (ppT.heap ⟨[[],balN b],[acN p a x]⟩) 1 (outV 1 ppR) =

  .ite (decide (b.1>0)) (.ite (!decide (b.2<3)) (.leaf ⟨[[.i 0,.i 0],[.i 0,.i 0,.i 0],[.b false],[.i 10]],[(qRb1 p a x)]⟩) (.ite (decide (b.1<p.1)) (.leaf ⟨[[.i 0,.i 0],[.i 0,.i 0,.i 0],[.b false],[.i 100]],[(qRb1 p a x)]⟩) (.ite (b.1==p.1) (.ite (decide (b.2<p.2)) (.leaf ⟨[[.i 0,.i 0],[.i 0,.i 0,.i 0],[.b false],[.i 100]],[(qRb1 p a x)]⟩) (.leaf ⟨[[.i a.1,.i a.2],[.i x.1,.i x.2,.i x.3],[.b !(a.1==0&&a.2==0)],[.i 0]],[(qRb1 b a x)]⟩)) (.leaf ⟨[[.i a.1,.i a.2],[.i x.1,.i x.2,.i x.3],[.b !(a.1==0&&a.2==0)],[.i 0]],[(qRb1 b a x)]⟩)))) (.leaf ⟨[[.i 0,.i 0],[.i 0,.i 0,.i 0],[.b false],[.i 10]],[(qRb1 p a x)]⟩):=by kernel_rfl
theorem pb_t (p a b:Bal) (x y:Inc):BR Tryz.prog (Am Tryz.prog rbT0 300) 140 (akT.vals ⟨[[],balN b,incNm y],[acN p a x]⟩) (akT.heap ⟨[[],balN b,incNm y],[acN p a x]⟩) 1 (outV 1 akR) =

  .ite (decide (b.1>0)) (.ite (!decide (b.2<3)) (.leaf ⟨[[.i 10]],[(qRb1 p a x)]⟩) (.defE ⟨[[.i y.1,.i y.2,.i y.3]],[]⟩ fun e0=>.ite (!incF (e0.ai 0 0) (e0.ai 0 1) (e0.ai 0 2)) (.leaf ⟨[[.i 10]],[(qRb1 p a x)]⟩) (.ite (decide (b.1<p.1)) (.leaf ⟨[[.i 100]],[(qRb1 p a x)]⟩) (.ite (b.1==p.1) (.ite (decide (b.2<p.2)) (.leaf ⟨[[.i 100]],[(qRb1 p a x)]⟩) (.leaf ⟨[[.i 0]],[.box [.i b.1,.i b.2,.i b.1,.i b.2,.i y.1,.i y.2,.i y.3]]⟩)) (.leaf ⟨[[.i 0]],[.box [.i b.1,.i b.2,.i b.1,.i b.2,.i y.1,.i y.2,.i y.3]]⟩))))) (.leaf ⟨[[.i 10]],[(qRb1 p a x)]⟩):=by kernel_rfl
def prepB (b p:Bal):Bool:=b.ok && !(b.less p)
def ballE (b:Bal):Int:=bif b.ok then 100 else 10
def cLs (e:EN):Ah (TS×EN):=.leaf (boolR,⟨[[.b (Bal.less ⟨e.ai 0 0,e.ai 0 1⟩ ⟨e.ai 1 0,e.ai 1 1⟩)]],[]⟩)
def acO (e:EN):ON:=acN ⟨e.bi 0 0,e.bi 0 1⟩ ⟨e.bi 0 2,e.bi 0 3⟩ ⟨e.bi 0 4,e.bi 0 5,e.bi 0 6⟩
def cPp (e:EN):Ah (TS×EN):=.ite (prepB ⟨e.ai 1 0,e.ai 1 1⟩ ⟨e.bi 0 0,e.bi 0 1⟩)
  (.leaf (ppR,⟨[[.i (e.bi 0 2),.i (e.bi 0 3)],[.i (e.bi 0 4),.i (e.bi 0 5),.i (e.bi 0 6)],[.b (!(Bal.eqb ⟨e.bi 0 2,e.bi 0 3⟩ .zero))],[.i 0]],[acN ⟨e.ai 1 0,e.ai 1 1⟩ ⟨e.bi 0 2,e.bi 0 3⟩ ⟨e.bi 0 4,e.bi 0 5,e.bi 0 6⟩]⟩))
  (.leaf (ppR,⟨[[.i 0,.i 0],[.i 0,.i 0,.i 0],[.b false],[.i (ballE ⟨e.ai 1 0,e.ai 1 1⟩)]],[acO e]⟩))
def cPb (e:EN):Ah (TS×EN):=.ite (incOk ⟨e.ai 2 0,e.ai 2 1,e.ai 2 2⟩&&prepB ⟨e.ai 1 0,e.ai 1 1⟩ ⟨e.bi 0 0,e.bi 0 1⟩)
  (.leaf (akR,⟨[[.i 0]],[acN ⟨e.ai 1 0,e.ai 1 1⟩ ⟨e.ai 1 0,e.ai 1 1⟩ ⟨e.ai 2 0,e.ai 2 1,e.ai 2 2⟩]⟩))
  (.leaf (akR,⟨[[.i (bif incOk ⟨e.ai 2 0,e.ai 2 1,e.ai 2 2⟩ then ballE ⟨e.ai 1 0,e.ai 1 1⟩ else 10)]],[acO e]⟩))
theorem ls_std (a b:Bal):BI Tryz.prog 48 lsT ⟨[balN a,balN b],[]⟩ boolR ⟨[[.b (a.less b)]],[]⟩:=by
  refine Aj (Ao _) Ay rfl (AL (ls_t a b) ?_)
  repeat' with_reducible (refine AG (fun _=>?_) (fun _=>?_))
  all_goals refine AE ⟨⟨?_,trivial⟩,trivial⟩
  all_goals show _=Bal.less a b
  all_goals (simp only [Bal.less, *,cond_true,cond_false,Bool.true_and,Bool.and_true,Bool.false_and,Bool.and_false,Bool.true_or,Bool.or_true,Bool.false_or,Bool.or_false]; try rfl)
theorem pp_ok (p a b:Bal) (x:Inc) (h:prepB b p=true):BI Tryz.prog 107 ppT ⟨[[],balN b],[acN p a x]⟩ ppR ⟨[balN a,incNm x,[.b (!(a.eqb .zero))],[.i 0]],[acN b a x]⟩:=by
  refine Aj (Ao _) Ay rfl (AL (pp_t p a b x) ?_)
  unfold prepB Bal.ok Bal.less at h
  generalize decide (b.n>0)=B1,decide (b.who<3)=B2,decide (b.n<p.n)=L1,(b.n==p.n)=E1,decide (b.who<p.who)=L2 at h ⊢
  cases B1 <;> cases B2 <;> cases L1 <;> cases E1 <;> cases L2
  all_goals repeat' (first | refine AG (fun _=>?_) (fun h=>absurd h (by decide)) | refine AG (fun h=>absurd h (by decide)) (fun _=>?_))
  all_goals first
    | (exact absurd h (by decide))
    | (refine AE ?_; repeat' (first | exact trivial | exact rfl | exact TS.eqv_refl _ _ | exact AY _ _ | exact AQ | exact fun _ _=>AJ _ _ | exact fun i _=>AF rfl _ i | apply And.intro); done)
theorem pp_no (p a b:Bal) (x:Inc) (h:prepB b p=false):BI Tryz.prog 107 ppT ⟨[[],balN b],[acN p a x]⟩ ppR ⟨[[.i 0,.i 0],[.i 0,.i 0,.i 0],[.b false],[.i (ballE b)]],[acN p a x]⟩:=by
  refine Aj (Ao _) Ay rfl (AL (pp_t p a b x) ?_)
  unfold prepB Bal.ok Bal.less at h
  unfold ballE Bal.ok
  generalize decide (b.n>0)=B1,decide (b.who<3)=B2,decide (b.n<p.n)=L1,(b.n==p.n)=E1,decide (b.who<p.who)=L2 at h ⊢
  cases B1 <;> cases B2 <;> cases L1 <;> cases E1 <;> cases L2
  all_goals repeat' (first | refine AG (fun _=>?_) (fun h=>absurd h (by decide)) | refine AG (fun h=>absurd h (by decide)) (fun _=>?_))
  all_goals first
    | (exact absurd h (by decide))
    | (refine AE ?_; repeat' (first | exact trivial | exact rfl | exact TS.eqv_refl _ _ | exact AY _ _ | exact AQ | exact fun _ _=>AJ _ _ | exact fun i _=>AF rfl _ i | apply And.intro); done)
theorem pb_ok (p a b:Bal) (x y:Inc) (h:(incOk y&&prepB b p)=true):BI Tryz.prog 140 akT ⟨[[],balN b,incNm y],[acN p a x]⟩ akR ⟨[[.i 0]],[acN b b y]⟩:=by
  refine Aj rbTab0 Ay rfl (AL (pb_t p a b x y) ?_)
  unfold prepB Bal.ok Bal.less at h
  have hi:=incF_eq y.kind y.osd y.n
  have hi:incOk y=incF y.kind y.osd y.n:=hi.symm
  rw [hi] at h
  generalize decide (b.n>0)=B1,decide (b.who<3)=B2,decide (b.n<p.n)=L1,(b.n==p.n)=E1,decide (b.who<p.who)=L2 at h ⊢
  cases hc:incF y.kind y.osd y.n <;> rw [hc] at h <;> cases B1 <;> cases B2 <;> cases L1 <;> cases E1 <;> cases L2
  all_goals repeat' (first | refine AK ?_ | refine Ab (show (!incF y.kind y.osd y.n)=false by rw [hc]; rfl) ?_ | refine AU (show (!incF y.kind y.osd y.n)=true by rw [hc]; rfl) ?_ | refine AG (fun _=>?_) (fun h=>absurd h (by decide)) | refine AG (fun h=>absurd h (by decide)) (fun _=>?_))
  all_goals first
    | (exact absurd h (by decide))
    | (refine AE ?_; repeat' (first | exact trivial | exact rfl | exact TS.eqv_refl _ _ | exact AY _ _ | exact AQ | exact fun _ _=>AJ _ _ | exact fun i _=>AF rfl _ i | apply And.intro); done)
theorem pb_no (p a b:Bal) (x y:Inc) (h:(incOk y&&prepB b p)=false):BI Tryz.prog 140 akT ⟨[[],balN b,incNm y],[acN p a x]⟩ akR ⟨[[.i (bif incOk y then ballE b else 10)]],[acN p a x]⟩:=by
  refine Aj rbTab0 Ay rfl (AL (pb_t p a b x y) ?_)
  unfold prepB Bal.ok Bal.less at h
  unfold ballE Bal.ok
  have hi:=incF_eq y.kind y.osd y.n
  have hi:incOk y=incF y.kind y.osd y.n:=hi.symm
  rw [hi] at h ⊢
  generalize decide (b.n>0)=B1,decide (b.who<3)=B2,decide (b.n<p.n)=L1,(b.n==p.n)=E1,decide (b.who<p.who)=L2 at h ⊢
  cases hc:incF y.kind y.osd y.n <;> rw [hc] at h <;> cases B1 <;> cases B2 <;> cases L1 <;> cases E1 <;> cases L2
  all_goals repeat' (first | refine AK ?_ | refine Ab (show (!incF y.kind y.osd y.n)=false by rw [hc]; rfl) ?_ | refine AU (show (!incF y.kind y.osd y.n)=true by rw [hc]; rfl) ?_ | refine AG (fun _=>?_) (fun h=>absurd h (by decide)) | refine AG (fun h=>absurd h (by decide)) (fun _=>?_))
  all_goals first
    | (exact absurd h (by decide))
    | (refine AE ?_; repeat' (first | exact trivial | exact rfl | exact TS.eqv_refl _ _ | exact AY _ _ | exact AQ | exact fun _ _=>AJ _ _ | exact fun i _=>AF rfl _ i | apply And.intro); done)
theorem cLs_ok:Ak Tryz.prog 48 (AW lsT cLs):=BN fun e r h=>by
  cases h
  refine BI.pre (x':=⟨[balN ⟨e.ai 0 0,e.ai 0 1⟩,balN ⟨e.ai 1 0,e.ai 1 1⟩],[]⟩) ?_ (ls_std _ _)
  (repeat' (first | exact trivial | exact rfl | exact TS.eqv_refl _ _ | exact AY _ _ | exact AQ | exact fun _ _=>AJ _ _ | exact fun i _=>AF rfl _ i | apply And.intro))
theorem cPp_ok:Ak Tryz.prog 107 (AW ppT cPp):=BN fun e r h=>by
  have pre:ppT.eqv e ⟨[[],balN ⟨e.ai 1 0,e.ai 1 1⟩],[acN ⟨e.bi 0 0,e.bi 0 1⟩ ⟨e.bi 0 2,e.bi 0 3⟩ ⟨e.bi 0 4,e.bi 0 5,e.bi 0 6⟩]⟩:=by
    (repeat' (first | exact trivial | exact rfl | exact TS.eqv_refl _ _ | exact AY _ _ | exact AQ | exact fun _ _=>AJ _ _ | exact fun i _=>AF rfl _ i | apply And.intro))
  cases hc:prepB ⟨e.ai 1 0,e.ai 1 1⟩ ⟨e.bi 0 0,e.bi 0 1⟩ with
  | true =>
    rw [cPp,hc] at h
    cases h
    exact BI.pre pre (pp_ok _ _ _ _ hc)
  | false =>
    rw [cPp,hc] at h
    cases h
    exact BI.pre pre (pp_no _ _ _ _ hc)
theorem cPb_ok:Ak Tryz.prog 140 (AW akT cPb):=BN fun e r h=>by
  have pre:akT.eqv e ⟨[[],balN ⟨e.ai 1 0,e.ai 1 1⟩,incNm ⟨e.ai 2 0,e.ai 2 1,e.ai 2 2⟩],[acN ⟨e.bi 0 0,e.bi 0 1⟩ ⟨e.bi 0 2,e.bi 0 3⟩ ⟨e.bi 0 4,e.bi 0 5,e.bi 0 6⟩]⟩:=by
    (repeat' (first | exact trivial | exact rfl | exact TS.eqv_refl _ _ | exact AY _ _ | exact AQ | exact fun _ _=>AJ _ _ | exact fun i _=>AF rfl _ i | apply And.intro))
  cases hc:(incOk ⟨e.ai 2 0,e.ai 2 1,e.ai 2 2⟩&&prepB ⟨e.ai 1 0,e.ai 1 1⟩ ⟨e.bi 0 0,e.bi 0 1⟩) with
  | true =>
    rw [cPb,hc] at h
    cases h
    exact BI.pre pre (pb_ok _ _ _ _ _ hc)
  | false =>
    rw [cPb,hc] at h
    cases h
    exact BI.pre pre (pb_no _ _ _ _ _ hc)
end Go.Proofs.YtddmgdclmkgpeaaGreat
set_option linter.unusedSimpArgs false
set_option linter.unusedVariables false
namespace Go.Proofs.YtddmgdclmkgpeaaGreat
open Go.Eng Go.RowKit Go.ChangeShapes Go.WideShapes
set_option maxRecDepth 100000
def prP:List (Nat×TO):=[(0,.box [.i .u8,.i .u8,.i .u8,.i .i64,.i .u8,.i .u8,.i .i64,.i .u8,.i .u8,.i .i64,.i .u32,.i .u8,.i .u32,.i .u8,.sl 1,.sl 2,.b,.b,.i .u8,.i .u8,.i .i64,.b,.b]),(1,.lst none [.i .u8] (some 3)),(2,.lst none [.i .u8] (some 4)),(3,.tok),(4,.tok)]
def prQ:List (Nat×TO):=[(0,.box [.i .u8,.i .u8,.i .u8,.i .i64,.i .u8,.i .u8,.i .i64,.i .u8,.i .u8,.i .i64,.i .u32,.i .u8,.i .u32,.i .u8,.sl 5,.sl 6,.b,.b,.i .u8,.i .u8,.i .i64,.b,.b]),(5,.lst none [.i .u8] (some 7)),(6,.lst none [.i .u8] (some 8)),(7,.tok),(8,.tok)]
def rnT:TS:=⟨[],[.one (.i .u8),.agg BB],[],0⟩
def rnR:TS:=⟨[],[.one (.ptr 0 0)],prP,5⟩
def rsT:TS:=⟨[],[.one (.ptr 0 0),.agg rBal],prP,5⟩
def rsR:TS:=⟨[],[.agg rBal],prQ,9⟩
def rpT:TS:=⟨[],[.one (.ptr 0 0),.one (.i .u8),.agg rBal,.agg rBal,.agg BB,.one .b],prP,5⟩
def rpR:TS:=⟨[],[.one .b],prQ,9⟩
def rdT:TS:=⟨[],[.one (.ptr 0 0),.one (.i .u8),.agg rBal],prP,5⟩
def prOf (e:EN):BA:=⟨⟨e.bi 0 1,e.bi 0 2,e.bi 0 3⟩,⟨e.bi 0 4,e.bi 0 5,e.bi 0 6⟩,⟨e.bi 0 7,e.bi 0 8,e.bi 0 9⟩,⟨e.bi 0 10,e.bi 0 11⟩,⟨e.bi 0 12,e.bi 0 13⟩,Ax (e.ln 1) (e.rw 1),Ax (e.ln 2) (e.rw 2),e.bb 0 16,e.bb 0 17,⟨e.bi 0 18,e.bi 0 19,e.bi 0 20⟩,e.bb 0 21,e.bb 0 22⟩
def prK (w:Int) (r:BA×Bool):EN:=⟨[[.b r.2]],mPr w r.1⟩
noncomputable def rcSm:List (FuncId×Summ):=[(193,ctrSumm0 ixT cCon),(48,AW lsT cLs)]
noncomputable def rcT:Tab:=smTab (tabOf rcSm)
theorem rcSm_ok:AllOk Tryz.prog rcSm:=⟨cCon_ok,cLs_ok,trivial⟩
theorem rcTab:TabAll Tryz.prog rcT:=tab_ok rcSm_ok
noncomputable abbrev qRc4 (v0:Int) (v1:BA):ON:=.box [.i v0,.i v1.want.1,.i v1.want.2,.i v1.want.3,.i v1.value.1,.i v1.value.2,.i v1.value.3,.i v1.best.1,.i v1.best.2,.i v1.best.3,.i v1.b.1,.i v1.b.2,.i v1.acc.1,.i v1.acc.2,.u,.u,.b v1.8,.b v1.9,.i v1.decided.1,.i v1.decided.2,.i v1.decided.3,.b v1.11,.b v1.12]
noncomputable abbrev qRc1 (v0:BA) (v1:Int):Ah (EN):=.must (AX [.i .u8] (AI [.i .u8] (AR v0.6)) v0.6.length) (.must (AX [.i .u8] (AI [.i .u8] (AR v0.7)) v0.7.length) (.leaf ⟨[[.b false]],[(qRc4 v1 v0),.lst v0.6.length (AR v0.6),.lst v0.7.length (AR v0.7),.tok,.tok]⟩))
noncomputable abbrev qRc2 (v0:BA) (v1:Int) (v2:Int):Ah (EN):=.ite (!(v0.6.length:Int)+1==2) (.must (AX [.i .u8] (AP (.sym (v0.6.length:Int)) (AI [.i .u8] (AR v0.6)) (Aa 1 [.int .u8 (.sym v1)])) ((v0.6.length:Int)+1).toNat) (.must (AX [.i .u8] (AI [.i .u8] (AR v0.7)) v0.7.length) (.leaf ⟨[[.b false]],[(qRc4 v2 v0),.lst ((v0.6.length:Int)+1).toNat (AH [.i .u8] (AP (.sym (v0.6.length:Int)) (AI [.i .u8] (AR v0.6)) (Aa 1 [.int .u8 (.sym v1)]))),.lst v0.7.length (AR v0.7),.tok,.tok]⟩))) (.ite v0.8 (.must (AX [.i .u8] (AP (.sym (v0.6.length:Int)) (AI [.i .u8] (AR v0.6)) (Aa 1 [.int .u8 (.sym v1)])) ((v0.6.length:Int)+1).toNat) (.must (AX [.i .u8] (AI [.i .u8] (AR v0.7)) v0.7.length) (.leaf ⟨[[.b true]],[.box [.i v2,.i v0.want.1,.i v0.want.2,.i v0.want.3,.i v0.best.1,.i v0.best.2,.i v0.best.3,.i v0.best.1,.i v0.best.2,.i v0.best.3,.i v0.b.1,.i v0.b.2,.i v0.acc.1,.i v0.acc.2,.u,.u,.b v0.8,.b true,.i v0.decided.1,.i v0.decided.2,.i v0.decided.3,.b v0.11,.b v0.12],.lst ((v0.6.length:Int)+1).toNat (AH [.i .u8] (AP (.sym (v0.6.length:Int)) (AI [.i .u8] (AR v0.6)) (Aa 1 [.int .u8 (.sym v1)]))),.lst v0.7.length (AR v0.7),.tok,.tok]⟩))) (.must (AX [.i .u8] (AP (.sym (v0.6.length:Int)) (AI [.i .u8] (AR v0.6)) (Aa 1 [.int .u8 (.sym v1)])) ((v0.6.length:Int)+1).toNat) (.must (AX [.i .u8] (AI [.i .u8]
 (AR v0.7)) v0.7.length) (.leaf ⟨[[.b true]],[.box [.i v2,.i v0.want.1,.i v0.want.2,.i v0.want.3,.i v0.want.1,.i v0.want.2,.i v0.want.3,.i v0.best.1,.i v0.best.2,.i v0.best.3,.i v0.b.1,.i v0.b.2,.i v0.acc.1,.i v0.acc.2,.u,.u,.b v0.8,.b true,.i v0.decided.1,.i v0.decided.2,.i v0.decided.3,.b v0.11,.b v0.12],.lst ((v0.6.length:Int)+1).toNat (AH [.i .u8] (AP (.sym (v0.6.length:Int)) (AI [.i .u8] (AR v0.6)) (Aa 1 [.int .u8 (.sym v1)]))),.lst v0.7.length (AR v0.7),.tok,.tok]⟩))))
noncomputable abbrev qRc3 (v0:BA) (v1:Int) (v2:Int) (v3:Inc) (v4:Bal):Ah (EN):=.ite (!(v0.6.length:Int)+1==2) (.must (AX [.i .u8] (AP (.sym (v0.6.length:Int)) (AI [.i .u8] (AR v0.6)) (Aa 1 [.int .u8 (.sym v1)])) ((v0.6.length:Int)+1).toNat) (.must (AX [.i .u8] (AI [.i .u8] (AR v0.7)) v0.7.length) (.leaf ⟨[[.b false]],[.box [.i v2,.i v0.want.1,.i v0.want.2,.i v0.want.3,.i v0.value.1,.i v0.value.2,.i v0.value.3,.i v3.1,.i v3.2,.i v3.3,.i v0.b.1,.i v0.b.2,.i v4.1,.i v4.2,.u,.u,.b true,.b v0.9,.i v0.decided.1,.i v0.decided.2,.i v0.decided.3,.b v0.11,.b v0.12],.lst ((v0.6.length:Int)+1).toNat (AH [.i .u8] (AP (.sym (v0.6.length:Int)) (AI [.i .u8] (AR v0.6)) (Aa 1 [.int .u8 (.sym v1)]))),.lst v0.7.length (AR v0.7),.tok,.tok]⟩))) (.must (AX [.i .u8] (AP (.sym (v0.6.length:Int)) (AI [.i .u8] (AR v0.6)) (Aa 1 [.int .u8 (.sym v1)])) ((v0.6.length:Int)+1).toNat) (.must (AX [.i .u8] (AI [.i .u8] (AR v0.7)) v0.7.length) (.leaf ⟨[[.b true]],[.box [.i v2,.i v0.want.1,.i v0.want.2,.i v0.want.3,.i v3.1,.i v3.2,.i v3.3,.i v3.1,.i v3.2,.i v3.3,.i v0.b.1,.i v0.b.2,.i v4.1,.i v4.2,.u,.u,.b true,.b true,.i v0.decided.1,.i v0.decided.2,.i v0.decided.3,.b v0.11,.b v0.12],.lst ((v0.6.length:Int)+1).toNat (AH [.i .u8] (AP (.sym (v0.6.length:Int)) (AI [.i .u8] (AR v0.6)) (Aa 1 [.int .u8 (.sym v1)]))),.lst v0.7.length
 (AR v0.7),.tok,.tok]⟩)))
noncomputable abbrev qRc5 (v0:Int) (v1:Int) (v2:BA):Ah (EN):=.leaf ⟨[[.i v0,.i v1]],[.box [.i v1,.i v2.want.1,.i v2.want.2,.i v2.want.3,.i 0,.i 0,.i 0,.i 0,.i 0,.i 0,.i v0,.i v1,.i 0,.i 0,.u,.u,.b false,.b false,.i v2.decided.1,.i v2.decided.2,.i v2.decided.3,.b false,.b v2.12],.lst 0 fun (x:Nat)=>[],.lst 0 fun (x:Nat)=>[],.tok,.tok]⟩
theorem pn_t (w:Int) (x:Inc):BR Tryz.prog (Am Tryz.prog rcT 300) 105 (rnT.vals ⟨[[.i w],incNm x],[]⟩) (rnT.heap ⟨[[.i w],incNm x],[]⟩) 0 (outV 0 rnR) =

  .leaf ⟨[[.u]],[.box [.i w,.i x.1,.i x.2,.i x.3,.i 0,.i 0,.i 0,.i 0,.i 0,.i 0,.i 0,.i 0,.i 0,.i 0,.u,.u,.b false,.b false,.i 0,.i 0,.i 0,.b false,.b false],.lst 0 fun (x:Nat)=>[],.lst 0 fun (x:Nat)=>[],.tok,.tok]⟩:=by kernel_rfl
theorem ps_t (w:Int) (p:BA) (o:Bal):BR Tryz.prog (Am Tryz.prog rcT 300) 106 (rsT.vals ⟨[[],balN o],mPr w p⟩) (rsT.heap ⟨[[],balN o],mPr w p⟩) 5 (outV 5 rsR) =

  .defI (bif decide (o.1>p.b.1) then o.1 else p.b.1) fun z0=>.ite (decide (z0<4294967295)) (.defI (IntKind.u32.wrap (z0+1)) fun z1=>qRc5 z1 w p) (qRc5 z0 w p):=by kernel_rfl
theorem pm_t (w:Int) (p:BA) (f:Int) (b a:Bal) (x:Inc) (h:Bool):BR Tryz.prog (Am Tryz.prog rcT 300) 108 (rpT.vals ⟨[[],[.i f],balN b,balN a,incNm x,[.b h]],mPr w p⟩) (rpT.heap ⟨[[],[.i f],balN b,balN a,incNm x,[.b h]],mPr w p⟩) 5 (outV 5 rpR) =

  .ite p.9 (qRc1 p w) (.ite (decide (p.b.1>0)) (.ite (b.1==p.b.1&&b.2==p.b.2) (.ite (decide (f≥3)) (qRc1 p w) (.must (AX [.i .u8] (AI [.i .u8] (AR p.6)) p.6.length) (.must (decide ((p.6.length:Int)≤1099511627776)) (.ite (anyN (ixP f (AR p.6)) p.6.length) (qRc1 p w) (.must (decide (((p.6.length:Int)+1) * 1≤1099511627776∧(p.6.length:Int)+1≤1099511627776)) (.ite h (.ite (!p.8) (qRc3 p f w x a) (.defE ⟨[[.i p.acc.1,.i p.acc.2],[.i a.1,.i a.2]],[]⟩ fun e0=>.ite (decide (e0.ai 0 0<e0.ai 1 0)||e0.ai 0 0==e0.ai 1 0&&decide (e0.ai 0 1<e0.ai 1 1)) (qRc3 p f w x a) (qRc2 p f w))) (qRc2 p f w))))))) (qRc1 p w)) (qRc1 p w)):=by kernel_rfl
theorem pd_t (w:Int) (p:BA) (f:Int) (b:Bal):BR Tryz.prog (Am Tryz.prog rcT 300) 143 (rdT.vals ⟨[[],[.i f],balN b],mPr w p⟩) (rdT.heap ⟨[[],[.i f],balN b],mPr w p⟩) 5 (outV 5 rpR) =

  .ite (!p.9) (qRc1 p w) (.ite p.11 (qRc1 p w) (.ite (decide (p.b.1>0)) (.ite (b.1==p.b.1&&b.2==p.b.2) (.ite (decide (f≥3)) (qRc1 p w) (.must (AX [.i .u8] (AI [.i .u8] (AR p.7)) p.7.length) (.must (decide ((p.7.length:Int)≤1099511627776)) (.ite (anyN (ixP f (AR p.7)) p.7.length) (qRc1 p w) (.must (decide (((p.7.length:Int)+1) * 1≤1099511627776∧(p.7.length:Int)+1≤1099511627776)) (.ite (!(p.7.length:Int)+1==2) (.must (AX [.i .u8] (AI [.i .u8] (AR p.6)) p.6.length) (.must (AX [.i .u8] (AP (.sym (p.7.length:Int)) (AI [.i .u8] (AR p.7)) (Aa 1 [.int .u8 (.sym f)])) ((p.7.length:Int)+1).toNat) (.leaf ⟨[[.b false]],[(qRc4 w p),.lst p.6.length (AR p.6),.lst ((p.7.length:Int)+1).toNat (AH [.i .u8] (AP (.sym (p.7.length:Int)) (AI [.i .u8] (AR p.7)) (Aa 1 [.int .u8 (.sym f)]))),.tok,.tok]⟩))) (.must (AX [.i .u8] (AI [.i .u8] (AR p.6)) p.6.length) (.must (AX [.i .u8] (AP (.sym (p.7.length:Int)) (AI [.i .u8] (AR p.7)) (Aa 1 [.int .u8 (.sym f)])) ((p.7.length:Int)+1).toNat) (.leaf ⟨[[.b true]],[.box [.i w,.i p.want.1,.i p.want.2,.i p.want.3,.i p.value.1,.i p.value.2,.i p.value.3,.i p.best.1,.i p.best.2,.i p.best.3,.i p.b.1,.i p.b.2,.i p.acc.1,.i p.acc.2,.u,.u,.b p.8,.b p.9,.i p.value.1,.i p.value.2,.i p.value.3,.b true,.b true],.lst p.6.length (AR p.6),.lst ((p.7.length:Int)+1).toNat (AH [.i .u8] (AP (.sym (p.7.length :
 Int)) (AI [.i .u8] (AR p.7)) (Aa 1 [.int .u8 (.sym f)]))),.tok,.tok]⟩))))))))) (qRc1 p w)) (qRc1 p w))):=by kernel_rfl
theorem anyN_iff {P:Nat→Bool} : ∀ {n:Nat},anyN P n=true↔∃ i,i<n∧P i=true
  | 0=>⟨fun h=>(by cases h),fun ⟨i,h,_⟩=>by omega⟩
  | n+1=>by
    have ih:=@anyN_iff P n
    simp only [anyN,Bool.or_eq_true]
    constructor
    · rintro (h | h)
      · obtain ⟨i,h1,h2⟩:=ih.1 h
        exact ⟨i,by omega,h2⟩
      · exact ⟨n,by omega,h⟩
    · rintro ⟨i,h1,h2⟩
      rcases Nat.lt_or_ge i n with h | h
      · exact .inl (ih.2 ⟨i,h,h2⟩)
      · have:i=n:=by omega
        exact .inr (this ▸ h2)
theorem contains_any (l:List Int) (v:Int):l.contains v=anyN (ixP v (AR l)) l.length:=by
  rw [Bool.eq_iff_iff,anyN_iff,List.contains_iff_mem]
  constructor
  · intro h
    obtain ⟨i,h1,h2⟩:=List.getElem_of_mem h
    refine ⟨i,h1,?_⟩
    show (v==l.getD i 0)=true
    rw [List.getD,List.getElem?_eq_getElem h1,← h2]
    simp
  · rintro ⟨i,h1,h2⟩
    have h2:(v==l.getD i 0)=true:=h2
    rw [List.getD,List.getElem?_eq_getElem h1] at h2
    have:v=l[i]:=by simpa using h2
    rw [this]
    exact List.getElem_mem h1
theorem hear_no {l:List Int} {b pb:Bal} {f:Int} (h:decide (pb.n>0)=false∨b.eqb pb=false∨decide (f≥3)=true∨anyN (ixP f (AR l)) l.length=true):hearB l b pb f=false:=by
  unfold hearB
  rw [contains_any]
  rcases h with h | h | h | h
  · rw [h]; rfl
  · rw [h]; cases decide (pb.n>0) <;> rfl
  · have h:=of_decide_eq_true h
    rw [decide_eq_false (by omega:¬ f<3)]
    cases decide (pb.n>0) <;> cases b.eqb pb <;> rfl
  · rw [h]; cases decide (pb.n>0) <;> cases b.eqb pb <;> cases decide (f<3) <;> rfl
theorem hear_yes {l:List Int} {b pb:Bal} {f:Int} (h1:decide (pb.n>0)=true) (h2:b.eqb pb=true) (h3:decide (f≥3)=false) (h4:anyN (ixP f (AR l)) l.length=false):hearB l b pb f=true:=by
  unfold hearB
  have h3:=of_decide_eq_false h3
  rw [contains_any,h1,h2,h4,decide_eq_true (by omega:f<3)]
  rfl
theorem len2 {l:List Int} {f:Int} {r:Bool} (h:(!(l.length:Int)+1==2)=r):((l++[f]).length==2) = !r:=by
  rw [← h,Bool.not_not,Bool.eq_iff_iff]
  simp only [List.length_append,List.length_cons,List.length_nil,beq_iff_eq]
  omega
set_option maxHeartbeats 4000000 in
theorem pm_std (w:Int) (p:BA) (f:Int) (b a:Bal) (x:Inc) (h:Bool) (hl:(p.hp.length:Int)≤1000):BI Tryz.prog 108 rpT ⟨[[],[.i f],balN b,balN a,incNm x,[.b h]],mPr w p⟩ rpR (prK w (p.promise f b a x h)):=by
  refine Aj rcTab Ay rfl (AL (pm_t w p f b a x h) ?_)
  have no:(!p.valued&&hearB p.hp b p.b f)=false→p.promise f b a x h=(p,false):=fun E=>by unfold BA.promise; rw [E]
  refine AG (fun h1=>?_) (fun h1=>AG (fun h2=>AG (fun h3=>AG (fun h4=>?_) (fun h4=>AA (AN _ _ _) (AA (decide_eq_true (by omega)) (AG (fun h5=>?_) (fun h5=>AA (decide_eq_true (by omega)) ?_))))) (fun h3=>?_)) (fun h2=>?_))
  · rw [no (by rw [h1]; rfl)]
    exact AA (AN _ _ _) (AA (AN _ _ _) (AE clP))
  · rw [no (by rw [hear_no (.inr (.inr (.inl h4)))]; cases p.valued <;> rfl)]
    exact AA (AN _ _ _) (AA (AN _ _ _) (AE clP))
  · rw [no (by rw [hear_no (.inr (.inr (.inr h5)))]; cases p.valued <;> rfl)]
    exact AA (AN _ _ _) (AA (AN _ _ _) (AE clP))
  · have E : (!p.valued && hearB p.hp b p.b f) = true := by
      have h1:p.valued=false:=h1
      rw [hear_yes h2 h3 h4 h5,h1]; rfl
    have take:∀ r,(!(p.hp.length:Int)+1==2)=r→(h&&(!p.has||p.acc.less a))=true→p.promise f b a x h=(match !r with | false=>({ p with hp:=p.hp++[f],has:=true,acc:=a,best:=x },false) | true=>({ p with hp:=p.hp++[f],has:=true,acc:=a,best:=x,valued:=true,value:=x },true)):=by
      intro r hr hc
      unfold BA.promise
      rw [E]
      dsimp only
      rw [hc]
      dsimp only
      rw [len2 hr]
      cases r <;> rfl
    have keep:∀ r,(!(p.hp.length:Int)+1==2)=r→(h&&(!p.has||p.acc.less a))=false→p.promise f b a x h=(match !r with | false=>({ p with hp:=p.hp++[f] },false) | true=>({ p with hp:=p.hp++[f],valued:=true,value:=match p.has with | true=>p.best | false=>p.want },true)):=by
      intro r hr hc
      unfold BA.promise
      rw [E]
      dsimp only
      rw [hc]
      dsimp only
      rw [len2 hr]
      cases r <;> rfl
    refine AG (fun h6=>AG (fun h7=>AG (fun h8=>?_) (fun h8=>?_)) (fun h7=>AK (AG (fun h9=>AG (fun h8=>?_) (fun h8=>?_)) (fun h9=>AG (fun h8=>?_) (fun h8=>?_))))) (fun h6=>AG (fun h8=>?_) (fun h8=>?_))
    · rw [take _ h8 (by rw [h6,h7]; rfl)]
      exact AA (BH (by omega)) (AA (AN _ _ _) (AE clP))
    · rw [take _ h8 (by rw [h6,h7]; rfl)]
      exact AA (BH (by omega)) (AA (AN _ _ _) (AE clP))
    · have h9:p.acc.less a=true:=h9
      rw [take _ h8 (by rw [h6,h7,h9]; rfl)]
      exact AA (BH (by omega)) (AA (AN _ _ _) (AE clP))
    · have h9:p.acc.less a=true:=h9
      rw [take _ h8 (by rw [h6,h7,h9]; rfl)]
      exact AA (BH (by omega)) (AA (AN _ _ _) (AE clP))
    · have h9:p.acc.less a=false:=h9
      rw [keep _ h8 (by rw [h6,h7,h9]; rfl)]
      exact AA (BH (by omega)) (AA (AN _ _ _) (AE clP))
    · have h9:p.acc.less a=false:=h9
      rw [keep _ h8 (by rw [h6,h7,h9]; rfl)]
      refine AG (fun h10=>?_) (fun h10=>?_)
      · rw [h10]
        exact AA (BH (by omega)) (AA (AN _ _ _) (AE clP))
      · rw [h10] at h7
        cases h7
    · rw [keep _ h8 (by rw [h6]; rfl)]
      exact AA (BH (by omega)) (AA (AN _ _ _) (AE clP))
    · rw [keep _ h8 (by rw [h6]; rfl)]
      refine AG (fun h10=>?_) (fun h10=>?_)
      · rw [h10]
        exact AA (BH (by omega)) (AA (AN _ _ _) (AE clP))
      · rw [h10]
        exact AA (BH (by omega)) (AA (AN _ _ _) (AE clP))
  · rw [no (by rw [hear_no (.inr (.inl h3))]; cases p.valued <;> rfl)]
    exact AA (AN _ _ _) (AA (AN _ _ _) (AE clP))
  · rw [no (by rw [hear_no (.inl h2)]; cases p.valued <;> rfl)]
    exact AA (AN _ _ _) (AA (AN _ _ _) (AE clP))
theorem pd_std (w:Int) (p:BA) (f:Int) (b:Bal) (hl:(p.ha.length:Int)≤1000):BI Tryz.prog 143 rdT ⟨[[],[.i f],balN b],mPr w p⟩ rpR (prK w (p.accepted f b)):=by
  refine Aj rcTab Ay rfl (AL (pd_t w p f b) ?_)
  have no:(p.valued&&(!p.done&&hearB p.ha b p.b f))=false→p.accepted f b=(p,false):=fun E=>by unfold BA.accepted; rw [E]
  refine AG (fun h0=>?_) (fun h0=>AG (fun h1=>?_) (fun h1=>AG (fun h2=>AG (fun h3=>AG (fun h4=>?_) (fun h4=>AA (AN _ _ _) (AA (decide_eq_true (by omega)) (AG (fun h5=>?_) (fun h5=>AA (decide_eq_true (by omega)) ?_))))) (fun h3=>?_)) (fun h2=>?_)))
  · have h0:p.valued=false:=by simpa using h0
    rw [no (by rw [h0]; rfl)]
    exact AA (AN _ _ _) (AA (AN _ _ _) (AE clP))
  · have h1:p.done=true:=h1
    rw [no (by rw [h1]; cases p.valued <;> rfl)]
    exact AA (AN _ _ _) (AA (AN _ _ _) (AE clP))
  · rw [no (by rw [hear_no (.inr (.inr (.inl h4)))]; cases p.valued <;> cases p.done <;> rfl)]
    exact AA (AN _ _ _) (AA (AN _ _ _) (AE clP))
  · rw [no (by rw [hear_no (.inr (.inr (.inr h5)))]; cases p.valued <;> cases p.done <;> rfl)]
    exact AA (AN _ _ _) (AA (AN _ _ _) (AE clP))
  · have E : (p.valued && (!p.done && hearB p.ha b p.b f)) = true := by
      have h0:p.valued=true:=by simpa using h0
      have h1:p.done=false:=h1
      rw [hear_yes h2 h3 h4 h5,h1,h0]; rfl
    have take:∀ r,(!(p.ha.length:Int)+1==2)=r→p.accepted f b=(match !r with | false=>({ p with ha:=p.ha++[f] },false) | true=>({ p with ha:=p.ha++[f],done:=true,ever:=true,decided:=p.value },true)):=by
      intro r hr
      unfold BA.accepted
      rw [E]
      dsimp only
      rw [len2 hr]
      cases r <;> rfl
    refine AG (fun h8=>?_) (fun h8=>?_)
    · rw [take _ h8]
      exact AA (AN _ _ _) (AA (BH (by omega)) (AE clP))
    · rw [take _ h8]
      exact AA (AN _ _ _) (AA (BH (by omega)) (AE clP))
  · rw [no (by rw [hear_no (.inr (.inl h3))]; cases p.valued <;> cases p.done <;> rfl)]
    exact AA (AN _ _ _) (AA (AN _ _ _) (AE clP))
  · rw [no (by rw [hear_no (.inl h2)]; cases p.valued <;> cases p.done <;> rfl)]
    exact AA (AN _ _ _) (AA (AN _ _ _) (AE clP))
theorem pn_std (w:Int) (x:Inc):BI Tryz.prog 105 rnT ⟨[[.i w],incNm x],[]⟩ rnR ⟨[[.u]],mPr w (BA.new x)⟩:=by
  refine Aj rcTab Ay rfl (AL (pn_t w x) (AE ⟨⟨trivial,trivial⟩,?_,⟨rfl,fun i hi=>?_⟩,⟨rfl,fun i hi=>?_⟩,trivial,trivial,trivial⟩))
  · exact clP
  · have hi:(i:Int)<0:=hi
    omega
  · have hi:(i:Int)<0:=hi
    omega
theorem ps_std (w:Int) (p:BA) (o:Bal) (hp:0≤p.b.n) (ho:0≤o.n):BI Tryz.prog 106 rsT ⟨[[],balN o],mPr w p⟩ rsR ⟨[balN (p.start w o).b],mPr w (p.start w o)⟩:=by
  refine Aj rcTab Ay rfl (AL (ps_t w p o) (Ac fun z0 hz=>?_))
  have e0:z0=maxI p.b.n o.n:=by
    rw [hz]
    unfold maxI
    cases decide (o.n>p.b.n) <;> rfl
  have hz0:0≤z0:=by
    rw [hz]
    cases decide (o.n>p.b.n)
    · exact hp
    · exact ho
  have en:(p.start w o).b.n=nextN z0:=by
    unfold BA.start
    rw [e0]
  refine AG (fun h1=>AB ?_) (fun h1=>?_)
  · have e1 : nextN z0 = IntKind.u32.wrap (z0 + 1) := by
      unfold nextN
      rw [h1]
      have h1:=of_decide_eq_true h1
      exact (IntWalk.u32_in (z0+1) (by omega)).symm
    rw [e1] at en
    refine AE ⟨⟨⟨en.symm,rfl,trivial⟩,trivial⟩,⟨rfl,rfl,rfl,rfl,rfl,rfl,rfl,rfl,rfl,rfl,en.symm,rfl,rfl,rfl,trivial,trivial,rfl,rfl,rfl,rfl,rfl,rfl,rfl,trivial⟩,⟨rfl,fun i hi=>?_⟩,⟨rfl,fun i hi=>?_⟩,trivial,trivial,trivial⟩
    · have hi:(i:Int)<0:=hi
      omega
    · have hi:(i:Int)<0:=hi
      omega
  · have e1 : nextN z0 = z0 := by
      unfold nextN
      rw [h1]
    rw [e1] at en
    refine AE ⟨⟨⟨en.symm,rfl,trivial⟩,trivial⟩,⟨rfl,rfl,rfl,rfl,rfl,rfl,rfl,rfl,rfl,rfl,en.symm,rfl,rfl,rfl,trivial,trivial,rfl,rfl,rfl,rfl,rfl,rfl,rfl,trivial⟩,⟨rfl,fun i hi=>?_⟩,⟨rfl,fun i hi=>?_⟩,trivial,trivial,trivial⟩
    · have hi:(i:Int)<0:=hi
      omega
    · have hi:(i:Int)<0:=hi
      omega
def balOf (e:EN) (j:Nat):Bal:=⟨e.ai j 0,e.ai j 1⟩
def incOf (e:EN) (j:Nat):Inc:=⟨e.ai j 0,e.ai j 1,e.ai j 2⟩
def rawPr (e:EN):List ON:=[.box [.i (e.bi 0 0),.i (e.bi 0 1),.i (e.bi 0 2),.i (e.bi 0 3),.i (e.bi 0 4),.i (e.bi 0 5),.i (e.bi 0 6),.i (e.bi 0 7),.i (e.bi 0 8),.i (e.bi 0 9),.i (e.bi 0 10),.i (e.bi 0 11),.i (e.bi 0 12),.i (e.bi 0 13),.u,.u,.b (e.bb 0 16),.b (e.bb 0 17),.i (e.bi 0 18),.i (e.bi 0 19),.i (e.bi 0 20),.b (e.bb 0 21),.b (e.bb 0 22)],.lst (e.ln 1) (e.rw 1),.lst (e.ln 2) (e.rw 2),.tok,.tok]
def psN (e:EN):EN:=⟨[],mPr (e.bi 0 0) ((prOf e).start (e.bi 0 0) (balOf e 1))⟩
def pmN (e:EN):EN:=prK (e.bi 0 0) ((prOf e).promise (e.ai 1 0) (balOf e 2) (balOf e 3) (incOf e 4) (e.ab 5 0))
def pdN (e:EN):EN:=prK (e.bi 0 0) ((prOf e).accepted (e.ai 1 0) (balOf e 2))
def cPn (e:EN):Ah (TS×EN):=.leaf (rnR,⟨[[.u]],mPr (e.ai 0 0) (BA.new (incOf e 1))⟩)
def cPs (e:EN):Ah (TS×EN):=.must (decide (0≤e.bi 0 10∧0≤e.ai 1 0)) (.defE (psN e) fun r=>.leaf (rsR,⟨[[.i (r.bi 0 10),.i (r.bi 0 11)]],rawPr r⟩))
def cPm (e:EN):Ah (TS×EN):=.must (decide ((e.ln 1:Int)≤1000)) (.defE (pmN e) fun r=>.leaf (rpR,⟨[[.b (r.ab 0 0)]],rawPr r⟩))
def cPd (e:EN):Ah (TS×EN):=.must (decide ((e.ln 2:Int)≤1000)) (.defE (pdN e) fun r=>.leaf (rpR,⟨[[.b (r.ab 0 0)]],rawPr r⟩))
theorem prePr (e:EN):eqvH prP e.o (mPr (e.bi 0 0) (prOf e)):=by
  refine ⟨?_,⟨(As _ _).symm,fun i hi=>rowI_eqv ?_⟩,⟨(As _ _).symm,fun i hi=>rowI_eqv ?_⟩,trivial,trivial,trivial⟩
  · exact clP
  · have hi:(i:Int)<((Ax (e.ln 1) (e.rw 1)).length:Int):=hi
    rw [As] at hi
    exact_mod_cast hi
  · have hi:(i:Int)<((Ax (e.ln 2) (e.rw 2)).length:Int):=hi
    rw [As] at hi
    exact_mod_cast hi
theorem cPn_ok:Ak Tryz.prog 105 (AW rnT cPn):=BN fun e r h=>by
  cases h
  refine BI.pre (x':=⟨[[.i (e.ai 0 0)],incNm (incOf e 1)],[]⟩) ?_ (pn_std _ _)
  (repeat' (first | exact trivial | exact rfl | exact TS.eqv_refl _ _ | exact AY _ _ | exact AQ | exact fun _ _=>AJ _ _ | exact fun i _=>AF rfl _ i | apply And.intro))
theorem cPs_ok:Ak Tryz.prog 106 (AW rsT cPs):=BN fun e r h=>by
  obtain ⟨hm,h⟩:=Ar h
  cases h
  have hm:=of_decide_eq_true hm
  refine BI.pre (x':=⟨[[],balN (balOf e 1)],mPr (e.bi 0 0) (prOf e)⟩) ⟨?_,prePr e⟩ (BI.post (t':=rsR) (y:=⟨[balN ((prOf e).start (e.bi 0 0) (balOf e 1)).b],mPr (e.bi 0 0) ((prOf e).start (e.bi 0 0) (balOf e 1))⟩) clP <| ps_std _ _ _ hm.1 hm.2)
  (repeat' (first | exact trivial | exact rfl | exact TS.eqv_refl _ _ | exact AY _ _ | exact AQ | exact fun _ _=>AJ _ _ | exact fun i _=>AF rfl _ i | apply And.intro))
theorem cPm_ok:Ak Tryz.prog 108 (AW rpT cPm):=BN fun e r h=>by
  obtain ⟨hm,h⟩:=Ar h
  cases h
  have hm:=of_decide_eq_true hm
  refine BI.pre (x':=⟨[[],[.i (e.ai 1 0)],balN (balOf e 2),balN (balOf e 3),incNm (incOf e 4),[.b (e.ab 5 0)]],mPr (e.bi 0 0) (prOf e)⟩) ⟨?_,prePr e⟩ (BI.post (y:=prK _ _) clP <| pm_std _ _ _ _ _ _ _ (by show ((Ax (e.ln 1) (e.rw 1)).length:Int)≤1000; rw [As]; exact hm))
  (repeat' (first | exact trivial | exact rfl | exact TS.eqv_refl _ _ | exact AY _ _ | exact AQ | exact fun _ _=>AJ _ _ | exact fun i _=>AF rfl _ i | apply And.intro))
theorem cPd_ok:Ak Tryz.prog 143 (AW rdT cPd):=BN fun e r h=>by
  obtain ⟨hm,h⟩:=Ar h
  cases h
  have hm:=of_decide_eq_true hm
  refine BI.pre (x':=⟨[[],[.i (e.ai 1 0)],balN (balOf e 2)],mPr (e.bi 0 0) (prOf e)⟩) ⟨?_,prePr e⟩ (BI.post (y:=prK _ _) clP <| pd_std _ _ _ _ (by show ((Ax (e.ln 2) (e.rw 2)).length:Int)≤1000; rw [As]; exact hm))
  (repeat' (first | exact trivial | exact rfl | exact TS.eqv_refl _ _ | exact AY _ _ | exact AQ | exact fun _ _=>AJ _ _ | exact fun i _=>AF rfl _ i | apply And.intro))
end Go.Proofs.YtddmgdclmkgpeaaGreat
set_option linter.unusedSimpArgs false
set_option linter.unusedVariables false
namespace Go.Proofs.YtddmgdclmkgpeaaGreat
open Go.Eng Go.RowKit Go.ChangeShapes Go.WideShapes
set_option maxRecDepth 100000
noncomputable def rdSm:List (FuncId×Summ):=[(24,AW laT cLa),(109,AW oT1 cOth),(48,AW lsT cLs),(107,AW ppT cPp),(106,AW rsT cPs),(108,AW rpT cPm)]
noncomputable def rdTb:Tab:=smTab (tabOf rdSm)
def stT1:TS:=⟨[],[.one (.ptr 0 0)],mp1,12⟩
def stR1:TS:=⟨[],[.one (.sl 19)],[(0,.box [.i .u8,.ptr 1 0,.ptr 3 0,.sl 13,.ptr 7 0,.i .i64,.i .u32,.i .u8,.ptr 6 0]),(1,.ob 1 Af 12),(12,.tok),(3,.box acB),(13,.lst none BB (some 14)),(14,.tok),(6,.box rpB),(7,.box [.i .u8,.i .u8,.i .u8,.i .i64,.i .u8,.i .u8,.i .i64,.i .u8,.i .u8,.i .i64,.i .u32,.i .u8,.i .u32,.i .u8,.sl 15,.sl 16,.b,.b,.i .u8,.i .u8,.i .i64,.b,.b]),(15,.lst none [.i .u8] (some 17)),(16,.lst none [.i .u8] (some 18)),(17,.tok),(18,.tok),(19,.lst (some 2) msgR (some 20)),(20,.tok)],21⟩
theorem rdSm_ok:AllOk Tryz.prog rdSm:=⟨cLa_ok,cOth_ok,cLs_ok,cPp_ok,cPs_ok,cPm_ok,trivial⟩
theorem rdTab:TabAll Tryz.prog rdTb:=tab_ok rdSm_ok
noncomputable abbrev qRd1 {R:Type} (e:EN) (k:Int→Int→Int→Int→Int→Int→Int→Int→Int→Int→Int→Int→Int→Int→Int→Int→Bool→Bool→Int→Int→Int→Bool→Bool→Int→Int→Ah R):Ah R:=.defI (e.bi 0 10) fun a0=>.defI (e.bi 0 11) fun a1=>.defI (e.bi 0 0) fun a2=>.defI (e.bi 0 1) fun a3=>.defI (e.bi 0 2) fun a4=>.defI (e.bi 0 3) fun a5=>.defI (e.bi 0 4) fun a6=>.defI (e.bi 0 5) fun a7=>.defI (e.bi 0 6) fun a8=>.defI (e.bi 0 7) fun a9=>.defI (e.bi 0 8) fun a10=>.defI (e.bi 0 9) fun a11=>.defI (e.bi 0 10) fun a12=>.defI (e.bi 0 11) fun a13=>.defI (e.bi 0 12) fun a14=>.defI (e.bi 0 13) fun a15=>.defB (e.bb 0 16) fun a16=>.defB (e.bb 0 17) fun a17=>.defI (e.bi 0 18) fun a18=>.defI (e.bi 0 19) fun a19=>.defI (e.bi 0 20) fun a20=>.defB (e.bb 0 21) fun a21=>.defB (e.bb 0 22) fun a22=>.defI ((e.ln 1):Int) fun a23=>.defI ((e.ln 2):Int) fun a24=>k a0 a1 a2 a3 a4 a5 a6 a7 a8 a9 a10 a11 a12 a13 a14 a15 a16 a17 a18 a19 a20 a21 a22 a23 a24
noncomputable abbrev qRd2 {R:Type} (e:EN) (k:Int→Int→Int→Int→Int→Ah R):Ah R:=.defI (e.bi 0 2) fun a0=>.defI (e.bi 0 3) fun a1=>.defI (e.bi 0 4) fun a2=>.defI (e.bi 0 5) fun a3=>.defI (e.bi 0 6) fun a4=>k a0 a1 a2 a3 a4
noncomputable abbrev qRd3 {R:Type} (e:EN) (k:Int→Int→Int→Int→Int→Int→Int→Ah R):Ah R:=.defI (e.ai 1 0) fun a0=>.defI (e.ai 1 1) fun a1=>.defI (e.bi 0 2) fun a2=>.defI (e.bi 0 3) fun a3=>.defI (e.bi 0 4) fun a4=>.defI (e.bi 0 5) fun a5=>.defI (e.bi 0 6) fun a6=>k a0 a1 a2 a3 a4 a5 a6
noncomputable abbrev qRd4 {R:Type} (e:EN) (k:Int→Int→Int→Int→Int→Int→Int→Int→Int→Int→Int→Int→Int→Int→Bool→Bool→Int→Int→Int→Bool→Bool→Int→Int→Ah R):Ah R:=.defI (e.bi 0 0) fun a0=>.defI (e.bi 0 1) fun a1=>.defI (e.bi 0 2) fun a2=>.defI (e.bi 0 3) fun a3=>.defI (e.bi 0 4) fun a4=>.defI (e.bi 0 5) fun a5=>.defI (e.bi 0 6) fun a6=>.defI (e.bi 0 7) fun a7=>.defI (e.bi 0 8) fun a8=>.defI (e.bi 0 9) fun a9=>.defI (e.bi 0 10) fun a10=>.defI (e.bi 0 11) fun a11=>.defI (e.bi 0 12) fun a12=>.defI (e.bi 0 13) fun a13=>.defB (e.bb 0 16) fun a14=>.defB (e.bb 0 17) fun a15=>.defI (e.bi 0 18) fun a16=>.defI (e.bi 0 19) fun a17=>.defI (e.bi 0 20) fun a18=>.defB (e.bb 0 21) fun a19=>.defB (e.bb 0 22) fun a20=>.defI ((e.ln 1):Int) fun a21=>.defI ((e.ln 2):Int) fun a22=>k a0 a1 a2 a3 a4 a5 a6 a7 a8 a9 a10 a11 a12 a13 a14 a15 a16 a17 a18 a19 a20 a21 a22
noncomputable abbrev qRd5 {R:Type} (e:EN) (k:Int→Int→Int→Int→Int→Int→Int→Int→Int→Int→Int→Int→Bool→Bool→Bool→Bool→Bool→Bool→Bool→Bool→Bool→Bool→Bool→Bool→Bool→Bool→Bool→Bool→Bool→Bool→Bool→Bool→Bool→Bool→Bool→Bool→Bool→Int→Int→Int→Int→Int→Int→Int→Int→Int→Int→Int→Int→Int→Int→Bool→Bool→Int→Int→Int→Bool→Bool→Int→Int→Ah R):Ah R:=.defI (e.bi 0 0) fun a0=>.defI (e.bi 0 5) fun a1=>.defI (e.bi 0 6) fun a2=>.defI (e.bi 0 7) fun a3=>.defI (e.bi 3 0) fun a4=>.defI (e.bi 3 1) fun a5=>.defI (e.bi 3 2) fun a6=>.defI (e.bi 3 3) fun a7=>.defI (e.bi 3 4) fun a8=>.defI (e.bi 3 5) fun a9=>.defI (e.bi 3 6) fun a10=>.defI ((e.ln 4):Int) fun a11=>.defB (e.bb 6 0) fun a12=>.defB (e.bb 6 1) fun a13=>.defB (e.bb 6 2) fun a14=>.defB (e.bb 6 3) fun a15=>.defB (e.bb 6 4) fun a16=>.defB (e.bb 6 5) fun a17=>.defB (e.bb 6 6) fun a18=>.defB (e.bb 6 7) fun a19=>.defB (e.bb 6 8) fun a20=>.defB (e.bb 6 9) fun a21=>.defB (e.bb 6 10) fun a22=>.defB (e.bb 6 11) fun a23=>.defB (e.bb 6 12) fun a24=>.defB (e.bb 6 13) fun a25=>.defB (e.bb 6 14) fun a26=>.defB (e.bb 6 15) fun a27=>.defB (e.bb 6 16) fun a28=>.defB (e.bb 6 17) fun a29=>.defB (e.bb 6 18) fun a30=>.defB (e.bb 6 19) fun a31=>.defB (e.bb 6 20) fun a32=>.defB (e.bb 6 21) fun a33=>.defB (e.bb 6 22) fun a34=>.defB (e.bb 6 23) fun a35=>.defB (e.bb 6 24) fun
 a36=>.defI (e.bi 7 0) fun a37=>.defI (e.bi 7 1) fun a38=>.defI (e.bi 7 2) fun a39=>.defI (e.bi 7 3) fun a40=>.defI (e.bi 7 4) fun a41=>.defI (e.bi 7 5) fun a42=>.defI (e.bi 7 6) fun a43=>.defI (e.bi 7 7) fun a44=>.defI (e.bi 7 8) fun a45=>.defI (e.bi 7 9) fun a46=>.defI (e.bi 7 10) fun a47=>.defI (e.bi 7 11) fun a48=>.defI (e.bi 7 12) fun a49=>.defI (e.bi 7 13) fun a50=>.defB (e.bb 7 16) fun a51=>.defB (e.bb 7 17) fun a52=>.defI (e.bi 7 18) fun a53=>.defI (e.bi 7 19) fun a54=>.defI (e.bi 7 20) fun a55=>.defB (e.bb 7 21) fun a56=>.defB (e.bb 7 22) fun a57=>.defI ((e.ln 8):Int) fun a58=>.defI ((e.ln 9):Int) fun a59=>k a0 a1 a2 a3 a4 a5 a6 a7 a8 a9 a10 a11 a12 a13 a14 a15 a16 a17 a18 a19 a20 a21 a22 a23 a24 a25 a26 a27 a28 a29 a30 a31 a32 a33 a34 a35 a36 a37 a38 a39 a40 a41 a42 a43 a44 a45 a46 a47 a48 a49 a50 a51 a52 a53 a54 a55 a56 a57 a58 a59
noncomputable abbrev qRd7 (v0:Al) (v1:BA):ON:=.box [.i v0.1,.i v1.want.1,.i v1.want.2,.i v1.want.3,.i v1.value.1,.i v1.value.2,.i v1.value.3,.i v1.best.1,.i v1.best.2,.i v1.best.3,.i v1.b.1,.i v1.b.2,.i v1.acc.1,.i v1.acc.2,.u,.u,.b v1.8,.b v1.9,.i v1.decided.1,.i v1.decided.2,.i v1.decided.3,.b v1.11,.b v1.12]
noncomputable abbrev qRd6 (v0:EN) (v1:Al) (v2:Dat):Ah (EN):=.must (decide (0≤v0.bi 0 10∧0≤v0.ai 1 0)) (.defE (psN v0) fun e132=>qRd1 e132 fun z133 z134 z135 z136 z137 z138 z139 z140 z141 z142 z143 z144 z145 z146 z147 z148 z149 z150 z151 z152 z153 z154 z155 z156 z157=>.defE ⟨[[.u],[.i z133,.i z134]],[.box [.i v1.prom.1,.i v1.prom.2,.i v1.acc.1,.i v1.acc.2,.i v1.ainc.1,.i v1.ainc.2,.i v1.ainc.3]]⟩ fun e158=>.must (prepB ⟨e158.ai 1 0,e158.ai 1 1⟩ ⟨e158.bi 0 0,e158.bi 0 1⟩) (qRd2 e158 fun z159 z160 z161 z162 z163=>.defI 0 fun z164=>qRd3 e158 fun z165 z166 z167 z168 z169 z170 z171=>.must (z164==0) (.must (AX [.i .u8] ((AI [.i .u8] (e132.rw 1))) z156.toNat) (.must (AX [.i .u8] ((AI [.i .u8] (e132.rw 2))) z157.toNat) (.defE ⟨[[.u],[.i v1.1],[.i z133,.i z134],[.i z159,.i z160],[.i z161,.i z162,.i z163],[.b !(e158.bi 0 2==0&&e158.bi 0 3==0)]],[.box [.i z135,.i z136,.i z137,.i z138,.i z139,.i z140,.i z141,.i z142,.i z143,.i z144,.i z145,.i z146,.i z147,.i z148,.u,.u,.b z149,.b z150,.i z151,.i z152,.i z153,.b z154,.b z155],.lst z156.toNat (AH [.i .u8] (AI [.i .u8] (e132.rw 1))),.lst z157.toNat (AH [.i .u8] (AI [.i .u8] (e132.rw 2))),.tok,.tok]⟩ fun e172=>.must (decide (((e172.ln 1):Int)≤1000)) (.defE (pmN e172) fun e173=>qRd4 e173 fun z174 z175 z176 z177 z178 z179 z180 z181 z182 z183 z184 z185 z186 z187 z188 z189 z190 z191 z192 z193 z194 z195 z196=>.must (BE
 Af Af) (.defE ⟨[[.u]],[.own (hdW v2 v1.2),.tok]⟩ fun e197=>.defI (BK (e197.dt 0).2) fun z198=>.defI (IntKind.u32.wrap (z198+1)) fun z199=>.must (BE Af Af) (.must (AX BB (AI BB (rowJ v1.wishes)) v1.6.length) (.must (AX [.i .u8] ((AI [.i .u8] (e173.rw 1))) z195.toNat) (.must (AX [.i .u8] ((AI [.i .u8] (e173.rw 2))) z196.toNat) (.defE ⟨[[.u],[.i 1,.i 0,.i 0,.i z199,.i z133,.i z134,.i 0,.i 0,.b false,.i 0,.i 0,.i 0,.u,.u,.u,.u,.u,.u,.u,.u,.u,.u,.u,.u,.u,.u,.u,.u,.u,.u,.u,.u,.u,.u,.u,.u,.u,.u,.u,.u,.u,.u,.u,.u,.u,.u,.u,.u,.u,.u,.u,.u,.u,.u,.u,.u,.u,.u,.u,.u,.u,.u,.u,.u,.u,.u,.u,.u,.u,.u,.u,.u,.u,.u,.u,.u,.u,.u,.u,.u,.u,.u,.u,.u,.u,.u,.u,.u,.u,.u,.u,.u,.u,.u,.u,.u,.u,.u,.u,.u,.u,.u,.u,.u,.u,.u,.u,.u,.u,.u,.u,.u,.u,.u,.u,.u,.u,.u,.u,.u,.u,.u,.i 0,.u,.u,.u,.u,.u,.u,.u,.u]],[.box [.i v1.1,.u,.u,.u,.u,.i 0,.i v1.over.1,.i v1.over.2,.u],.own (e197.dt 0),.tok,.box [.i z165,.i z166,.i z167,.i z168,.i z169,.i z170,.i z171],.lst v1.6.length (AH BB (AI BB (rowJ v1.wishes))),.tok,.box [.b (v1.10 0),.b (v1.10 1),.b (v1.10 2),.b (v1.10 3),.b (v1.10 4),.b (v1.10 5),.b (v1.10 6),.b (v1.10 7),.b (v1.10 8),.b (v1.10 9),.b (v1.10 10),.b (v1.10 11),.b (v1.10 12),.b (v1.10 13),.b (v1.10 14),.b (v1.10 15),.b (v1.10 16),.b (v1.10 17),.b (v1.10 18),.b (v1.10 19),.b (v1.10
 20),.b (v1.10 21),.b (v1.10 22),.b (v1.10 23),.b (v1.10 24)],.box [.i z174,.i z175,.i z176,.i z177,.i z178,.i z179,.i z180,.i z181,.i z182,.i z183,.i z184,.i z185,.i z186,.i z187,.u,.u,.b z188,.b z189,.i z190,.i z191,.i z192,.b z193,.b z194],.lst z195.toNat (AH [.i .u8] (AI [.i .u8] (e173.rw 1))),.lst z196.toNat (AH [.i .u8] (AI [.i .u8] (e173.rw 2))),.tok,.tok]⟩ fun e200=>.must (ok1 e200) (qRd5 e200 fun z201 z202 z203 z204 z205 z206 z207 z208 z209 z210 z211 z212 z213 z214 z215 z216 z217 z218 z219 z220 z221 z222 z223 z224 z225 z226 z227 z228 z229 z230 z231 z232 z233 z234 z235 z236 z237 z238 z239 z240 z241 z242 z243 z244 z245 z246 z247 z248 z249 z250 z251 z252 z253 z254 z255 z256 z257 z258 z259 z260=>.must (BE Af Af) (.must (AX BB ((AI BB (e200.rw 4))) z212.toNat) (.must (AX [.i .u8] ((AI [.i .u8] (e200.rw 8))) z259.toNat) (.must (AX [.i .u8] ((AI [.i .u8] (e200.rw 9))) z260.toNat) (.leaf ⟨[[.u]],[.box [.i z201,.u,.u,.u,.u,.i z202,.i z203,.i z204,.u],.own (e200.dt 1),.tok,.box [.i z205,.i z206,.i z207,.i z208,.i z209,.i z210,.i z211],.lst z212.toNat (AH BB (AI BB (e200.rw 4))),.tok,.box [.b z213,.b z214,.b z215,.b z216,.b z217,.b z218,.b z219,.b z220,.b z221,.b z222,.b z223,.b z224,.b z225,.b z226,.b z227,.b z228,.b z229,.b z230,.b z231,.b z232,.b z233,.b z234,.b z235,.b z236,.b z237],.box [.i z238,.i z239,.i z240,.i z241,.i z242,.i
 z243,.i z244,.i z245,.i z246,.i z247,.i z248,.i z249,.i z250,.i z251,.u,.u,.b z252,.b z253,.i z254,.i z255,.i z256,.b z257,.b z258],.lst z259.toNat (AH [.i .u8] (AI [.i .u8] (e200.rw 8))),.lst z260.toNat (AH [.i .u8] (AI [.i .u8] (e200.rw 9))),.tok,.tok,.lst 2 (AH msgR fun (i:Nat)=>(mAV [.int .u8 (.sym (((mon1 e200).others (BU e200 1)).getD i mZero).1),.int .u8 (.sym (((mon1 e200).others (BU e200 1)).getD i mZero).2),.int .u8 (.sym (((mon1 e200).others (BU e200 1)).getD i mZero).3),.int .u32 (.sym (((mon1 e200).others (BU e200 1)).getD i mZero).4),.int .u32 (.sym (((mon1 e200).others (BU e200 1)).getD i mZero).b.1),.int .u8 (.sym (((mon1 e200).others (BU e200 1)).getD i mZero).b.2),.int .u32 (.sym (((mon1 e200).others (BU e200 1)).getD i mZero).acc.1),.int .u8 (.sym (((mon1 e200).others (BU e200 1)).getD i mZero).acc.2),.bool (.sym (((mon1 e200).others (BU e200 1)).getD i mZero).7),.int .u8 (.sym (((mon1 e200).others (BU e200 1)).getD i mZero).inc.1),.int .u8 (.sym (((mon1 e200).others (BU e200 1)).getD i mZero).inc.2),.int .i64 (.sym (((mon1 e200).others (BU e200 1)).getD i mZero).inc.3)] (.int .u32 (.sym (((mon1 e200).others (BU e200 1)).getD i mZero).9)))),.tok]⟩))))))))))))))))
theorem st_y (hd:Dat) (s:Al) (p:BA):(BR Tryz.prog (Am Tryz.prog rdTb 300) 58 (stT1.vals ⟨[[]],mn1 hd s p⟩) (stT1.heap ⟨[[]],mn1 hd s p⟩) 12 (outV 12 stR1)).cut [none,some true,some true] =

  .defE ⟨[[.i s.prom.1,.i s.prom.2],[.i s.over.1,.i s.over.2]],[]⟩ fun e0=>.ite (decide (e0.ai 0 0<e0.ai 1 0)||e0.ai 0 0==e0.ai 1 0&&decide (e0.ai 0 1<e0.ai 1 1)) (.must (AX [.i .u8] (AI [.i .u8] (AR p.6)) p.6.length) (.must (AX [.i .u8] (AI [.i .u8] (AR p.7)) p.7.length) (.defE ⟨[[.u],[.i s.over.1,.i s.over.2]],[(qRd7 s p),.lst p.6.length (AR p.6),.lst p.7.length (AR p.7),.tok,.tok]⟩ fun e1=>qRd6 e1 s hd))) (.must (AX [.i .u8] (AI [.i .u8] (AR p.6)) p.6.length) (.must (AX [.i .u8] (AI [.i .u8] (AR p.7)) p.7.length) (.defE ⟨[[.u],[.i s.prom.1,.i s.prom.2]],[(qRd7 s p),.lst p.6.length (AR p.6),.lst p.7.length (AR p.7),.tok,.tok]⟩ fun e131=>qRd6 e131 s hd))):=by kernel_rfl
theorem rowsMsg (L:List MMsg) (i:Nat):eqvL msgR (AH msgR (fun (i:Nat)=>(mAV [.int .u8 (.sym (L.getD i mZero).kind),.int .u8 (.sym (L.getD i mZero).frm),.int .u8 (.sym (L.getD i mZero).to),.int .u32 (.sym (L.getD i mZero).epoch),.int .u32 (.sym (L.getD i mZero).b.n),.int .u8 (.sym (L.getD i mZero).b.who),.int .u32 (.sym (L.getD i mZero).acc.n),.int .u8 (.sym (L.getD i mZero).acc.who),.bool (.sym (L.getD i mZero).has),.int .u8 (.sym (L.getD i mZero).inc.kind),.int .u8 (.sym (L.getD i mZero).inc.osd),.int .i64 (.sym (L.getD i mZero).inc.n)] (.int .u32 (.sym (L.getD i mZero).n)))) i) (rowM L i):=by repeat' (first | exact trivial | exact rfl | apply And.intro)
theorem idOk_ok {n:Int} (h:0≤n∧n<3):(idOk n&&decide (n=n))=true:=by
  unfold idOk
  rw [decide_eq_true h,decide_eq_true rfl]
  rfl
theorem ballE_ne (b:Bal):(!(ballE b==0))=true:=by
  unfold ballE
  cases b.ok <;> rfl
def stMsg (s:Al) (q:BA):MMsg:={ MMsg.mk0 1 s.slot with b:=q.b }
theorem slot_w {s:Al} (h:s.incs.length<1000):IntKind.u32.wrap ((s.incs.length:Int)+1+1)=s.slot:=by
  unfold Al.slot Al.last
  exact IntWalk.u32_in _ (by omega)
def overB (s:Al):Bal:=match s.prom.less s.over with
  | true=>s.over
  | false=>s.prom
set_option maxHeartbeats 4000000 in
theorem st_yes (hd : Dat) (s : Al) (p : BA) (hs : 0 ≤ s.id ∧ s.id < 3) (hp : 0 ≤ p.b.n) (ho : 0 ≤ s.over.n) (ho2 : 0 ≤ s.prom.n) (hi : s.incs.length < 1000) (hok : prepB (p.start s.id (overB s)).b s.prom = true) :
    BI Tryz.prog 58 stT1 ⟨[[]],mn1 hd s p⟩ stR1 ⟨[[.u]],mn1 hd { s with ticks:=0,prom:=(p.start s.id (overB s)).b } ((p.start s.id (overB s)).promise s.id (p.start s.id (overB s)).b s.acc s.ainc s.hasAcc).1++[.lst 2 (rowM (s.others (stMsg s (p.start s.id (overB s))))),.tok]⟩:=by
  have hw:=slot_w hi
  refine Aj rdTab Ay rfl (BG [none,some true,some true] (AL (st_y hd s p) (AK (AG (fun hL=>?_) (fun hL=>?_)))))
  · have e : overB s = s.over := by
      have hL:s.prom.less s.over=true:=hL
      unfold overB
      rw [hL]
    rw [e] at hok ⊢
    refine AA (AN _ _ _) (AA (AN _ _ _) (AK (AA (decide_eq_true ⟨hp,ho⟩) (An fun e2 h2=>?_))))
    have f2:e2=⟨[],mPr s.id (p.start s.id s.over)⟩:=by rw [h2]; rfl
    clear h2
    subst f2
    repeat' with_reducible (first | refine AB ?_ | refine AM ?_)
    refine AK (AA hok ?_)
    repeat' with_reducible (first | refine AB ?_ | refine AM ?_)
    refine AA rfl ?_
    refine AA (AN _ _ _) (AA (AN _ _ _) (An fun e42 h42=>?_))
    have f42:(prOf e42).promise (e42.ai 1 0) (balOf e42 2) (balOf e42 3) (incOf e42 4) (e42.ab 5 0)=(p.start s.id s.over).promise s.id (p.start s.id s.over).b s.acc s.ainc s.hasAcc:=by rw [h42]; rfl
    have g42:e42.bi 0 0=s.id:=by rw [h42]; rfl
    refine AA (by rw [h42]; rfl) (An fun e43 h43=>?_)
    have f43:e43=prK s.id ((p.start s.id s.over).promise s.id (p.start s.id s.over).b s.acc s.ainc s.hasAcc):=by rw [← f42,← g42]; exact h43
    clear h43 f42 g42 h42
    generalize hr:(p.start s.id s.over).promise s.id (p.start s.id s.over).b s.acc s.ainc s.hasAcc=r at f43 ⊢
    subst f43
    repeat' with_reducible (first | refine AB ?_ | refine AM ?_)
    refine AA (AS _) (AK ?_)
    repeat' with_reducible (first | refine AB ?_ | refine AM ?_)
    refine AA (AS _) (AA (AZ rfl _ _) (AA (AN _ _ _) (AA (AN _ _ _) (An fun e70 h70=>AA (by rw [h70]; exact idOk_ok hs) ?_))))
    have hO:(mon1 e70).others (BU e70 1)=s.others (stMsg s (p.start s.id s.over)):=by rw [h70]; unfold stMsg; rw [← hw]; rfl
    subst h70
    repeat' with_reducible (first | refine AB ?_ | refine AM ?_)
    refine AA (AS _) (AA (AZ rfl _ _) (AA (AN _ _ _) (AA (AN _ _ _) (AE ?_))))
    refine ⟨⟨trivial,trivial⟩,?_,rfl,trivial,?_,⟨rfl,fun i _=>eqvL_trans (AF rfl _ i) (AF rfl _ i)⟩,trivial,?_,?_,⟨rfl,fun i _=>eqvL_trans (AF rfl _ i) (AF rfl _ i)⟩,⟨rfl,fun i _=>eqvL_trans (AF rfl _ i) (AF rfl _ i)⟩,trivial,trivial,⟨trivial,fun i _=>?_⟩,trivial,trivial⟩
    · exact clP
    · exact clP
    · exact clP
    · exact clP
    · rw [← hO]
      exact rowsMsg _ i
  · have e : overB s = s.prom := by
      have hL:s.prom.less s.over=false:=hL
      unfold overB
      rw [hL]
    rw [e] at hok ⊢
    refine AA (AN _ _ _) (AA (AN _ _ _) (AK (AA (decide_eq_true ⟨hp,ho2⟩) (An fun e2 h2=>?_))))
    have f2:e2=⟨[],mPr s.id (p.start s.id s.prom)⟩:=by rw [h2]; rfl
    clear h2
    subst f2
    repeat' with_reducible (first | refine AB ?_ | refine AM ?_)
    refine AK (AA hok ?_)
    repeat' with_reducible (first | refine AB ?_ | refine AM ?_)
    refine AA rfl ?_
    refine AA (AN _ _ _) (AA (AN _ _ _) (An fun e42 h42=>?_))
    have f42:(prOf e42).promise (e42.ai 1 0) (balOf e42 2) (balOf e42 3) (incOf e42 4) (e42.ab 5 0)=(p.start s.id s.prom).promise s.id (p.start s.id s.prom).b s.acc s.ainc s.hasAcc:=by rw [h42]; rfl
    have g42:e42.bi 0 0=s.id:=by rw [h42]; rfl
    refine AA (by rw [h42]; rfl) (An fun e43 h43=>?_)
    have f43:e43=prK s.id ((p.start s.id s.prom).promise s.id (p.start s.id s.prom).b s.acc s.ainc s.hasAcc):=by rw [← f42,← g42]; exact h43
    clear h43 f42 g42 h42
    generalize hr:(p.start s.id s.prom).promise s.id (p.start s.id s.prom).b s.acc s.ainc s.hasAcc=r at f43 ⊢
    subst f43
    repeat' with_reducible (first | refine AB ?_ | refine AM ?_)
    refine AA (AS _) (AK ?_)
    repeat' with_reducible (first | refine AB ?_ | refine AM ?_)
    refine AA (AS _) (AA (AZ rfl _ _) (AA (AN _ _ _) (AA (AN _ _ _) (An fun e70 h70=>AA (by rw [h70]; exact idOk_ok hs) ?_))))
    have hO:(mon1 e70).others (BU e70 1)=s.others (stMsg s (p.start s.id s.prom)):=by rw [h70]; unfold stMsg; rw [← hw]; rfl
    subst h70
    repeat' with_reducible (first | refine AB ?_ | refine AM ?_)
    refine AA (AS _) (AA (AZ rfl _ _) (AA (AN _ _ _) (AA (AN _ _ _) (AE ?_))))
    refine ⟨⟨trivial,trivial⟩,?_,rfl,trivial,?_,⟨rfl,fun i _=>eqvL_trans (AF rfl _ i) (AF rfl _ i)⟩,trivial,?_,?_,⟨rfl,fun i _=>eqvL_trans (AF rfl _ i) (AF rfl _ i)⟩,⟨rfl,fun i _=>eqvL_trans (AF rfl _ i) (AF rfl _ i)⟩,trivial,trivial,⟨trivial,fun i _=>?_⟩,trivial,trivial⟩
    · exact clP
    · exact clP
    · exact clP
    · exact clP
    · rw [← hO]
      exact rowsMsg _ i
end Go.Proofs.YtddmgdclmkgpeaaGreat
set_option linter.unusedSimpArgs false
set_option linter.unusedVariables false
namespace Go.Proofs.YtddmgdclmkgpeaaGreat
open Go.Eng Go.RowKit Go.ChangeShapes Go.WideShapes
set_option maxRecDepth 100000
noncomputable abbrev qRe1 {R:Type} (e:EN) (k:Int→Int→Int→Int→Int→Int→Int→Int→Int→Int→Int→Int→Int→Int→Int→Int→Bool→Bool→Int→Int→Int→Bool→Bool→Int→Int→Ah R):Ah R:=.defI (e.bi 0 10) fun a0=>.defI (e.bi 0 11) fun a1=>.defI (e.bi 0 0) fun a2=>.defI (e.bi 0 1) fun a3=>.defI (e.bi 0 2) fun a4=>.defI (e.bi 0 3) fun a5=>.defI (e.bi 0 4) fun a6=>.defI (e.bi 0 5) fun a7=>.defI (e.bi 0 6) fun a8=>.defI (e.bi 0 7) fun a9=>.defI (e.bi 0 8) fun a10=>.defI (e.bi 0 9) fun a11=>.defI (e.bi 0 10) fun a12=>.defI (e.bi 0 11) fun a13=>.defI (e.bi 0 12) fun a14=>.defI (e.bi 0 13) fun a15=>.defB (e.bb 0 16) fun a16=>.defB (e.bb 0 17) fun a17=>.defI (e.bi 0 18) fun a18=>.defI (e.bi 0 19) fun a19=>.defI (e.bi 0 20) fun a20=>.defB (e.bb 0 21) fun a21=>.defB (e.bb 0 22) fun a22=>.defI ((e.ln 1):Int) fun a23=>.defI ((e.ln 2):Int) fun a24=>k a0 a1 a2 a3 a4 a5 a6 a7 a8 a9 a10 a11 a12 a13 a14 a15 a16 a17 a18 a19 a20 a21 a22 a23 a24
noncomputable abbrev qRe2 {R:Type} (e:EN) (k:Int→Int→Int→Int→Int→Int→Int→Ah R):Ah R:=.defI (e.bi 0 0) fun a0=>.defI (e.bi 0 1) fun a1=>.defI (e.bi 0 2) fun a2=>.defI (e.bi 0 3) fun a3=>.defI (e.bi 0 4) fun a4=>.defI (e.bi 0 5) fun a5=>.defI (e.bi 0 6) fun a6=>k a0 a1 a2 a3 a4 a5 a6
noncomputable abbrev qRe3 {R:Type} (e:EN) (k:Int→Int→Int→Int→Int→Int→Int→Int→Int→Int→Int→Int→Bool→Bool→Bool→Bool→Bool→Bool→Bool→Bool→Bool→Bool→Bool→Bool→Bool→Bool→Bool→Bool→Bool→Bool→Bool→Bool→Bool→Bool→Bool→Bool→Bool→Int→Int→Int→Int→Int→Int→Int→Int→Int→Int→Int→Int→Int→Int→Bool→Bool→Int→Int→Int→Bool→Bool→Int→Int→Ah R):Ah R:=.defI (e.bi 0 0) fun a0=>.defI (e.bi 0 5) fun a1=>.defI (e.bi 0 6) fun a2=>.defI (e.bi 0 7) fun a3=>.defI (e.bi 3 0) fun a4=>.defI (e.bi 3 1) fun a5=>.defI (e.bi 3 2) fun a6=>.defI (e.bi 3 3) fun a7=>.defI (e.bi 3 4) fun a8=>.defI (e.bi 3 5) fun a9=>.defI (e.bi 3 6) fun a10=>.defI ((e.ln 4):Int) fun a11=>.defB (e.bb 6 0) fun a12=>.defB (e.bb 6 1) fun a13=>.defB (e.bb 6 2) fun a14=>.defB (e.bb 6 3) fun a15=>.defB (e.bb 6 4) fun a16=>.defB (e.bb 6 5) fun a17=>.defB (e.bb 6 6) fun a18=>.defB (e.bb 6 7) fun a19=>.defB (e.bb 6 8) fun a20=>.defB (e.bb 6 9) fun a21=>.defB (e.bb 6 10) fun a22=>.defB (e.bb 6 11) fun a23=>.defB (e.bb 6 12) fun a24=>.defB (e.bb 6 13) fun a25=>.defB (e.bb 6 14) fun a26=>.defB (e.bb 6 15) fun a27=>.defB (e.bb 6 16) fun a28=>.defB (e.bb 6 17) fun a29=>.defB (e.bb 6 18) fun a30=>.defB (e.bb 6 19) fun a31=>.defB (e.bb 6 20) fun a32=>.defB (e.bb 6 21) fun a33=>.defB (e.bb 6 22) fun a34=>.defB (e.bb 6 23) fun a35=>.defB (e.bb 6 24) fun
 a36=>.defI (e.bi 7 0) fun a37=>.defI (e.bi 7 1) fun a38=>.defI (e.bi 7 2) fun a39=>.defI (e.bi 7 3) fun a40=>.defI (e.bi 7 4) fun a41=>.defI (e.bi 7 5) fun a42=>.defI (e.bi 7 6) fun a43=>.defI (e.bi 7 7) fun a44=>.defI (e.bi 7 8) fun a45=>.defI (e.bi 7 9) fun a46=>.defI (e.bi 7 10) fun a47=>.defI (e.bi 7 11) fun a48=>.defI (e.bi 7 12) fun a49=>.defI (e.bi 7 13) fun a50=>.defB (e.bb 7 16) fun a51=>.defB (e.bb 7 17) fun a52=>.defI (e.bi 7 18) fun a53=>.defI (e.bi 7 19) fun a54=>.defI (e.bi 7 20) fun a55=>.defB (e.bb 7 21) fun a56=>.defB (e.bb 7 22) fun a57=>.defI ((e.ln 8):Int) fun a58=>.defI ((e.ln 9):Int) fun a59=>k a0 a1 a2 a3 a4 a5 a6 a7 a8 a9 a10 a11 a12 a13 a14 a15 a16 a17 a18 a19 a20 a21 a22 a23 a24 a25 a26 a27 a28 a29 a30 a31 a32 a33 a34 a35 a36 a37 a38 a39 a40 a41 a42 a43 a44 a45 a46 a47 a48 a49 a50 a51 a52 a53 a54 a55 a56 a57 a58 a59
noncomputable abbrev qRe5 (v0:Al) (v1:BA):ON:=.box [.i v0.1,.i v1.want.1,.i v1.want.2,.i v1.want.3,.i v1.value.1,.i v1.value.2,.i v1.value.3,.i v1.best.1,.i v1.best.2,.i v1.best.3,.i v1.b.1,.i v1.b.2,.i v1.acc.1,.i v1.acc.2,.u,.u,.b v1.8,.b v1.9,.i v1.decided.1,.i v1.decided.2,.i v1.decided.3,.b v1.11,.b v1.12]
noncomputable abbrev qRe4 (v0:EN) (v1:Al) (v2:Dat):Ah (EN):=.must (decide (0≤v0.bi 0 10∧0≤v0.ai 1 0)) (.defE (psN v0) fun e107=>qRe1 e107 fun z108 z109 z110 z111 z112 z113 z114 z115 z116 z117 z118 z119 z120 z121 z122 z123 z124 z125 z126 z127 z128 z129 z130 z131 z132=>.defE ⟨[[.u],[.i z108,.i z109]],[.box [.i v1.prom.1,.i v1.prom.2,.i v1.acc.1,.i v1.acc.2,.i v1.ainc.1,.i v1.ainc.2,.i v1.ainc.3]]⟩ fun e133=>.must (!prepB ⟨e133.ai 1 0,e133.ai 1 1⟩ ⟨e133.bi 0 0,e133.bi 0 1⟩) (.defI 0 fun z134=>.defI 0 fun z135=>.defI 0 fun z136=>.defI 0 fun z137=>.defI 0 fun z138=>.defI (ballE ⟨e133.ai 1 0,e133.ai 1 1⟩) fun z139=>qRe2 e133 fun z140 z141 z142 z143 z144 z145 z146=>.must (!z139==0) (.must (BE Af Af) (.defE ⟨[[.u]],[.own (hdW v2 v1.2),.tok]⟩ fun e147=>.defI (BK (e147.dt 0).2) fun z148=>.defI (IntKind.u32.wrap (z148+1)) fun z149=>.must (BE Af Af) (.must (AX BB (AI BB (rowJ v1.wishes)) v1.6.length) (.must (AX [.i .u8] ((AI [.i .u8] (e107.rw 1))) z131.toNat) (.must (AX [.i .u8] ((AI [.i .u8] (e107.rw 2))) z132.toNat) (.defE ⟨[[.u],[.i 1,.i 0,.i 0,.i z149,.i z108,.i z109,.i 0,.i 0,.b false,.i 0,.i 0,.i 0,.u,.u,.u,.u,.u,.u,.u,.u,.u,.u,.u,.u,.u,.u,.u,.u,.u,.u,.u,.u,.u,.u,.u,.u,.u,.u,.u,.u,.u,.u,.u,.u,.u,.u,.u,.u,.u,.u,.u,.u,.u,.u,.u,.u,.u,.u,.u,.u,.u,.u,.u,.u,.u,.u,.u,.u,.u,.u,.u,.u,.u,.u,.u,.u,.u,.u,.u,
 .u,.u,.u,.u,.u,.u,.u,.u,.u,.u,.u,.u,.u,.u,.u,.u,.u,.u,.u,.u,.u,.u,.u,.u,.u,.u,.u,.u,.u,.u,.u,.u,.u,.u,.u,.u,.u,.u,.u,.u,.u,.u,.u,.i 0,.u,.u,.u,.u,.u,.u,.u,.u]],[.box [.i v1.1,.u,.u,.u,.u,.i 0,.i v1.over.1,.i v1.over.2,.u],.own (e147.dt 0),.tok,.box [.i z140,.i z141,.i z142,.i z143,.i z144,.i z145,.i z146],.lst v1.6.length (AH BB (AI BB (rowJ v1.wishes))),.tok,.box [.b (v1.10 0),.b (v1.10 1),.b (v1.10 2),.b (v1.10 3),.b (v1.10 4),.b (v1.10 5),.b (v1.10 6),.b (v1.10 7),.b (v1.10 8),.b (v1.10 9),.b (v1.10 10),.b (v1.10 11),.b (v1.10 12),.b (v1.10 13),.b (v1.10 14),.b (v1.10 15),.b (v1.10 16),.b (v1.10 17),.b (v1.10 18),.b (v1.10 19),.b (v1.10 20),.b (v1.10 21),.b (v1.10 22),.b (v1.10 23),.b (v1.10 24)],.box [.i z110,.i z111,.i z112,.i z113,.i z114,.i z115,.i z116,.i z117,.i z118,.i z119,.i z120,.i z121,.i z122,.i z123,.u,.u,.b z124,.b z125,.i z126,.i z127,.i z128,.b z129,.b z130],.lst z131.toNat (AH [.i .u8] (AI [.i .u8] (e107.rw 1))),.lst z132.toNat (AH [.i .u8] (AI [.i .u8] (e107.rw 2))),.tok,.tok]⟩ fun e150=>.must (ok1 e150) (qRe3 e150 fun z151 z152 z153 z154 z155 z156 z157 z158 z159 z160 z161 z162 z163 z164 z165 z166 z167 z168 z169 z170 z171 z172 z173 z174 z175 z176 z177 z178 z179 z180 z181 z182 z183 z184 z185 z186 z187 z188 z189 z190 z191 z192 z193 z194 z195 z196 z197 z198 z199 z200 z201 z202 z203 z204 z205 z206 z207 z208
 z209 z210=>.must (BE Af Af) (.must (AX BB ((AI BB (e150.rw 4))) z162.toNat) (.must (AX [.i .u8] ((AI [.i .u8] (e150.rw 8))) z209.toNat) (.must (AX [.i .u8] ((AI [.i .u8] (e150.rw 9))) z210.toNat) (.leaf ⟨[[.u]],[.box [.i z151,.u,.u,.u,.u,.i z152,.i z153,.i z154,.u],.own (e150.dt 1),.tok,.box [.i z155,.i z156,.i z157,.i z158,.i z159,.i z160,.i z161],.lst z162.toNat (AH BB (AI BB (e150.rw 4))),.tok,.box [.b z163,.b z164,.b z165,.b z166,.b z167,.b z168,.b z169,.b z170,.b z171,.b z172,.b z173,.b z174,.b z175,.b z176,.b z177,.b z178,.b z179,.b z180,.b z181,.b z182,.b z183,.b z184,.b z185,.b z186,.b z187],.box [.i z188,.i z189,.i z190,.i z191,.i z192,.i z193,.i z194,.i z195,.i z196,.i z197,.i z198,.i z199,.i z200,.i z201,.u,.u,.b z202,.b z203,.i z204,.i z205,.i z206,.b z207,.b z208],.lst z209.toNat (AH [.i .u8] (AI [.i .u8] (e150.rw 8))),.lst z210.toNat (AH [.i .u8] (AI [.i .u8] (e150.rw 9))),.tok,.tok,.lst 2 (AH msgR fun (i:Nat)=>(mAV [.int .u8 (.sym (((mon1 e150).others (BU e150 1)).getD i mZero).1),.int .u8 (.sym (((mon1 e150).others (BU e150 1)).getD i mZero).2),.int .u8 (.sym (((mon1 e150).others (BU e150 1)).getD i mZero).3),.int .u32 (.sym (((mon1 e150).others (BU e150 1)).getD i mZero).4),.int .u32 (.sym (((mon1 e150).others (BU e150 1)).getD i mZero).b.1),.int .u8 (.sym (((mon1 e150).others (BU e150 1)).getD i
 mZero).b.2),.int .u32 (.sym (((mon1 e150).others (BU e150 1)).getD i mZero).acc.1),.int .u8 (.sym (((mon1 e150).others (BU e150 1)).getD i mZero).acc.2),.bool (.sym (((mon1 e150).others (BU e150 1)).getD i mZero).7),.int .u8 (.sym (((mon1 e150).others (BU e150 1)).getD i mZero).inc.1),.int .u8 (.sym (((mon1 e150).others (BU e150 1)).getD i mZero).inc.2),.int .i64 (.sym (((mon1 e150).others (BU e150 1)).getD i mZero).inc.3)] (.int .u32 (.sym (((mon1 e150).others (BU e150 1)).getD i mZero).9)))),.tok]⟩)))))))))))))
theorem st_n (hd:Dat) (s:Al) (p:BA):(BR Tryz.prog (Am Tryz.prog rdTb 300) 58 (stT1.vals ⟨[[]],mn1 hd s p⟩) (stT1.heap ⟨[[]],mn1 hd s p⟩) 12 (outV 12 stR1)).cut [none,some false,some false] =

  .defE ⟨[[.i s.prom.1,.i s.prom.2],[.i s.over.1,.i s.over.2]],[]⟩ fun e0=>.ite (decide (e0.ai 0 0<e0.ai 1 0)||e0.ai 0 0==e0.ai 1 0&&decide (e0.ai 0 1<e0.ai 1 1)) (.must (AX [.i .u8] (AI [.i .u8] (AR p.6)) p.6.length) (.must (AX [.i .u8] (AI [.i .u8] (AR p.7)) p.7.length) (.defE ⟨[[.u],[.i s.over.1,.i s.over.2]],[(qRe5 s p),.lst p.6.length (AR p.6),.lst p.7.length (AR p.7),.tok,.tok]⟩ fun e1=>qRe4 e1 s hd))) (.must (AX [.i .u8] (AI [.i .u8] (AR p.6)) p.6.length) (.must (AX [.i .u8] (AI [.i .u8] (AR p.7)) p.7.length) (.defE ⟨[[.u],[.i s.prom.1,.i s.prom.2]],[(qRe5 s p),.lst p.6.length (AR p.6),.lst p.7.length (AR p.7),.tok,.tok]⟩ fun e106=>qRe4 e106 s hd))):=by kernel_rfl
set_option maxHeartbeats 4000000 in
theorem st_not (hd : Dat) (s : Al) (p : BA) (hs : 0 ≤ s.id ∧ s.id < 3) (hp : 0 ≤ p.b.n) (ho : 0 ≤ s.over.n) (ho2 : 0 ≤ s.prom.n) (hi : s.incs.length < 1000) (hok : prepB (p.start s.id (overB s)).b s.prom = false) :
    BI Tryz.prog 58 stT1 ⟨[[]],mn1 hd s p⟩ stR1 ⟨[[.u]],mn1 hd { s with ticks:=0 } (p.start s.id (overB s))++[.lst 2 (rowM (s.others (stMsg s (p.start s.id (overB s))))),.tok]⟩:=by
  have hw:=slot_w hi
  refine Aj rdTab Ay rfl (BG [none,some false,some false] (AL (st_n hd s p) (AK (AG (fun hL=>?_) (fun hL=>?_)))))
  · have e : overB s = s.over := by
      have hL:s.prom.less s.over=true:=hL
      unfold overB
      rw [hL]
    rw [e] at hok ⊢
    refine AA (AN _ _ _) (AA (AN _ _ _) (AK (AA (decide_eq_true ⟨hp,ho⟩) (An fun e2 h2=>?_))))
    have f2:e2=⟨[],mPr s.id (p.start s.id s.over)⟩:=by rw [h2]; rfl
    clear h2
    subst f2
    repeat' with_reducible (first | refine AB ?_ | refine AM ?_)
    refine AK (AA ((congrArg (fun b=>!b) hok).trans rfl) ?_)
    repeat' with_reducible (first | refine AB ?_ | refine AM ?_)
    refine AA (ballE_ne _) ?_
    refine AA (AS _) (AK ?_)
    repeat' with_reducible (first | refine AB ?_ | refine AM ?_)
    refine AA (AS _) (AA (AZ rfl _ _) (AA (AN _ _ _) (AA (AN _ _ _) (An fun e70 h70=>AA (by rw [h70]; exact idOk_ok hs) ?_))))
    have hO:(mon1 e70).others (BU e70 1)=s.others (stMsg s (p.start s.id s.over)):=by rw [h70]; unfold stMsg; rw [← hw]; rfl
    subst h70
    repeat' with_reducible (first | refine AB ?_ | refine AM ?_)
    refine AA (AS _) (AA (AZ rfl _ _) (AA (AN _ _ _) (AA (AN _ _ _) (AE ?_))))
    refine ⟨⟨trivial,trivial⟩,?_,rfl,trivial,?_,⟨rfl,fun i _=>eqvL_trans (AF rfl _ i) (AF rfl _ i)⟩,trivial,?_,?_,⟨rfl,fun i _=>eqvL_trans (AF rfl _ i) (AF rfl _ i)⟩,⟨rfl,fun i _=>eqvL_trans (AF rfl _ i) (AF rfl _ i)⟩,trivial,trivial,⟨trivial,fun i _=>?_⟩,trivial,trivial⟩
    · exact clP
    · exact clP
    · exact clP
    · exact clP
    · rw [← hO]
      exact rowsMsg _ i
  · have e : overB s = s.prom := by
      have hL:s.prom.less s.over=false:=hL
      unfold overB
      rw [hL]
    rw [e] at hok ⊢
    refine AA (AN _ _ _) (AA (AN _ _ _) (AK (AA (decide_eq_true ⟨hp,ho2⟩) (An fun e2 h2=>?_))))
    have f2:e2=⟨[],mPr s.id (p.start s.id s.prom)⟩:=by rw [h2]; rfl
    clear h2
    subst f2
    repeat' with_reducible (first | refine AB ?_ | refine AM ?_)
    refine AK (AA ((congrArg (fun b=>!b) hok).trans rfl) ?_)
    repeat' with_reducible (first | refine AB ?_ | refine AM ?_)
    refine AA (ballE_ne _) ?_
    refine AA (AS _) (AK ?_)
    repeat' with_reducible (first | refine AB ?_ | refine AM ?_)
    refine AA (AS _) (AA (AZ rfl _ _) (AA (AN _ _ _) (AA (AN _ _ _) (An fun e70 h70=>AA (by rw [h70]; exact idOk_ok hs) ?_))))
    have hO:(mon1 e70).others (BU e70 1)=s.others (stMsg s (p.start s.id s.prom)):=by rw [h70]; unfold stMsg; rw [← hw]; rfl
    subst h70
    repeat' with_reducible (first | refine AB ?_ | refine AM ?_)
    refine AA (AS _) (AA (AZ rfl _ _) (AA (AN _ _ _) (AA (AN _ _ _) (AE ?_))))
    refine ⟨⟨trivial,trivial⟩,?_,rfl,trivial,?_,⟨rfl,fun i _=>eqvL_trans (AF rfl _ i) (AF rfl _ i)⟩,trivial,?_,?_,⟨rfl,fun i _=>eqvL_trans (AF rfl _ i) (AF rfl _ i)⟩,⟨rfl,fun i _=>eqvL_trans (AF rfl _ i) (AF rfl _ i)⟩,trivial,trivial,⟨trivial,fun i _=>?_⟩,trivial,trivial⟩
    · exact clP
    · exact clP
    · exact clP
    · exact clP
    · rw [← hO]
      exact rowsMsg _ i
def propD (s:Al):BA:=s.prop.getD (BA.new .zero)
theorem starts_eq (s : Al) (p : BA) : s.starts p = (match prepB (p.start s.id (overB s)).b s.prom with
    | true=>({ s with ticks:=0,prom:=(p.start s.id (overB s)).b,prop:=some ((p.start s.id (overB s)).promise s.id (p.start s.id (overB s)).b s.acc s.ainc s.hasAcc).1 },s.others (stMsg s (p.start s.id (overB s))))
    | false=>({ s with ticks:=0,prop:=some (p.start s.id (overB s)) },s.others (stMsg s (p.start s.id (overB s))))):=by
  show (match s.prepareOk _ with | true=>_ | false=>_)=_
  unfold Al.prepareOk prepB overB stMsg
  cases s.prom.less s.over <;> rfl
theorem st_std (hd : Dat) (s : Al) (p : BA) (hs : 0 ≤ s.id ∧ s.id < 3) (hp : 0 ≤ p.b.n) (ho : 0 ≤ s.over.n) (ho2 : 0 ≤ s.prom.n) (hi : s.incs.length < 1000) :
    BI Tryz.prog 58 stT1 ⟨[[]],mn1 hd s p⟩ stR1 ⟨[[.u]],mn1 hd (s.starts p).1 (propD (s.starts p).1)++[.lst 2 (rowM (s.starts p).2),.tok]⟩:=by
  rw [starts_eq]
  cases hok:prepB (p.start s.id (overB s)).b s.prom with
  | true=>exact st_yes hd s p hs hp ho ho2 hi hok
  | false=>exact st_not hd s p hs hp ho ho2 hi hok
def okS (e:EN):Bool:=ok1 e&&(decide (0≤e.bi 7 10)&&(decide (0≤e.bi 0 6)&&decide (0≤e.bi 3 0)))
def stN (e:EN):EN:=⟨[],mn1 (e.dt 1) ((mon1 e).starts (propOf e)).1 (propD ((mon1 e).starts (propOf e)).1)++[.lst 2 (rowM ((mon1 e).starts (propOf e)).2)]⟩
def cSt (e:EN):Ah (TS×EN):=.must (okS e) (.defE (stN e) fun r=>.leaf (stR1,⟨[[.u]],rawM r++rawP r++[.lst 2 (r.rw 12),.tok]⟩))
theorem cSt_ok:Ak Tryz.prog 58 (AW stT1 cSt):=BN fun e r h=>by
  obtain ⟨hm,h⟩:=Ar h
  cases h
  simp only [okS,ok1,idOk,Bool.and_eq_true,decide_eq_true_eq] at hm
  obtain ⟨⟨hid,hw⟩,h1,h2,h3⟩:=hm
  have pre:=pre1 e [[]] stT1.vs [] 12 hw clP
  refine BI.pre (t:=stT1) pre (std_good (k:=1) (g:=2) rfl rfl fun hg=>?_)
  exact BI.post (t':=stR1) clP (st_std (e.dt 1) (mon1 e) (propOf e) hid h1 h2 h3 (by have:=hg.1; have:(e.dt 1).incs.length≤59:=this; show (e.dt 1).incs.length<1000; omega))
end Go.Proofs.YtddmgdclmkgpeaaGreat
