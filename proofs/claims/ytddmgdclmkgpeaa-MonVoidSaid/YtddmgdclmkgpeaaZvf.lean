/- Texts of this claim, laid together (part 6).
   Conditions: none. -/
import Derived.Test.YtddmgdclmkgpeaaZve
set_option linter.unusedSimpArgs false
set_option linter.unusedVariables false
set_option linter.unusedSimpArgs false
set_option linter.unusedVariables false
namespace Go.Proofs.Ytddmgdclmkgpeaa
open Go.Eng Go.RowKit Go.ChangeShapes Go.WideShapes
set_option maxRecDepth 100000
theorem rep25 {r:Nat→Bool} (h:∀ i,25≤i→r i=false):(fun i=>[r 0,r 1,r 2,r 3,r 4,r 5,r 6,r 7,r 8,r 9,r 10,r 11,r 12,r 13,r 14,r 15,r 16,r 17,r 18,r 19,r 20,r 21,r 22,r 23,r 24].getD i false)=r:=by
  funext i
  match i with
  | 0=>rfl
  | 1=>rfl
  | 2=>rfl
  | 3=>rfl
  | 4=>rfl
  | 5=>rfl
  | 6=>rfl
  | 7=>rfl
  | 8=>rfl
  | 9=>rfl
  | 10=>rfl
  | 11=>rfl
  | 12=>rfl
  | 13=>rfl
  | 14=>rfl
  | 15=>rfl
  | 16=>rfl
  | 17=>rfl
  | 18=>rfl
  | 19=>rfl
  | 20=>rfl
  | 21=>rfl
  | 22=>rfl
  | 23=>rfl
  | 24=>rfl
  | n+25=>exact (h (n+25) (by omega)).symm
theorem incsL_rows {l:List Inc} {n:Nat} {r:Nat→List Num} (hn:n=l.length) (h:∀ i:Nat,i<l.length→eqvL BB (r i) (rowJ l i)):incsL n r=l:=by
  refine List.ext_getElem (by rw [incsL_length,hn]) fun i h1 h2=>?_
  have e1:=incsL_get (r:=r) (show i<n by omega)
  rw [List.getD,List.getElem?_eq_getElem h1] at e1
  have e1:(incsL n r)[i]=incR (r i):=e1
  rw [e1]
  obtain ⟨a1,a2,a3,_⟩:=h i h2
  have e2:l.getD i .zero=l[i]:=by
    rw [List.getD,List.getElem?_eq_getElem h2]
    rfl
  have a1:(hdN (r i)).I=(l.getD i .zero).kind:=a1
  have a2:(hdN (tlN (r i))).I=(l.getD i .zero).osd:=a2
  have a3:(hdN (tlN (tlN (r i)))).I=(l.getD i .zero).n:=a3
  unfold incR
  rw [a1,a2,a3,e2]
theorem lstI_rows {l:List Int} {n:Nat} {r:Nat→List Num} (hn:n=l.length) (h:∀ i:Nat,i<l.length→(hdN (r i)).I=l.getD i 0):Aw n r=l:=by
  refine List.ext_getElem (by rw [Ar,hn]) fun i h1 h2=>?_
  have e1:=lstI_get (r:=r) (show i<n by omega)
  rw [List.getD,List.getElem?_eq_getElem h1] at e1
  have e1:(Aw n r)[i]=(hdN (r i)).I:=e1
  have e2:l.getD i 0=l[i]:=by
    rw [List.getD,List.getElem?_eq_getElem h2]
    rfl
  rw [e1,h i h2,e2]
theorem starts_prop (s:Aj) (q:Option BA) (p:BA):({ s with prop:=q } : Aj).starts p=s.starts p:=by
  rw [starts_eq,starts_eq]
  show (match prepB (p.start s.id (overB s)).b s.prom with | true=>_ | false=>_)=_
  cases prepB (p.start s.id (overB s)).b s.prom <;> rfl
theorem qx_ret {t:TS} {rt:TS} {R:Ex→EN→Prop} {ex:Ex} {m:Nat} {κ:Tm} {h:An} (q:QX ⟨none,[(0,t)],none⟩ R ex m κ h):QX ⟨none,[(0,t)],some rt⟩ (fun ex e=>match ex with | .exit i=>R (.exit i) e | _=>False) ex m κ h:=by
  obtain ⟨t',e,h1,h2,h3⟩:=q
  cases ex with
  | normal=>cases h1
  | ret=>cases h1
  | exit i=>exact ⟨t',e,h1,h2,h3⟩
set_option maxHeartbeats 4000000 in
theorem be1_std (hd:Dat) (s:Aj) (p:BA) (hg:HGood s.incs) (hw:∀ x,x∈s.wishes→0≤x.osd):BO Try.prog 17 beT1 ⟨[[]],mn1 hd s p⟩ beR1 ⟨[[.u]],mn1 hd { s with wishes:=dropW s s.wishes } p⟩:=by
  refine stdX_loop rfTab BE (n:=300) Try.func17 bodyBe_eq 1 (L:=beL1) (E:=beL1) (en0:=⟨[[],[]],mn1 hd s p⟩) rfl rfl (by kernel_rfl) rfl rfl lpBe (by decide) (by decide) (by decide)
    (fun τ0=>AN (be_pbeR1 hd s p τ0) (AA (AS _) (AA (Ad rfl _ _) (AA (AP _ _ _) (AA (AP _ _ _) (AE (.inl ⟨rfl,?_⟩)))))))
    (HT.mono (be_loop1 hd s p hg hw) fun _ _ _ _ q=>qx_ret q) (fun en he=>⟨⟨[[],[]],mn1 hd { s with wishes:=dropW s s.wishes } p⟩,he,fun τ0=>BI [none] (AN (be_tbeR1 hd { s with wishes:=dropW s s.wishes } p τ0) (AM (fun _=>?_) (fun _=>?_)))⟩) (fun en he=>he.elim)
  · refine ⟨⟨trivial,trivial,trivial⟩,?_,rfl,trivial,?_,⟨rfl,fun i _=>AF rfl _ i⟩,trivial,?_,?_,⟨rfl,fun i _=>AL [.i .u8] (AQ p.hp i)⟩,⟨rfl,fun i _=>AL [.i .u8] (AQ p.ha i)⟩,trivial,trivial,trivial⟩
    · exact clP
    · exact clP
    · exact clP
    · exact clP
  all_goals
    refine AA (AS _) (AA (Ad rfl _ _) (AA (AP _ _ _) (AA (AP _ _ _) (AE fun _=>?_))))
    refine ⟨⟨trivial,trivial⟩,?_,rfl,trivial,?_,⟨rfl,fun i _=>AF rfl _ i⟩,trivial,?_,?_,⟨rfl,fun i _=>AL [.i .u8] (AQ p.hp i)⟩,⟨rfl,fun i _=>AL [.i .u8] (AQ p.ha i)⟩,trivial,trivial,trivial⟩
    · exact clP
    · exact clP
    · exact clP
    · exact clP
set_option maxHeartbeats 4000000 in
theorem be0_nil (hd:Dat) (s:Aj) (hg:HGood s.incs) (hw:∀ x,x∈s.wishes→0≤x.osd) (hn:dropW s s.wishes=[]):BO Try.prog 17 beT0 ⟨[[]],mn0 hd s⟩ beR0 ⟨[[.u]],mn0 hd { s with wishes:=[] }⟩:=by
  refine stdX_loop rfTab BE (n:=300) Try.func17 bodyBe_eq 1 (L:=beL0) (E:=beL0) (en0:=⟨[[],[]],mn0 hd s⟩) rfl rfl (by kernel_rfl) rfl rfl lpBe (by decide) (by decide) (by decide)
    (fun τ0=>AN (be_pbeR0 hd s τ0) (AA (AS _) (AA (Ad rfl _ _) (AE (.inl ⟨rfl,?_⟩)))))
    (HT.mono (be_loop0 hd s hg hw) fun _ _ _ _ q=>qx_ret q) (fun en he=>⟨⟨[[],[]],mn0 hd { s with wishes:=[] }⟩,(by have he:beL0.eqv en ⟨[[],[]],mn0 hd { s with wishes:=dropW s s.wishes }⟩:=he; rw [hn] at he; exact he),fun τ0=>BI [some true] (AN (be_tbeR0 hd { s with wishes:=[] } τ0) (AA rfl ?_))⟩) (fun en he=>he.elim)
  · refine ⟨⟨trivial,trivial,trivial⟩,?_,rfl,trivial,?_,⟨rfl,fun i _=>AF rfl _ i⟩,trivial,?_,trivial⟩
    · exact clP
    · exact clP
    · exact clP
  · refine AA (AS _) (AA (Ad rfl _ _) (AE fun _=>?_))
    refine ⟨⟨trivial,trivial⟩,?_,rfl,trivial,?_,⟨rfl,fun i _=>AF rfl _ i⟩,trivial,?_,trivial⟩
    · exact clP
    · exact clP
    · exact clP
theorem okS_ok {n w a b c:Int} (h:0≤n∧n<3) (hw:w=n) (ha:0≤a) (hb:0≤b) (hc:0≤c):((idOk n&&decide (w=n))&&(decide (0≤a)&&(decide (0≤b)&&decide (0≤c))))=true:=by
  unfold idOk
  rw [decide_eq_true h,decide_eq_true hw,decide_eq_true ha,decide_eq_true hb,decide_eq_true hc]
  rfl
set_option maxHeartbeats 4000000 in
theorem be0_cons (hd : Dat) (s : Aj) (hg : HGood s.incs) (hw : ∀ x, x ∈ s.wishes → 0 ≤ x.osd) (hs : 0 ≤ s.id ∧ s.id < 3) (ho : 0 ≤ s.over.n) (ho2 : 0 ≤ s.prom.n) (hr : ∀ i, 25 ≤ i → s.rep i = false) {x : Inc} {l : List Inc} (hn : dropW s s.wishes = x :: l) :
    BO Try.prog 17 beT0 ⟨[[]],mn0 hd s⟩ beN1 ⟨[[.u]],mn1 hd (({ s with wishes:=x::l } : Aj).starts (BA.new x)).1 (propD (({ s with wishes:=x::l } : Aj).starts (BA.new x)).1)++[.lst 2 (rowM (({ s with wishes:=x::l } : Aj).starts (BA.new x)).2),.tok]⟩:=by
  refine stdX_loop rfTab BE (n:=300) Try.func17 bodyBe_eq 1 (L:=beL0) (E:=beL0) (en0:=⟨[[],[]],mn0 hd s⟩) rfl rfl (by kernel_rfl) rfl rfl lpBe (by decide) (by decide) (by decide)
    (fun τ0=>AN (be_pbeN1 hd s τ0) (AA (AS _) (AA (Ad rfl _ _) (AE (.inl ⟨rfl,?_⟩)))))
    (HT.mono (be_loop0 hd s hg hw) fun _ _ _ _ q=>qx_ret q) (fun en he=>⟨⟨[[],[]],mn0 hd { s with wishes:=x::l }⟩,(by have he:beL0.eqv en ⟨[[],[]],mn0 hd { s with wishes:=dropW s s.wishes }⟩:=he; rw [hn] at he; exact he),fun τ0=>BI [some false] (AN (be_tbeN1 hd { s with wishes:=x::l } τ0) ?_)⟩) (fun en he=>he.elim)
  · refine ⟨⟨trivial,trivial,trivial⟩,?_,rfl,trivial,?_,⟨rfl,fun i _=>AF rfl _ i⟩,trivial,?_,trivial⟩
    · exact clP
    · exact clP
    · exact clP
  · have hm0:decide ((0:Int)≤0∧(0:Int)<(((x::l).length:Nat):Int))=true:=decide_eq_true (by simp <;> omega)
    refine AA (by simp <;> omega) (AA hm0 (AA hm0 ?_))
    repeat' with_reducible (first | refine AB ?_ | refine AI ?_)
    refine AJ ?_
    repeat' with_reducible (first | refine AB ?_ | refine AI ?_)
    refine AA (AS _) (AA (Ad rfl _ _) (AA (AP _ _ _) (AA (AP _ _ _) (Ao fun e27 h27=>AA (by rw [h27]; exact okS_ok hs rfl (Int.le_refl 0) ho ho2) ?_))))
    have q27:propOf e27=BA.new x:=by rw [h27]; rfl
    have w27:incsL (e27.ln 4) (e27.rw 4)=x::l:=by
      rw [h27]
      exact incsL_rows rfl fun i _=>AF rfl _ i
    have r27:repOf e27=s.rep:=by
      rw [h27]
      exact rep25 hr
    have m27:mon1 e27 = { s with wishes:=x::l,prop:=some (BA.new x) }:=by
      unfold mon1 monOf
      rw [q27,w27,r27,h27]
      rfl
    have s27:stN e27=⟨[],mn1 hd (({ s with wishes:=x::l } : Aj).starts (BA.new x)).1 (propD (({ s with wishes:=x::l } : Aj).starts (BA.new x)).1)++[.lst 2 (rowM (({ s with wishes:=x::l } : Aj).starts (BA.new x)).2)]⟩:=by
      unfold stN
      rw [q27,m27,show ({ s with wishes:=x::l,prop:=some (BA.new x) } : Aj).starts (BA.new x)=({ s with wishes:=x::l } : Aj).starts (BA.new x) from starts_prop { s with wishes:=x::l } _ _,h27]
      rfl
    rw [s27]
    generalize ({ s with wishes:=x::l } : Aj).starts (BA.new x)=r
    clear s27 m27 r27 w27 q27 h27
    refine AJ ?_
    repeat' with_reducible (first | refine AB ?_ | refine AI ?_)
    refine AA (AS _) (AA (Ad rfl _ _) (AA (AP _ _ _) (AA (AP _ _ _) (AE fun _=>?_))))
    refine ⟨⟨trivial,trivial⟩,?_,rfl,trivial,?_,⟨rfl,fun i _=>AF rfl _ i⟩,trivial,?_,?_,⟨rfl,fun i _=>AF rfl _ i⟩,⟨rfl,fun i _=>AF rfl _ i⟩,trivial,trivial,⟨trivial,fun i _=>?_⟩,trivial,trivial⟩
    · exact clP
    · exact clP
    · exact clP
    · exact clP
    · exact rowsMsg _ i
end Go.Proofs.Ytddmgdclmkgpeaa
set_option linter.unusedSimpArgs false
set_option linter.unusedVariables false
namespace Go.Proofs.Ytddmgdclmkgpeaa
open Go.Eng Go.RowKit Go.ChangeShapes Go.WideShapes
set_option maxRecDepth 100000
def bg0N (e:EN):EN:=⟨[],mn0 (e.dt 1) (mon0 e).begins.1⟩
def bg0C (e:EN):EN:=⟨[],mn1 (e.dt 1) (mon0 e).begins.1 (propD (mon0 e).begins.1)++[.lst 2 (rowM (mon0 e).begins.2)]⟩
def bg1N (e:EN):EN:=⟨[],mn1 (e.dt 1) (mon1 e).begins.1 (propD (mon1 e).begins.1)⟩
def wOk (e:EN):Bool:=(incsL (e.ln 4) (e.rw 4)).all fun x=>decide (0≤x.osd)
def ok0 (e:EN):Bool:=idOk (e.bi 0 0)&&(decide (0≤e.bi 0 6)&&(decide (0≤e.bi 3 0)&&wOk e))
def bgE (s:Aj):Bool:=(dropW s s.wishes).isEmpty
noncomputable def cBe0 (e:EN):Ah (TS×EN):=.must (ok0 e) (.ite (bgE (mon0 e)) (.defE (bg0N e) fun r=>.leaf (beR0,⟨[[.u]],rawM r⟩)) (.defE (bg0C e) fun r=>.leaf (beN1,⟨[[.u]],rawM r++rawP r++[.lst 2 (r.rw 12),.tok]⟩)))
noncomputable def cBe1 (e:EN):Ah (TS×EN):=.must (ok1 e&&wOk e) (.defE (bg1N e) fun r=>.leaf (beR1,⟨[[.u]],rawM r++rawP r⟩))
theorem wOk_ok {e:EN} (h:wOk e=true):∀ x,x∈incsL (e.ln 4) (e.rw 4)→0≤x.osd:=fun x hx=>of_decide_eq_true (List.all_eq_true.1 h x hx)
theorem begins_nil {s:Aj} (h:dropW s s.wishes=[]):s.begins=({ s with wishes:=[] },[]):=by
  unfold Aj.begins Aj.wanted
  have h:s.wishes.dropWhile (fun x=>!(s.changes x))=[]:=h
  rw [h]
theorem begins_cons {s:Aj} {x:Inc} {l:List Inc} (hp:s.prop=none) (h:dropW s s.wishes=x::l):s.begins=({ s with wishes:=x::l } : Aj).starts (BA.new x):=by
  unfold Aj.begins Aj.wanted
  have h:s.wishes.dropWhile (fun x=>!(s.changes x))=x::l:=h
  rw [h,hp]
theorem begins_some {s:Aj} {p:BA} (hp:s.prop=some p):s.begins=({ s with wishes:=dropW s s.wishes },[]):=by
  unfold Aj.begins Aj.wanted dropW
  cases h:s.wishes.dropWhile (fun x=>!(s.changes x)) with
  | nil=>rfl
  | cons x l=>rw [hp]
theorem repOf_25 (e:EN):∀ i,25≤i→repOf e i=false:=by
  intro i hi
  unfold repOf
  rw [List.getD,List.getElem?_eq_none (by simpa using hi)]
  rfl
theorem cBe0_ok:Ak Try.prog 17 (Ab beT0 cBe0):=ctr_ok fun e r h=>by
  obtain ⟨hm,h⟩:=As h
  simp only [ok0,idOk,Bool.and_eq_true,decide_eq_true_eq] at hm
  obtain ⟨hid,h1,h2,h3⟩:=hm
  have hw:=wOk_ok h3
  have pre:=pre0 e [[]] beT0.vs [] 7 clP
  refine BO.pre (t:=beT0) pre (std_good (k:=1) (g:=2) rfl rfl fun hg=>?_)
  cases hd:dropW (mon0 e) (mon0 e).wishes with
  | nil =>
    rw [show bgE (mon0 e)=true by unfold bgE; rw [hd]; rfl] at h
    cases h
    refine BO.post (t':=beR0) ?_ (be0_nil (e.dt 1) (mon0 e) hg hw hd)
    unfold bg0N
    rw [begins_nil hd]
    (repeat' (first | exact trivial | exact rfl | exact TS.eqv_refl _ _ | exact AY _ _ | exact AR | exact fun _ _=>AL _ _ | exact fun i _=>AF rfl _ i | apply And.intro))
  | cons x l =>
    rw [show bgE (mon0 e)=false by unfold bgE; rw [hd]; rfl] at h
    cases h
    refine BO.post (t':=beN1) ?_ (be0_cons (e.dt 1) (mon0 e) hg hw hid h1 h2 (repOf_25 e) hd)
    unfold bg0C
    rw [begins_cons rfl hd]
    (repeat' (first | exact trivial | exact rfl | exact TS.eqv_refl _ _ | exact AY _ _ | exact AR | exact fun _ _=>AL _ _ | exact fun i _=>AF rfl _ i | apply And.intro))
theorem cBe1_ok:Ak Try.prog 17 (Ab beT1 cBe1):=ctr_ok fun e r h=>by
  obtain ⟨hm,h⟩:=As h
  cases h
  simp only [ok1,idOk,Bool.and_eq_true,decide_eq_true_eq] at hm
  obtain ⟨⟨hid,hwho⟩,h3⟩:=hm
  have hw:=wOk_ok h3
  have pre:=pre1 e [[]] beT1.vs [] 12 hwho clP
  refine BO.pre (t:=beT1) pre (std_good (k:=1) (g:=2) rfl rfl fun hg=>?_)
  refine BO.post (t':=beR1) ?_ (be1_std (e.dt 1) (mon1 e) (propOf e) hg hw)
  unfold bg1N
  rw [begins_some rfl]
  (repeat' (first | exact trivial | exact rfl | exact TS.eqv_refl _ _ | exact AY _ _ | exact AR | exact fun _ _=>AL _ _ | exact fun i _=>AF rfl _ i | apply And.intro))
end Go.Proofs.Ytddmgdclmkgpeaa
set_option linter.unusedSimpArgs false
set_option linter.unusedVariables false
namespace Go.Proofs.Ytddmgdclmkgpeaa
open Go.Eng Go.RowKit Go.ChangeShapes Go.WideShapes
set_option maxRecDepth 100000
noncomputable def riSm:List (FuncId×Summ):=[(9,Ab laT cLa),(16,Ab incT cInc),(17,orSumm (Ab beT0 cBe0) (Ab beT1 cBe1))]
noncomputable def riTb:Tab:=smTab (tabOf riSm)
def wiT0:TS:=⟨[],[.one (.ptr 0 0),.agg BB],mp0,7⟩
def wiT1:TS:=⟨[],[.one (.ptr 0 0),.agg BB],mp1,12⟩
def wiR0:TS:=⟨[],[.one .nils,.one (.i .i64)],beH0,10⟩
def wiR1:TS:=⟨[],[.one .nils,.one (.i .i64)],beH1,19⟩
def wiN1:TS:=⟨[],[.one (.sl 15),.one (.i .i64)],[(0,.box [.i .u8,.ptr 1 0,.ptr 3 0,.sl 8,.ptr 10 0,.i .i64,.i .u32,.i .u8,.ptr 6 0]),(1,.ob 1 Ai 7),(7,.tok),(3,.box acB),(8,.lst none BB (some 9)),(9,.tok),(6,.box rpB),(10,.box [.i .u8,.i .u8,.i .u8,.i .i64,.i .u8,.i .u8,.i .i64,.i .u8,.i .u8,.i .i64,.i .u32,.i .u8,.i .u32,.i .u8,.sl 11,.sl 12,.b,.b,.i .u8,.i .u8,.i .i64,.b,.b]),(11,.lst none [.i .u8] (some 13)),(12,.lst none [.i .u8] (some 14)),(13,.tok),(14,.tok),(15,.lst (some 2) msgR (some 16)),(16,.tok)],17⟩
theorem riSm_ok:AllOk Try.prog riSm:=⟨cLa_ok,cInc_ok,orSumm_ok cBe0_ok cBe1_ok,trivial⟩
theorem riTab:TabAll Try.prog riTb:=tab_ok riSm_ok
noncomputable abbrev qRi1 {R:Type} (e:EN) (k:Int→Int→Int→Int→Int→Int→Int→Int→Int→Int→Int→Int→Bool→Bool→Bool→Bool→Bool→Bool→Bool→Bool→Bool→Bool→Bool→Bool→Bool→Bool→Bool→Bool→Bool→Bool→Bool→Bool→Bool→Bool→Bool→Bool→Bool→Ah R):Ah R:=.defI (e.bi 0 0) fun a0=>.defI (e.bi 0 5) fun a1=>.defI (e.bi 0 6) fun a2=>.defI (e.bi 0 7) fun a3=>.defI (e.bi 3 0) fun a4=>.defI (e.bi 3 1) fun a5=>.defI (e.bi 3 2) fun a6=>.defI (e.bi 3 3) fun a7=>.defI (e.bi 3 4) fun a8=>.defI (e.bi 3 5) fun a9=>.defI (e.bi 3 6) fun a10=>.defI ((e.ln 4):Int) fun a11=>.defB (e.bb 6 0) fun a12=>.defB (e.bb 6 1) fun a13=>.defB (e.bb 6 2) fun a14=>.defB (e.bb 6 3) fun a15=>.defB (e.bb 6 4) fun a16=>.defB (e.bb 6 5) fun a17=>.defB (e.bb 6 6) fun a18=>.defB (e.bb 6 7) fun a19=>.defB (e.bb 6 8) fun a20=>.defB (e.bb 6 9) fun a21=>.defB (e.bb 6 10) fun a22=>.defB (e.bb 6 11) fun a23=>.defB (e.bb 6 12) fun a24=>.defB (e.bb 6 13) fun a25=>.defB (e.bb 6 14) fun a26=>.defB (e.bb 6 15) fun a27=>.defB (e.bb 6 16) fun a28=>.defB (e.bb 6 17) fun a29=>.defB (e.bb 6 18) fun a30=>.defB (e.bb 6 19) fun a31=>.defB (e.bb 6 20) fun a32=>.defB (e.bb 6 21) fun a33=>.defB (e.bb 6 22) fun a34=>.defB (e.bb 6 23) fun a35=>.defB (e.bb 6 24) fun a36=>k a0 a1 a2 a3 a4 a5 a6 a7 a8 a9 a10 a11 a12 a13 a14 a15 a16 a17 a18 a19 a20 a21 a22 a23 a24 a25 a26 a27 a28 a29 a30 a31 a32 a33 a34 a35
 a36
noncomputable abbrev qRi2 {R:Type} (e:EN) (k:Int→Int→Int→Int→Int→Int→Int→Int→Int→Int→Int→Int→Bool→Bool→Bool→Bool→Bool→Bool→Bool→Bool→Bool→Bool→Bool→Bool→Bool→Bool→Bool→Bool→Bool→Bool→Bool→Bool→Bool→Bool→Bool→Bool→Bool→Int→Int→Int→Int→Int→Int→Int→Int→Int→Int→Int→Int→Int→Int→Bool→Bool→Int→Int→Int→Bool→Bool→Int→Int→Ah R):Ah R:=.defI (e.bi 0 0) fun a0=>.defI (e.bi 0 5) fun a1=>.defI (e.bi 0 6) fun a2=>.defI (e.bi 0 7) fun a3=>.defI (e.bi 3 0) fun a4=>.defI (e.bi 3 1) fun a5=>.defI (e.bi 3 2) fun a6=>.defI (e.bi 3 3) fun a7=>.defI (e.bi 3 4) fun a8=>.defI (e.bi 3 5) fun a9=>.defI (e.bi 3 6) fun a10=>.defI ((e.ln 4):Int) fun a11=>.defB (e.bb 6 0) fun a12=>.defB (e.bb 6 1) fun a13=>.defB (e.bb 6 2) fun a14=>.defB (e.bb 6 3) fun a15=>.defB (e.bb 6 4) fun a16=>.defB (e.bb 6 5) fun a17=>.defB (e.bb 6 6) fun a18=>.defB (e.bb 6 7) fun a19=>.defB (e.bb 6 8) fun a20=>.defB (e.bb 6 9) fun a21=>.defB (e.bb 6 10) fun a22=>.defB (e.bb 6 11) fun a23=>.defB (e.bb 6 12) fun a24=>.defB (e.bb 6 13) fun a25=>.defB (e.bb 6 14) fun a26=>.defB (e.bb 6 15) fun a27=>.defB (e.bb 6 16) fun a28=>.defB (e.bb 6 17) fun a29=>.defB (e.bb 6 18) fun a30=>.defB (e.bb 6 19) fun a31=>.defB (e.bb 6 20) fun a32=>.defB (e.bb 6 21) fun a33=>.defB (e.bb 6 22) fun a34=>.defB (e.bb 6 23) fun a35=>.defB (e.bb 6 24) fun
 a36=>.defI (e.bi 7 0) fun a37=>.defI (e.bi 7 1) fun a38=>.defI (e.bi 7 2) fun a39=>.defI (e.bi 7 3) fun a40=>.defI (e.bi 7 4) fun a41=>.defI (e.bi 7 5) fun a42=>.defI (e.bi 7 6) fun a43=>.defI (e.bi 7 7) fun a44=>.defI (e.bi 7 8) fun a45=>.defI (e.bi 7 9) fun a46=>.defI (e.bi 7 10) fun a47=>.defI (e.bi 7 11) fun a48=>.defI (e.bi 7 12) fun a49=>.defI (e.bi 7 13) fun a50=>.defB (e.bb 7 16) fun a51=>.defB (e.bb 7 17) fun a52=>.defI (e.bi 7 18) fun a53=>.defI (e.bi 7 19) fun a54=>.defI (e.bi 7 20) fun a55=>.defB (e.bb 7 21) fun a56=>.defB (e.bb 7 22) fun a57=>.defI ((e.ln 8):Int) fun a58=>.defI ((e.ln 9):Int) fun a59=>k a0 a1 a2 a3 a4 a5 a6 a7 a8 a9 a10 a11 a12 a13 a14 a15 a16 a17 a18 a19 a20 a21 a22 a23 a24 a25 a26 a27 a28 a29 a30 a31 a32 a33 a34 a35 a36 a37 a38 a39 a40 a41 a42 a43 a44 a45 a46 a47 a48 a49 a50 a51 a52 a53 a54 a55 a56 a57 a58 a59
noncomputable abbrev qRi3 (v0:Aj):ON:=.box [.b (v0.10 0),.b (v0.10 1),.b (v0.10 2),.b (v0.10 3),.b (v0.10 4),.b (v0.10 5),.b (v0.10 6),.b (v0.10 7),.b (v0.10 8),.b (v0.10 9),.b (v0.10 10),.b (v0.10 11),.b (v0.10 12),.b (v0.10 13),.b (v0.10 14),.b (v0.10 15),.b (v0.10 16),.b (v0.10 17),.b (v0.10 18),.b (v0.10 19),.b (v0.10 20),.b (v0.10 21),.b (v0.10 22),.b (v0.10 23),.b (v0.10 24)]
noncomputable abbrev qRi5 (v0:Aj):ON:=.box [.i v0.prom.1,.i v0.prom.2,.i v0.acc.1,.i v0.acc.2,.i v0.ainc.1,.i v0.ainc.2,.i v0.ainc.3]
noncomputable abbrev qRi6 (v0:Aj) (v1:BA):ON:=.box [.i v0.1,.i v1.want.1,.i v1.want.2,.i v1.want.3,.i v1.value.1,.i v1.value.2,.i v1.value.3,.i v1.best.1,.i v1.best.2,.i v1.best.3,.i v1.b.1,.i v1.b.2,.i v1.acc.1,.i v1.acc.2,.u,.u,.b v1.8,.b v1.9,.i v1.decided.1,.i v1.decided.2,.i v1.decided.3,.b v1.11,.b v1.12]
noncomputable abbrev qRi7 (v0:Aj):ON:=.box [.i v0.1,.u,.u,.u,.u,.i v0.8,.i v0.over.1,.i v0.over.2,.u]
noncomputable abbrev qRi8 (v0:Aj) (v1:EN) (v2:Inc):EN:=⟨[[.u]],[(qRi7 v0),.own (v1.dt 0),.tok,(qRi5 v0),.lst ((v0.6.length:Int)+1).toNat (AG BB (AO (.sym (v0.6.length:Int)) (AH BB (rowJ v0.wishes)) (AX 3 [.int .u8 (.sym v2.1),.int .u8 (.sym v2.2),.int .i64 (.sym v2.3)]))),.tok,(qRi3 v0)]⟩
noncomputable abbrev qRi4 (v0:Aj) (v1:BA) (v2:Dat):Ah (EN):=.must (BH Ai Ai) (.must (AW BB (AH BB (rowJ v0.wishes)) v0.6.length) (.must (AW [.i .u8] (AH [.i .u8] (AQ v1.6)) v1.6.length) (.must (AW [.i .u8] (AH [.i .u8] (AQ v1.7)) v1.7.length) (.leaf ⟨[[.u],[.i 210]],[(qRi7 v0),.own (hdW v2 v0.2),.tok,(qRi5 v0),.lst v0.6.length (AG BB (AH BB (rowJ v0.wishes))),.tok,(qRi3 v0),(qRi6 v0 v1),.lst v1.6.length (AQ v1.6),.lst v1.7.length (AQ v1.7),.tok,.tok]⟩))))
noncomputable abbrev qRi9 (v0:Aj) (v1:Dat):Ah (EN):=.must (BH Ai Ai) (.must (AW BB (AH BB (rowJ v0.wishes)) v0.6.length) (.leaf ⟨[[.u],[.i 210]],[(qRi7 v0),.own (hdW v1 v0.2),.tok,(qRi5 v0),.lst v0.6.length (AG BB (AH BB (rowJ v0.wishes))),.tok,(qRi3 v0)]⟩))
theorem wi0E (hd:Dat) (s:Aj) (x:Inc):(callW Try.prog (Am Try.prog riTb 300) 6 (wiT0.vals ⟨[[],incNm x],mn0 hd s⟩) (wiT0.heap ⟨[[],incNm x],mn0 hd s⟩) 7 (outV 7 wiR0)).cut [none,none,some true] =

  .defE ⟨[[.i x.1,.i x.2,.i x.3]],[]⟩ fun e0=>.ite (!incF (e0.ai 0 0) (e0.ai 0 1) (e0.ai 0 2)) (qRi9 s hd) (.ite (decide ((s.6.length:Int)≥5)) (qRi9 s hd) (.must (BH Ai Ai) (.defE ⟨[[.u]],[.own (hdW hd s.2),.tok]⟩ fun e1=>.defI (BN (e1.dt 0).2) fun z2=>.must (decide (z2≥60)) (.must (BH Ai Ai) (.must (AW BB (AH BB (rowJ s.wishes)) s.6.length) (.leaf ⟨[[.u],[.i 210]],[(qRi7 s),.own (e1.dt 0),.tok,(qRi5 s),.lst s.6.length (AG BB (AH BB (rowJ s.wishes))),.tok,(qRi3 s)]⟩)))))):=by kernel_rfl
theorem wi0N (hd:Dat) (s:Aj) (x:Inc):(callW Try.prog (Am Try.prog riTb 300) 6 (wiT0.vals ⟨[[],incNm x],mn0 hd s⟩) (wiT0.heap ⟨[[],incNm x],mn0 hd s⟩) 7 (outV 7 wiR0)).cut [some false,some false,some false,some true] =

  .defE ⟨[[.i x.1,.i x.2,.i x.3]],[]⟩ fun e0=>.must (!!incF (e0.ai 0 0) (e0.ai 0 1) (e0.ai 0 2)) (.must (!decide ((s.6.length:Int)≥5)) (.must (BH Ai Ai) (.defE ⟨[[.u]],[.own (hdW hd s.2),.tok]⟩ fun e1=>.defI (BN (e1.dt 0).2) fun z2=>.must (!decide (z2≥60)) (.must (decide (((s.6.length:Int)+1) * 16≤1099511627776∧(s.6.length:Int)+1≤1099511627776)) (.must (BH Ai Ai) (.must (AW BB (AO (.sym (s.6.length:Int)) (AH BB (rowJ s.wishes)) (AX 3 [.int .u8 (.sym x.1),.int .u8 (.sym x.2),.int .i64 (.sym x.3)])) ((s.6.length:Int)+1).toNat) (.defE (qRi8 s e1 x) fun e3=>.must (ok0 e3) (.must (bgE (mon0 e3)) (.defE (bg0N e3) fun e4=>qRi1 e4 fun z5 z6 z7 z8 z9 z10 z11 z12 z13 z14 z15 z16 z17 z18 z19 z20 z21 z22 z23 z24 z25 z26 z27 z28 z29 z30 z31 z32 z33 z34 z35 z36 z37 z38 z39 z40 z41=>.must (BH Ai Ai) (.must (AW BB ((AH BB (e4.rw 4))) z16.toNat) (.leaf ⟨[[.u],[.i 0]],[.box [.i z5,.u,.u,.u,.u,.i z6,.i z7,.i z8,.u],.own (e4.dt 1),.tok,.box [.i z9,.i z10,.i z11,.i z12,.i z13,.i z14,.i z15],.lst z16.toNat (AG BB (AH BB (e4.rw 4))),.tok,.box [.b z17,.b z18,.b z19,.b z20,.b z21,.b z22,.b z23,.b z24,.b z25,.b z26,.b z27,.b z28,.b z29,.b z30,.b z31,.b z32,.b z33,.b z34,.b z35,.b z36,.b z37,.b z38,.b z39,.b z40,.b z41]]⟩))))))))))):=by kernel_rfl
theorem wi0C (hd:Dat) (s:Aj) (x:Inc):(callW Try.prog (Am Try.prog riTb 300) 6 (wiT0.vals ⟨[[],incNm x],mn0 hd s⟩) (wiT0.heap ⟨[[],incNm x],mn0 hd s⟩) 7 (outV 7 wiN1)).cut [some false,some false,some false,some false] =

  .defE ⟨[[.i x.1,.i x.2,.i x.3]],[]⟩ fun e0=>.must (!!incF (e0.ai 0 0) (e0.ai 0 1) (e0.ai 0 2)) (.must (!decide ((s.6.length:Int)≥5)) (.must (BH Ai Ai) (.defE ⟨[[.u]],[.own (hdW hd s.2),.tok]⟩ fun e1=>.defI (BN (e1.dt 0).2) fun z2=>.must (!decide (z2≥60)) (.must (decide (((s.6.length:Int)+1) * 16≤1099511627776∧(s.6.length:Int)+1≤1099511627776)) (.must (BH Ai Ai) (.must (AW BB (AO (.sym (s.6.length:Int)) (AH BB (rowJ s.wishes)) (AX 3 [.int .u8 (.sym x.1),.int .u8 (.sym x.2),.int .i64 (.sym x.3)])) ((s.6.length:Int)+1).toNat) (.defE (qRi8 s e1 x) fun e3=>.must (ok0 e3) (.must (!bgE (mon0 e3)) (.defE (bg0C e3) fun e4=>qRi2 e4 fun z5 z6 z7 z8 z9 z10 z11 z12 z13 z14 z15 z16 z17 z18 z19 z20 z21 z22 z23 z24 z25 z26 z27 z28 z29 z30 z31 z32 z33 z34 z35 z36 z37 z38 z39 z40 z41 z42 z43 z44 z45 z46 z47 z48 z49 z50 z51 z52 z53 z54 z55 z56 z57 z58 z59 z60 z61 z62 z63 z64=>.must (BH Ai Ai) (.must (AW BB ((AH BB (e4.rw 4))) z16.toNat) (.must (AW [.i .u8] ((AH [.i .u8] (e4.rw 8))) z63.toNat) (.must (AW [.i .u8] ((AH [.i .u8] (e4.rw 9))) z64.toNat) (.leaf ⟨[[.u],[.i 0]],[.box [.i z5,.u,.u,.u,.u,.i z6,.i z7,.i z8,.u],.own (e4.dt 1),.tok,.box [.i z9,.i z10,.i z11,.i z12,.i z13,.i z14,.i z15],.lst z16.toNat (AG BB (AH BB (e4.rw 4))),.tok,.box [.b z17,.b z18,.b z19,.b z20,.b z21,.b z22,.b z23,.b z24,.b z25,.b z26,.b z27,.b z28,.b z29,.b
 z30,.b z31,.b z32,.b z33,.b z34,.b z35,.b z36,.b z37,.b z38,.b z39,.b z40,.b z41],.box [.i z42,.i z43,.i z44,.i z45,.i z46,.i z47,.i z48,.i z49,.i z50,.i z51,.i z52,.i z53,.i z54,.i z55,.u,.u,.b z56,.b z57,.i z58,.i z59,.i z60,.b z61,.b z62],.lst z63.toNat (AG [.i .u8] (AH [.i .u8] (e4.rw 8))),.lst z64.toNat (AG [.i .u8] (AH [.i .u8] (e4.rw 9))),.tok,.tok,.lst 2 (AG msgR fun (i:Nat)=>(mAV [.int .u8 (.sym (hdN (e4.rw 12 i)).I),.int .u8 (.sym (hdN (tlN (e4.rw 12 i))).I),.int .u8 (.sym (hdN (tlN (tlN (e4.rw 12 i)))).I),.int .u32 (.sym (hdN (tlN (tlN (tlN (e4.rw 12 i))))).I),.int .u32 (.sym (hdN (tlN (tlN (tlN (tlN (e4.rw 12 i)))))).I),.int .u8 (.sym (hdN (tlN (tlN (tlN (tlN (tlN (e4.rw 12 i))))))).I),.int .u32 (.sym (hdN (tlN (tlN (tlN (tlN (tlN (tlN (e4.rw 12 i)))))))).I),.int .u8 (.sym (hdN (tlN (tlN (tlN (tlN (tlN (tlN (tlN (e4.rw 12 i))))))))).I),.bool (.sym (hdN (tlN (tlN (tlN (tlN (tlN (tlN (tlN (tlN (e4.rw 12 i)))))))))).B),.int .u8 (.sym (hdN (tlN (tlN (tlN (tlN (tlN (tlN (tlN (tlN (tlN (e4.rw 12 i))))))))))).I),.int .u8 (.sym (hdN (tlN (tlN (tlN (tlN (tlN (tlN (tlN (tlN (tlN (tlN (e4.rw 12 i)))))))))))).I),.int .i64 (.sym (hdN (tlN (tlN (tlN (tlN (tlN (tlN (tlN (tlN (tlN (tlN (tlN (e4.rw 12 i))))))))))))).I)] (.int .u32 (.sym (hdN (tlN (tlN (tlN (tlN (tlN (tlN (tlN (tlN (tlN (tlN (tlN (tlN (tlN (tlN (tlN (tlN (tlN (tlN (tlN (tlN (tlN (tlN (tlN (tlN (tlN (tlN (tlN (tlN (tlN (tlN (tlN (tlN (tlN
 (tlN (tlN (tlN (tlN (tlN (tlN (tlN (tlN (tlN (tlN (tlN (tlN (tlN (tlN (tlN (tlN (tlN (tlN (tlN (tlN (tlN (tlN (tlN (tlN (tlN (tlN (tlN (tlN (tlN (tlN (tlN (tlN (tlN (tlN (tlN (tlN (tlN (tlN (tlN (tlN (tlN (tlN (tlN (tlN (tlN (tlN (tlN (tlN (tlN (tlN (tlN (tlN (tlN (tlN (tlN (tlN (tlN (tlN (tlN (tlN (tlN (tlN (tlN (tlN (tlN (tlN (tlN (tlN (tlN (tlN (tlN (tlN (tlN (tlN (tlN (tlN (tlN (tlN (tlN (tlN (tlN (tlN (tlN (tlN (tlN (tlN (tlN (tlN (tlN (e4.rw 12 i)))))))))))))))))))))))))))))))))))))))))))))))))))))))))))))))))))))))))))))))))))))))))))))))))))))))))))))))))))))))))))).I)))),.tok]⟩))))))))))))):=by kernel_rfl
theorem wi1E (hd:Dat) (s:Aj) (p:BA) (x:Inc):(callW Try.prog (Am Try.prog riTb 300) 6 (wiT1.vals ⟨[[],incNm x],mn1 hd s p⟩) (wiT1.heap ⟨[[],incNm x],mn1 hd s p⟩) 12 (outV 12 wiR1)).cut [none,none,some true] =

  .defE ⟨[[.i x.1,.i x.2,.i x.3]],[]⟩ fun e0=>.ite (!incF (e0.ai 0 0) (e0.ai 0 1) (e0.ai 0 2)) (qRi4 s p hd) (.ite (decide ((s.6.length:Int)≥5)) (qRi4 s p hd) (.must (BH Ai Ai) (.defE ⟨[[.u]],[.own (hdW hd s.2),.tok]⟩ fun e1=>.defI (BN (e1.dt 0).2) fun z2=>.must (decide (z2≥60)) (.must (BH Ai Ai) (.must (AW BB (AH BB (rowJ s.wishes)) s.6.length) (.must (AW [.i .u8] (AH [.i .u8] (AQ p.6)) p.6.length) (.must (AW [.i .u8] (AH [.i .u8] (AQ p.7)) p.7.length) (.leaf ⟨[[.u],[.i 210]],[(qRi7 s),.own (e1.dt 0),.tok,(qRi5 s),.lst s.6.length (AG BB (AH BB (rowJ s.wishes))),.tok,(qRi3 s),(qRi6 s p),.lst p.6.length (AQ p.6),.lst p.7.length (AQ p.7),.tok,.tok]⟩)))))))):=by kernel_rfl
theorem wi1N (hd:Dat) (s:Aj) (p:BA) (x:Inc):(callW Try.prog (Am Try.prog riTb 300) 6 (wiT1.vals ⟨[[],incNm x],mn1 hd s p⟩) (wiT1.heap ⟨[[],incNm x],mn1 hd s p⟩) 12 (outV 12 wiR1)).cut [some false,some false,some false] =

  .defE ⟨[[.i x.1,.i x.2,.i x.3]],[]⟩ fun e0=>.must (!!incF (e0.ai 0 0) (e0.ai 0 1) (e0.ai 0 2)) (.must (!decide ((s.6.length:Int)≥5)) (.must (BH Ai Ai) (.defE ⟨[[.u]],[.own (hdW hd s.2),.tok]⟩ fun e1=>.defI (BN (e1.dt 0).2) fun z2=>.must (!decide (z2≥60)) (.must (decide (((s.6.length:Int)+1) * 16≤1099511627776∧(s.6.length:Int)+1≤1099511627776)) (.must (BH Ai Ai) (.must (AW BB (AO (.sym (s.6.length:Int)) (AH BB (rowJ s.wishes)) (AX 3 [.int .u8 (.sym x.1),.int .u8 (.sym x.2),.int .i64 (.sym x.3)])) ((s.6.length:Int)+1).toNat) (.must (AW [.i .u8] (AH [.i .u8] (AQ p.6)) p.6.length) (.must (AW [.i .u8] (AH [.i .u8] (AQ p.7)) p.7.length) (.defE ⟨[[.u]],[(qRi7 s),.own (e1.dt 0),.tok,(qRi5 s),.lst ((s.6.length:Int)+1).toNat (AG BB (AO (.sym (s.6.length:Int)) (AH BB (rowJ s.wishes)) (AX 3 [.int .u8 (.sym x.1),.int .u8 (.sym x.2),.int .i64 (.sym x.3)]))),.tok,(qRi3 s),(qRi6 s p),.lst p.6.length (AQ p.6),.lst p.7.length (AQ p.7),.tok,.tok]⟩ fun e3=>.must (ok1 e3&&wOk e3) (.defE (bg1N e3) fun e4=>qRi2 e4 fun z5 z6 z7 z8 z9 z10 z11 z12 z13 z14 z15 z16 z17 z18 z19 z20 z21 z22 z23 z24 z25 z26 z27 z28 z29 z30 z31 z32 z33 z34 z35 z36 z37 z38 z39 z40 z41 z42 z43 z44 z45 z46 z47 z48 z49 z50 z51 z52 z53 z54 z55 z56 z57 z58 z59 z60 z61 z62 z63 z64=>.must (BH Ai Ai) (.must (AW BB ((AH BB (e4.rw 4))) z16.toNat) (.must (AW [.i .u8]
 ((AH [.i .u8] (e4.rw 8))) z63.toNat) (.must (AW [.i .u8] ((AH [.i .u8] (e4.rw 9))) z64.toNat) (.leaf ⟨[[.u],[.i 0]],[.box [.i z5,.u,.u,.u,.u,.i z6,.i z7,.i z8,.u],.own (e4.dt 1),.tok,.box [.i z9,.i z10,.i z11,.i z12,.i z13,.i z14,.i z15],.lst z16.toNat (AG BB (AH BB (e4.rw 4))),.tok,.box [.b z17,.b z18,.b z19,.b z20,.b z21,.b z22,.b z23,.b z24,.b z25,.b z26,.b z27,.b z28,.b z29,.b z30,.b z31,.b z32,.b z33,.b z34,.b z35,.b z36,.b z37,.b z38,.b z39,.b z40,.b z41],.box [.i z42,.i z43,.i z44,.i z45,.i z46,.i z47,.i z48,.i z49,.i z50,.i z51,.i z52,.i z53,.i z54,.i z55,.u,.u,.b z56,.b z57,.i z58,.i z59,.i z60,.b z61,.b z62],.lst z63.toNat (AG [.i .u8] (AH [.i .u8] (e4.rw 8))),.lst z64.toNat (AG [.i .u8] (AH [.i .u8] (e4.rw 9))),.tok,.tok]⟩)))))))))))))):=by kernel_rfl
theorem rows_appJ {l:List Inc} {x:Inc} {i:Nat} (h:i<l.length+1):eqvL BB (AG BB (AO (.sym (l.length:Int)) (AH BB (rowJ l)) (AX 3 [.int .u8 (.sym x.kind),.int .u8 (.sym x.osd),.int .i64 (.sym x.n)])) i) (rowJ (l++[x]) i):=by
  rw [rowNums_cat]
  have e0:(SI.sym (l.length:Int)).v.toNat=l.length:=by
    show ((l.length:Int)).toNat=l.length
    omega
  rw [e0]
  by_cases hi:i<l.length
  · rw [if_pos hi]
    have e:rowJ (l++[x]) i=rowJ l i:=by
      unfold rowJ
      rw [List.getD,List.getD,List.getElem?_append_left hi]
    rw [e]
    exact AF rfl _ i
  · rw [if_neg hi]
    have hi:i=l.length:=by omega
    subst hi
    have e:rowJ (l++[x]) l.length=incNm x:=by
      unfold rowJ
      rw [List.getD,List.getElem?_append_right (Nat.le_refl _),Nat.sub_self]
      rfl
    rw [e,Nat.sub_self]
    exact ⟨rfl,rfl,rfl,trivial⟩
theorem rowsB_appJ {l:List Inc} {x:Inc} {n:Nat} (h:n=l.length+1):AW BB (AO (.sym (l.length:Int)) (AH BB (rowJ l)) (AX 3 [.int .u8 (.sym x.kind),.int .u8 (.sym x.osd),.int .i64 (.sym x.n)])) n=true:=by
  refine rowsB_cat (fun i _=>rowOk_inst rfl _) fun i hi=>?_
  have e0:(SI.sym (l.length:Int)).v.toNat=l.length:=by
    show ((l.length:Int)).toNat=l.length
    omega
  have:i=0:=by omega
  subst this
  rfl
theorem appJ {l:List Inc} {x:Inc} : incsL ((l.length:Int)+1).toNat (AG BB (AO (.sym (l.length:Int)) (AH BB (rowJ l)) (AX 3 [.int .u8 (.sym x.kind),.int .u8 (.sym x.osd),.int .i64 (.sym x.n)])))=l++[x] :=
  incsL_rows (by simp <;> omega) fun i hi=>rows_appJ (by simpa using hi)
theorem wok_app {l:List Inc} {x:Inc} (hw:∀ y,y∈l→0≤y.osd) (hx:0≤x.osd):((l++[x]).all fun y=>decide (0≤y.osd))=true:=List.all_eq_true.2 fun y hy=>by
  rcases List.mem_append.1 hy with h | h
  · exact decide_eq_true (hw y h)
  · have:y=x:=by simpa using h
    rw [this]
    exact decide_eq_true hx
theorem ok0_ok {n b c:Int} {w:Bool} (h:0≤n∧n<3) (hb:0≤b) (hc:0≤c) (hw:w=true):(idOk n&&(decide (0≤b)&&(decide (0≤c)&&w)))=true:=by
  unfold idOk
  rw [decide_eq_true h,decide_eq_true hb,decide_eq_true hc,hw]
  rfl
set_option maxHeartbeats 1000000 in
theorem wi0_no (hd:Dat) (s:Aj) (x:Inc) (h:s.wishB x=false):BO Try.prog 6 wiT0 ⟨[[],incNm x],mn0 hd s⟩ wiR0 ⟨[[.u],[.i 210]],mn0 hd s⟩:=by
  have hi:=incF_eq x.kind x.osd x.n
  refine Aq riTab BE rfl (BI [none,none,some true] (AN (wi0E hd s x) (AJ (AM (fun h1=>?_) (fun h1=>AM (fun h2=>?_) (fun h2=>AA (AS _) (AJ (AB (AA ?_ ?_)))))))))
  · refine AA (AS _) (AA (Ad rfl _ _) (AE ?_))
    refine ⟨⟨trivial,rfl,trivial⟩,?_,rfl,trivial,?_,⟨rfl,fun i _=>AF rfl _ i⟩,trivial,?_,trivial⟩
    · exact clP
    · exact clP
    · exact clP
  · refine AA (AS _) (AA (Ad rfl _ _) (AE ?_))
    refine ⟨⟨trivial,rfl,trivial⟩,?_,rfl,trivial,?_,⟨rfl,fun i _=>AF rfl _ i⟩,trivial,?_,trivial⟩
    · exact clP
    · exact clP
    · exact clP
  · have h1:(!incF x.kind x.osd x.n)=false:=h1
    rw [hi] at h1
    have h2:=of_decide_eq_false h2
    unfold Aj.wishB at h
    have h1:incOk x=true:=by simpa using h1
    rw [h1,decide_eq_true (by omega:(s.wishes.length:Int)<5)] at h
    have h:=of_decide_eq_false h
    show decide (BN s.incs≥60)=true
    unfold Aj.last at h
    unfold BN
    exact decide_eq_true (by omega)
  · refine AA (AS _) (AA (Ad rfl _ _) (AE ?_))
    refine ⟨⟨trivial,rfl,trivial⟩,?_,rfl,trivial,?_,⟨rfl,fun i _=>AF rfl _ i⟩,trivial,?_,trivial⟩
    · exact clP
    · exact clP
    · exact clP
set_option maxHeartbeats 1000000 in
theorem wi1_no (hd:Dat) (s:Aj) (p:BA) (x:Inc) (h:s.wishB x=false):BO Try.prog 6 wiT1 ⟨[[],incNm x],mn1 hd s p⟩ wiR1 ⟨[[.u],[.i 210]],mn1 hd s p⟩:=by
  have hi:=incF_eq x.kind x.osd x.n
  refine Aq riTab BE rfl (BI [none,none,some true] (AN (wi1E hd s p x) (AJ (AM (fun h1=>?_) (fun h1=>AM (fun h2=>?_) (fun h2=>AA (AS _) (AJ (AB (AA ?_ ?_)))))))))
  · refine AA (AS _) (AA (Ad rfl _ _) (AA (AP _ _ _) (AA (AP _ _ _) (AE ?_))))
    refine ⟨⟨trivial,rfl,trivial⟩,?_,rfl,trivial,?_,⟨rfl,fun i _=>AF rfl _ i⟩,trivial,?_,?_,⟨rfl,fun i _=>AL [.i .u8] (AQ p.hp i)⟩,⟨rfl,fun i _=>AL [.i .u8] (AQ p.ha i)⟩,trivial,trivial,trivial⟩
    · exact clP
    · exact clP
    · exact clP
    · exact clP
  · refine AA (AS _) (AA (Ad rfl _ _) (AA (AP _ _ _) (AA (AP _ _ _) (AE ?_))))
    refine ⟨⟨trivial,rfl,trivial⟩,?_,rfl,trivial,?_,⟨rfl,fun i _=>AF rfl _ i⟩,trivial,?_,?_,⟨rfl,fun i _=>AL [.i .u8] (AQ p.hp i)⟩,⟨rfl,fun i _=>AL [.i .u8] (AQ p.ha i)⟩,trivial,trivial,trivial⟩
    · exact clP
    · exact clP
    · exact clP
    · exact clP
  · have h1:(!incF x.kind x.osd x.n)=false:=h1
    rw [hi] at h1
    have h2:=of_decide_eq_false h2
    unfold Aj.wishB at h
    have h1:incOk x=true:=by simpa using h1
    rw [h1,decide_eq_true (by omega:(s.wishes.length:Int)<5)] at h
    have h:=of_decide_eq_false h
    show decide (BN s.incs≥60)=true
    unfold Aj.last at h
    unfold BN
    exact decide_eq_true (by omega)
  · refine AA (AS _) (AA (Ad rfl _ _) (AA (AP _ _ _) (AA (AP _ _ _) (AE ?_))))
    refine ⟨⟨trivial,rfl,trivial⟩,?_,rfl,trivial,?_,⟨rfl,fun i _=>AF rfl _ i⟩,trivial,?_,?_,⟨rfl,fun i _=>AL [.i .u8] (AQ p.hp i)⟩,⟨rfl,fun i _=>AL [.i .u8] (AQ p.ha i)⟩,trivial,trivial,trivial⟩
    · exact clP
    · exact clP
    · exact clP
    · exact clP
theorem prop_rt (p:BA):({ p with hp:=Aw p.hp.length (AQ p.hp),ha:=Aw p.ha.length (AQ p.ha) } : BA)=p:=by
  rw [lstI_rowI,lstI_rowI]
theorem wishB_ok {s:Aj} {x:Inc} (h:s.wishB x=true):(!!incF x.kind x.osd x.n)=true∧(!decide ((s.wishes.length:Int)≥5))=true∧(!decide (BN s.incs≥60))=true:=by
  unfold Aj.wishB Aj.last at h
  simp only [Bool.and_eq_true,decide_eq_true_eq] at h
  obtain ⟨⟨h1,h2⟩,h3⟩:=h
  refine ⟨by rw [incF_eq]; rw [h1]; rfl,by rw [decide_eq_false (by omega)]; rfl,?_⟩
  unfold BN
  rw [decide_eq_false (by omega)]
  rfl
set_option maxHeartbeats 1000000 in
theorem wi0_N (hd : Dat) (s : Aj) (x : Inc) (h : s.wishB x = true) (hs : 0 ≤ s.id ∧ s.id < 3) (ho : 0 ≤ s.over.n) (ho2 : 0 ≤ s.prom.n) (hw : ∀ y, y ∈ s.wishes → 0 ≤ y.osd) (hx : 0 ≤ x.osd) (hr : ∀ i, 25 ≤ i → s.rep i = false) (hp : s.prop = none) (hb : bgE { s with wishes := s.wishes ++ [x] } = true) :
    BO Try.prog 6 wiT0 ⟨[[],incNm x],mn0 hd s⟩ wiR0 ⟨[[.u],[.i 0]],mn0 hd ({ s with wishes:=s.wishes++[x] } : Aj).begins.1⟩:=by
  obtain ⟨h1,h2,h4⟩:=wishB_ok h
  have h5:((s.wishes.length:Int)+1) * 16≤1099511627776∧(s.wishes.length:Int)+1≤1099511627776:=by
    have:¬ (s.wishes.length:Int)≥5:=by simpa using h2
    omega
  refine Aq riTab BE rfl (BI [some false,some false,some false,some true] (AN (wi0N hd s x) (AJ (AA h1 (AA h2 (AA (AS _) (AJ (AB (AA h4 (AA (decide_eq_true h5) (AA (AS _) (AA (rowsB_appJ (by omega)) (Ao fun e3 h3=>?_)))))))))))))
  have w3:incsL (e3.ln 4) (e3.rw 4)=s.wishes++[x]:=by
    rw [h3]
    exact appJ
  have r3:repOf e3=s.rep:=by
    rw [h3]
    exact rep25 hr
  have m3:mon0 e3 = { s with wishes:=s.wishes++[x] }:=by
    unfold mon0 monOf
    rw [w3,r3,h3,← hp]
    rfl
  have d3:e3.dt 1=hdW hd s.incs:=by rw [h3]; rfl
  have s3:bg0N e3=⟨[],mn0 hd ({ s with wishes:=s.wishes++[x] } : Aj).begins.1⟩:=by
    unfold bg0N
    rw [m3,d3]
    rfl
  refine AA (by
    have o3:ok0 e3=true:=by
      unfold ok0 wOk
      rw [w3,wok_app hw hx,h3]
      exact ok0_ok hs ho ho2 rfl
    exact o3) (AA (by rw [m3,hb]) ?_)
  rw [s3]
  generalize ({ s with wishes:=s.wishes++[x] } : Aj).begins=r
  clear s3 m3 r3 w3 d3 h3
  refine AJ ?_
  repeat' with_reducible (first | refine AB ?_ | refine AI ?_)
  refine AA (AS _) (AA (Ad rfl _ _) (AE ?_))
  refine ⟨⟨trivial,rfl,trivial⟩,?_,rfl,trivial,?_,⟨rfl,fun i _=>AF rfl _ i⟩,trivial,?_,trivial⟩
  · exact clP
  · exact clP
  · exact clP
set_option maxHeartbeats 1000000 in
theorem wi0_C (hd : Dat) (s : Aj) (x : Inc) (h : s.wishB x = true) (hs : 0 ≤ s.id ∧ s.id < 3) (ho : 0 ≤ s.over.n) (ho2 : 0 ≤ s.prom.n) (hw : ∀ y, y ∈ s.wishes → 0 ≤ y.osd) (hx : 0 ≤ x.osd) (hr : ∀ i, 25 ≤ i → s.rep i = false) (hp : s.prop = none) (hb : bgE { s with wishes := s.wishes ++ [x] } = false) :
    BO Try.prog 6 wiT0 ⟨[[],incNm x],mn0 hd s⟩ wiN1 ⟨[[.u],[.i 0]],mn1 hd ({ s with wishes:=s.wishes++[x] } : Aj).begins.1 (propD ({ s with wishes:=s.wishes++[x] } : Aj).begins.1)++[.lst 2 (rowM ({ s with wishes:=s.wishes++[x] } : Aj).begins.2),.tok]⟩:=by
  obtain ⟨h1,h2,h4⟩:=wishB_ok h
  have h5:((s.wishes.length:Int)+1) * 16≤1099511627776∧(s.wishes.length:Int)+1≤1099511627776:=by
    have:¬ (s.wishes.length:Int)≥5:=by simpa using h2
    omega
  refine Aq riTab BE rfl (BI [some false,some false,some false,some false] (AN (wi0C hd s x) (AJ (AA h1 (AA h2 (AA (AS _) (AJ (AB (AA h4 (AA (decide_eq_true h5) (AA (AS _) (AA (rowsB_appJ (by omega)) (Ao fun e3 h3=>?_)))))))))))))
  have w3:incsL (e3.ln 4) (e3.rw 4)=s.wishes++[x]:=by
    rw [h3]
    exact appJ
  have r3:repOf e3=s.rep:=by
    rw [h3]
    exact rep25 hr
  have m3:mon0 e3 = { s with wishes:=s.wishes++[x] }:=by
    unfold mon0 monOf
    rw [w3,r3,h3,← hp]
    rfl
  have d3:e3.dt 1=hdW hd s.incs:=by rw [h3]; rfl
  have s3:bg0C e3=⟨[],mn1 hd ({ s with wishes:=s.wishes++[x] } : Aj).begins.1 (propD ({ s with wishes:=s.wishes++[x] } : Aj).begins.1)++[.lst 2 (rowM ({ s with wishes:=s.wishes++[x] } : Aj).begins.2)]⟩:=by
    unfold bg0C
    rw [m3,d3]
    rfl
  refine AA (by
    have o3:ok0 e3=true:=by
      unfold ok0 wOk
      rw [w3,wok_app hw hx,h3]
      exact ok0_ok hs ho ho2 rfl
    exact o3) (AA (by rw [m3,hb]; rfl) ?_)
  rw [s3]
  generalize ({ s with wishes:=s.wishes++[x] } : Aj).begins=r
  clear s3 m3 r3 w3 d3 h3
  refine AJ ?_
  repeat' with_reducible (first | refine AB ?_ | refine AI ?_)
  refine AA (AS _) (AA (Ad rfl _ _) (AA (AP _ _ _) (AA (AP _ _ _) (AE ?_))))
  refine ⟨⟨trivial,rfl,trivial⟩,?_,rfl,trivial,?_,⟨rfl,fun i _=>AF rfl _ i⟩,trivial,?_,?_,⟨rfl,fun i _=>AF rfl _ i⟩,⟨rfl,fun i _=>AF rfl _ i⟩,trivial,trivial,⟨trivial,fun i _=>?_⟩,trivial,trivial⟩
  · exact clP
  · exact clP
  · exact clP
  · exact clP
  · exact rowsMsg _ i
set_option maxHeartbeats 1000000 in
theorem wi1_N (hd : Dat) (s : Aj) (p : BA) (x : Inc) (h : s.wishB x = true) (hs : 0 ≤ s.id ∧ s.id < 3) (ho : 0 ≤ s.over.n) (ho2 : 0 ≤ s.prom.n) (hw : ∀ y, y ∈ s.wishes → 0 ≤ y.osd) (hx : 0 ≤ x.osd) (hr : ∀ i, 25 ≤ i → s.rep i = false) (hp : s.prop = some p)  :
    BO Try.prog 6 wiT1 ⟨[[],incNm x],mn1 hd s p⟩ wiR1 ⟨[[.u],[.i 0]],mn1 hd ({ s with wishes:=s.wishes++[x] } : Aj).begins.1 (propD ({ s with wishes:=s.wishes++[x] } : Aj).begins.1)⟩:=by
  obtain ⟨h1,h2,h4⟩:=wishB_ok h
  have h5:((s.wishes.length:Int)+1) * 16≤1099511627776∧(s.wishes.length:Int)+1≤1099511627776:=by
    have:¬ (s.wishes.length:Int)≥5:=by simpa using h2
    omega
  refine Aq riTab BE rfl (BI [some false,some false,some false] (AN (wi1N hd s p x) (AJ (AA h1 (AA h2 (AA (AS _) (AJ (AB (AA h4 (AA (decide_eq_true h5) (AA (AS _) (AA (rowsB_appJ (by omega)) (AA (AP _ _ _) (AA (AP _ _ _) (Ao fun e3 h3=>?_)))))))))))))))
  have w3:incsL (e3.ln 4) (e3.rw 4)=s.wishes++[x]:=by
    rw [h3]
    exact appJ
  have r3:repOf e3=s.rep:=by
    rw [h3]
    exact rep25 hr
  have q3:propOf e3=p:=by rw [h3]; exact prop_rt p
  have m3:mon1 e3 = { s with wishes:=s.wishes++[x] }:=by
    unfold mon1 monOf
    rw [q3,w3,r3,h3,← hp]
    rfl
  have d3:e3.dt 1=hdW hd s.incs:=by rw [h3]; rfl
  have s3:bg1N e3=⟨[],mn1 hd ({ s with wishes:=s.wishes++[x] } : Aj).begins.1 (propD ({ s with wishes:=s.wishes++[x] } : Aj).begins.1)⟩:=by
    unfold bg1N
    rw [m3,d3]
    rfl
  refine AA (by
    have o3:(ok1 e3&&wOk e3)=true:=by
      unfold ok1 wOk
      rw [w3,wok_app hw hx,h3]
      exact (Bool.and_true _).trans (idOk_ok hs)
    exact o3) ?_
  rw [s3]
  generalize ({ s with wishes:=s.wishes++[x] } : Aj).begins=r
  clear s3 m3 r3 w3 d3 q3 h3
  refine AJ ?_
  repeat' with_reducible (first | refine AB ?_ | refine AI ?_)
  refine AA (AS _) (AA (Ad rfl _ _) (AA (AP _ _ _) (AA (AP _ _ _) (AE ?_))))
  refine ⟨⟨trivial,rfl,trivial⟩,?_,rfl,trivial,?_,⟨rfl,fun i _=>AF rfl _ i⟩,trivial,?_,?_,⟨rfl,fun i _=>AF rfl _ i⟩,⟨rfl,fun i _=>AF rfl _ i⟩,trivial,trivial,trivial⟩
  · exact clP
  · exact clP
  · exact clP
  · exact clP
end Go.Proofs.Ytddmgdclmkgpeaa
set_option linter.unusedSimpArgs false
set_option linter.unusedVariables false
namespace Go.Eng
open Go.RowKit
theorem Pack.ren {m m' r r' : Nat} {h : An} {l : List (Nat × Ag)} {φ : Nat → Nat} {blk : Nat} {fp : List Nat} {w : World} (hp : Pack m r h blk fp w) (hr : φ r' = r)
    (ho:∀ p∈l,p.1<m'∧∃ o',AK h (φ p.1)=some o'∧SameO noNil φ (· < m') o' p.2) (inj:∀ k k',k<m'→k'<m'→φ k=φ k'→k=k') (hno:NoRo (AK (Aa l))):Pack m' r' (Aa l) blk fp w:=by
  obtain ⟨E,hU,hb,hf,hn⟩:=hp
  have hR:ResetH noNil (· < m') φ h (Aa l):=by
    refine ⟨fun k o hk=>?_,fun k k' o o' hk hk' e=>inj k k' (ho _ (BP hk)).1 (ho _ (BP hk')).1 e⟩
    obtain ⟨h1,h2⟩:=ho _ (BP hk)
    exact ⟨h1,.inl h2⟩
  refine ⟨E.via φ,hR.relU (noNil_ok E) hU.here,?_,fun k o b hk hb=>?_,hno⟩
  · show E.blk (φ r')=blk
    rw [hr]; exact hb
  · obtain ⟨_,⟨o',q,s⟩ | ⟨z,_⟩⟩:=hR.obj k o hk
    · exact hf _ _ _ q (s.owns hb)
    · cases z
section
variable {P:Program}
theorem StdN.wide {f:FuncId} {m m' m2:Nat} {h h':List (Nat×Ag)} {args:List AV} {v:AV} (hm:m'≤m2) (H:StdN P f m h args m' h' v):StdN P f m h args m2 h' v:=by
  intro E w hU
  refine (H E w hU).mono ?_
  rintro e w' ⟨E1,rfl,h2,h3,h4⟩
  exact ⟨E1,rfl,h2,⟨fun k o hk=>Nat.lt_of_lt_of_le (h3.dom k o hk) hm,fun k o g hk hg=>Nat.lt_of_lt_of_le (h3.grp k o g hk hg) hm,fun E' hE=>h3.rel E' fun k hk=>hE k (Nat.lt_of_lt_of_le hk hm)⟩,h4⟩
end
end Go.Eng
set_option linter.unusedSimpArgs false
set_option linter.unusedVariables false
namespace Go.Proofs.Ytddmgdclmkgpeaa
open Go.Eng Go.RowKit Go.ChangeShapes Go.WideShapes
set_option maxRecDepth 100000
def BalB (b:Bal):Prop:=(0≤b.n∧b.n<4294967296)∧0≤b.who∧b.who<3
def AccOk (P A:Bal) (I:Inc):Prop:=(A.n=0∧A.who=0∧I.kind=0∧I.osd=0∧I.n=0)∨(0<A.n∧BalB A∧incOk I=true∧0≤I.osd∧P.less A=false)
def MKeep (d:Aj):Prop:=BalB d.prom∧AccOk d.prom d.acc d.ainc∧d.over.n<4294967296∧∀ p,d.prop=some p→p.b.n<4294967296
def MGood (d:Aj):Prop:=(0≤d.id∧d.id<3)∧(∀ x,x∈d.wishes→0≤x.osd)∧(∀ i,25≤i→d.rep i=false)∧0≤d.over.n∧0≤d.prom.n∧(∀ p,d.prop=some p→0≤p.b.n)∧MKeep d
def MonR (d:Dat) (blk:Nat) (fp:List Nat) (w:World):Prop:=MGood d∧((d.prop=none∧∃ hd,Pack 7 0 (Aa (instH mp0 (mn0 hd d))) blk fp w)∨∃ p,d.prop=some p∧∃ hd,Pack 12 0 (Aa (instH mp1 (mn1 hd d p))) blk fp w)
def nwH:List (Nat×TO):=[(0,.box [.i .u8,.ptr 1 0,.ptr 3 0,.sl 8,.ptr 10 0,.i .i64,.i .u32,.i .u8,.ptr 6 0]),(1,.ob 1 Ai 7),(7,.tok),(3,.box acB),(8,.lst none BB (some 9)),(9,.tok),(6,.box rpB),(10,.box [.i .u8,.i .u8,.i .u8,.i .i64,.i .u8,.i .u8,.i .i64,.i .u8,.i .u8,.i .i64,.i .u32,.i .u8,.i .u32,.i .u8,.sl 11,.sl 12,.b,.b,.i .u8,.i .u8,.i .i64,.b,.b]),(11,.lst none [.i .u8] (some 13)),(12,.lst none [.i .u8] (some 14)),(13,.tok),(14,.tok)]
theorem pk_post0 {hd:Dat} {s:Aj} {m:Nat} {blk:Nat} {fp:List Nat} {w:World} (hp:Pack m 0 (Aa (instH beH0 (mn0 hd s))) blk fp w):Pack 7 0 (Aa (instH mp0 (mn0 hd s))) blk fp w:=by
  refine Pack.ren (φ:=lkN [0,1,7,3,8,9,6]) hp rfl ?_ (fun k k' h1 h2 e=>distB_lk (L:=[0,1,7,3,8,9,6]) rfl h1 h2 e) (noRo_of rfl)
  refine List.forall_mem_cons.2 ⟨⟨Nat.le_of_ble_eq_true rfl,_,rfl,rfl,fun _ _=>rfl,Ax rfl⟩,List.forall_mem_cons.2 ⟨⟨Nat.le_of_ble_eq_true rfl,_,rfl,rfl,rfl,rfl,rfl,by decide,rfl⟩,List.forall_mem_cons.2 ⟨⟨Nat.le_of_ble_eq_true rfl,_,rfl,trivial⟩,List.forall_mem_cons.2 ⟨⟨Nat.le_of_ble_eq_true rfl,_,rfl,rfl,fun _ _=>rfl,Ax rfl⟩,List.forall_mem_cons.2 ⟨⟨Nat.le_of_ble_eq_true rfl,_,rfl,rfl,rfl,rfl,fun _ e=>by cases e; exact ⟨by decide,rfl⟩,fun _ _=>⟨rfl,rfl,fun _ _=>rfl,Ax rfl⟩⟩,List.forall_mem_cons.2 ⟨⟨Nat.le_of_ble_eq_true rfl,_,rfl,trivial⟩,List.forall_mem_cons.2 ⟨⟨Nat.le_of_ble_eq_true rfl,_,rfl,rfl,fun _ _=>rfl,Ax rfl⟩,fun _ h=>by cases h⟩⟩⟩⟩⟩⟩⟩
theorem pk_new1 {hd:Dat} {s:Aj} {p:BA} {m:Nat} {blk:Nat} {fp:List Nat} {w:World} (hp:Pack m 0 (Aa (instH nwH (mn1 hd s p))) blk fp w):Pack 12 0 (Aa (instH mp1 (mn1 hd s p))) blk fp w:=by
  refine Pack.ren (φ:=lkN [0,1,7,3,8,9,6,10,11,12,13,14]) hp rfl ?_ (fun k k' h1 h2 e=>distB_lk (L:=[0,1,7,3,8,9,6,10,11,12,13,14]) rfl h1 h2 e) (noRo_of rfl)
  refine List.forall_mem_cons.2 ⟨⟨Nat.le_of_ble_eq_true rfl,_,rfl,rfl,fun _ _=>rfl,Ax rfl⟩,List.forall_mem_cons.2 ⟨⟨Nat.le_of_ble_eq_true rfl,_,rfl,rfl,rfl,rfl,rfl,by decide,rfl⟩,List.forall_mem_cons.2 ⟨⟨Nat.le_of_ble_eq_true rfl,_,rfl,trivial⟩,List.forall_mem_cons.2 ⟨⟨Nat.le_of_ble_eq_true rfl,_,rfl,rfl,fun _ _=>rfl,Ax rfl⟩,List.forall_mem_cons.2 ⟨⟨Nat.le_of_ble_eq_true rfl,_,rfl,rfl,rfl,rfl,fun _ e=>by cases e; exact ⟨by decide,rfl⟩,fun _ _=>⟨rfl,rfl,fun _ _=>rfl,Ax rfl⟩⟩,List.forall_mem_cons.2 ⟨⟨Nat.le_of_ble_eq_true rfl,_,rfl,trivial⟩,List.forall_mem_cons.2 ⟨⟨Nat.le_of_ble_eq_true rfl,_,rfl,rfl,fun _ _=>rfl,Ax rfl⟩,List.forall_mem_cons.2 ⟨⟨Nat.le_of_ble_eq_true rfl,_,rfl,rfl,fun _ _=>rfl,Ax rfl⟩,List.forall_mem_cons.2 ⟨⟨Nat.le_of_ble_eq_true rfl,_,rfl,rfl,rfl,rfl,fun _ e=>by cases e; exact ⟨by decide,rfl⟩,fun _ _=>⟨rfl,rfl,fun _ _=>rfl,Ax rfl⟩⟩,List.forall_mem_cons.2 ⟨⟨Nat.le_of_ble_eq_true rfl,_,rfl,rfl,rfl,rfl,fun _ e=>by cases e; exact ⟨by decide,rfl⟩,fun _ _=>⟨rfl,rfl,fun _ _=>rfl,Ax rfl⟩⟩,List.forall_mem_cons.2 ⟨⟨Nat.le_of_ble_eq_true rfl,_,rfl,trivial⟩,List.forall_mem_cons.2 ⟨⟨Nat.le_of_ble_eq_true rfl,_,rfl,trivial⟩,fun _ h=>by cases h⟩⟩⟩⟩⟩⟩⟩⟩⟩⟩⟩⟩
theorem pk_post1 {hd:Dat} {s:Aj} {p:BA} {m:Nat} {blk:Nat} {fp:List Nat} {w:World} (hp:Pack m 0 (Aa (instH beH1 (mn1 hd s p))) blk fp w):Pack 12 0 (Aa (instH mp1 (mn1 hd s p))) blk fp w:=by
  refine Pack.ren (φ:=lkN [0,1,12,3,13,14,6,7,15,16,17,18]) hp rfl ?_ (fun k k' h1 h2 e=>distB_lk (L:=[0,1,12,3,13,14,6,7,15,16,17,18]) rfl h1 h2 e) (noRo_of rfl)
  refine List.forall_mem_cons.2 ⟨⟨Nat.le_of_ble_eq_true rfl,_,rfl,rfl,fun _ _=>rfl,Ax rfl⟩,List.forall_mem_cons.2 ⟨⟨Nat.le_of_ble_eq_true rfl,_,rfl,rfl,rfl,rfl,rfl,by decide,rfl⟩,List.forall_mem_cons.2 ⟨⟨Nat.le_of_ble_eq_true rfl,_,rfl,trivial⟩,List.forall_mem_cons.2 ⟨⟨Nat.le_of_ble_eq_true rfl,_,rfl,rfl,fun _ _=>rfl,Ax rfl⟩,List.forall_mem_cons.2 ⟨⟨Nat.le_of_ble_eq_true rfl,_,rfl,rfl,rfl,rfl,fun _ e=>by cases e; exact ⟨by decide,rfl⟩,fun _ _=>⟨rfl,rfl,fun _ _=>rfl,Ax rfl⟩⟩,List.forall_mem_cons.2 ⟨⟨Nat.le_of_ble_eq_true rfl,_,rfl,trivial⟩,List.forall_mem_cons.2 ⟨⟨Nat.le_of_ble_eq_true rfl,_,rfl,rfl,fun _ _=>rfl,Ax rfl⟩,List.forall_mem_cons.2 ⟨⟨Nat.le_of_ble_eq_true rfl,_,rfl,rfl,fun _ _=>rfl,Ax rfl⟩,List.forall_mem_cons.2 ⟨⟨Nat.le_of_ble_eq_true rfl,_,rfl,rfl,rfl,rfl,fun _ e=>by cases e; exact ⟨by decide,rfl⟩,fun _ _=>⟨rfl,rfl,fun _ _=>rfl,Ax rfl⟩⟩,List.forall_mem_cons.2 ⟨⟨Nat.le_of_ble_eq_true rfl,_,rfl,rfl,rfl,rfl,fun _ e=>by cases e; exact ⟨by decide,rfl⟩,fun _ _=>⟨rfl,rfl,fun _ _=>rfl,Ax rfl⟩⟩,List.forall_mem_cons.2 ⟨⟨Nat.le_of_ble_eq_true rfl,_,rfl,trivial⟩,List.forall_mem_cons.2 ⟨⟨Nat.le_of_ble_eq_true rfl,_,rfl,trivial⟩,fun _ h=>by cases h⟩⟩⟩⟩⟩⟩⟩⟩⟩⟩⟩⟩
end Go.Proofs.Ytddmgdclmkgpeaa
set_option linter.unusedSimpArgs false
set_option linter.unusedVariables false
namespace Go.Proofs.Ytddmgdclmkgpeaa
open Go.Eng Go.RowKit Go.ChangeShapes Go.WideShapes
set_option maxRecDepth 100000
def moP:List (Nat×TO):=[(0,.ob 2 MonR 1),(1,.tok)]
def woT:TS:=⟨[],[.one (.ptr 0 0),.agg BB],moP,2⟩
def woR:TS:=⟨[],[.one .nils,.one (.i .i64)],[(0,.ob 2 MonR 40),(40,.tok)],41⟩
def woN:TS:=⟨[],[.one (.sl 15),.one (.i .i64)],[(0,.ob 2 MonR 40),(40,.tok),(15,.lst (some 2) msgR (some 16)),(16,.tok)],41⟩
theorem std_mgood {f : FuncId} {m m' : Nat} {h h' : List (Nat × Ag)} {args : List AV} {v : AV} {d : Dat} {k g t : Nat} (h1 : AK (Aa h) k = some (.own t MonR d g)) (h2 : AK (Aa h) g = some .tok)
    (H:MGood d→StdN Try.prog f m h args m' h' v):StdN Try.prog f m h args m' h' v:=fun E w hU=>by
  have:=hU.here.obj k _ h1
  exact H (this h2 w (Nat.le_refl _) (fun _ _=>rfl)).1 E w hU
theorem mon_own0 {f : FuncId} {d d' : Dat} {args : List AV} {v : AV} {m1 : Nat} {rest : List (Nat × Ag)} (hp' : Dat → List (Nat × Ag)) (hd : d.prop = none) (ha : ∀ E E' : Env, E'.blk 0 = E.blk 0 → BJ E' args = BJ E args)
    (hv:∀ E E':Env,E'.blk 0=E.blk 0→(∀ k,7≤k→k<41→E'.blk k=E.blk k∧E'.hdr k=E.hdr k)→den E' v=den E v) (hm:m1≤40) (hfar:∀ p∈rest,farO 7 p) (hdist:∀ h,distB ((hp' h++rest).map (·.1))=true) (hr:0 ∉ rest.map (·.1)) (hvk:(keysOf v).all (Nat.blt · 40)=true)
    (hgr:∀ p∈rest,∀ g,p.2.grp=some g→g∈rest.map (·.1)) (hno:∀ h,∀ p∈hp' h,∀ len sz rows,p.2 ≠ .lst len sz rows none) (hR:∀ h blk fp w,Pack 40 0 (Aa (hp' h)) blk fp w→MonR d' blk fp w)
    (H:∀ h,StdN Try.prog f 7 (instH mp0 (mn0 h d)) args m1 (hp' h++rest) v):StdN Try.prog f 2 [(0,.own 2 MonR d 1),(1,.tok)] args 41 ((0,.own 2 MonR d' 40)::(40,.tok)::rest) v:=by
  refine StdN.reveal (n:=0) (q:=7) (Ls:=[]) (L:=[]) (J:=Dat) (argsi:=args) (fun h=>instH mp0 (mn0 h d)) (by decide) (fun blk fp w h=>?_) (fun i o h=>by cases h) (fun E E' h _=>ha E E' h) ?_ (by decide) (fun E E' h h2=>hv E E' h h2) fun j=>?_
  · rcases h.2 with ⟨_,h,hp⟩ | ⟨p,hp,_⟩
    · exact ⟨h,hp⟩
    · rw [hd] at hp
      cases hp
  · refine List.forall_mem_cons.2 ⟨⟨.inl rfl,by decide⟩,List.forall_mem_cons.2 ⟨(by decide:7+0≤40),hfar⟩⟩
  · rw [List.append_nil]
    exact StdN.conceal (StdN.wide hm (H j)) (by decide) (hdist j) (by decide) hr hvk hgr (hno j) (hR j)
theorem mon_own1 {f : FuncId} {d d' : Dat} {p : BA} {args : List AV} {v : AV} {m1 : Nat} {rest : List (Nat × Ag)} (hp' : Dat → List (Nat × Ag)) (hd : d.prop = some p) (ha : ∀ E E' : Env, E'.blk 0 = E.blk 0 → BJ E' args = BJ E args)
    (hv:∀ E E':Env,E'.blk 0=E.blk 0→(∀ k,12≤k→k<41→E'.blk k=E.blk k∧E'.hdr k=E.hdr k)→den E' v=den E v) (hm:m1≤40) (hfar:∀ p∈rest,farO 12 p) (hdist:∀ h,distB ((hp' h++rest).map (·.1))=true) (hr:0 ∉ rest.map (·.1)) (hvk:(keysOf v).all (Nat.blt · 40)=true)
    (hgr:∀ p∈rest,∀ g,p.2.grp=some g→g∈rest.map (·.1)) (hno:∀ h,∀ p∈hp' h,∀ len sz rows,p.2 ≠ .lst len sz rows none) (hm12:12≤m1) (hR:∀ h blk fp w,Pack 40 0 (Aa (hp' h)) blk fp w→MonR d' blk fp w)
    (H:∀ h,StdN Try.prog f 12 (instH mp1 (mn1 h d p)) args m1 (hp' h++rest) v):StdN Try.prog f 2 [(0,.own 2 MonR d 1),(1,.tok)] args 41 ((0,.own 2 MonR d' 40)::(40,.tok)::rest) v:=by
  refine StdN.reveal (n:=0) (q:=12) (Ls:=[]) (L:=[]) (J:=Dat) (argsi:=args) (fun h=>instH mp1 (mn1 h d p)) (by decide) (fun blk fp w h=>?_) (fun i o h=>by cases h) (fun E E' h _=>ha E E' h) ?_ (by decide) (fun E E' h h2=>hv E E' h h2) fun j=>?_
  · rcases h.2 with ⟨hn,_⟩ | ⟨q,hq,h,hp⟩
    · rw [hd] at hn
      cases hn
    · rw [hd] at hq
      cases hq
      exact ⟨h,hp⟩
  · refine List.forall_mem_cons.2 ⟨⟨.inl rfl,by decide⟩,List.forall_mem_cons.2 ⟨(by decide:12+0≤40),hfar⟩⟩
  · rw [List.append_nil]
    exact StdN.conceal (StdN.wide hm (H j)) (by decide) (hdist j) (by decide) hr hvk hgr (hno j) (hR j)
theorem nextN_ge {n:Int} (h:0≤n):0≤nextN n:=by
  unfold nextN
  split <;> omega
theorem maxI_ge {a b:Int} (h:0≤a) (h':0≤b):0≤maxI a b:=by
  unfold maxI
  split <;> omega
theorem promise_b (p:BA) (f:Int) (b a:Bal) (x:Inc) (h:Bool):(p.promise f b a x h).1.b=p.b:=by
  unfold BA.promise
  split
  · rfl
  · dsimp only
    split <;> split <;> rfl
theorem nextN_lt {n:Int} (h:n<4294967296):nextN n<4294967296:=by
  unfold nextN
  split
  · rename_i h1
    have:=of_decide_eq_true h1
    omega
  · exact h
theorem maxI_lt {a b c:Int} (h:a<c) (h':b<c):maxI a b<c:=by
  unfold maxI
  split <;> omega
theorem less_def (a b:Bal):a.less b=false↔¬ (a.n<b.n∨(a.n=b.n∧a.who<b.who)):=by
  unfold Bal.less
  simp
theorem less_through {a b c:Bal} (h:a.less b=false) (h':b.less c=false):a.less c=false:=by
  rw [less_def] at *
  omega
theorem acc_up {P Q A:Bal} {I:Inc} (h:AccOk P A I) (hq:Q.less P=false):AccOk Q A I:=by
  rcases h with h | ⟨h1,h2,h3,h4,h5⟩
  · exact .inl h
  · exact .inr ⟨h1,h2,h3,h4,less_through hq h5⟩
theorem mgood_starts {s:Aj} (h:MGood s) (p:BA) (hp:0≤p.b.n∧p.b.n<4294967296):MGood (s.starts p).1:=by
  obtain ⟨h1,h2,h3,h4,h5,_,k1,k2,k3,_⟩:=h
  have ho:0≤(overB s).n∧(overB s).n<4294967296:=by
    unfold overB
    split
    · exact ⟨h4,k3⟩
    · exact k1.1
  have hq:0≤(p.start s.id (overB s)).b.n:=nextN_ge (maxI_ge hp.1 ho.1)
  have hq2:(p.start s.id (overB s)).b.n<4294967296:=nextN_lt (maxI_lt hp.2 ho.2)
  rw [starts_eq]
  split
  · rename_i hpr
    have hlt:(p.start s.id (overB s)).b.less s.prom=false:=by
      unfold prepB at hpr
      simp only [Bool.and_eq_true,Bool.not_eq_true'] at hpr
      exact hpr.2
    exact ⟨h1,h2,h3,h4,hq,fun q e=>by cases e; rw [promise_b]; exact hq,⟨⟨⟨hq,hq2⟩,h1.1,h1.2⟩,acc_up k2 hlt,k3,fun q e=>by cases e; rw [promise_b]; exact hq2⟩⟩
  · exact ⟨h1,h2,h3,h4,h5,fun q e=>by cases e; exact hq,k1,k2,k3,fun q e=>by cases e; exact hq2⟩
theorem mem_dropW {s:Aj} {l:List Inc} {x:Inc} (h:x∈dropW s l):x∈l:=List.dropWhile_sublist _ |>.subset h
theorem mgood_begins {s:Aj} (h:MGood s):MGood s.begins.1:=by
  obtain ⟨h1,h2,h3,h4,h5,h6,k1,k2,k3,k4⟩:=h
  cases hp:s.prop with
  | some p =>
    rw [begins_some hp]
    exact ⟨h1,fun x hx=>h2 x (mem_dropW hx),h3,h4,h5,fun q e=>h6 q e,k1,k2,k3,fun q e=>k4 q e⟩
  | none =>
    cases hd:dropW s s.wishes with
    | nil =>
      rw [begins_nil hd]
      exact ⟨h1,fun x hx=>(by cases hx),h3,h4,h5,fun q e=>h6 q e,k1,k2,k3,fun q e=>k4 q e⟩
    | cons x l =>
      rw [begins_cons hp hd]
      exact mgood_starts (s:={ s with wishes:=x::l }) ⟨h1,fun y hy=>h2 y (by have hy:y∈x::l:=hy; rw [← hd] at hy; exact mem_dropW hy),h3,h4,h5,fun q e=>h6 q e,k1,k2,k3,fun q e=>k4 q e⟩ _ ⟨Int.le_refl 0,(by decide:(0:Int)<4294967296)⟩
theorem mgood_wish {s:Aj} (h:MGood s) {x:Inc} (hx:0≤x.osd):MGood { s with wishes:=s.wishes++[x] }:=by
  obtain ⟨h1,h2,h3,h4,h5,h6,k1,k2,k3,k4⟩:=h
  refine ⟨h1,fun y hy=>?_,h3,h4,h5,h6,k1,k2,k3,k4⟩
  rcases List.mem_append.1 hy with hy | hy
  · exact h2 y hy
  · have:y=x:=by simpa using hy
    rw [this]
    exact hx
theorem begins_prop {s:Aj} (hp:s.prop=none) (h:bgE s=true):s.begins.1.prop=none:=by
  unfold bgE at h
  rw [begins_nil (by simpa using h)]
  exact hp
theorem starts_some (s:Aj) (p:BA):(s.starts p).1.prop=some (propD (s.starts p).1):=by
  rw [starts_eq]
  split <;> rfl
theorem begins_propS {s:Aj} (hp:s.prop=none) (h:bgE s=false):s.begins.1.prop=some (propD s.begins.1):=by
  unfold bgE at h
  cases hd:dropW s s.wishes with
  | nil=>rw [hd] at h; cases h
  | cons x l =>
    rw [begins_cons hp hd]
    exact starts_some _ _
theorem begins_propP {s:Aj} {p:BA} (hp:s.prop=some p):s.begins.1.prop=some p∧propD s.begins.1=p:=by
  rw [begins_some hp]
  exact ⟨hp,by unfold propD; rw [hp]; rfl⟩
def noRoL:List (Nat×Ag)→Bool
  | []=>true
  | (_,.lst _ _ _ none)::_=>false
  | _::l=>noRoL l
theorem noRo_list:∀ {l:List (Nat×Ag)},noRoL l=true→∀ p∈l,∀ len sz rows,p.2 ≠ .lst len sz rows none
  | [],_,_,h=>by cases h
  | (k,o)::l,hb,p,hp=>fun len sz rows e=>by
    have h2:noRoL l=true∧∀ len sz rows,o ≠ .lst len sz rows none:=by
      cases o with
      | lst a b c g =>
        cases g with
        | none=>cases hb
        | some g=>exact ⟨hb,fun _ _ _ e=>by cases e⟩
      | _=>exact ⟨hb,fun _ _ _ e=>by cases e⟩
    rcases List.mem_cons.1 hp with rfl | hp
    · exact h2.2 _ _ _ e
    · exact noRo_list h2.1 p hp len sz rows e
end Go.Proofs.Ytddmgdclmkgpeaa
set_option linter.unusedSimpArgs false
set_option linter.unusedVariables false
namespace Go.Proofs.Ytddmgdclmkgpeaa
open Go.Eng Go.RowKit Go.ChangeShapes Go.WideShapes
set_option maxRecDepth 100000
noncomputable def rlSm:List (FuncId×Summ):=[(13,Ab nilT cNe)]
noncomputable def rlTb:Tab:=smTab (tabOf rlSm)
def mwT:TS:=⟨[],[.one (.i .u8)],[],0⟩
def mwR:TS:=⟨[],[.one (.ptr 0 0)],mp0,7⟩
def ioT:TS:=⟨[],[.one (.ptr 0 0)],moP,2⟩
def noR:TS:=⟨[],[.one (.ptr 0 0)],[(0,.ob 2 MonR 40),(40,.tok)],41⟩
theorem rlSm_ok:AllOk Try.prog rlSm:=⟨cNe_ok,trivial⟩
theorem rlTab:TabAll Try.prog rlTb:=tab_ok rlSm_ok
theorem mw_t (n:Int):callW Try.prog (Am Try.prog rlTb 300) 5 (mwT.vals ⟨[[.i n]],[]⟩) (mwT.heap ⟨[[.i n]],[]⟩) 0 (outV 0 mwR) =
  .defI (bif decide (2<n) then 2 else n) fun z0=>.defE ⟨[],[]⟩ fun e1=>.must (BH Ai Ai) (.leaf ⟨[[.u]],[.box [.i z0,.u,.u,.u,.u,.i 0,.i 0,.i 0,.u],.own hNew,.tok,.box [.i 0,.i 0,.i 0,.i 0,.i
  0,.i 0,.i 0],.lst 0 fun (x:Nat)=>[],.tok,.box [.b false,.b false,.b false,.b false,.b false,.b false,.b false,.b false,.b false,.b false,.b false,.b false,.b false,.b false,.b false,.b false,.b
  false,.b false,.b false,.b false,.b false,.b false,.b false,.b false,.b false]]⟩):=by kernel_rfl
theorem pk_same0 {hd:Dat} {s:Aj} {m:Nat} {blk:Nat} {fp:List Nat} {w:World} (hp:Pack m 0 (Aa (instH mp0 (mn0 hd s))) blk fp w):Pack 7 0 (Aa (instH mp0 (mn0 hd s))) blk fp w:=by
  refine Pack.ren (φ:=lkN [0,1,2,3,4,5,6]) hp rfl ?_ (fun k k' h1 h2 e=>distB_lk (L:=[0,1,2,3,4,5,6]) rfl h1 h2 e) (noRo_of rfl)
  refine List.forall_mem_cons.2 ⟨⟨Nat.le_of_ble_eq_true rfl,_,rfl,rfl,fun _ _=>rfl,Ax rfl⟩,List.forall_mem_cons.2 ⟨⟨Nat.le_of_ble_eq_true rfl,_,rfl,rfl,rfl,rfl,rfl,by decide,rfl⟩,List.forall_mem_cons.2 ⟨⟨Nat.le_of_ble_eq_true rfl,_,rfl,trivial⟩,List.forall_mem_cons.2 ⟨⟨Nat.le_of_ble_eq_true rfl,_,rfl,rfl,fun _ _=>rfl,Ax rfl⟩,List.forall_mem_cons.2 ⟨⟨Nat.le_of_ble_eq_true rfl,_,rfl,rfl,rfl,rfl,fun _ e=>by cases e; exact ⟨by decide,rfl⟩,fun _ _=>⟨rfl,rfl,fun _ _=>rfl,Ax rfl⟩⟩,List.forall_mem_cons.2 ⟨⟨Nat.le_of_ble_eq_true rfl,_,rfl,trivial⟩,List.forall_mem_cons.2 ⟨⟨Nat.le_of_ble_eq_true rfl,_,rfl,rfl,fun _ _=>rfl,Ax rfl⟩,fun _ h=>by cases h⟩⟩⟩⟩⟩⟩⟩
theorem mgood_new {n:Int} (h:0≤n):MGood (Aj.new n):=by
  refine ⟨?_,fun x hx=>(by cases hx),fun _ _=>rfl,Int.le_refl 0,Int.le_refl 0,fun p e=>(by cases e),⟨⟨Int.le_refl 0,(by decide:(0:Int)<4294967296)⟩,Int.le_refl 0,(by decide:(0:Int)<3)⟩,.inl ⟨rfl,rfl,rfl,rfl,rfl⟩,(by decide:(0:Int)<4294967296),fun p e=>(by cases e)⟩
  show 0≤(match decide (2<n) with | true=>2 | false=>n)∧(match decide (2<n) with | true=>2 | false=>n)<3
  cases hd:decide (2<n) with
  | true=>exact ⟨(by decide:(0:Int)≤2),(by decide:(2:Int)<3)⟩
  | false =>
    have hd:=of_decide_eq_false hd
    exact ⟨h,(by omega:n<3)⟩
theorem mw_std (n:Int):BO Try.prog 5 mwT ⟨[[.i n]],[]⟩ mwR ⟨[[.u]],mn0 default (Aj.new n)⟩:=by
  refine Aq rlTab BE rfl (AN (mw_t n) (Ac fun z0 hz=>AJ (AA (AS _) (AE ?_))))
  have hz:z0=(Aj.new n).id:=by
    rw [hz]
    show _=(match decide (2<n) with | true=>2 | false=>n)
    cases decide (2<n) <;> rfl
  refine ⟨⟨trivial,trivial⟩,?_,rfl,trivial,?_,⟨rfl,fun i hi=>?_⟩,trivial,?_,trivial⟩
  · exact ⟨hz,trivial,trivial,trivial,trivial,rfl,rfl,rfl,trivial,trivial⟩
  · exact clP
  · have hi:(i:Int)<0:=hi
    omega
  · exact clP
end Go.Proofs.Ytddmgdclmkgpeaa
set_option linter.unusedSimpArgs false
set_option linter.unusedVariables false
namespace Go.Proofs.Ytddmgdclmkgpeaa
open Go.Eng Go.RowKit Go.ChangeShapes Go.WideShapes
set_option maxRecDepth 100000
def bp4T:TS:=⟨[],[.one (.sl 0),.one (.i .u64),.one (.il .i64 4)],[(0,.lst none [.i .u8] (some 1)),(1,.tok)],2⟩
def bp8T:TS:=⟨[],[.one (.sl 0),.one (.i .u64),.one (.il .i64 8)],[(0,.lst none [.i .u8] (some 1)),(1,.tok)],2⟩
def bpR:TS:=⟨[],[.one (.sl 2)],[(2,.lst none [.i .u8] (some 3)),(3,.tok)],4⟩
def biT:TS:=⟨[],[.one (.sl 0),.agg BB],[(0,.lst none [.i .u8] (some 1)),(1,.tok)],2⟩
def byN (l:List Int):List ON:=[.lst l.length (AQ l),.tok]
def suT:TS:=⟨[],[.one (.sl 0)],[(0,.lst none [.i .u8] none)],1⟩
def suL:TS:=⟨[3,6,7,8],[.one (.i .u64),.one (.sl 0),.one (.i .i64),.one (.i .i64)],[(0,.lst none [.i .u8] none)],1⟩
def suE:TS:=⟨[3],[.one (.i .u64)],[],1⟩
def suR:TS:=⟨[2],[.one (.i .u64)],[],1⟩
theorem bp4_t (l:List Int) (n:Int):callW Try.prog (Am Try.prog noTab 300) 30 (bp4T.vals ⟨[[],[.i n],[]],byN l⟩) (bp4T.heap ⟨[[],[.i n],[]],byN l⟩) 2 (outV 2 bpR) =
  .defI (n.fdiv 16777216) fun z0=>.defI (IntKind.u8.wrap z0) fun z1=>.must (decide (((l.length:Int)+1) * 1≤1099511627776∧(l.length:Int)+1≤1099511627776)) (.defI (n.fdiv 65536) fun z2=>.defI
  (IntKind.u8.wrap z2) fun z3=>.must (decide (((l.length:Int)+1+1) * 1≤1099511627776∧(l.length:Int)+1+1≤1099511627776)) (.defI (n.fdiv 256) fun z4=>.defI (IntKind.u8.wrap z4) fun z5=>.must (decide
  (((l.length:Int)+1+1+1) * 1≤1099511627776∧(l.length:Int)+1+1+1≤1099511627776)) (.defI (n.fdiv 1) fun z6=>.defI (IntKind.u8.wrap z6) fun z7=>.must (decide (((l.length:Int)+1+1+1+1) * 1
  ≤ 1099511627776∧(l.length:Int)+1+1+1+1≤1099511627776)) (.must (AW [.i .u8] (AO (.sym ((l.length:Int)+1+1+1)) (AO (.sym ((l.length:Int)+1+1)) (AO (.sym ((l.length:Int)+1))
  (AO (.sym (l.length:Int)) (AH [.i .u8] (AQ l)) (AX 1 [.int .u8 (.sym z1)])) (AX 1 [.int .u8 (.sym z3)])) (AX 1 [.int .u8 (.sym z5)])) (AX 1 [.int .u8 (.sym z7)])) ((l.length:Int)+1+1+1 +
  1).toNat) (.leaf ⟨[[.u]],[.lst ((l.length:Int)+1+1+1+1).toNat (AG [.i .u8] (AO (.sym ((l.length:Int)+1+1+1)) (AO (.sym ((l.length:Int)+1+1)) (AO (.sym ((l.length:Int)+1))
  (AO (.sym (l.length:Int)) (AH [.i .u8] (AQ l)) (AX 1 [.int .u8 (.sym z1)])) (AX 1 [.int .u8 (.sym z3)])) (AX 1 [.int .u8 (.sym z5)])) (AX 1 [.int .u8 (.sym z7)]))),.tok]⟩))))):=by kernel_rfl
theorem bp8_t (l:List Int) (n:Int):callW Try.prog (Am Try.prog noTab 300) 30 (bp8T.vals ⟨[[],[.i n],[]],byN l⟩) (bp8T.heap ⟨[[],[.i n],[]],byN l⟩) 2 (outV 2 bpR) =
  .defI (n.fdiv 72057594037927936) fun z0=>.defI (IntKind.u8.wrap z0) fun z1=>.must (decide (((l.length:Int)+1) * 1≤1099511627776∧(l.length:Int)+1≤1099511627776)) (.defI (n.fdiv 281474976710656) fun z2 =>
  .defI (IntKind.u8.wrap z2) fun z3=>.must (decide (((l.length:Int)+1+1) * 1≤1099511627776∧(l.length:Int)+1+1≤1099511627776)) (.defI (n.fdiv 1099511627776) fun z4=>.defI (IntKind.u8.wrap z4) fun z5 =>
  .must (decide (((l.length:Int)+1+1+1) * 1≤1099511627776∧(l.length:Int)+1+1+1≤1099511627776)) (.defI (n.fdiv 4294967296) fun z6=>.defI (IntKind.u8.wrap z6) fun z7=>.must (decide (((l.length :
  Int)+1+1+1+1) * 1≤1099511627776∧(l.length:Int)+1+1+1+1≤1099511627776)) (.defI (n.fdiv 16777216) fun z8=>.defI (IntKind.u8.wrap z8) fun z9=>.must (decide (((l.length:Int)+1+1+1+1+1)
  * 1≤1099511627776∧(l.length:Int)+1+1+1+1+1≤1099511627776)) (.defI (n.fdiv 65536) fun z10=>.defI (IntKind.u8.wrap z10) fun z11=>.must (decide (((l.length:Int)+1+1+1+1+1+1) * 1 ≤
  1099511627776∧(l.length:Int)+1+1+1+1+1+1≤1099511627776)) (.defI (n.fdiv 256) fun z12=>.defI (IntKind.u8.wrap z12) fun z13=>.must (decide (((l.length:Int)+1+1+1+1+1+1+1) * 1 ≤
  1099511627776∧(l.length:Int)+1+1+1+1+1+1+1≤1099511627776)) (.defI (n.fdiv 1) fun z14=>.defI (IntKind.u8.wrap z14) fun z15=>.must (decide (((l.length:Int)+1+1+1+1+1+1+1+1) * 1 ≤
  1099511627776∧(l.length:Int)+1+1+1+1+1+1+1+1≤1099511627776)) (.must (AW [.i .u8] (AO (.sym ((l.length:Int)+1+1+1+1+1+1+1)) (AO (.sym ((l.length:Int)+1+1+1+1 +
  1+1)) (AO (.sym ((l.length:Int)+1+1+1+1+1)) (AO (.sym ((l.length:Int)+1+1+1+1)) (AO (.sym ((l.length:Int)+1+1+1)) (AO (.sym ((l.length:Int)+1+1)) (AO (.sym
  ((l.length:Int)+1)) (AO (.sym (l.length:Int)) (AH [.i .u8] (AQ l)) (AX 1 [.int .u8 (.sym z1)])) (AX 1 [.int .u8 (.sym z3)])) (AX 1 [.int .u8 (.sym z5)])) (AX 1 [.int .u8 (.sym z7)])) (AX 1
  [.int .u8 (.sym z9)])) (AX 1 [.int .u8 (.sym z11)])) (AX 1 [.int .u8 (.sym z13)])) (AX 1 [.int .u8 (.sym z15)])) ((l.length:Int)+1+1+1+1+1+1+1+1).toNat) (.leaf ⟨[[.u]],[.lst ((l.length:Int)
  + 1+1+1+1+1+1+1+1).toNat (AG [.i .u8] (AO (.sym ((l.length:Int)+1+1+1+1+1+1+1)) (AO (.sym ((l.length:Int)+1+1+1+1+1+1)) (AO (.sym ((l.length:Int)+1+1
  + 1+1+1)) (AO (.sym ((l.length:Int)+1+1+1+1)) (AO (.sym ((l.length:Int)+1+1+1)) (AO (.sym ((l.length:Int)+1+1)) (AO (.sym ((l.length:Int)+1)) (AO (.sym (l.length :
  Int)) (AH [.i .u8] (AQ l)) (AX 1 [.int .u8 (.sym z1)])) (AX 1 [.int .u8 (.sym z3)])) (AX 1 [.int .u8 (.sym z5)])) (AX 1 [.int .u8 (.sym z7)])) (AX 1 [.int .u8 (.sym z9)])) (AX 1 [.int .u8 (.sym
  z11)])) (AX 1 [.int .u8 (.sym z13)])) (AX 1 [.int .u8 (.sym z15)]))),.tok]⟩))))))))):=by kernel_rfl
theorem bi_t (l:List Int) (x:Inc):callW Try.prog (Am Try.prog noTab 300) 26 (biT.vals ⟨[[],incNm x],byN l⟩) (biT.heap ⟨[[],incNm x],byN l⟩) 2 (outV 2 bpR) =
  .defI (IntKind.u8.wrap x.3) fun z0=>.must (decide (((l.length:Int)+3) * 1≤1099511627776∧(l.length:Int)+3≤1099511627776)) (.must (AW [.i .u8] (AO (.sym (l.length:Int)) (AH [.i .u8] (AQ l))
  (AX 1 [.int .u8 (.sym x.1),.int .u8 (.sym x.2),.int .u8 (.sym z0)])) ((l.length:Int)+3).toNat) (.leaf ⟨[[.u]],[.lst ((l.length:Int)+3).toNat (AG [.i .u8] (AO (.sym (l.length:Int)) (AH [.i
  .u8] (AQ l)) (AX 1 [.int .u8 (.sym x.1),.int .u8 (.sym x.2),.int .u8 (.sym z0)]))),.tok]⟩)):=by kernel_rfl
noncomputable def bodySu:Code:=Try.f31.body.getD .skip
noncomputable def xSu:Code:=lp ((flat bodySu).getD 3 .skip)
theorem bodySu_eq:Try.f31.body=some bodySu:=by kernel_rfl
theorem inSu:Within Try.prog 31 Try.f31.ntmps bodySu:=within_body Try.func31 bodySu_eq
theorem lpSu:(flat bodySu).drop 3=[.block 0 (.loop xSu)]++(flat bodySu).drop 4:=by kernel_rfl
theorem inSux:Within Try.prog 31 Try.f31.ntmps xSu:=by
  have h:(flat bodySu)[3]? = some (.block 0 (.loop xSu)):=by kernel_rfl
  exact within_loop (within_block (within_at inSu 3 h))
theorem Su_pre (l:List Int) (τ0:Tm):Am Try.prog noTab 300 31 Try.f31.ntmps (Eng.ofL ((flat bodySu).take 3)) (argTm 0 (suT.vals ⟨[[]],[.lst l.length (AQ l)]⟩)++τ0) (suT.heap ⟨[[]],[.lst l.length (AQ l)]⟩) 1 (outX 1 ⟨some suL,[],some suR⟩) =
  .must (AW [.i .u8] (AH [.i .u8] (AQ l)) l.length) (.leaf (.normal,⟨[[.i 14695981039346656037],[.u],[.i (l.length:Int)],[.i 0]],[.lst l.length (AQ l)]⟩)):=by kernel_rfl
theorem Su_x (l:List Int) (h n i:Int) (τ0:Tm):Am Try.prog noTab 300 31 Try.f31.ntmps xSu (suL.tm ⟨[[.i h],[],[.i n],[.i i]],[.lst l.length (AQ l)]⟩++τ0) (suL.heap ⟨[[.i h],[],[.i n],[.i i]],[.lst l.length (AQ l)]⟩) 1 (outX 1 ⟨some suL,[(0,suE)],some suR⟩) =
  .ite (decide (i<n)) (.must (decide (0≤i∧i<(l.length:Int))) (.must (decide (0≤i∧i<(l.length:Int))) (.defI (l.getD i.toNat 0) fun z0=>.defI (IntKind.u64.wrap z0) fun z1=>.defI (IntKind.u64.wrap
  ((BitVec.ofInt 64 h ^^^ BitVec.ofInt 64 z1).toNat:Int)) fun z2=>.defI (IntKind.u64.wrap (z2 * 1099511628211)) fun z3=>.defI (IntKind.i64.wrap (i+1)) fun z4=>.must (AW [.i .u8] (AH [.i .u8] (AQ l))
  l.length) (.leaf (.normal,⟨[[.i z3],[.u],[.i n],[.i z4]],[.lst l.length (AQ l)]⟩))))) (.leaf (.exit 0,⟨[[.i h]],[]⟩)):=by kernel_rfl
theorem Su_tail (h:Int) (τ0:Tm):Am Try.prog noTab 300 31 Try.f31.ntmps (Eng.ofL ((flat bodySu).drop 4)) (suE.tm ⟨[[.i h]],[]⟩++τ0) (suE.heap ⟨[[.i h]],[]⟩) 1 (outX 1 ⟨none,[],some suR⟩) =
  .leaf (.ret,⟨[[.i h]],[]⟩):=by kernel_rfl
def be4 (n:Int):List Int:=[IntKind.u8.wrap (n.fdiv 16777216),IntKind.u8.wrap (n.fdiv 65536),IntKind.u8.wrap (n.fdiv 256),IntKind.u8.wrap (n.fdiv 1)]
def be8 (n:Int):List Int:=[IntKind.u8.wrap (n.fdiv 72057594037927936),IntKind.u8.wrap (n.fdiv 281474976710656),IntKind.u8.wrap (n.fdiv 1099511627776),IntKind.u8.wrap (n.fdiv 4294967296),IntKind.u8.wrap (n.fdiv 16777216),IntKind.u8.wrap (n.fdiv 65536),IntKind.u8.wrap (n.fdiv 256),IntKind.u8.wrap (n.fdiv 1)]
def inc3 (x:Inc):List Int:=[x.kind,x.osd,IntKind.u8.wrap x.n]
def sumStep (h c:Int):Int:=IntKind.u64.wrap (IntKind.u64.wrap ((BitVec.ofInt 64 h ^^^ BitVec.ofInt 64 (IntKind.u64.wrap c)).toNat:Int) * 1099511628211)
def sumF (l:List Int):Int:=l.foldl sumStep 14695981039346656037
def byL (e:EN):List Int:=Aw (e.ln 0) (e.rw 0)
def b4N (e:EN):EN:=⟨[],byN (byL e++be4 (e.ai 1 0))⟩
def b8N (e:EN):EN:=⟨[],byN (byL e++be8 (e.ai 1 0))⟩
def biN (e:EN):EN:=⟨[],byN (byL e++inc3 (incOf e 1))⟩
def byOk (e:EN):Bool:=decide ((e.ln 0:Int)≤100000)
def cB4 (e:EN):Ah (TS×EN):=.must (byOk e) (.defE (b4N e) fun r=>.leaf (bpR,⟨[[.u]],[.lst (r.ln 0) (r.rw 0),.tok]⟩))
def cB8 (e:EN):Ah (TS×EN):=.must (byOk e) (.defE (b8N e) fun r=>.leaf (bpR,⟨[[.u]],[.lst (r.ln 0) (r.rw 0),.tok]⟩))
def cBi (e:EN):Ah (TS×EN):=.must (byOk e) (.defE (biN e) fun r=>.leaf (bpR,⟨[[.u]],[.lst (r.ln 0) (r.rw 0),.tok]⟩))
def cSu (e:EN):Ah (TS×EN):=.must (byOk e) (.leaf (suR,⟨[[.i (sumF (byL e))]],[]⟩))
def RI (rows:Nat→List AV) (l:List Int):Prop:=∀ i,i<l.length→rowOk [.i .u8] (rows i)=true∧(hdN (AG [.i .u8] rows i)).I=l.getD i 0
theorem RI_inst (l:List Int):RI (AH [.i .u8] (AQ l)) l:=fun i _=>⟨rowOk_inst rfl _,(AF (row:=[.i .u8]) rfl (AQ l) i).1⟩
theorem RI_ok {rows:Nat→List AV} {l:List Int} (h:RI rows l):AW [.i .u8] rows l.length=true:=rowsB_lt fun i hi=>(h i hi).1
theorem RI_app {la:SI} {rows:Nat→List AV} {l:List Int} (h:RI rows l) (hl:la.v=(l.length:Int)) (v:Int):RI (AO la rows (AX 1 [.int .u8 (.sym v)])) (l++[v]):=by
  intro i hi
  have e0:la.v.toNat=l.length:=by omega
  have hi:i<l.length+1:=by simpa using hi
  by_cases hlt:i<l.length
  · obtain ⟨h1,h2⟩:=h i hlt
    have e:AO la rows (AX 1 [.int .u8 (.sym v)]) i=rows i:=by
      unfold AO
      rw [show Nat.blt i la.v.toNat=true from Nat.ble_eq_true_of_le (by omega)]
    refine ⟨by rw [e]; exact h1,?_⟩
    rw [rowNums_cat,e0,if_pos hlt,h2,List.getD,List.getD,List.getElem?_append_left hlt]
  · have:i=l.length:=by omega
    subst this
    have e:AO la rows (AX 1 [.int .u8 (.sym v)]) l.length=[.int .u8 (.sym v)]:=by
      unfold AO
      rw [show Nat.blt l.length la.v.toNat=false from Bool.eq_false_iff.2 fun h=>by have:=Nat.le_of_ble_eq_true h; omega,e0,Nat.sub_self]
      rfl
    refine ⟨by rw [e]; rfl,?_⟩
    rw [rowNums_cat,e0,if_neg hlt,Nat.sub_self,List.getD,List.getElem?_append_right (Nat.le_refl _),Nat.sub_self]
    rfl
theorem RI_app3 {la:SI} {rows:Nat→List AV} {l:List Int} (h:RI rows l) (hl:la.v=(l.length:Int)) (a b c:Int):RI (AO la rows (AX 1 [.int .u8 (.sym a),.int .u8 (.sym b),.int .u8 (.sym c)])) (l++[a,b,c]):=by
  intro i hi
  have e0:la.v.toNat=l.length:=by omega
  have hi:i<l.length+3:=by simpa using hi
  by_cases hlt:i<l.length
  · obtain ⟨h1,h2⟩:=h i hlt
    have e:AO la rows (AX 1 [.int .u8 (.sym a),.int .u8 (.sym b),.int .u8 (.sym c)]) i=rows i:=by
      unfold AO
      rw [show Nat.blt i la.v.toNat=true from Nat.ble_eq_true_of_le (by omega)]
    refine ⟨by rw [e]; exact h1,?_⟩
    rw [rowNums_cat,e0,if_pos hlt,h2,List.getD,List.getD,List.getElem?_append_left hlt]
  · have e : AO la rows (AX 1 [.int .u8 (.sym a), .int .u8 (.sym b), .int .u8 (.sym c)]) i = AX 1 [.int .u8 (.sym a), .int .u8 (.sym b), .int .u8 (.sym c)] (i - l.length) := by
      unfold AO
      rw [show Nat.blt i la.v.toNat=false from Bool.eq_false_iff.2 fun h=>by have:=Nat.le_of_ble_eq_true h; omega,e0]
    have hj:i - l.length=0∨i - l.length=1∨i - l.length=2:=by omega
    rw [e,rowNums_cat,e0,if_neg hlt,List.getD,List.getElem?_append_right (by omega)]
    rcases hj with hj | hj | hj <;> rw [hj] <;> exact ⟨rfl,rfl⟩
theorem bp4_std (l:List Int) (n:Int) (h:(l.length:Int)≤100000):BO Try.prog 30 bp4T ⟨[[],[.i n],[]],byN l⟩ bpR ⟨[[.u]],byN (l++be4 n)⟩:=by
  have r0:RI (AH [.i .u8] (AQ l)) l:=RI_inst l
  have r1:=RI_app (la:=.sym ((l.length:Int))) r0 (by show (l.length:Int)=_; rfl) (IntKind.u8.wrap (n.fdiv 16777216))
  have r2:=RI_app (la:=.sym ((l.length:Int)+1)) r1 (by show (l.length:Int)+1=_; simp only [List.length_append,List.length_cons,List.length_nil]; omega) (IntKind.u8.wrap (n.fdiv 65536))
  have r3:=RI_app (la:=.sym ((l.length:Int)+1+1)) r2 (by show (l.length:Int)+1+1=_; simp only [List.length_append,List.length_cons,List.length_nil]; omega) (IntKind.u8.wrap (n.fdiv 256))
  have r4:=RI_app (la:=.sym ((l.length:Int)+1+1+1)) r3 (by show (l.length:Int)+1+1+1=_; simp only [List.length_append,List.length_cons,List.length_nil]; omega) (IntKind.u8.wrap (n.fdiv 1))
  have e:((((l++[(IntKind.u8.wrap (n.fdiv 16777216))])++[(IntKind.u8.wrap (n.fdiv 65536))])++[(IntKind.u8.wrap (n.fdiv 256))])++[(IntKind.u8.wrap (n.fdiv 1))])=l++be4 n:=by unfold be4; simp only [List.append_assoc,List.cons_append,List.nil_append]
  rw [e] at r4
  have hl:((l.length:Int)+1+1+1+1).toNat=(l++be4 n).length:=by unfold be4; simp only [List.length_append,List.length_cons,List.length_nil]; omega
  refine Aq (Ay _) BE rfl (AN (bp4_t l n) ?_)
  refine AB (AB (AA (decide_eq_true (by omega)) ?_))
  refine AB (AB (AA (decide_eq_true (by omega)) ?_))
  refine AB (AB (AA (decide_eq_true (by omega)) ?_))
  refine AB (AB (AA (decide_eq_true (by omega)) ?_))
  refine AA (by rw [hl]; exact RI_ok r4) (AE ⟨⟨trivial,trivial⟩,⟨hl,fun i hi=>?_⟩,trivial,trivial⟩)
  have hi:(i:Int)<((l++be4 n).length:Int):=hi
  exact ⟨(r4 i (by omega)).2,trivial⟩
theorem bp8_std (l:List Int) (n:Int) (h:(l.length:Int)≤100000):BO Try.prog 30 bp8T ⟨[[],[.i n],[]],byN l⟩ bpR ⟨[[.u]],byN (l++be8 n)⟩:=by
  have r0:RI (AH [.i .u8] (AQ l)) l:=RI_inst l
  have r1:=RI_app (la:=.sym ((l.length:Int))) r0 (by show (l.length:Int)=_; rfl) (IntKind.u8.wrap (n.fdiv 72057594037927936))
  have r2:=RI_app (la:=.sym ((l.length:Int)+1)) r1 (by show (l.length:Int)+1=_; simp only [List.length_append,List.length_cons,List.length_nil]; omega) (IntKind.u8.wrap (n.fdiv 281474976710656))
  have r3:=RI_app (la:=.sym ((l.length:Int)+1+1)) r2 (by show (l.length:Int)+1+1=_; simp only [List.length_append,List.length_cons,List.length_nil]; omega) (IntKind.u8.wrap (n.fdiv 1099511627776))
  have r4:=RI_app (la:=.sym ((l.length:Int)+1+1+1)) r3 (by show (l.length:Int)+1+1+1=_; simp only [List.length_append,List.length_cons,List.length_nil]; omega) (IntKind.u8.wrap (n.fdiv 4294967296))
  have r5:=RI_app (la:=.sym ((l.length:Int)+1+1+1+1)) r4 (by show (l.length:Int)+1+1+1+1=_; simp only [List.length_append,List.length_cons,List.length_nil]; omega) (IntKind.u8.wrap (n.fdiv 16777216))
  have r6:=RI_app (la:=.sym ((l.length:Int)+1+1+1+1+1)) r5 (by show (l.length:Int)+1+1+1+1+1=_; simp only [List.length_append,List.length_cons,List.length_nil]; omega) (IntKind.u8.wrap (n.fdiv 65536))
  have r7:=RI_app (la:=.sym ((l.length:Int)+1+1+1+1+1+1)) r6 (by show (l.length:Int)+1+1+1+1+1+1=_; simp only [List.length_append,List.length_cons,List.length_nil]; omega) (IntKind.u8.wrap (n.fdiv 256))
  have r8:=RI_app (la:=.sym ((l.length:Int)+1+1+1+1+1+1+1)) r7 (by show (l.length:Int)+1+1+1+1+1+1+1=_; simp only [List.length_append,List.length_cons,List.length_nil]; omega) (IntKind.u8.wrap (n.fdiv 1))
  have e:((((((((l++[(IntKind.u8.wrap (n.fdiv 72057594037927936))])++[(IntKind.u8.wrap (n.fdiv 281474976710656))])++[(IntKind.u8.wrap (n.fdiv 1099511627776))])++[(IntKind.u8.wrap (n.fdiv 4294967296))])++[(IntKind.u8.wrap (n.fdiv 16777216))])++[(IntKind.u8.wrap (n.fdiv 65536))])++[(IntKind.u8.wrap (n.fdiv 256))])++[(IntKind.u8.wrap (n.fdiv 1))])=l++be8 n:=by unfold be8; simp only [List.append_assoc,List.cons_append,List.nil_append]
  rw [e] at r8
  have hl:((l.length:Int)+1+1+1+1+1+1+1+1).toNat=(l++be8 n).length:=by unfold be8; simp only [List.length_append,List.length_cons,List.length_nil]; omega
  refine Aq (Ay _) BE rfl (AN (bp8_t l n) ?_)
  refine AB (AB (AA (decide_eq_true (by omega)) ?_))
  refine AB (AB (AA (decide_eq_true (by omega)) ?_))
  refine AB (AB (AA (decide_eq_true (by omega)) ?_))
  refine AB (AB (AA (decide_eq_true (by omega)) ?_))
  refine AB (AB (AA (decide_eq_true (by omega)) ?_))
  refine AB (AB (AA (decide_eq_true (by omega)) ?_))
  refine AB (AB (AA (decide_eq_true (by omega)) ?_))
  refine AB (AB (AA (decide_eq_true (by omega)) ?_))
  refine AA (by rw [hl]; exact RI_ok r8) (AE ⟨⟨trivial,trivial⟩,⟨hl,fun i hi=>?_⟩,trivial,trivial⟩)
  have hi:(i:Int)<((l++be8 n).length:Int):=hi
  exact ⟨(r8 i (by omega)).2,trivial⟩
theorem bi_std (l:List Int) (x:Inc) (h:(l.length:Int)≤100000):BO Try.prog 26 biT ⟨[[],incNm x],byN l⟩ bpR ⟨[[.u]],byN (l++inc3 x)⟩:=by
  have r1:=RI_app3 (la:=.sym (l.length:Int)) (RI_inst l) rfl x.kind x.osd (IntKind.u8.wrap x.n)
  have hl:((l.length:Int)+3).toNat=(l++inc3 x).length:=by unfold inc3; simp only [List.length_append,List.length_cons,List.length_nil]; omega
  refine Aq (Ay _) BE rfl (AN (bi_t l x) (AB (AA (decide_eq_true (by omega)) (AA (by rw [hl]; exact RI_ok r1) (AE ⟨⟨trivial,trivial⟩,⟨hl,fun i hi=>?_⟩,trivial,trivial⟩)))))
  have hi:(i:Int)<((l++inc3 x).length:Int):=hi
  exact ⟨(r1 i (by unfold inc3 at hi; omega)).2,trivial⟩
theorem preBy {e:EN} {k g:Nat} : eqvH [(k,.lst none [.i .u8] (some g)),(g,.tok)] e.o (byN (byL e)):=⟨⟨(Ar _ _).symm,fun i hi=>rowI_eqv (by
  have hi:(i:Int)<((byL e).length:Int):=hi
  unfold byL at hi
  rw [Ar] at hi
  exact_mod_cast hi)⟩,trivial,trivial⟩
theorem byOk_ok {e:EN} (h:byOk e=true):((byL e).length:Int)≤100000:=by
  unfold byL
  rw [Ar]
  exact of_decide_eq_true h
theorem cB4_ok:Ak Try.prog 30 (Ab bp4T cB4):=ctr_ok fun e r h=>by
  obtain ⟨hm,h⟩:=As h
  cases h
  refine BO.pre (x':=⟨[[],[.i (e.ai 1 0)],[]],byN (byL e)⟩) ⟨by (repeat' (first | exact trivial | exact rfl | exact TS.eqv_refl _ _ | exact AY _ _ | exact AR | exact fun _ _=>AL _ _ | exact fun i _=>AF rfl _ i | apply And.intro)),preBy⟩ (BO.post (t':=bpR) clP (bp4_std (byL e) (e.ai 1 0) (byOk_ok hm)))
theorem cB8_ok:Ak Try.prog 30 (Ab bp8T cB8):=ctr_ok fun e r h=>by
  obtain ⟨hm,h⟩:=As h
  cases h
  refine BO.pre (x':=⟨[[],[.i (e.ai 1 0)],[]],byN (byL e)⟩) ⟨by (repeat' (first | exact trivial | exact rfl | exact TS.eqv_refl _ _ | exact AY _ _ | exact AR | exact fun _ _=>AL _ _ | exact fun i _=>AF rfl _ i | apply And.intro)),preBy⟩ (BO.post (t':=bpR) clP (bp8_std (byL e) (e.ai 1 0) (byOk_ok hm)))
theorem cBi_ok:Ak Try.prog 26 (Ab biT cBi):=ctr_ok fun e r h=>by
  obtain ⟨hm,h⟩:=As h
  cases h
  refine BO.pre (x':=⟨[[],incNm (incOf e 1)],byN (byL e)⟩) ⟨by (repeat' (first | exact trivial | exact rfl | exact TS.eqv_refl _ _ | exact AY _ _ | exact AR | exact fun _ _=>AL _ _ | exact fun i _=>AF rfl _ i | apply And.intro)),preBy⟩ (BO.post (t':=bpR) clP (bi_std (byL e) (incOf e 1) (byOk_ok hm)))
theorem take_succ_getD (l:List Int) {i:Nat} (h:i<l.length):l.take (i+1)=l.take i++[l.getD i 0]:=by
  rw [List.take_add_one,List.getElem?_eq_getElem h,List.getD,List.getElem?_eq_getElem h]
  rfl
def suQ (l:List Int):Ex→EN→Prop
  | .exit _,e=>e.ai 0 0=sumF l
  | _,_=>False
theorem su_loop (l:List Int) (hl:(l.length:Int)≤100000):HT Try.prog Try.f31.ntmps 1 (.loop xSu) 1 (suL.tm ⟨[[.i 14695981039346656037],[],[.i (l.length:Int)],[.i 0]],[.lst l.length (AQ l)]⟩) (suL.heap ⟨[[.i 14695981039346656037],[],[.i (l.length:Int)],[.i 0]],[.lst l.length (AQ l)]⟩) (QX ⟨none,[(0,suE)],some suR⟩ (suQ l)):=by
  refine HT.loopX (Ay _) BE (n:=300) inSux suL _ _ (fun i:Nat=>⟨[[.i ((l.take i).foldl sumStep 14695981039346656037)],[],[.i (l.length:Int)],[.i (i:Int)]],[.lst l.length (AQ l)]⟩) (fun i=>i≤l.length) (fun i=>l.length - i) (fun _=>suQ l) (by decide) ?_ 0 (Nat.zero_le _)
  intro i hi τ0
  refine AN (Su_x l _ (l.length:Int) (i:Int) τ0) (AM (fun h=>?_) (fun h=>AE ?_))
  · have h:=of_decide_eq_true h
    have e1:IntKind.i64.wrap ((i:Int)+1)=((i+1:Nat):Int):=IntWalk.i64_in _ (by omega)
    have hm:decide ((0:Int)≤(i:Int)∧(i:Int)<(l.length:Int))=true:=decide_eq_true (by omega)
    refine AA hm (AA hm (AB (AB (AB (AB (AB (AA (AP _ _ _) (AE ⟨i+1,by omega,by omega,?_,fun _ _ h=>h⟩))))))))
    refine ⟨⟨?_,trivial,rfl,e1,trivial⟩,⟨rfl,fun _ _=>AL [.i .u8] (AQ l _)⟩,trivial⟩
    show sumStep ((l.take i).foldl sumStep 14695981039346656037) (l.getD i 0)=(l.take (i+1)).foldl sumStep 14695981039346656037
    rw [take_succ_getD l (by omega),List.foldl_append]
    rfl
  · have h:=of_decide_eq_false h
    have:i=l.length:=by omega
    subst this
    show (l.take l.length).foldl sumStep 14695981039346656037=sumF l
    rw [List.take_length]
    rfl
theorem su_std (l:List Int) (hl:(l.length:Int)≤100000):BO Try.prog 31 suT ⟨[[]],[.lst l.length (AQ l)]⟩ suR ⟨[[.i (sumF l)]],[]⟩:=by
  refine stdX_loop (Ay _) BE (n:=300) Try.func31 bodySu_eq 3 (L:=suL) (E:=suE) (RL:=suQ l) rfl rfl (by kernel_rfl) rfl rfl lpSu (by decide) (by decide) (by decide)
    (fun τ0=>AN (Su_pre l τ0) (AA (AP _ _ _) (AE (.inl ⟨rfl,?_⟩)))) (su_loop l hl) (fun en he=>⟨⟨[[.i (sumF l)]],[]⟩,⟨⟨he,trivial⟩,trivial⟩,fun τ0=>AN (Su_tail (sumF l) τ0) (AE fun _=>⟨⟨rfl,trivial⟩,trivial⟩)⟩) (fun en he=>he.elim)
  (repeat' (first | exact trivial | exact rfl | exact TS.eqv_refl _ _ | exact AY _ _ | exact AR | exact fun _ _=>AL _ _ | exact fun i _=>AF rfl _ i | apply And.intro))
theorem cSu_ok:Ak Try.prog 31 (Ab suT cSu):=ctr_ok fun e r h=>by
  obtain ⟨hm,h⟩:=As h
  cases h
  refine BO.pre (x':=⟨[[]],[.lst (byL e).length (AQ (byL e))]⟩) ⟨by (repeat' (first | exact trivial | exact rfl | exact TS.eqv_refl _ _ | exact AY _ _ | exact AR | exact fun _ _=>AL _ _ | exact fun i _=>AF rfl _ i | apply And.intro)),⟨⟨(Ar _ _).symm,fun i hi=>rowI_eqv ?_⟩,trivial⟩⟩ (su_std (byL e) (byOk_ok hm))
  have hi:(i:Int)<((byL e).length:Int):=hi
  unfold byL at hi
  rw [Ar] at hi
  exact_mod_cast hi
end Go.Proofs.Ytddmgdclmkgpeaa
set_option linter.unusedSimpArgs false
set_option linter.unusedVariables false
namespace Go.Proofs.Ytddmgdclmkgpeaa
open Go.Eng Go.RowKit Go.ChangeShapes Go.WideShapes
set_option maxRecDepth 100000
noncomputable def tbSm:List (FuncId×Summ):=[(9,Ab laT cLa),(25,Ab inT cHi),(30,orSumm (Ab bp4T cB4) (Ab bp8T cB8)),(26,Ab biT cBi),(31,Ab suT cSu)]
noncomputable def tbTb:Tab:=smTab (tabOf tbSm)
def svT0:TS:=⟨[],[.one (.ptr 0 0)],mp0,7⟩
def svT1:TS:=⟨[],[.one (.ptr 0 0)],mp1,12⟩
def svL0:TS:=⟨[0,3,4],[.one (.ptr 0 0),.one (.sl 10),.one (.i .u32)],beH0++[(10,.lst none [.i .u8] (some 11)),(11,.tok)],12⟩
def svL1:TS:=⟨[0,3,4],[.one (.ptr 0 0),.one (.sl 19),.one (.i .u32)],beH1++[(19,.lst none [.i .u8] (some 20)),(20,.tok)],21⟩
def svR0:TS:=⟨[2],[.one (.sl 10)],beH0++[(10,.lst none [.i .u8] (some 11)),(11,.tok)],12⟩
def svR1:TS:=⟨[2],[.one (.sl 19)],beH1++[(19,.lst none [.i .u8] (some 20)),(20,.tok)],21⟩
theorem tbSm_ok:AllOk Try.prog tbSm:=⟨cLa_ok,cHi_ok,orSumm_ok cB4_ok cB8_ok,cBi_ok,cSu_ok,trivial⟩
theorem tbTab:TabAll Try.prog tbTb:=tab_ok tbSm_ok
noncomputable def bodySv:Code:=Try.f11.body.getD .skip
noncomputable def xSv:Code:=lp ((flat bodySv).getD 3 .skip)
theorem bodySv_eq:Try.f11.body=some bodySv:=by kernel_rfl
theorem inSv:Within Try.prog 11 Try.f11.ntmps bodySv:=within_body Try.func11 bodySv_eq
theorem lpSv:(flat bodySv).drop 3=[.block 0 (.loop xSv)]++(flat bodySv).drop 4:=by kernel_rfl
theorem inSvx:Within Try.prog 11 Try.f11.ntmps xSv:=by
  have h:(flat bodySv)[3]? = some (.block 0 (.loop xSv)):=by kernel_rfl
  exact within_loop (within_block (within_at inSv 3 h))
noncomputable abbrev qTb1 (v0:Aj):ON:=.box [.b (v0.10 0),.b (v0.10 1),.b (v0.10 2),.b (v0.10 3),.b (v0.10 4),.b (v0.10 5),.b (v0.10 6),.b (v0.10 7),.b (v0.10 8),.b (v0.10 9),.b (v0.10 10),.b (v0.10 11),.b (v0.10 12),.b (v0.10 13),.b (v0.10 14),.b (v0.10 15),.b (v0.10 16),.b (v0.10 17),.b (v0.10 18),.b (v0.10 19),.b (v0.10 20),.b (v0.10 21),.b (v0.10 22),.b (v0.10 23),.b (v0.10 24)]
noncomputable abbrev qTb2 (v0:Aj) (v1:BA):ON:=.box [.i v0.1,.i v1.want.1,.i v1.want.2,.i v1.want.3,.i v1.value.1,.i v1.value.2,.i v1.value.3,.i v1.best.1,.i v1.best.2,.i v1.best.3,.i v1.b.1,.i v1.b.2,.i v1.acc.1,.i v1.acc.2,.u,.u,.b v1.8,.b v1.9,.i v1.decided.1,.i v1.decided.2,.i v1.decided.3,.b v1.11,.b v1.12]
noncomputable abbrev qTb3 (v0:Aj):ON:=.box [.i v0.prom.1,.i v0.prom.2,.i v0.acc.1,.i v0.acc.2,.i v0.ainc.1,.i v0.ainc.2,.i v0.ainc.3]
noncomputable abbrev qTb4 (v0:Aj):ON:=.box [.i v0.1,.u,.u,.u,.u,.i v0.8,.i v0.over.1,.i v0.over.2,.u]
theorem sv_p0 (hd:Dat) (s:Aj) (τ0:Tm):Am Try.prog tbTb 300 11 Try.f11.ntmps (Eng.ofL ((flat bodySv).take 3)) (argTm 0 (svT0.vals ⟨[[]],mn0 hd s⟩)++τ0) (svT0.heap ⟨[[]],mn0 hd s⟩) 7 (outX 7 ⟨some svL0,[],some svR0⟩) =

  .must (BH Ai Ai) (.defE ⟨[[.u]],[.own (hdW hd s.2),.tok]⟩ fun e0=>.defI (BN (e0.dt 0).2) fun z1=>.defI (IntKind.u8.wrap z1) fun z2=>.must (BH Ai Ai) (.must (AW BB (AH BB (rowJ s.wishes)) s.6.length) (.leaf (.normal,⟨[[.u],[.u],[.i 2]],[(qTb4 s),.own (e0.dt 0),.tok,(qTb3 s),.lst s.6.length (AG BB (AH BB (rowJ s.wishes))),.tok,(qTb1 s),.lst 2 (AG [.i .u8] (AX 1 [.int .u8 (.sym s.1),.int .u8 (.sym z2)])),.tok]⟩)))):=by kernel_rfl
theorem sv_x0 (hd:Dat) (s:Aj) (l:List Int) (e:Int) (τ0:Tm):(Am Try.prog tbTb 300 11 Try.f11.ntmps xSv (svL0.tm ⟨[[],[],[.i e]],mn0 hd s++byN l⟩++τ0) (svL0.heap ⟨[[],[],[.i e]],mn0 hd s++byN l⟩) 12 (outX 7 ⟨some svL0,[(0,svL0)],none⟩)).cut [none,some true] =

  .must (BH Ai Ai) (.defE ⟨[[.u]],[.own (hdW hd s.2),.tok]⟩ fun e0=>.defI (BN (e0.dt 0).2) fun z1=>.ite (decide (e≤z1)) (.must (BH Ai Ai) (.defE ⟨[[.u],[.i e]],[.own (e0.dt 0),.tok]⟩ fun e2=>.must (hasI (e2.dt 0).2 (e2.ai 1 0)) (.defI (incK (e2.dt 0).2 (e2.ai 1 0)) fun z3=>.defI (incO (e2.dt 0).2 (e2.ai 1 0)) fun z4=>.defI (incZ (e2.dt 0).2 (e2.ai 1 0)) fun z5=>.must (AW [.i .u8] (AH [.i .u8] (AQ l)) l.length) (.defE ⟨[[.u],[.i z3,.i z4,.i z5]],[.lst l.length (AQ l),.tok]⟩ fun e6=>.must (byOk e6) (.defE (biN e6) fun e7=>.defI ((e7.ln 0):Int) fun z8=>.defI (IntKind.u32.wrap (e+1)) fun z9=>.must (BH Ai Ai) (.must (AW BB (AH BB (rowJ s.wishes)) s.6.length) (.must (AW [.i .u8] ((AH [.i .u8] (e7.rw 0))) z8.toNat) (.leaf (.normal,⟨[[.u],[.u],[.i z9]],[(qTb4 s),.own (e2.dt 0),.tok,(qTb3 s),.lst s.6.length (AG BB (AH BB (rowJ s.wishes))),.tok,(qTb1 s),.lst z8.toNat (AG [.i .u8] (AH [.i .u8] (e7.rw 0))),.tok]⟩))))))))) (.must (BH Ai Ai) (.must (AW BB (AH BB (rowJ s.wishes)) s.6.length) (.must (AW [.i .u8] (AH [.i .u8] (AQ l)) l.length) (.leaf (.exit 0,⟨[[.u],[.u],[.i e]],[(qTb4 s),.own (e0.dt 0),.tok,(qTb3 s),.lst s.6.length (AG BB (AH BB (rowJ s.wishes))),.tok,(qTb1 s),.lst l.length (AQ l),.tok]⟩)))))):=by kernel_rfl
theorem sv_t0 (hd:Dat) (s:Aj) (l:List Int) (e:Int) (τ0:Tm):Am Try.prog tbTb 300 11 Try.f11.ntmps (Eng.ofL ((flat bodySv).drop 4)) (svL0.tm ⟨[[],[],[.i e]],mn0 hd s++byN l⟩++τ0) (svL0.heap ⟨[[],[],[.i e]],mn0 hd s++byN l⟩) 12 (outX 7 ⟨none,[],some svR0⟩) =

  .defI (IntKind.u64.wrap s.prom.1) fun z0=>.must (AW [.i .u8] (AH [.i .u8] (AQ l)) l.length) (.defE ⟨[[.u],[.i z0],[.u]],[.lst l.length (AQ l),.tok]⟩ fun e1=>.must (byOk e1) (.defE (b4N e1) fun e2=>.defI ((e2.ln 0):Int) fun z3=>.must (decide ((z3+1) * 1≤1099511627776∧z3+1≤1099511627776)) (.defI (IntKind.u64.wrap s.acc.1) fun z4=>.must (AW [.i .u8] (AO (.sym z3) ((AH [.i .u8] (e2.rw 0))) (AX 1 [.int .u8 (.sym s.prom.2)])) (z3+1).toNat) (.defE ⟨[[.u],[.i z4],[.u]],[.lst (z3+1).toNat (AG [.i .u8] (AO (.sym z3) ((AH [.i .u8] (e2.rw 0))) (AX 1 [.int .u8 (.sym s.prom.2)]))),.tok]⟩ fun e5=>.must (byOk e5) (.defE (b4N e5) fun e6=>.defI ((e6.ln 0):Int) fun z7=>.must (decide ((z7+1) * 1≤1099511627776∧z7+1≤1099511627776)) (.must (AW [.i .u8] (AO (.sym z7) ((AH [.i .u8] (e6.rw 0))) (AX 1 [.int .u8 (.sym s.acc.2)])) (z7+1).toNat) (.defE ⟨[[.u],[.i s.ainc.1,.i s.ainc.2,.i s.ainc.3]],[.lst (z7+1).toNat (AG [.i .u8] (AO (.sym z7) ((AH [.i .u8] (e6.rw 0))) (AX 1 [.int .u8 (.sym s.acc.2)]))),.tok]⟩ fun e8=>.must (byOk e8) (.defE (biN e8) fun e9=>.defI ((e9.ln 0):Int) fun z10=>.must (AW [.i .u8] ((AH [.i .u8] (e9.rw 0))) z10.toNat) (.defE ⟨[[.u]],[.lst z10.toNat (AG [.i .u8] (AH [.i .u8] (e9.rw 0)))]⟩ fun e11=>.must (byOk e11) (.defI (sumF (byL e11)) fun z12=>.must (AW [.i .u8] ((AH [.i .u8] (e9.rw 0))) z10.toNat) (.defE ⟨[[.u],[.i
 z12],[.u]],[.lst z10.toNat (AG [.i .u8] (AH [.i .u8] (e9.rw 0))),.tok]⟩ fun e13=>.must (byOk e13) (.defE (b8N e13) fun e14=>.defI ((e14.ln 0):Int) fun z15=>.must (BH Ai Ai) (.must (AW BB (AH BB (rowJ s.wishes)) s.6.length) (.must (AW [.i .u8] ((AH [.i .u8] (e14.rw 0))) z15.toNat) (.leaf (.ret,⟨[[.u]],[(qTb4 s),.own (hdW hd s.2),.tok,(qTb3 s),.lst s.6.length (AG BB (AH BB (rowJ s.wishes))),.tok,(qTb1 s),.lst z15.toNat (AG [.i .u8] (AH [.i .u8] (e14.rw 0))),.tok]⟩)))))))))))))))):=by kernel_rfl
theorem sv_p1 (hd:Dat) (s:Aj) (p:BA) (τ0:Tm):Am Try.prog tbTb 300 11 Try.f11.ntmps (Eng.ofL ((flat bodySv).take 3)) (argTm 0 (svT1.vals ⟨[[]],mn1 hd s p⟩)++τ0) (svT1.heap ⟨[[]],mn1 hd s p⟩) 12 (outX 12 ⟨some svL1,[],some svR1⟩) =

  .must (BH Ai Ai) (.defE ⟨[[.u]],[.own (hdW hd s.2),.tok]⟩ fun e0=>.defI (BN (e0.dt 0).2) fun z1=>.defI (IntKind.u8.wrap z1) fun z2=>.must (BH Ai Ai) (.must (AW BB (AH BB (rowJ s.wishes)) s.6.length) (.must (AW [.i .u8] (AH [.i .u8] (AQ p.6)) p.6.length) (.must (AW [.i .u8] (AH [.i .u8] (AQ p.7)) p.7.length) (.leaf (.normal,⟨[[.u],[.u],[.i 2]],[(qTb4 s),.own (e0.dt 0),.tok,(qTb3 s),.lst s.6.length (AG BB (AH BB (rowJ s.wishes))),.tok,(qTb1 s),(qTb2 s p),.lst p.6.length (AQ p.6),.lst p.7.length (AQ p.7),.tok,.tok,.lst 2 (AG [.i .u8] (AX 1 [.int .u8 (.sym s.1),.int .u8 (.sym z2)])),.tok]⟩)))))):=by kernel_rfl
theorem sv_x1 (hd:Dat) (s:Aj) (p:BA) (l:List Int) (e:Int) (τ0:Tm):(Am Try.prog tbTb 300 11 Try.f11.ntmps xSv (svL1.tm ⟨[[],[],[.i e]],mn1 hd s p++byN l⟩++τ0) (svL1.heap ⟨[[],[],[.i e]],mn1 hd s p++byN l⟩) 21 (outX 12 ⟨some svL1,[(0,svL1)],none⟩)).cut [none,some true] =

  .must (BH Ai Ai) (.defE ⟨[[.u]],[.own (hdW hd s.2),.tok]⟩ fun e0=>.defI (BN (e0.dt 0).2) fun z1=>.ite (decide (e≤z1)) (.must (BH Ai Ai) (.defE ⟨[[.u],[.i e]],[.own (e0.dt 0),.tok]⟩ fun e2=>.must (hasI (e2.dt 0).2 (e2.ai 1 0)) (.defI (incK (e2.dt 0).2 (e2.ai 1 0)) fun z3=>.defI (incO (e2.dt 0).2 (e2.ai 1 0)) fun z4=>.defI (incZ (e2.dt 0).2 (e2.ai 1 0)) fun z5=>.must (AW [.i .u8] (AH [.i .u8] (AQ l)) l.length) (.defE ⟨[[.u],[.i z3,.i z4,.i z5]],[.lst l.length (AQ l),.tok]⟩ fun e6=>.must (byOk e6) (.defE (biN e6) fun e7=>.defI ((e7.ln 0):Int) fun z8=>.defI (IntKind.u32.wrap (e+1)) fun z9=>.must (BH Ai Ai) (.must (AW BB (AH BB (rowJ s.wishes)) s.6.length) (.must (AW [.i .u8] (AH [.i .u8] (AQ p.6)) p.6.length) (.must (AW [.i .u8] (AH [.i .u8] (AQ p.7)) p.7.length) (.must (AW [.i .u8] ((AH [.i .u8] (e7.rw 0))) z8.toNat) (.leaf (.normal,⟨[[.u],[.u],[.i z9]],[(qTb4 s),.own (e2.dt 0),.tok,(qTb3 s),.lst s.6.length (AG BB (AH BB (rowJ s.wishes))),.tok,(qTb1 s),(qTb2 s p),.lst p.6.length (AQ p.6),.lst p.7.length (AQ p.7),.tok,.tok,.lst z8.toNat (AG [.i .u8] (AH [.i .u8] (e7.rw 0))),.tok]⟩))))))))))) (.must (BH Ai Ai) (.must (AW BB (AH BB (rowJ s.wishes)) s.6.length) (.must (AW [.i .u8] (AH [.i .u8] (AQ p.6)) p.6.length) (.must (AW [.i .u8] (AH [.i .u8] (AQ p.7)) p.7.length) (.must (AW [.i .u8] (AH [.i
 .u8] (AQ l)) l.length) (.leaf (.exit 0,⟨[[.u],[.u],[.i e]],[(qTb4 s),.own (e0.dt 0),.tok,(qTb3 s),.lst s.6.length (AG BB (AH BB (rowJ s.wishes))),.tok,(qTb1 s),(qTb2 s p),.lst p.6.length (AQ p.6),.lst p.7.length (AQ p.7),.tok,.tok,.lst l.length (AQ l),.tok]⟩)))))))):=by kernel_rfl
theorem sv_t1 (hd:Dat) (s:Aj) (p:BA) (l:List Int) (e:Int) (τ0:Tm):Am Try.prog tbTb 300 11 Try.f11.ntmps (Eng.ofL ((flat bodySv).drop 4)) (svL1.tm ⟨[[],[],[.i e]],mn1 hd s p++byN l⟩++τ0) (svL1.heap ⟨[[],[],[.i e]],mn1 hd s p++byN l⟩) 21 (outX 12 ⟨none,[],some svR1⟩) =

  .defI (IntKind.u64.wrap s.prom.1) fun z0=>.must (AW [.i .u8] (AH [.i .u8] (AQ l)) l.length) (.defE ⟨[[.u],[.i z0],[.u]],[.lst l.length (AQ l),.tok]⟩ fun e1=>.must (byOk e1) (.defE (b4N e1) fun e2=>.defI ((e2.ln 0):Int) fun z3=>.must (decide ((z3+1) * 1≤1099511627776∧z3+1≤1099511627776)) (.defI (IntKind.u64.wrap s.acc.1) fun z4=>.must (AW [.i .u8] (AO (.sym z3) ((AH [.i .u8] (e2.rw 0))) (AX 1 [.int .u8 (.sym s.prom.2)])) (z3+1).toNat) (.defE ⟨[[.u],[.i z4],[.u]],[.lst (z3+1).toNat (AG [.i .u8] (AO (.sym z3) ((AH [.i .u8] (e2.rw 0))) (AX 1 [.int .u8 (.sym s.prom.2)]))),.tok]⟩ fun e5=>.must (byOk e5) (.defE (b4N e5) fun e6=>.defI ((e6.ln 0):Int) fun z7=>.must (decide ((z7+1) * 1≤1099511627776∧z7+1≤1099511627776)) (.must (AW [.i .u8] (AO (.sym z7) ((AH [.i .u8] (e6.rw 0))) (AX 1 [.int .u8 (.sym s.acc.2)])) (z7+1).toNat) (.defE ⟨[[.u],[.i s.ainc.1,.i s.ainc.2,.i s.ainc.3]],[.lst (z7+1).toNat (AG [.i .u8] (AO (.sym z7) ((AH [.i .u8] (e6.rw 0))) (AX 1 [.int .u8 (.sym s.acc.2)]))),.tok]⟩ fun e8=>.must (byOk e8) (.defE (biN e8) fun e9=>.defI ((e9.ln 0):Int) fun z10=>.must (AW [.i .u8] ((AH [.i .u8] (e9.rw 0))) z10.toNat) (.defE ⟨[[.u]],[.lst z10.toNat (AG [.i .u8] (AH [.i .u8] (e9.rw 0)))]⟩ fun e11=>.must (byOk e11) (.defI (sumF (byL e11)) fun z12=>.must (AW [.i .u8] ((AH [.i .u8] (e9.rw 0))) z10.toNat) (.defE ⟨[[.u],[.i
 z12],[.u]],[.lst z10.toNat (AG [.i .u8] (AH [.i .u8] (e9.rw 0))),.tok]⟩ fun e13=>.must (byOk e13) (.defE (b8N e13) fun e14=>.defI ((e14.ln 0):Int) fun z15=>.must (BH Ai Ai) (.must (AW BB (AH BB (rowJ s.wishes)) s.6.length) (.must (AW [.i .u8] (AH [.i .u8] (AQ p.6)) p.6.length) (.must (AW [.i .u8] (AH [.i .u8] (AQ p.7)) p.7.length) (.must (AW [.i .u8] ((AH [.i .u8] (e14.rw 0))) z15.toNat) (.leaf (.ret,⟨[[.u]],[(qTb4 s),.own (hdW hd s.2),.tok,(qTb3 s),.lst s.6.length (AG BB (AH BB (rowJ s.wishes))),.tok,(qTb1 s),(qTb2 s p),.lst p.6.length (AQ p.6),.lst p.7.length (AQ p.7),.tok,.tok,.lst z15.toNat (AG [.i .u8] (AH [.i .u8] (e14.rw 0))),.tok]⟩)))))))))))))))))):=by kernel_rfl
def headL (s:Aj):List Int:=[s.id,BN s.incs]
def incB (l:List Inc):List Int:=l.flatMap inc3
def balB (b:Bal):List Int:=be4 (IntKind.u64.wrap b.n)++[b.who]
def bodyL (s:Aj):List Int:=headL s++incB s.incs++balB s.prom++balB s.acc++inc3 s.ainc
def saveL (s:Aj):List Int:=bodyL s++be8 (sumF (bodyL s))
theorem byL_app (l:List Int) (v:Int):Aw ((l.length:Int)+1).toNat (AG [.i .u8] (AO (.sym (l.length:Int)) (AH [.i .u8] (AQ l)) (AX 1 [.int .u8 (.sym v)])))=l++[v] :=
  lstI_rows (by simp only [List.length_append,List.length_cons,List.length_nil]; omega) fun i hi=>((RI_app (la:=.sym (l.length:Int)) (RI_inst l) rfl v) i hi).2
theorem rowsB_app1 (l:List Int) (v:Int):AW [.i .u8] (AO (.sym (l.length:Int)) (AH [.i .u8] (AQ l)) (AX 1 [.int .u8 (.sym v)])) ((l.length:Int)+1).toNat=true:=by
  have h:=RI_ok (RI_app (la:=.sym (l.length:Int)) (RI_inst l) rfl v)
  rw [show (l++[v]).length=((l.length:Int)+1).toNat by simp only [List.length_append,List.length_cons,List.length_nil]; omega] at h
  exact h
theorem incB_length (l:List Inc):(incB l).length=3 * l.length:=by
  induction l with
  | nil=>rfl
  | cons x l ih =>
    have e:incB (x::l)=inc3 x++incB l:=rfl
    rw [e,List.length_append,ih]
    unfold inc3
    simp only [List.length_cons,List.length_nil]
    omega
theorem incB_take (l:List Inc) {j:Nat} (h:j<l.length):incB (l.take (j+1))=incB (l.take j)++inc3 (l.getD j .zero):=by
  have e:l.take (j+1)=l.take j++[l.getD j .zero]:=by
    rw [List.take_add_one,List.getElem?_eq_getElem h,List.getD,List.getElem?_eq_getElem h]
    rfl
  rw [e]
  unfold incB
  rw [List.flatMap_append]
  simp
theorem be4_len (n:Int):(be4 n).length=4:=rfl
theorem b4N_eq {e:EN} {l:List Int} {n:Int} (h1:byL e=l) (h2:e.ai 1 0=n):b4N e=⟨[],byN (l++be4 n)⟩:=by
  unfold b4N
  rw [h1,h2]
theorem b8N_eq {e:EN} {l:List Int} {n:Int} (h1:byL e=l) (h2:e.ai 1 0=n):b8N e=⟨[],byN (l++be8 n)⟩:=by
  unfold b8N
  rw [h1,h2]
theorem biN_eq {e:EN} {l:List Int} {x:Inc} (h1:byL e=l) (h2:incOf e 1=x):biN e=⟨[],byN (l++inc3 x)⟩:=by
  unfold biN
  rw [h1,h2]
theorem byOk_of {e:EN} {n:Nat} (h:e.ln 0=n) (hn:(n:Int)≤100000):byOk e=true:=by
  unfold byOk
  rw [h]
  exact decide_eq_true hn
set_option maxHeartbeats 2000000 in
theorem sv_loop0 (hd : Dat) (s : Aj) (hg : HGood s.incs) : HT Try.prog Try.f11.ntmps 7 (.loop xSv) 12 (svL0.tm ⟨[[], [], [.i (2)]], mn0 hd s ++ byN (headL s ++ incB (s.incs.take 0))⟩) (svL0.heap ⟨[[], [], [.i (2)]], mn0 hd s ++ byN (headL s ++ incB (s.incs.take 0))⟩) (QX ⟨none, [(0, svL0)], none⟩ fun ex e => match ex with
    | .exit _=>svL0.eqv e ⟨[[],[],[.i ((s.incs.length:Int)+2)]],mn0 hd s++byN (headL s++incB s.incs)⟩
    | _=>True):=by
  have hl:=hg.1
  refine HT.loopX tbTab BE (n:=300) inSvx svL0 _ _ (fun j:Nat=>⟨[[],[],[.i ((j:Int)+2)]],mn0 hd s++byN (headL s++incB (s.incs.take j))⟩) (fun j=>j≤s.incs.length) (fun j=>s.incs.length - j) (fun _ ex e=>match ex with
    | .exit _=>svL0.eqv e ⟨[[],[],[.i ((s.incs.length:Int)+2)]],mn0 hd s++byN (headL s++incB s.incs)⟩
    | _=>True) (by decide) ?_ 0 (Nat.zero_le _)
  intro j hj τ0
  have hlen:((headL s++incB (s.incs.take j)).length:Int)≤1000:=by
    rw [List.length_append,incB_length,List.length_take]
    show ((2+3 * min j s.incs.length:Nat):Int)≤1000
    omega
  refine BI [none,some true] (AN (sv_x0 hd s (headL s++incB (s.incs.take j)) ((j:Int)+2) τ0) (AA (AS _) (AJ (AB (AM (fun h=>?_) (fun h=>?_))))))
  · have h:(j:Int)+2≤(s.incs.length:Int)+1:=of_decide_eq_true h
    have hlt:j<s.incs.length:=by omega
    have hI:hasI s.incs ((j:Int)+2)=true:=by
      unfold hasI
      rw [decide_eq_true (by omega),decide_eq_true (by omega)]
      rfl
    have hz:((j:Int)+2 - 2).toNat=j:=by omega
    have hx:(⟨incK s.incs ((j:Int)+2),incO s.incs ((j:Int)+2),incZ s.incs ((j:Int)+2)⟩:Inc)=s.incs.getD j .zero:=by
      unfold incK incO incZ
      rw [hz]
    refine AA (AS _) (AJ (AA hI ?_))
    repeat' with_reducible (first | refine AB ?_ | refine AI ?_)
    refine AA (AP _ _ _) (Ao fun e6 h6=>AA (byOk_of (e:=e6) (n:=(headL s++incB (s.incs.take j)).length) (by rw [h6]; rfl) (by omega)) ?_)
    have n6:biN e6=⟨[],byN ((headL s++incB (s.incs.take j))++inc3 (s.incs.getD j .zero))⟩:=biN_eq (by rw [h6]; exact lstI_rowI _) (by rw [h6]; exact hx)
    rw [n6,List.append_assoc,← incB_take s.incs hlt]
    clear n6 h6
    refine AJ ?_
    repeat' with_reducible (first | refine AB ?_ | refine AI ?_)
    refine (AA (AS _) (AA (Ad rfl _ _) (AA (AP _ _ _) (AE ⟨j+1,hlt,by omega,?_,fun _ _ h=>h⟩))))
    have e1:IntKind.u32.wrap ((j:Int)+2+1)=((j+1:Nat):Int)+2:=by
      rw [show ((j+1:Nat):Int)+2=(j:Int)+2+1 by omega]
      exact IntWalk.u32_in _ (by omega)
    refine ⟨⟨trivial,trivial,e1,trivial⟩,?_,rfl,trivial,?_,⟨rfl,fun i _=>AF rfl _ i⟩,trivial,?_,⟨rfl,fun i _=>AF rfl _ i⟩,trivial,trivial⟩
    · exact clP
    · exact clP
    · exact clP
  · have h:¬ (j:Int)+2≤(s.incs.length:Int)+1:=of_decide_eq_false h
    have:j=s.incs.length:=by omega
    subst this
    rw [List.take_length]
    refine (AA (AS _) (AA (Ad rfl _ _) (AA (AP _ _ _) (AE ?_))))
    refine ⟨⟨trivial,trivial,rfl,trivial⟩,?_,rfl,trivial,?_,⟨rfl,fun i _=>AF rfl _ i⟩,trivial,?_,⟨rfl,fun i _=>AL [.i .u8] (AQ _ i)⟩,trivial,trivial⟩
    · exact clP
    · exact clP
    · exact clP
set_option maxHeartbeats 2000000 in
theorem sv_std0 (hd:Dat) (s:Aj) (hg:HGood s.incs):BO Try.prog 11 svT0 ⟨[[]],mn0 hd s⟩ svR0 ⟨[[.u]],mn0 hd s++byN (saveL s)⟩:=by
  have hl:=hg.1
  refine stdX_loop tbTab BE (n:=300) Try.func11 bodySv_eq 3 (L:=svL0) (E:=svL0) (en0:=⟨[[],[],[.i (2)]],mn0 hd s++byN (headL s++incB (s.incs.take 0))⟩) rfl rfl (by kernel_rfl) rfl rfl lpSv (by decide) (by decide) (by decide)
    (fun τ0=>AN (sv_p0 hd s τ0) (AA (AS _) (AJ (AB (AB (AA (AS _) (AA (Ad rfl _ _) (AE (.inl ⟨rfl,?_⟩)))))))))
    (HT.mono (sv_loop0 hd s hg) fun _ _ _ _ q=>qx_ret q) (fun en he=>⟨⟨[[],[],[.i ((s.incs.length:Int)+2)]],mn0 hd s++byN (headL s++incB s.incs)⟩,he,fun τ0=>AN (sv_t0 hd s (headL s++incB s.incs) ((s.incs.length:Int)+2) τ0) ?_⟩) (fun en he=>he.elim)
  · have e1 : IntKind.u8.wrap (BN s.incs) = BN s.incs := by
      unfold BN
      exact IntWalk.u8_in _ (by omega)
    refine ⟨⟨trivial,trivial,rfl,trivial⟩,?_,rfl,trivial,?_,⟨rfl,fun i _=>AF rfl _ i⟩,trivial,?_,⟨rfl,fun i hi=>?_⟩,trivial,trivial⟩
    · exact clP
    · exact clP
    · exact clP
    · have hi:(i:Int)<2:=hi
      have hj:i=0∨i=1:=by omega
      rcases hj with rfl | rfl
      · exact ⟨rfl,trivial⟩
      · exact ⟨e1,trivial⟩
  · have hlen : ((headL s ++ incB s.incs).length : Int) ≤ 1000 := by
      rw [List.length_append,incB_length]
      show ((2+3 * s.incs.length:Nat):Int)≤1000
      omega
    generalize hL:headL s++incB s.incs=L at hlen
    refine AB (AA (AP _ _ _) (Ao fun e1 h1=>AA (byOk_of (e:=e1) (n:=L.length) (by rw [h1]; rfl) (by omega)) ?_))
    rw [b4N_eq (e:=e1) (l:=L) (n:=IntKind.u64.wrap s.prom.n) (by rw [h1]; exact lstI_rowI _) (by rw [h1]; rfl)]
    clear h1
    have l1:((L++be4 (IntKind.u64.wrap s.prom.n)).length:Int)=L.length+4:=by rw [List.length_append,be4_len]; omega
    generalize hL1:L++be4 (IntKind.u64.wrap s.prom.n)=L1 at l1
    refine AJ (AB (AA (decide_eq_true (by show ((L1.length:Int)+1) * 1≤1099511627776∧(L1.length:Int)+1≤1099511627776; omega)) (AB (AA (rowsB_app1 L1 _) (Ao fun e5 h5=>AA (byOk_of (e:=e5) (n:=((L1.length:Int)+1).toNat) (by rw [h5]; rfl) (by omega)) ?_)))))
    rw [b4N_eq (e:=e5) (l:=L1++[s.prom.who]) (n:=IntKind.u64.wrap s.acc.n) (by rw [h5]; exact byL_app L1 _) (by rw [h5]; rfl)]
    clear h5
    have l2:((L1++[s.prom.who]++be4 (IntKind.u64.wrap s.acc.n)).length:Int)=L1.length+5:=by rw [List.length_append,List.length_append,be4_len]; simp only [List.length_cons,List.length_nil]; omega
    generalize hL2:L1++[s.prom.who]++be4 (IntKind.u64.wrap s.acc.n)=L2 at l2
    refine AJ (AB (AA (decide_eq_true (by show ((L2.length:Int)+1) * 1≤1099511627776∧(L2.length:Int)+1≤1099511627776; omega)) (AA (rowsB_app1 L2 _) (Ao fun e8 h8=>AA (byOk_of (e:=e8) (n:=((L2.length:Int)+1).toNat) (by rw [h8]; rfl) (by omega)) ?_))))
    rw [biN_eq (e:=e8) (l:=L2++[s.acc.who]) (x:=s.ainc) (by rw [h8]; exact byL_app L2 _) (by rw [h8]; rfl)]
    clear h8
    have e3:L2++[s.acc.who]++inc3 s.ainc=bodyL s:=by
      rw [← hL2,← hL1,← hL]
      unfold bodyL balB
      simp only [List.append_assoc]
    have l3:((L2++[s.acc.who]++inc3 s.ainc).length:Int)=L2.length+4:=by unfold inc3; simp only [List.length_append,List.length_cons,List.length_nil]; omega
    rw [e3] at l3 ⊢
    refine AJ (AB (AA (AP _ _ _) (Ao fun e11 h11=>AA (byOk_of (e:=e11) (n:=(bodyL s).length) (by rw [h11]; rfl) (by omega)) ?_)))
    have b11:byL e11=bodyL s:=by rw [h11]; exact lstI_nums _
    rw [b11]
    clear h11 b11
    refine AB (AA (AP _ _ _) (Ao fun e13 h13=>AA (byOk_of (e:=e13) (n:=(bodyL s).length) (by rw [h13]; rfl) (by omega)) ?_))
    rw [b8N_eq (e:=e13) (l:=bodyL s) (n:=sumF (bodyL s)) (by rw [h13]; exact lstI_nums _) (by rw [h13]; rfl)]
    clear h13
    refine AJ (AB (AA (AS _) (AA (Ad rfl _ _) (AA (AP _ _ _) (AE fun _=>?_)))))
    refine ⟨⟨trivial,trivial⟩,?_,rfl,trivial,?_,⟨rfl,fun i _=>AF rfl _ i⟩,trivial,?_,⟨rfl,fun i _=>AF rfl _ i⟩,trivial,trivial⟩
    · exact clP
    · exact clP
    · exact clP
set_option maxHeartbeats 2000000 in
theorem sv_loop1 (hd : Dat) (s : Aj) (p : BA) (hg : HGood s.incs) : HT Try.prog Try.f11.ntmps 12 (.loop xSv) 21 (svL1.tm ⟨[[], [], [.i (2)]], mn1 hd s p ++ byN (headL s ++ incB (s.incs.take 0))⟩) (svL1.heap ⟨[[], [], [.i (2)]], mn1 hd s p ++ byN (headL s ++ incB (s.incs.take 0))⟩) (QX ⟨none, [(0, svL1)], none⟩ fun ex e => match ex with
    | .exit _=>svL1.eqv e ⟨[[],[],[.i ((s.incs.length:Int)+2)]],mn1 hd s p++byN (headL s++incB s.incs)⟩
    | _=>True):=by
  have hl:=hg.1
  refine HT.loopX tbTab BE (n:=300) inSvx svL1 _ _ (fun j:Nat=>⟨[[],[],[.i ((j:Int)+2)]],mn1 hd s p++byN (headL s++incB (s.incs.take j))⟩) (fun j=>j≤s.incs.length) (fun j=>s.incs.length - j) (fun _ ex e=>match ex with
    | .exit _=>svL1.eqv e ⟨[[],[],[.i ((s.incs.length:Int)+2)]],mn1 hd s p++byN (headL s++incB s.incs)⟩
    | _=>True) (by decide) ?_ 0 (Nat.zero_le _)
  intro j hj τ0
  have hlen:((headL s++incB (s.incs.take j)).length:Int)≤1000:=by
    rw [List.length_append,incB_length,List.length_take]
    show ((2+3 * min j s.incs.length:Nat):Int)≤1000
    omega
  refine BI [none,some true] (AN (sv_x1 hd s p (headL s++incB (s.incs.take j)) ((j:Int)+2) τ0) (AA (AS _) (AJ (AB (AM (fun h=>?_) (fun h=>?_))))))
  · have h:(j:Int)+2≤(s.incs.length:Int)+1:=of_decide_eq_true h
    have hlt:j<s.incs.length:=by omega
    have hI:hasI s.incs ((j:Int)+2)=true:=by
      unfold hasI
      rw [decide_eq_true (by omega),decide_eq_true (by omega)]
      rfl
    have hz:((j:Int)+2 - 2).toNat=j:=by omega
    have hx:(⟨incK s.incs ((j:Int)+2),incO s.incs ((j:Int)+2),incZ s.incs ((j:Int)+2)⟩:Inc)=s.incs.getD j .zero:=by
      unfold incK incO incZ
      rw [hz]
    refine AA (AS _) (AJ (AA hI ?_))
    repeat' with_reducible (first | refine AB ?_ | refine AI ?_)
    refine AA (AP _ _ _) (Ao fun e6 h6=>AA (byOk_of (e:=e6) (n:=(headL s++incB (s.incs.take j)).length) (by rw [h6]; rfl) (by omega)) ?_)
    have n6:biN e6=⟨[],byN ((headL s++incB (s.incs.take j))++inc3 (s.incs.getD j .zero))⟩:=biN_eq (by rw [h6]; exact lstI_rowI _) (by rw [h6]; exact hx)
    rw [n6,List.append_assoc,← incB_take s.incs hlt]
    clear n6 h6
    refine AJ ?_
    repeat' with_reducible (first | refine AB ?_ | refine AI ?_)
    refine (AA (AS _) (AA (Ad rfl _ _) (AA (AP _ _ _) (AA (AP _ _ _) (AA (AP _ _ _) (AE ⟨j+1,hlt,by omega,?_,fun _ _ h=>h⟩))))))
    have e1:IntKind.u32.wrap ((j:Int)+2+1)=((j+1:Nat):Int)+2:=by
      rw [show ((j+1:Nat):Int)+2=(j:Int)+2+1 by omega]
      exact IntWalk.u32_in _ (by omega)
    refine ⟨⟨trivial,trivial,e1,trivial⟩,?_,rfl,trivial,?_,⟨rfl,fun i _=>AF rfl _ i⟩,trivial,?_,?_,⟨rfl,fun i _=>AL [.i .u8] (AQ p.hp i)⟩,⟨rfl,fun i _=>AL [.i .u8] (AQ p.ha i)⟩,trivial,trivial,⟨rfl,fun i _=>AF rfl _ i⟩,trivial,trivial⟩
    · exact clP
    · exact clP
    · exact clP
    · exact clP
  · have h:¬ (j:Int)+2≤(s.incs.length:Int)+1:=of_decide_eq_false h
    have:j=s.incs.length:=by omega
    subst this
    rw [List.take_length]
    refine (AA (AS _) (AA (Ad rfl _ _) (AA (AP _ _ _) (AA (AP _ _ _) (AA (AP _ _ _) (AE ?_))))))
    refine ⟨⟨trivial,trivial,rfl,trivial⟩,?_,rfl,trivial,?_,⟨rfl,fun i _=>AF rfl _ i⟩,trivial,?_,?_,⟨rfl,fun i _=>AL [.i .u8] (AQ p.hp i)⟩,⟨rfl,fun i _=>AL [.i .u8] (AQ p.ha i)⟩,trivial,trivial,⟨rfl,fun i _=>AL [.i .u8] (AQ _ i)⟩,trivial,trivial⟩
    · exact clP
    · exact clP
    · exact clP
    · exact clP
set_option maxHeartbeats 2000000 in
theorem sv_std1 (hd:Dat) (s:Aj) (p:BA) (hg:HGood s.incs):BO Try.prog 11 svT1 ⟨[[]],mn1 hd s p⟩ svR1 ⟨[[.u]],mn1 hd s p++byN (saveL s)⟩:=by
  have hl:=hg.1
  refine stdX_loop tbTab BE (n:=300) Try.func11 bodySv_eq 3 (L:=svL1) (E:=svL1) (en0:=⟨[[],[],[.i (2)]],mn1 hd s p++byN (headL s++incB (s.incs.take 0))⟩) rfl rfl (by kernel_rfl) rfl rfl lpSv (by decide) (by decide) (by decide)
    (fun τ0=>AN (sv_p1 hd s p τ0) (AA (AS _) (AJ (AB (AB (AA (AS _) (AA (Ad rfl _ _) (AA (AP _ _ _) (AA (AP _ _ _) (AE (.inl ⟨rfl,?_⟩)))))))))))
    (HT.mono (sv_loop1 hd s p hg) fun _ _ _ _ q=>qx_ret q) (fun en he=>⟨⟨[[],[],[.i ((s.incs.length:Int)+2)]],mn1 hd s p++byN (headL s++incB s.incs)⟩,he,fun τ0=>AN (sv_t1 hd s p (headL s++incB s.incs) ((s.incs.length:Int)+2) τ0) ?_⟩) (fun en he=>he.elim)
  · have e1 : IntKind.u8.wrap (BN s.incs) = BN s.incs := by
      unfold BN
      exact IntWalk.u8_in _ (by omega)
    refine ⟨⟨trivial,trivial,rfl,trivial⟩,?_,rfl,trivial,?_,⟨rfl,fun i _=>AF rfl _ i⟩,trivial,?_,?_,⟨rfl,fun i _=>AL [.i .u8] (AQ p.hp i)⟩,⟨rfl,fun i _=>AL [.i .u8] (AQ p.ha i)⟩,trivial,trivial,⟨rfl,fun i hi=>?_⟩,trivial,trivial⟩
    · exact clP
    · exact clP
    · exact clP
    · exact clP
    · have hi:(i:Int)<2:=hi
      have hj:i=0∨i=1:=by omega
      rcases hj with rfl | rfl
      · exact ⟨rfl,trivial⟩
      · exact ⟨e1,trivial⟩
  · have hlen : ((headL s ++ incB s.incs).length : Int) ≤ 1000 := by
      rw [List.length_append,incB_length]
      show ((2+3 * s.incs.length:Nat):Int)≤1000
      omega
    generalize hL:headL s++incB s.incs=L at hlen
    refine AB (AA (AP _ _ _) (Ao fun e1 h1=>AA (byOk_of (e:=e1) (n:=L.length) (by rw [h1]; rfl) (by omega)) ?_))
    rw [b4N_eq (e:=e1) (l:=L) (n:=IntKind.u64.wrap s.prom.n) (by rw [h1]; exact lstI_rowI _) (by rw [h1]; rfl)]
    clear h1
    have l1:((L++be4 (IntKind.u64.wrap s.prom.n)).length:Int)=L.length+4:=by rw [List.length_append,be4_len]; omega
    generalize hL1:L++be4 (IntKind.u64.wrap s.prom.n)=L1 at l1
    refine AJ (AB (AA (decide_eq_true (by show ((L1.length:Int)+1) * 1≤1099511627776∧(L1.length:Int)+1≤1099511627776; omega)) (AB (AA (rowsB_app1 L1 _) (Ao fun e5 h5=>AA (byOk_of (e:=e5) (n:=((L1.length:Int)+1).toNat) (by rw [h5]; rfl) (by omega)) ?_)))))
    rw [b4N_eq (e:=e5) (l:=L1++[s.prom.who]) (n:=IntKind.u64.wrap s.acc.n) (by rw [h5]; exact byL_app L1 _) (by rw [h5]; rfl)]
    clear h5
    have l2:((L1++[s.prom.who]++be4 (IntKind.u64.wrap s.acc.n)).length:Int)=L1.length+5:=by rw [List.length_append,List.length_append,be4_len]; simp only [List.length_cons,List.length_nil]; omega
    generalize hL2:L1++[s.prom.who]++be4 (IntKind.u64.wrap s.acc.n)=L2 at l2
    refine AJ (AB (AA (decide_eq_true (by show ((L2.length:Int)+1) * 1≤1099511627776∧(L2.length:Int)+1≤1099511627776; omega)) (AA (rowsB_app1 L2 _) (Ao fun e8 h8=>AA (byOk_of (e:=e8) (n:=((L2.length:Int)+1).toNat) (by rw [h8]; rfl) (by omega)) ?_))))
    rw [biN_eq (e:=e8) (l:=L2++[s.acc.who]) (x:=s.ainc) (by rw [h8]; exact byL_app L2 _) (by rw [h8]; rfl)]
    clear h8
    have e3:L2++[s.acc.who]++inc3 s.ainc=bodyL s:=by
      rw [← hL2,← hL1,← hL]
      unfold bodyL balB
      simp only [List.append_assoc]
    have l3:((L2++[s.acc.who]++inc3 s.ainc).length:Int)=L2.length+4:=by unfold inc3; simp only [List.length_append,List.length_cons,List.length_nil]; omega
    rw [e3] at l3 ⊢
    refine AJ (AB (AA (AP _ _ _) (Ao fun e11 h11=>AA (byOk_of (e:=e11) (n:=(bodyL s).length) (by rw [h11]; rfl) (by omega)) ?_)))
    have b11:byL e11=bodyL s:=by rw [h11]; exact lstI_nums _
    rw [b11]
    clear h11 b11
    refine AB (AA (AP _ _ _) (Ao fun e13 h13=>AA (byOk_of (e:=e13) (n:=(bodyL s).length) (by rw [h13]; rfl) (by omega)) ?_))
    rw [b8N_eq (e:=e13) (l:=bodyL s) (n:=sumF (bodyL s)) (by rw [h13]; exact lstI_nums _) (by rw [h13]; rfl)]
    clear h13
    refine AJ (AB (AA (AS _) (AA (Ad rfl _ _) (AA (AP _ _ _) (AA (AP _ _ _) (AA (AP _ _ _) (AE fun _=>?_)))))))
    refine ⟨⟨trivial,trivial⟩,?_,rfl,trivial,?_,⟨rfl,fun i _=>AF rfl _ i⟩,trivial,?_,?_,⟨rfl,fun i _=>AL [.i .u8] (AQ p.hp i)⟩,⟨rfl,fun i _=>AL [.i .u8] (AQ p.ha i)⟩,trivial,trivial,⟨rfl,fun i _=>AF rfl _ i⟩,trivial,trivial⟩
    · exact clP
    · exact clP
    · exact clP
    · exact clP
end Go.Proofs.Ytddmgdclmkgpeaa
set_option linter.unusedSimpArgs false
set_option linter.unusedVariables false
namespace Go.Proofs.Ytddmgdclmkgpeaa
open Go.Eng Go.RowKit Go.ChangeShapes Go.WideShapes
set_option maxRecDepth 100000
def soR0:TS:=⟨[],[.one (.sl 10)],[(0,.ob 2 MonR 40),(40,.tok),(10,.lst none [.i .u8] (some 11)),(11,.tok)],41⟩
def soR1:TS:=⟨[],[.one (.sl 19)],[(0,.ob 2 MonR 40),(40,.tok),(19,.lst none [.i .u8] (some 20)),(20,.tok)],41⟩
def svN (e:EN):EN:=⟨[],byN (saveL (e.dt 0))⟩
end Go.Proofs.Ytddmgdclmkgpeaa
