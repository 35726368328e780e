/- Texts of this claim, laid together (part 6).
   Conditions: none. -/
import Derived.Test.YtddmgdclmkgpeaaGreatZke
set_option linter.unusedSimpArgs false
set_option linter.unusedVariables false
set_option linter.unusedSimpArgs false
set_option linter.unusedVariables false
namespace Go.Proofs.YtddmgdclmkgpeaaGreat
open Go.Eng Go.RowKit Go.ChangeShapes Go.WideShapes
set_option maxRecDepth 100000
noncomputable def rfSm:List (FuncId×Summ):=[(24,AW laT cLa),(26,AW inT cHm),(102,AW apT cAp),(58,AW stT1 cSt),(105,AW rnT cPn)]
noncomputable def rfTb:Tab:=smTab (tabOf rfSm)
def beT0:TS:=⟨[],[.one (.ptr 0 0)],mp0,7⟩
def beT1:TS:=⟨[],[.one (.ptr 0 0)],mp1,12⟩
def beH0:List (Nat×TO):=[(0,.box [.i .u8,.ptr 1 0,.ptr 3 0,.sl 8,.nilp,.i .i64,.i .u32,.i .u8,.ptr 6 0]),(1,.ob 1 Af 7),(7,.tok),(3,.box acB),(8,.lst none BB (some 9)),(9,.tok),(6,.box rpB)]
def beH1:List (Nat×TO):=[(0,.box [.i .u8,.ptr 1 0,.ptr 3 0,.sl 13,.ptr 7 0,.i .i64,.i .u32,.i .u8,.ptr 6 0]),(1,.ob 1 Af 12),(12,.tok),(3,.box acB),(13,.lst none BB (some 14)),(14,.tok),(6,.box rpB),(7,.box [.i .u8,.i .u8,.i .u8,.i .i64,.i .u8,.i .u8,.i .i64,.i .u8,.i .u8,.i .i64,.i .u32,.i .u8,.i .u32,.i .u8,.sl 15,.sl 16,.b,.b,.i .u8,.i .u8,.i .i64,.b,.b]),(15,.lst none [.i .u8] (some 17)),(16,.lst none [.i .u8] (some 18)),(17,.tok),(18,.tok)]
def beL0:TS:=⟨[0,2],[.one (.ptr 0 0),.one .nils],beH0,10⟩
def beL1:TS:=⟨[0,2],[.one (.ptr 0 0),.one .nils],beH1,19⟩
def beR0:TS:=⟨[2],[.one .nils],beH0,10⟩
def beR1:TS:=⟨[2],[.one .nils],beH1,19⟩
def beN1:TS:=⟨[2],[.one (.sl 15)],[(0,.box [.i .u8,.ptr 1 0,.ptr 3 0,.sl 8,.ptr 10 0,.i .i64,.i .u32,.i .u8,.ptr 6 0]),(1,.ob 1 Af 7),(7,.tok),(3,.box acB),(8,.lst none BB (some 9)),(9,.tok),(6,.box rpB),(10,.box [.i .u8,.i .u8,.i .u8,.i .i64,.i .u8,.i .u8,.i .i64,.i .u8,.i .u8,.i .i64,.i .u32,.i .u8,.i .u32,.i .u8,.sl 11,.sl 12,.b,.b,.i .u8,.i .u8,.i .i64,.b,.b]),(11,.lst none [.i .u8] (some 13)),(12,.lst none [.i .u8] (some 14)),(13,.tok),(14,.tok),(15,.lst (some 2) msgR (some 16)),(16,.tok)],17⟩
theorem rfSm_ok:AllOk Tryz.prog rfSm:=⟨cLa_ok,cHm_ok,cAp_ok,cSt_ok,cPn_ok,trivial⟩
theorem rfTab:TabAll Tryz.prog rfTb:=tab_ok rfSm_ok
noncomputable def bodyBe:Code:=Tryz.f57.body.getD .skip
noncomputable def xBe:Code:=lp ((flat bodyBe).getD 1 .skip)
theorem bodyBe_eq:Tryz.f57.body=some bodyBe:=by kernel_rfl
theorem inBe:BT Tryz.prog 57 Tryz.f57.ntmps bodyBe:=within_body Tryz.func57 bodyBe_eq
theorem lpBe:(flat bodyBe).drop 1=[.block 0 (.loop xBe)]++(flat bodyBe).drop 2:=by kernel_rfl
theorem inBex:BT Tryz.prog 57 Tryz.f57.ntmps xBe:=by
  have h:(flat bodyBe)[1]? = some (.block 0 (.loop xBe)):=by kernel_rfl
  exact within_loop (within_block (within_at inBe 1 h))
noncomputable abbrev qRf1 {R:Type} (e:EN) (k:Int→Int→Int→Int→Int→Int→Int→Int→Int→Int→Int→Int→Bool→Bool→Bool→Bool→Bool→Bool→Bool→Bool→Bool→Bool→Bool→Bool→Bool→Bool→Bool→Bool→Bool→Bool→Bool→Bool→Bool→Bool→Bool→Bool→Bool→Int→Int→Int→Int→Int→Int→Int→Int→Int→Int→Int→Int→Int→Int→Bool→Bool→Int→Int→Int→Bool→Bool→Int→Int→Ah R):Ah R:=.defI (e.bi 0 0) fun a0=>.defI (e.bi 0 5) fun a1=>.defI (e.bi 0 6) fun a2=>.defI (e.bi 0 7) fun a3=>.defI (e.bi 3 0) fun a4=>.defI (e.bi 3 1) fun a5=>.defI (e.bi 3 2) fun a6=>.defI (e.bi 3 3) fun a7=>.defI (e.bi 3 4) fun a8=>.defI (e.bi 3 5) fun a9=>.defI (e.bi 3 6) fun a10=>.defI ((e.ln 4):Int) fun a11=>.defB (e.bb 6 0) fun a12=>.defB (e.bb 6 1) fun a13=>.defB (e.bb 6 2) fun a14=>.defB (e.bb 6 3) fun a15=>.defB (e.bb 6 4) fun a16=>.defB (e.bb 6 5) fun a17=>.defB (e.bb 6 6) fun a18=>.defB (e.bb 6 7) fun a19=>.defB (e.bb 6 8) fun a20=>.defB (e.bb 6 9) fun a21=>.defB (e.bb 6 10) fun a22=>.defB (e.bb 6 11) fun a23=>.defB (e.bb 6 12) fun a24=>.defB (e.bb 6 13) fun a25=>.defB (e.bb 6 14) fun a26=>.defB (e.bb 6 15) fun a27=>.defB (e.bb 6 16) fun a28=>.defB (e.bb 6 17) fun a29=>.defB (e.bb 6 18) fun a30=>.defB (e.bb 6 19) fun a31=>.defB (e.bb 6 20) fun a32=>.defB (e.bb 6 21) fun a33=>.defB (e.bb 6 22) fun a34=>.defB (e.bb 6 23) fun a35=>.defB (e.bb 6 24) fun
 a36=>.defI (e.bi 7 0) fun a37=>.defI (e.bi 7 1) fun a38=>.defI (e.bi 7 2) fun a39=>.defI (e.bi 7 3) fun a40=>.defI (e.bi 7 4) fun a41=>.defI (e.bi 7 5) fun a42=>.defI (e.bi 7 6) fun a43=>.defI (e.bi 7 7) fun a44=>.defI (e.bi 7 8) fun a45=>.defI (e.bi 7 9) fun a46=>.defI (e.bi 7 10) fun a47=>.defI (e.bi 7 11) fun a48=>.defI (e.bi 7 12) fun a49=>.defI (e.bi 7 13) fun a50=>.defB (e.bb 7 16) fun a51=>.defB (e.bb 7 17) fun a52=>.defI (e.bi 7 18) fun a53=>.defI (e.bi 7 19) fun a54=>.defI (e.bi 7 20) fun a55=>.defB (e.bb 7 21) fun a56=>.defB (e.bb 7 22) fun a57=>.defI ((e.ln 8):Int) fun a58=>.defI ((e.ln 9):Int) fun a59=>k a0 a1 a2 a3 a4 a5 a6 a7 a8 a9 a10 a11 a12 a13 a14 a15 a16 a17 a18 a19 a20 a21 a22 a23 a24 a25 a26 a27 a28 a29 a30 a31 a32 a33 a34 a35 a36 a37 a38 a39 a40 a41 a42 a43 a44 a45 a46 a47 a48 a49 a50 a51 a52 a53 a54 a55 a56 a57 a58 a59
noncomputable abbrev qRf2 (v0:Al):ON:=.box [.b (v0.10 0),.b (v0.10 1),.b (v0.10 2),.b (v0.10 3),.b (v0.10 4),.b (v0.10 5),.b (v0.10 6),.b (v0.10 7),.b (v0.10 8),.b (v0.10 9),.b (v0.10 10),.b (v0.10 11),.b (v0.10 12),.b (v0.10 13),.b (v0.10 14),.b (v0.10 15),.b (v0.10 16),.b (v0.10 17),.b (v0.10 18),.b (v0.10 19),.b (v0.10 20),.b (v0.10 21),.b (v0.10 22),.b (v0.10 23),.b (v0.10 24)]
noncomputable abbrev qRf3 (v0:Al) (v1:BA):ON:=.box [.i v0.1,.i v1.want.1,.i v1.want.2,.i v1.want.3,.i v1.value.1,.i v1.value.2,.i v1.value.3,.i v1.best.1,.i v1.best.2,.i v1.best.3,.i v1.b.1,.i v1.b.2,.i v1.acc.1,.i v1.acc.2,.u,.u,.b v1.8,.b v1.9,.i v1.decided.1,.i v1.decided.2,.i v1.decided.3,.b v1.11,.b v1.12]
noncomputable abbrev qRf4 (v0:Al):ON:=.box [.i v0.prom.1,.i v0.prom.2,.i v0.acc.1,.i v0.acc.2,.i v0.ainc.1,.i v0.ainc.2,.i v0.ainc.3]
noncomputable abbrev qRf5 (v0:Al):ON:=.box [.i v0.1,.u,.u,.u,.u,.i v0.8,.i v0.over.1,.i v0.over.2,.u]
noncomputable abbrev qRf7 (v0:Int) (v1:EN) (v2:Int) (v3:Int) (v4:Int) (v5:Int) (v6:Int) (v7:Int) (v8:Int) (v9:Int) (v10:Int) (v11:Int) (v12:Int) (v13:Int) (v14:Int):EN:=⟨[[.i v0,.b (upM (v1.dt 0).2 (v1.ai 1 0) 0),.i v2,.i v3,.b (upM (v1.dt 0).2 (v1.ai 1 0) 1),.i v4,.i v5,.b (upM (v1.dt 0).2 (v1.ai 1 0) 2),.i v6,.i v7,.b (upM (v1.dt 0).2 (v1.ai 1 0) 3),.i v8,.i v9,.b (upM (v1.dt 0).2 (v1.ai 1 0) 4),.i v10,.i v11],[.i v12,.i v13,.i v14]],[]⟩
noncomputable abbrev qRf10 (v0:Al) (v1:Dat):EN:=⟨[[.u],[.u]],[(qRf5 v0),.own (hdW v1 v0.2),.tok,(qRf4 v0),.lst v0.6.length (AH BB (AI BB (rowJ v0.wishes))),.tok,(qRf2 v0)]⟩
noncomputable abbrev qRf6 (v0:Al) (v1:BA) (v2:EN):Ah (Ex×EN):=.must (decide ((0:Int)≤1∧(1:Int)≤(v0.6.length:Int))) (.must (decide ((v0.6.length:Int)≤(v0.6.length:Int))) (.must (BE Af Af) (.must (AX BB (Aw (.lit 1) (AI BB (rowJ v0.wishes))) ((v0.6.length:Int) - 1).toNat) (.must (AX [.i .u8] (AI [.i .u8] (AR v1.6)) v1.6.length) (.must (AX [.i .u8] (AI [.i .u8] (AR v1.7)) v1.7.length) (.leaf (.normal,⟨[[.u],[.u]],[(qRf5 v0),.own (v2.dt 0),.tok,(qRf4 v0),.lst ((v0.6.length:Int) - 1).toNat (AH BB (Aw (.lit 1) (AI BB (rowJ v0.wishes)))),.tok,(qRf2 v0),(qRf3 v0 v1),.lst v1.6.length (AR v1.6),.lst v1.7.length (AR v1.7),.tok,.tok]⟩)))))))
noncomputable abbrev qRf8 (v0:Al) (v1:EN):Ah (Ex×EN):=.must (decide ((0:Int)≤1∧(1:Int)≤(v0.6.length:Int))) (.must (decide ((v0.6.length:Int)≤(v0.6.length:Int))) (.must (BE Af Af) (.must (AX BB (Aw (.lit 1) (AI BB (rowJ v0.wishes))) ((v0.6.length:Int) - 1).toNat) (.leaf (.normal,⟨[[.u],[.u]],[(qRf5 v0),.own (v1.dt 0),.tok,(qRf4 v0),.lst ((v0.6.length:Int) - 1).toNat (AH BB (Aw (.lit 1) (AI BB (rowJ v0.wishes)))),.tok,(qRf2 v0)]⟩)))))
noncomputable abbrev qRf9 (v0:Al) (v1:BA) (v2:Dat):Ah (Ex×EN):=.must (BE Af Af) (.must (AX BB (AI BB (rowJ v0.wishes)) v0.6.length) (.must (AX [.i .u8] (AI [.i .u8] (AR v1.6)) v1.6.length) (.must (AX [.i .u8] (AI [.i .u8] (AR v1.7)) v1.7.length) (.leaf (.ret,⟨[[.u]],[(qRf5 v0),.own (hdW v2 v0.2),.tok,(qRf4 v0),.lst v0.6.length (AH BB (AI BB (rowJ v0.wishes))),.tok,(qRf2 v0),(qRf3 v0 v1),.lst v1.6.length (AR v1.6),.lst v1.7.length (AR v1.7),.tok,.tok]⟩)))))
theorem be_x0E (hd:Dat) (s:Al) (τ0:Tm):(Am Tryz.prog rfTb 300 57 Tryz.f57.ntmps xBe (beL0.tm ⟨[[],[]],mn0 hd s⟩++τ0) (beL0.heap ⟨[[],[]],mn0 hd s⟩) 10 (outX 7 ⟨some beL0,[(0,beL0)],none⟩)).cut [some false] =

  .must (!decide ((s.6.length:Int)>0)) (.must (BE Af Af) (.must (AX BB (AI BB (rowJ s.wishes)) s.6.length) (.leaf (.exit 0,(qRf10 s hd))))):=by kernel_rfl
theorem be_x0N (hd:Dat) (s:Al) (τ0:Tm):(Am Tryz.prog rfTb 300 57 Tryz.f57.ntmps xBe (beL0.tm ⟨[[],[]],mn0 hd s⟩++τ0) (beL0.heap ⟨[[],[]],mn0 hd s⟩) 10 (outX 7 ⟨some beL0,[(0,beL0)],none⟩)).cut [some true,some true,some false,some false] =

  .must (decide ((s.6.length:Int)>0)) (.must (decide ((0:Int)≤0∧(0:Int)<(s.6.length:Int))) (.must (decide ((0:Int)≤0∧(0:Int)<(s.6.length:Int))) (.defI (s.wishes.getD (0:Int).toNat Inc.zero).1 fun z0=>.defI (s.wishes.getD (0:Int).toNat Inc.zero).2 fun z1=>.defI (s.wishes.getD (0:Int).toNat Inc.zero).3 fun z2=>.must (BE Af Af) (.defE ⟨[[.u]],[.own (hdW hd s.2),.tok]⟩ fun e3=>.defI (BK (e3.dt 0).2) fun z4=>.must (BE Af Af) (.defE ⟨[[.u],[.i z4]],[.own (e3.dt 0),.tok]⟩ fun e5=>.must (hasM (e5.dt 0).2 (e5.ai 1 0)) (.defI (e5.ai 1 0) fun z6=>.defI (wM (e5.dt 0).2 (e5.ai 1 0) 0) fun z7=>.defI 0 fun z8=>.defI (wM (e5.dt 0).2 (e5.ai 1 0) 1) fun z9=>.defI 1 fun z10=>.defI (wM (e5.dt 0).2 (e5.ai 1 0) 2) fun z11=>.defI 2 fun z12=>.defI (wM (e5.dt 0).2 (e5.ai 1 0) 3) fun z13=>.defI 3 fun z14=>.defI (wM (e5.dt 0).2 (e5.ai 1 0) 4) fun z15=>.defI 0 fun z16=>.defE (qRf7 z6 e5 z7 z8 z9 z10 z11 z12 z13 z14 z15 z16 z0 z1 z2) fun e17=>.must (decide (0≤e17.ai 1 1)) (.must (!apOk (e17.ai 0 0) (Av e17 0 0) (BF e17 0 0) (e17.ai 1 0) (e17.ai 1 1) (e17.ai 1 2)) (.defI 0 fun z18=>.defI 0 fun z19=>.defI 0 fun z20=>.defI 0 fun z21=>.defI 0 fun z22=>.defI 0 fun z23=>.defI 0 fun z24=>.defI 0 fun z25=>.defI 0 fun z26=>.defI 0 fun z27=>.defI 0 fun z28=>.defI 40 fun z29=>.defI (IntKind.u32.wrap (z18 - 1)) fun z30=>.must (!z29==0) (qRf8 s e5))))))))):=by kernel_rfl
theorem be_x0Y (hd:Dat) (s:Al) (τ0:Tm):(Am Tryz.prog rfTb 300 57 Tryz.f57.ntmps xBe (beL0.tm ⟨[[],[]],mn0 hd s⟩++τ0) (beL0.heap ⟨[[],[]],mn0 hd s⟩) 10 (outX 7 ⟨some beL0,[(0,beL0)],none⟩)).cut [some true,some true,some true,some true,some true,none] =

  .must (decide ((s.6.length:Int)>0)) (.must (decide ((0:Int)≤0∧(0:Int)<(s.6.length:Int))) (.must (decide ((0:Int)≤0∧(0:Int)<(s.6.length:Int))) (.defI (s.wishes.getD (0:Int).toNat Inc.zero).1 fun z0=>.defI (s.wishes.getD (0:Int).toNat Inc.zero).2 fun z1=>.defI (s.wishes.getD (0:Int).toNat Inc.zero).3 fun z2=>.must (BE Af Af) (.defE ⟨[[.u]],[.own (hdW hd s.2),.tok]⟩ fun e3=>.defI (BK (e3.dt 0).2) fun z4=>.must (BE Af Af) (.defE ⟨[[.u],[.i z4]],[.own (e3.dt 0),.tok]⟩ fun e5=>.must (hasM (e5.dt 0).2 (e5.ai 1 0)) (.defI (e5.ai 1 0) fun z6=>.defI (wM (e5.dt 0).2 (e5.ai 1 0) 0) fun z7=>.defI 0 fun z8=>.defI (wM (e5.dt 0).2 (e5.ai 1 0) 1) fun z9=>.defI 1 fun z10=>.defI (wM (e5.dt 0).2 (e5.ai 1 0) 2) fun z11=>.defI 2 fun z12=>.defI (wM (e5.dt 0).2 (e5.ai 1 0) 3) fun z13=>.defI 3 fun z14=>.defI (wM (e5.dt 0).2 (e5.ai 1 0) 4) fun z15=>.defI 0 fun z16=>.defE (qRf7 z6 e5 z7 z8 z9 z10 z11 z12 z13 z14 z15 z16 z0 z1 z2) fun e17=>.must (decide (0≤e17.ai 1 1)) (.must (apOk (e17.ai 0 0) (Av e17 0 0) (BF e17 0 0) (e17.ai 1 0) (e17.ai 1 1) (e17.ai 1 2)) (.defI (e17.ai 0 0+1) fun z18=>.defI (apW (e17.ai 1 0) (e17.ai 1 1) (e17.ai 1 2) (Av e17 0 0) 0) fun z19=>.defI (BF e17 0 0 0) fun z20=>.defI (apW (e17.ai 1 0) (e17.ai 1 1) (e17.ai 1 2) (Av e17 0 0) 1) fun z21=>.defI (BF e17 0 0 1) fun z22=>.defI (apW (e17.ai 1 0) (e17.ai 1 1) (e17.ai 1 2) (Av e17 0 0) 2) fun z23=>.defI
 (BF e17 0 0 2) fun z24=>.defI (apW (e17.ai 1 0) (e17.ai 1 1) (e17.ai 1 2) (Av e17 0 0) 3) fun z25=>.defI (BF e17 0 0 3) fun z26=>.defI (apW (e17.ai 1 0) (e17.ai 1 1) (e17.ai 1 2) (Av e17 0 0) 4) fun z27=>.defI (BF e17 0 0 4) fun z28=>.defI 0 fun z29=>.defI (IntKind.u32.wrap (z18 - 1)) fun z30=>.must (z29==0) (.must (BE Af Af) (.defE ⟨[[.u]],[.own (e5.dt 0),.tok]⟩ fun e31=>.defI (BK (e31.dt 0).2) fun z32=>.must (BE Af Af) (.defE ⟨[[.u],[.i z32]],[.own (e31.dt 0),.tok]⟩ fun e33=>.must (hasM (e33.dt 0).2 (e33.ai 1 0)) (.defI (e33.ai 1 0) fun z34=>.defI (wM (e33.dt 0).2 (e33.ai 1 0) 0) fun z35=>.defI 0 fun z36=>.defI (wM (e33.dt 0).2 (e33.ai 1 0) 1) fun z37=>.defI 1 fun z38=>.defI (wM (e33.dt 0).2 (e33.ai 1 0) 2) fun z39=>.defI 2 fun z40=>.defI (wM (e33.dt 0).2 (e33.ai 1 0) 3) fun z41=>.defI 3 fun z42=>.defI (wM (e33.dt 0).2 (e33.ai 1 0) 4) fun z43=>.defI 0 fun z44=>.ite (!!(z30==z34&&(apU (e17.ai 1 0) (e17.ai 1 1) (Ag e17 0 0) 0==upM (e33.dt 0).2 (e33.ai 1 0) 0&&(z19==z35&&z20==z36)&&(apU (e17.ai 1 0) (e17.ai 1 1) (Ag e17 0 0) 1==upM (e33.dt 0).2 (e33.ai 1 0) 1&&(z21==z37&&z22==z38)&&(apU (e17.ai 1 0) (e17.ai 1 1) (Ag e17 0 0) 2==upM (e33.dt 0).2 (e33.ai 1 0) 2&&(z23==z39&&z24==z40)&&(apU (e17.ai 1 0) (e17.ai 1 1) (Ag e17 0 0) 3==upM (e33.dt 0).2 (e33.ai 1 0) 3&&(z25==z41&&z26==z42)&&(apU (e17.ai 1 0) (e17.ai 1 1) (Ag e17 0 0) 4==upM
 (e33.dt 0).2 (e33.ai 1 0) 4&&(z27==z43&&z28==z44)))))))) (qRf8 s e33) (.must (BE Af Af) (.must (AX BB (AI BB (rowJ s.wishes)) s.6.length) (.leaf (.exit 0,⟨[[.u],[.u]],[(qRf5 s),.own (e33.dt 0),.tok,(qRf4 s),.lst s.6.length (AH BB (AI BB (rowJ s.wishes))),.tok,(qRf2 s)]⟩)))))))))))))))):=by kernel_rfl
theorem be_pbeR0 (hd:Dat) (s:Al) (τ0:Tm):Am Tryz.prog rfTb 300 57 Tryz.f57.ntmps (Eng.ofL ((flat bodyBe).take 1)) (argTm 0 (beT0.vals ⟨[[]],mn0 hd s⟩)++τ0) (beT0.heap ⟨[[]],mn0 hd s⟩) 7 (outX 7 ⟨some beL0,[],some beR0⟩) =

  .must (BE Af Af) (.must (AX BB (AI BB (rowJ s.wishes)) s.6.length) (.leaf (.normal,(qRf10 s hd)))):=by kernel_rfl
theorem be_tbeR0 (hd:Dat) (s:Al) (τ0:Tm):(Am Tryz.prog rfTb 300 57 Tryz.f57.ntmps (Eng.ofL ((flat bodyBe).drop 2)) (beL0.tm ⟨[[],[]],mn0 hd s⟩++τ0) (beL0.heap ⟨[[],[]],mn0 hd s⟩) 10 (outX 7 ⟨none,[],some beR0⟩)).cut [some true] =

  .must ((s.6.length:Int)==0) (.must (BE Af Af) (.must (AX BB (AI BB (rowJ s.wishes)) s.6.length) (.leaf (.ret,⟨[[.u]],[(qRf5 s),.own (hdW hd s.2),.tok,(qRf4 s),.lst s.6.length (AH BB (AI BB (rowJ s.wishes))),.tok,(qRf2 s)]⟩)))):=by kernel_rfl
theorem be_pbeN1 (hd:Dat) (s:Al) (τ0:Tm):Am Tryz.prog rfTb 300 57 Tryz.f57.ntmps (Eng.ofL ((flat bodyBe).take 1)) (argTm 0 (beT0.vals ⟨[[]],mn0 hd s⟩)++τ0) (beT0.heap ⟨[[]],mn0 hd s⟩) 7 (outX 7 ⟨some beL0,[],some beN1⟩) =

  .must (BE Af Af) (.must (AX BB (AI BB (rowJ s.wishes)) s.6.length) (.leaf (.normal,(qRf10 s hd)))):=by kernel_rfl
theorem be_tbeN1 (hd:Dat) (s:Al) (τ0:Tm):(Am Tryz.prog rfTb 300 57 Tryz.f57.ntmps (Eng.ofL ((flat bodyBe).drop 2)) (beL0.tm ⟨[[],[]],mn0 hd s⟩++τ0) (beL0.heap ⟨[[],[]],mn0 hd s⟩) 10 (outX 7 ⟨none,[],some beN1⟩)).cut [some false] =

  .must (!(s.6.length:Int)==0) (.must (decide ((0:Int)≤0∧(0:Int)<(s.6.length:Int))) (.must (decide ((0:Int)≤0∧(0:Int)<(s.6.length:Int))) (.defI (s.wishes.getD (0:Int).toNat Inc.zero).1 fun z0=>.defI (s.wishes.getD (0:Int).toNat Inc.zero).2 fun z1=>.defI (s.wishes.getD (0:Int).toNat Inc.zero).3 fun z2=>.defE ⟨[[.i s.1],[.i z0,.i z1,.i z2]],[]⟩ fun e3=>.defI (e3.ai 0 0) fun z4=>.defI (e3.ai 1 0) fun z5=>.defI (e3.ai 1 1) fun z6=>.defI (e3.ai 1 2) fun z7=>.defI 0 fun z8=>.defI 0 fun z9=>.defI 0 fun z10=>.defI 0 fun z11=>.defI 0 fun z12=>.defI 0 fun z13=>.defI 0 fun z14=>.defI 0 fun z15=>.defI 0 fun z16=>.defI 0 fun z17=>.defB false fun z18=>.defB false fun z19=>.defI 0 fun z20=>.defI 0 fun z21=>.defI 0 fun z22=>.defB false fun z23=>.defB false fun z24=>.defI 0 fun z25=>.defI 0 fun z26=>.must (BE Af Af) (.must (AX BB (AI BB (rowJ s.wishes)) s.6.length) (.must (AX [.i .u8] (AI [.i .u8] (AR ([]))) z25.toNat) (.must (AX [.i .u8] (AI [.i .u8] (AR ([]))) z26.toNat) (.defE ⟨[[.u]],[(qRf5 s),.own (hdW hd s.2),.tok,(qRf4 s),.lst s.6.length (AH BB (AI BB (rowJ s.wishes))),.tok,(qRf2 s),.box [.i z4,.i z5,.i z6,.i z7,.i z8,.i z9,.i z10,.i z11,.i z12,.i z13,.i z14,.i z15,.i z16,.i z17,.u,.u,.b z18,.b z19,.i z20,.i z21,.i z22,.b z23,.b z24],.lst z25.toNat (AR ([])),.lst z26.toNat (AR ([])),.tok,.tok]⟩ fun e27=>.must
 (okS e27) (.defE (stN e27) fun e28=>qRf1 e28 fun z29 z30 z31 z32 z33 z34 z35 z36 z37 z38 z39 z40 z41 z42 z43 z44 z45 z46 z47 z48 z49 z50 z51 z52 z53 z54 z55 z56 z57 z58 z59 z60 z61 z62 z63 z64 z65 z66 z67 z68 z69 z70 z71 z72 z73 z74 z75 z76 z77 z78 z79 z80 z81 z82 z83 z84 z85 z86 z87 z88=>.must (BE Af Af) (.must (AX BB ((AI BB (e28.rw 4))) z40.toNat) (.must (AX [.i .u8] ((AI [.i .u8] (e28.rw 8))) z87.toNat) (.must (AX [.i .u8] ((AI [.i .u8] (e28.rw 9))) z88.toNat) (.leaf (.ret,⟨[[.u]],[.box [.i z29,.u,.u,.u,.u,.i z30,.i z31,.i z32,.u],.own (e28.dt 1),.tok,.box [.i z33,.i z34,.i z35,.i z36,.i z37,.i z38,.i z39],.lst z40.toNat (AH BB (AI BB (e28.rw 4))),.tok,.box [.b z41,.b z42,.b z43,.b z44,.b z45,.b z46,.b z47,.b z48,.b z49,.b z50,.b z51,.b z52,.b z53,.b z54,.b z55,.b z56,.b z57,.b z58,.b z59,.b z60,.b z61,.b z62,.b z63,.b z64,.b z65],.box [.i z66,.i z67,.i z68,.i z69,.i z70,.i z71,.i z72,.i z73,.i z74,.i z75,.i z76,.i z77,.i z78,.i z79,.u,.u,.b z80,.b z81,.i z82,.i z83,.i z84,.b z85,.b z86],.lst z87.toNat (AH [.i .u8] (AI [.i .u8] (e28.rw 8))),.lst z88.toNat (AH [.i .u8] (AI [.i .u8] (e28.rw 9))),.tok,.tok,.lst 2 (AH msgR fun (i:Nat)=>(mAV [.int .u8 (.sym (hdN (e28.rw 12 i)).I),.int .u8 (.sym (hdN (tlN (e28.rw 12 i))).I),.int .u8 (.sym (hdN (tlN (tlN (e28.rw 12 i)))).I),.int .u32 (.sym (hdN (tlN (tlN (tlN (e28.rw 12 i))))).I),
 .int .u32 (.sym (hdN (tlN (tlN (tlN (tlN (e28.rw 12 i)))))).I),.int .u8 (.sym (hdN (tlN (tlN (tlN (tlN (tlN (e28.rw 12 i))))))).I),.int .u32 (.sym (hdN (tlN (tlN (tlN (tlN (tlN (tlN (e28.rw 12 i)))))))).I),.int .u8 (.sym (hdN (tlN (tlN (tlN (tlN (tlN (tlN (tlN (e28.rw 12 i))))))))).I),.bool (.sym (hdN (tlN (tlN (tlN (tlN (tlN (tlN (tlN (tlN (e28.rw 12 i)))))))))).B),.int .u8 (.sym (hdN (tlN (tlN (tlN (tlN (tlN (tlN (tlN (tlN (tlN (e28.rw 12 i))))))))))).I),.int .u8 (.sym (hdN (tlN (tlN (tlN (tlN (tlN (tlN (tlN (tlN (tlN (tlN (e28.rw 12 i)))))))))))).I),.int .i64 (.sym (hdN (tlN (tlN (tlN (tlN (tlN (tlN (tlN (tlN (tlN (tlN (tlN (e28.rw 12 i))))))))))))).I)] (.int .u32 (.sym (hdN (tlN (tlN (tlN (tlN (tlN (tlN (tlN (tlN (tlN (tlN (tlN (tlN (tlN (tlN (tlN (tlN (tlN (tlN (tlN (tlN (tlN (tlN (tlN (tlN (tlN (tlN (tlN (tlN (tlN (tlN (tlN (tlN (tlN (tlN (tlN (tlN (tlN (tlN (tlN (tlN (tlN (tlN (tlN (tlN (tlN (tlN (tlN (tlN (tlN (tlN (tlN (tlN (tlN (tlN (tlN (tlN (tlN (tlN (tlN (tlN (tlN (tlN (tlN (tlN (tlN (tlN (tlN (tlN (tlN (tlN (tlN (tlN (tlN (tlN (tlN (tlN (tlN (tlN (tlN (tlN (tlN (tlN (tlN (tlN (tlN (tlN (tlN (tlN (tlN (tlN (tlN (tlN (tlN (tlN (tlN (tlN (tlN (tlN (tlN (tlN (tlN (tlN (tlN (tlN (tlN (tlN (tlN (tlN (tlN (tlN (tlN (tlN (tlN (tlN (tlN (tlN (tlN (tlN (tlN (tlN (tlN (tlN (e28.rw 12 i)))))))))))))))))))))))))))))))))))))))))))))))))))))))))))))))))))))))))))))))))))))))))))))))))))))))))))))))))))))))))))).I)))),.tok]⟩))))))))))))):=by kernel_rfl
theorem be_x1E (hd:Dat) (s:Al) (p:BA) (τ0:Tm):(Am Tryz.prog rfTb 300 57 Tryz.f57.ntmps xBe (beL1.tm ⟨[[],[]],mn1 hd s p⟩++τ0) (beL1.heap ⟨[[],[]],mn1 hd s p⟩) 19 (outX 12 ⟨some beL1,[(0,beL1)],none⟩)).cut [some false] =

  .must (!decide ((s.6.length:Int)>0)) (.must (BE Af Af) (.must (AX BB (AI BB (rowJ s.wishes)) s.6.length) (.must (AX [.i .u8] (AI [.i .u8] (AR p.6)) p.6.length) (.must (AX [.i .u8] (AI [.i .u8] (AR p.7)) p.7.length) (.leaf (.exit 0,⟨[[.u],[.u]],[(qRf5 s),.own (hdW hd s.2),.tok,(qRf4 s),.lst s.6.length (AH BB (AI BB (rowJ s.wishes))),.tok,(qRf2 s),(qRf3 s p),.lst p.6.length (AR p.6),.lst p.7.length (AR p.7),.tok,.tok]⟩)))))):=by kernel_rfl
theorem be_x1N (hd:Dat) (s:Al) (p:BA) (τ0:Tm):(Am Tryz.prog rfTb 300 57 Tryz.f57.ntmps xBe (beL1.tm ⟨[[],[]],mn1 hd s p⟩++τ0) (beL1.heap ⟨[[],[]],mn1 hd s p⟩) 19 (outX 12 ⟨some beL1,[(0,beL1)],none⟩)).cut [some true,some true,some false,some false] =

  .must (decide ((s.6.length:Int)>0)) (.must (decide ((0:Int)≤0∧(0:Int)<(s.6.length:Int))) (.must (decide ((0:Int)≤0∧(0:Int)<(s.6.length:Int))) (.defI (s.wishes.getD (0:Int).toNat Inc.zero).1 fun z0=>.defI (s.wishes.getD (0:Int).toNat Inc.zero).2 fun z1=>.defI (s.wishes.getD (0:Int).toNat Inc.zero).3 fun z2=>.must (BE Af Af) (.defE ⟨[[.u]],[.own (hdW hd s.2),.tok]⟩ fun e3=>.defI (BK (e3.dt 0).2) fun z4=>.must (BE Af Af) (.defE ⟨[[.u],[.i z4]],[.own (e3.dt 0),.tok]⟩ fun e5=>.must (hasM (e5.dt 0).2 (e5.ai 1 0)) (.defI (e5.ai 1 0) fun z6=>.defI (wM (e5.dt 0).2 (e5.ai 1 0) 0) fun z7=>.defI 0 fun z8=>.defI (wM (e5.dt 0).2 (e5.ai 1 0) 1) fun z9=>.defI 1 fun z10=>.defI (wM (e5.dt 0).2 (e5.ai 1 0) 2) fun z11=>.defI 2 fun z12=>.defI (wM (e5.dt 0).2 (e5.ai 1 0) 3) fun z13=>.defI 3 fun z14=>.defI (wM (e5.dt 0).2 (e5.ai 1 0) 4) fun z15=>.defI 0 fun z16=>.defE (qRf7 z6 e5 z7 z8 z9 z10 z11 z12 z13 z14 z15 z16 z0 z1 z2) fun e17=>.must (decide (0≤e17.ai 1 1)) (.must (!apOk (e17.ai 0 0) (Av e17 0 0) (BF e17 0 0) (e17.ai 1 0) (e17.ai 1 1) (e17.ai 1 2)) (.defI 0 fun z18=>.defI 0 fun z19=>.defI 0 fun z20=>.defI 0 fun z21=>.defI 0 fun z22=>.defI 0 fun z23=>.defI 0 fun z24=>.defI 0 fun z25=>.defI 0 fun z26=>.defI 0 fun z27=>.defI 0 fun z28=>.defI 40 fun z29=>.defI (IntKind.u32.wrap (z18 - 1)) fun z30=>.must (!z29==0) (qRf6 s p e5))))))))):=by kernel_rfl
theorem be_x1Y (hd:Dat) (s:Al) (p:BA) (τ0:Tm):(Am Tryz.prog rfTb 300 57 Tryz.f57.ntmps xBe (beL1.tm ⟨[[],[]],mn1 hd s p⟩++τ0) (beL1.heap ⟨[[],[]],mn1 hd s p⟩) 19 (outX 12 ⟨some beL1,[(0,beL1)],none⟩)).cut [some true,some true,some true,some true,some true,none] =

  .must (decide ((s.6.length:Int)>0)) (.must (decide ((0:Int)≤0∧(0:Int)<(s.6.length:Int))) (.must (decide ((0:Int)≤0∧(0:Int)<(s.6.length:Int))) (.defI (s.wishes.getD (0:Int).toNat Inc.zero).1 fun z0=>.defI (s.wishes.getD (0:Int).toNat Inc.zero).2 fun z1=>.defI (s.wishes.getD (0:Int).toNat Inc.zero).3 fun z2=>.must (BE Af Af) (.defE ⟨[[.u]],[.own (hdW hd s.2),.tok]⟩ fun e3=>.defI (BK (e3.dt 0).2) fun z4=>.must (BE Af Af) (.defE ⟨[[.u],[.i z4]],[.own (e3.dt 0),.tok]⟩ fun e5=>.must (hasM (e5.dt 0).2 (e5.ai 1 0)) (.defI (e5.ai 1 0) fun z6=>.defI (wM (e5.dt 0).2 (e5.ai 1 0) 0) fun z7=>.defI 0 fun z8=>.defI (wM (e5.dt 0).2 (e5.ai 1 0) 1) fun z9=>.defI 1 fun z10=>.defI (wM (e5.dt 0).2 (e5.ai 1 0) 2) fun z11=>.defI 2 fun z12=>.defI (wM (e5.dt 0).2 (e5.ai 1 0) 3) fun z13=>.defI 3 fun z14=>.defI (wM (e5.dt 0).2 (e5.ai 1 0) 4) fun z15=>.defI 0 fun z16=>.defE (qRf7 z6 e5 z7 z8 z9 z10 z11 z12 z13 z14 z15 z16 z0 z1 z2) fun e17=>.must (decide (0≤e17.ai 1 1)) (.must (apOk (e17.ai 0 0) (Av e17 0 0) (BF e17 0 0) (e17.ai 1 0) (e17.ai 1 1) (e17.ai 1 2)) (.defI (e17.ai 0 0+1) fun z18=>.defI (apW (e17.ai 1 0) (e17.ai 1 1) (e17.ai 1 2) (Av e17 0 0) 0) fun z19=>.defI (BF e17 0 0 0) fun z20=>.defI (apW (e17.ai 1 0) (e17.ai 1 1) (e17.ai 1 2) (Av e17 0 0) 1) fun z21=>.defI (BF e17 0 0 1) fun z22=>.defI (apW (e17.ai 1 0) (e17.ai 1 1) (e17.ai 1 2) (Av e17 0 0) 2) fun z23=>.defI
 (BF e17 0 0 2) fun z24=>.defI (apW (e17.ai 1 0) (e17.ai 1 1) (e17.ai 1 2) (Av e17 0 0) 3) fun z25=>.defI (BF e17 0 0 3) fun z26=>.defI (apW (e17.ai 1 0) (e17.ai 1 1) (e17.ai 1 2) (Av e17 0 0) 4) fun z27=>.defI (BF e17 0 0 4) fun z28=>.defI 0 fun z29=>.defI (IntKind.u32.wrap (z18 - 1)) fun z30=>.must (z29==0) (.must (BE Af Af) (.defE ⟨[[.u]],[.own (e5.dt 0),.tok]⟩ fun e31=>.defI (BK (e31.dt 0).2) fun z32=>.must (BE Af Af) (.defE ⟨[[.u],[.i z32]],[.own (e31.dt 0),.tok]⟩ fun e33=>.must (hasM (e33.dt 0).2 (e33.ai 1 0)) (.defI (e33.ai 1 0) fun z34=>.defI (wM (e33.dt 0).2 (e33.ai 1 0) 0) fun z35=>.defI 0 fun z36=>.defI (wM (e33.dt 0).2 (e33.ai 1 0) 1) fun z37=>.defI 1 fun z38=>.defI (wM (e33.dt 0).2 (e33.ai 1 0) 2) fun z39=>.defI 2 fun z40=>.defI (wM (e33.dt 0).2 (e33.ai 1 0) 3) fun z41=>.defI 3 fun z42=>.defI (wM (e33.dt 0).2 (e33.ai 1 0) 4) fun z43=>.defI 0 fun z44=>.ite (!!(z30==z34&&(apU (e17.ai 1 0) (e17.ai 1 1) (Ag e17 0 0) 0==upM (e33.dt 0).2 (e33.ai 1 0) 0&&(z19==z35&&z20==z36)&&(apU (e17.ai 1 0) (e17.ai 1 1) (Ag e17 0 0) 1==upM (e33.dt 0).2 (e33.ai 1 0) 1&&(z21==z37&&z22==z38)&&(apU (e17.ai 1 0) (e17.ai 1 1) (Ag e17 0 0) 2==upM (e33.dt 0).2 (e33.ai 1 0) 2&&(z23==z39&&z24==z40)&&(apU (e17.ai 1 0) (e17.ai 1 1) (Ag e17 0 0) 3==upM (e33.dt 0).2 (e33.ai 1 0) 3&&(z25==z41&&z26==z42)&&(apU (e17.ai 1 0) (e17.ai 1 1) (Ag e17 0 0) 4==upM
 (e33.dt 0).2 (e33.ai 1 0) 4&&(z27==z43&&z28==z44)))))))) (qRf6 s p e33) (.must (BE Af Af) (.must (AX BB (AI BB (rowJ s.wishes)) s.6.length) (.must (AX [.i .u8] (AI [.i .u8] (AR p.6)) p.6.length) (.must (AX [.i .u8] (AI [.i .u8] (AR p.7)) p.7.length) (.leaf (.exit 0,⟨[[.u],[.u]],[(qRf5 s),.own (e33.dt 0),.tok,(qRf4 s),.lst s.6.length (AH BB (AI BB (rowJ s.wishes))),.tok,(qRf2 s),(qRf3 s p),.lst p.6.length (AR p.6),.lst p.7.length (AR p.7),.tok,.tok]⟩)))))))))))))))))):=by kernel_rfl
theorem be_pbeR1 (hd:Dat) (s:Al) (p:BA) (τ0:Tm):Am Tryz.prog rfTb 300 57 Tryz.f57.ntmps (Eng.ofL ((flat bodyBe).take 1)) (argTm 0 (beT1.vals ⟨[[]],mn1 hd s p⟩)++τ0) (beT1.heap ⟨[[]],mn1 hd s p⟩) 12 (outX 12 ⟨some beL1,[],some beR1⟩) =

  .must (BE Af Af) (.must (AX BB (AI BB (rowJ s.wishes)) s.6.length) (.must (AX [.i .u8] (AI [.i .u8] (AR p.6)) p.6.length) (.must (AX [.i .u8] (AI [.i .u8] (AR p.7)) p.7.length) (.leaf (.normal,⟨[[.u],[.u]],[(qRf5 s),.own (hdW hd s.2),.tok,(qRf4 s),.lst s.6.length (AH BB (AI BB (rowJ s.wishes))),.tok,(qRf2 s),(qRf3 s p),.lst p.6.length (AR p.6),.lst p.7.length (AR p.7),.tok,.tok]⟩))))):=by kernel_rfl
theorem be_tbeR1 (hd:Dat) (s:Al) (p:BA) (τ0:Tm):(Am Tryz.prog rfTb 300 57 Tryz.f57.ntmps (Eng.ofL ((flat bodyBe).drop 2)) (beL1.tm ⟨[[],[]],mn1 hd s p⟩++τ0) (beL1.heap ⟨[[],[]],mn1 hd s p⟩) 19 (outX 12 ⟨none,[],some beR1⟩)).cut [none] =

  .ite ((s.6.length:Int)==0) (qRf9 s p hd) (qRf9 s p hd):=by kernel_rfl
def chE (incs:List Inc) (x:Inc):Bool:=(IntKind.u32.wrap (BK incs+1 - 1)==BK incs)&&((apU x.kind x.osd (upM incs (BK incs)) 0==upM incs (BK incs) 0)&&((apW x.kind x.osd x.n (wM incs (BK incs)) 0==wM incs (BK incs) 0)&&(hM 0==hM 0))&&((apU x.kind x.osd (upM incs (BK incs)) 1==upM incs (BK incs) 1)&&((apW x.kind x.osd x.n (wM incs (BK incs)) 1==wM incs (BK incs) 1)&&(hM 1==hM 1))&&((apU x.kind x.osd (upM incs (BK incs)) 2==upM incs (BK incs) 2)&&((apW x.kind x.osd x.n (wM incs (BK incs)) 2==wM incs (BK incs) 2)&&(hM 2==hM 2))&&((apU x.kind x.osd (upM incs (BK incs)) 3==upM incs (BK incs) 3)&&((apW x.kind x.osd x.n (wM incs (BK incs)) 3==wM incs (BK incs) 3)&&(hM 3==hM 3))&&((apU x.kind x.osd (upM incs (BK incs)) 4==upM incs (BK incs) 4)&&((apW x.kind x.osd x.n (wM incs (BK incs)) 4==wM incs (BK incs) 4)&&(hM 4==hM 4)))))))
def chF (k o n:Int) (u:Nat→Bool) (w:Nat→Int):Bool:=((apU k o u 0==u 0)&&(apW k o n w 0==w 0))&&((apU k o u 1==u 1)&&(apW k o n w 1==w 1))&&((apU k o u 2==u 2)&&(apW k o n w 2==w 2))&&((apU k o u 3==u 3)&&(apW k o n w 3==w 3))&&((apU k o u 4==u 4)&&(apW k o n w 4==w 4))
theorem chF_eq (k o n : Int) (u : Nat → Bool) (w : Nat → Int) (hi : incOk ⟨k, o, n⟩ = true) (ho : 0 ≤ o) : chF k o n u w = !(match k == 1 with
    | true=>!(u o.toNat)
    | false=>match k==2 with
      | true=>u o.toNat
      | false=>match k==3 with
        | true=>!(w o.toNat==n)
        | false=>false):=by
  unfold incOk at hi
  dsimp only at hi
  cases h12:(k==1||k==2) with
  | true =>
    rw [h12] at hi
    simp only [Bool.and_eq_true,decide_eq_true_eq] at hi
    have hj:o=0∨o=1∨o=2∨o=3∨o=4:=by omega
    have hk:k=1∨k=2:=by simpa using h12
    rcases hk with rfl | rfl <;> rcases hj with rfl | rfl | rfl | rfl | rfl <;> simp [chF,apU,apW]
  | false =>
    rw [h12] at hi
    have n1:¬ k=1:=fun h=>by rw [h] at h12; cases h12
    have n2:¬ k=2:=fun h=>by rw [h] at h12; cases h12
    cases h3:(k==3) with
    | true =>
      rw [h3] at hi
      simp only [Bool.and_eq_true,decide_eq_true_eq] at hi
      have hj:o=0∨o=1∨o=2∨o=3∨o=4:=by omega
      have hk:k=3:=by simpa using h3
      subst hk
      rcases hj with rfl | rfl | rfl | rfl | rfl <;> simp [chF,apU,apW,BEq.comm]
    | false =>
      rw [h3] at hi
      simp only [Bool.and_eq_true,beq_iff_eq] at hi
      obtain ⟨rfl,rfl,rfl⟩:=hi
      simp [chF,apU,apW]
theorem takeLast (incs:List Inc):incs.take (BK incs - 1).toNat=incs:=by
  have:(BK incs - 1).toNat=incs.length:=by
    unfold BK
    omega
  rw [this,List.take_length]
theorem chE_eq {incs:List Inc} (hg:HGood incs) (x:Inc):chE incs x=chF x.kind x.osd x.n (fun i=>upAt (i:Int) true incs) (fun i=>wAt (i:Int) 8 incs):=by
  have hl:=hg.1
  have e:IntKind.u32.wrap (BK incs+1 - 1)=BK incs:=by
    rw [show BK incs+1 - 1=BK incs by omega]
    unfold BK
    exact IntWalk.u32_in _ (by omega)
  have eu:upM incs (BK incs)=fun (i:Nat)=>upAt (i:Int) true incs:=by
    funext i
    unfold upM
    rw [takeLast]
  have ew:wM incs (BK incs)=fun (i:Nat)=>wAt (i:Int) 8 incs:=by
    funext i
    unfold wM
    rw [takeLast]
  unfold chE chF
  rw [e,eu,ew]
  simp only [beq_self_eq_true,Bool.true_and,Bool.and_true,Bool.and_assoc]
theorem changes_of {s:Al} {x:Inc} (hg:HGood s.incs) (ho:0≤x.osd) (h:(incOk x && !(BK s.incs==60))=true):s.changes x = !(chE s.incs x):=by
  simp only [Bool.and_eq_true] at h
  obtain ⟨h1,h2⟩:=h
  have hn:((x.osd.toNat:Nat):Int)=x.osd:=by omega
  rw [chE_eq hg,chF_eq _ _ _ _ _ h1 ho,hn,Bool.not_not]
  unfold Al.changes
  have h2:(!(s.last==60))=true:=h2
  rw [h1,h2]
  rfl
theorem changes_no {s:Al} {x:Inc} (h:(incOk x && !(BK s.incs==60))=false):s.changes x=false:=by
  unfold Al.changes
  have h:(incOk x && !(s.last==60))=false:=h
  cases h1:incOk x with
  | false=>rfl
  | true =>
    rw [h1] at h
    have h:(!(s.last==60))=false:=h
    rw [h]
    rfl
theorem mIs_at {incs:List Inc} (hg:HGood incs):mIs (BK incs) (wM incs (BK incs)) hM=true:=by
  rw [← mIs_h hg]
  refine mIs_congr rfl (fun i _=>?_) (fun _ _=>rfl)
  show wAt (i:Int) 8 (incs.take (BK incs - 1).toNat)=_
  rw [takeLast]
theorem apOk_at {ep:Int} {w h:Nat→Int} {k o n:Int} (hm:mIs ep w h=true):apOk ep w h k o n=(incOk ⟨k,o,n⟩ && !(ep==60)):=by
  unfold apOk
  rw [hm,incF_eq]
  rfl
theorem hasM_last {incs:List Inc} : hasM incs (BK incs)=true:=by
  unfold hasM BK
  rw [decide_eq_true (by omega),decide_eq_true (by omega)]
  rfl
theorem rows_tail (x:Inc) (l:List Inc) (i:Nat):eqvL BB (AH BB (Aw (.lit 1) (AI BB (rowJ (x::l)))) i) (rowJ l i):=by
  have e:rowJ (x::l) (1+i)=rowJ l i:=by
    rw [Nat.add_comm]
    rfl
  have:=AF (row:=BB) rfl (rowJ (x::l)) (1+i)
  rw [e] at this
  exact this
theorem rowsB_drop (x:Inc) (l:List Inc) (n:Nat):AX BB (Aw (.lit 1) (AI BB (rowJ (x::l)))) n=true:=rowsB_of fun _=>rowOk_inst rfl _
def dropW (s:Al) (l:List Inc):List Inc:=l.dropWhile fun x=>!(s.changes x)
set_option maxHeartbeats 4000000 in
theorem be_loop0 (hd : Dat) (s : Al) (hg : HGood s.incs) (hw : ∀ x, x ∈ s.wishes → 0 ≤ x.osd) : HT Tryz.prog Tryz.f57.ntmps 7 (.loop xBe) 10 (beL0.tm ⟨[[], []], mn0 hd s⟩) (beL0.heap ⟨[[], []], mn0 hd s⟩) (QX ⟨none, [(0, beL0)], none⟩ fun ex e => match ex with
    | .exit _=>beL0.eqv e ⟨[[],[]],mn0 hd { s with wishes:=dropW s s.wishes }⟩
    | _=>True):=by
  refine HT.loopX rfTab Ay (n:=300) inBex beL0 _ _ (fun l:List Inc=>⟨[[],[]],mn0 hd { s with wishes:=l }⟩) (fun l=>(∀ x,x∈l→0≤x.osd)∧dropW s l=dropW s s.wishes) (fun l=>l.length) (fun _ ex e=>match ex with
    | .exit _=>beL0.eqv e ⟨[[],[]],mn0 hd { s with wishes:=dropW s s.wishes }⟩
    | _=>True) (by decide) ?_ s.wishes ⟨hw,rfl⟩
  rintro l ⟨hl,hq⟩ τ0
  cases l with
  | nil =>
    refine BG [some false] (AL (be_x0E hd { s with wishes:=[] } τ0) (AA rfl (AA (AS _) (AA (AZ rfl _ _) (AE ?_)))))
    show beL0.eqv _ _
    rw [← hq]
    refine ⟨⟨trivial,trivial,trivial⟩,?_,rfl,trivial,?_,⟨rfl,fun i _=>AF rfl _ i⟩,trivial,?_,trivial⟩
    · exact clP
    · exact clP
    · exact clP
  | cons x l =>
    have hx:=hl x List.mem_cons_self
    have hm0:decide ((0:Int)≤0∧(0:Int)<(((x::l).length:Nat):Int))=true:=decide_eq_true (by simp <;> omega)
    have hm1:decide ((0:Int)≤1∧(1:Int)≤(((x::l).length:Nat):Int))=true:=decide_eq_true (by simp <;> omega)
    have hlen:eqvLn none ((((x::l).length:Nat):Int) - 1).toNat l.length:=by
      show ((((x::l).length:Nat):Int) - 1).toNat=l.length
      simp
    have next:s.changes x=false→dropW s l=dropW s s.wishes:=fun h=>by
      rw [← hq]
      unfold dropW
      rw [List.dropWhile_cons,h]
      rfl
    cases hc:(incOk x && !(BK s.incs==60)) with
    | false =>
      refine BG [some true,some true,some false,some false] (AL (be_x0N hd { s with wishes:=(x::l) } τ0) (AA (decide_eq_true (by simp <;> omega)) (AA hm0 (AA hm0 ?_))))
      repeat' with_reducible (first | refine AB ?_ | refine AM ?_)
      refine AA (AS _) (AK ?_)
      repeat' with_reducible (first | refine AB ?_ | refine AM ?_)
      refine AA (AS _) (AK (AA hasM_last ?_))
      repeat' with_reducible (first | refine AB ?_ | refine AM ?_)
      refine AK (AA (decide_eq_true hx) (AA ((congrArg (fun b=>!b) ((apOk_at (mIs_at hg)).trans hc)).trans rfl) ?_))
      repeat' with_reducible (first | refine AB ?_ | refine AM ?_)
      refine AA rfl (AA hm1 (AA (decide_eq_true (Int.le_refl _)) (AA (AS _) (AA (rowsB_drop _ _ _) (AE ⟨l,⟨fun y hy=>hl y (List.mem_cons_of_mem _ hy),next (changes_no hc)⟩,by simp,?_,fun _ _ h=>h⟩)))))
      refine ⟨⟨trivial,trivial,trivial⟩,?_,rfl,trivial,?_,⟨hlen,fun i _=>rows_tail x l i⟩,trivial,?_,trivial⟩
      · exact clP
      · exact clP
      · exact clP
    | true =>
      refine BG [some true,some true,some true,some true,some true,none] (AL (be_x0Y hd { s with wishes:=(x::l) } τ0) (AA (decide_eq_true (by simp <;> omega)) (AA hm0 (AA hm0 ?_))))
      repeat' with_reducible (first | refine AB ?_ | refine AM ?_)
      refine AA (AS _) (AK ?_)
      repeat' with_reducible (first | refine AB ?_ | refine AM ?_)
      refine AA (AS _) (AK (AA hasM_last ?_))
      repeat' with_reducible (first | refine AB ?_ | refine AM ?_)
      refine AK (AA (decide_eq_true hx) (AA ((apOk_at (mIs_at hg)).trans hc) ?_))
      repeat' with_reducible (first | refine AB ?_ | refine AM ?_)
      refine AA rfl (AA (AS _) (AK ?_))
      repeat' with_reducible (first | refine AB ?_ | refine AM ?_)
      refine AA (AS _) (AK (AA hasM_last ?_))
      repeat' with_reducible (first | refine AB ?_ | refine AM ?_)
      have hch:=changes_of hg hx hc
      refine AG (fun h=>?_) (fun h=>?_)
      · have h:(!!(chE s.incs x))=true:=h
        rw [Bool.not_not] at h
        rw [h] at hch
        refine AA hm1 (AA (decide_eq_true (Int.le_refl _)) (AA (AS _) (AA (rowsB_drop _ _ _) (AE ⟨l,⟨fun y hy=>hl y (List.mem_cons_of_mem _ hy),next hch⟩,by simp,?_,fun _ _ h=>h⟩))))
        refine ⟨⟨trivial,trivial,trivial⟩,?_,rfl,trivial,?_,⟨hlen,fun i _=>rows_tail x l i⟩,trivial,?_,trivial⟩
        · exact clP
        · exact clP
        · exact clP
      · have h:(!!(chE s.incs x))=false:=h
        rw [Bool.not_not] at h
        rw [h] at hch
        refine AA (AS _) (AA (AZ rfl _ _) (AE ?_))
        show beL0.eqv _ _
        rw [← hq]
        have e:dropW s (x::l)=x::l:=by
          unfold dropW
          rw [List.dropWhile_cons,hch]
          rfl
        rw [e]
        refine ⟨⟨trivial,trivial,trivial⟩,?_,rfl,trivial,?_,⟨rfl,fun i _=>AF rfl _ i⟩,trivial,?_,trivial⟩
        · exact clP
        · exact clP
        · exact clP
set_option maxHeartbeats 4000000 in
theorem be_loop1 (hd : Dat) (s : Al) (p : BA) (hg : HGood s.incs) (hw : ∀ x, x ∈ s.wishes → 0 ≤ x.osd) : HT Tryz.prog Tryz.f57.ntmps 12 (.loop xBe) 19 (beL1.tm ⟨[[], []], mn1 hd s p⟩) (beL1.heap ⟨[[], []], mn1 hd s p⟩) (QX ⟨none, [(0, beL1)], none⟩ fun ex e => match ex with
    | .exit _=>beL1.eqv e ⟨[[],[]],mn1 hd { s with wishes:=dropW s s.wishes } p⟩
    | _=>True):=by
  refine HT.loopX rfTab Ay (n:=300) inBex beL1 _ _ (fun l:List Inc=>⟨[[],[]],mn1 hd { s with wishes:=l } p⟩) (fun l=>(∀ x,x∈l→0≤x.osd)∧dropW s l=dropW s s.wishes) (fun l=>l.length) (fun _ ex e=>match ex with
    | .exit _=>beL1.eqv e ⟨[[],[]],mn1 hd { s with wishes:=dropW s s.wishes } p⟩
    | _=>True) (by decide) ?_ s.wishes ⟨hw,rfl⟩
  rintro l ⟨hl,hq⟩ τ0
  cases l with
  | nil =>
    refine BG [some false] (AL (be_x1E hd { s with wishes:=[] } p τ0) (AA rfl (AA (AS _) (AA (AZ rfl _ _) (AA (AN _ _ _) (AA (AN _ _ _) (AE ?_)))))))
    show beL1.eqv _ _
    rw [← hq]
    refine ⟨⟨trivial,trivial,trivial⟩,?_,rfl,trivial,?_,⟨rfl,fun i _=>AF rfl _ i⟩,trivial,?_,?_,⟨rfl,fun _ _=>AJ _ _⟩,⟨rfl,fun _ _=>AJ _ _⟩,trivial,trivial,trivial⟩
    · exact clP
    · exact clP
    · exact clP
    · exact clP
  | cons x l =>
    have hx:=hl x List.mem_cons_self
    have hm0:decide ((0:Int)≤0∧(0:Int)<(((x::l).length:Nat):Int))=true:=decide_eq_true (by simp <;> omega)
    have hm1:decide ((0:Int)≤1∧(1:Int)≤(((x::l).length:Nat):Int))=true:=decide_eq_true (by simp <;> omega)
    have hlen:eqvLn none ((((x::l).length:Nat):Int) - 1).toNat l.length:=by
      show ((((x::l).length:Nat):Int) - 1).toNat=l.length
      simp
    have next:s.changes x=false→dropW s l=dropW s s.wishes:=fun h=>by
      rw [← hq]
      unfold dropW
      rw [List.dropWhile_cons,h]
      rfl
    cases hc:(incOk x && !(BK s.incs==60)) with
    | false =>
      refine BG [some true,some true,some false,some false] (AL (be_x1N hd { s with wishes:=(x::l) } p τ0) (AA (decide_eq_true (by simp <;> omega)) (AA hm0 (AA hm0 ?_))))
      repeat' with_reducible (first | refine AB ?_ | refine AM ?_)
      refine AA (AS _) (AK ?_)
      repeat' with_reducible (first | refine AB ?_ | refine AM ?_)
      refine AA (AS _) (AK (AA hasM_last ?_))
      repeat' with_reducible (first | refine AB ?_ | refine AM ?_)
      refine AK (AA (decide_eq_true hx) (AA ((congrArg (fun b=>!b) ((apOk_at (mIs_at hg)).trans hc)).trans rfl) ?_))
      repeat' with_reducible (first | refine AB ?_ | refine AM ?_)
      refine AA rfl (AA hm1 (AA (decide_eq_true (Int.le_refl _)) (AA (AS _) (AA (rowsB_drop _ _ _) (AA (AN _ _ _) (AA (AN _ _ _) (AE ⟨l,⟨fun y hy=>hl y (List.mem_cons_of_mem _ hy),next (changes_no hc)⟩,by simp,?_,fun _ _ h=>h⟩)))))))
      refine ⟨⟨trivial,trivial,trivial⟩,?_,rfl,trivial,?_,⟨hlen,fun i _=>rows_tail x l i⟩,trivial,?_,?_,⟨rfl,fun _ _=>AJ _ _⟩,⟨rfl,fun _ _=>AJ _ _⟩,trivial,trivial,trivial⟩
      · exact clP
      · exact clP
      · exact clP
      · exact clP
    | true =>
      refine BG [some true,some true,some true,some true,some true,none] (AL (be_x1Y hd { s with wishes:=(x::l) } p τ0) (AA (decide_eq_true (by simp <;> omega)) (AA hm0 (AA hm0 ?_))))
      repeat' with_reducible (first | refine AB ?_ | refine AM ?_)
      refine AA (AS _) (AK ?_)
      repeat' with_reducible (first | refine AB ?_ | refine AM ?_)
      refine AA (AS _) (AK (AA hasM_last ?_))
      repeat' with_reducible (first | refine AB ?_ | refine AM ?_)
      refine AK (AA (decide_eq_true hx) (AA ((apOk_at (mIs_at hg)).trans hc) ?_))
      repeat' with_reducible (first | refine AB ?_ | refine AM ?_)
      refine AA rfl (AA (AS _) (AK ?_))
      repeat' with_reducible (first | refine AB ?_ | refine AM ?_)
      refine AA (AS _) (AK (AA hasM_last ?_))
      repeat' with_reducible (first | refine AB ?_ | refine AM ?_)
      have hch:=changes_of hg hx hc
      refine AG (fun h=>?_) (fun h=>?_)
      · have h:(!!(chE s.incs x))=true:=h
        rw [Bool.not_not] at h
        rw [h] at hch
        refine AA hm1 (AA (decide_eq_true (Int.le_refl _)) (AA (AS _) (AA (rowsB_drop _ _ _) (AA (AN _ _ _) (AA (AN _ _ _) (AE ⟨l,⟨fun y hy=>hl y (List.mem_cons_of_mem _ hy),next hch⟩,by simp,?_,fun _ _ h=>h⟩))))))
        refine ⟨⟨trivial,trivial,trivial⟩,?_,rfl,trivial,?_,⟨hlen,fun i _=>rows_tail x l i⟩,trivial,?_,?_,⟨rfl,fun _ _=>AJ _ _⟩,⟨rfl,fun _ _=>AJ _ _⟩,trivial,trivial,trivial⟩
        · exact clP
        · exact clP
        · exact clP
        · exact clP
      · have h:(!!(chE s.incs x))=false:=h
        rw [Bool.not_not] at h
        rw [h] at hch
        refine AA (AS _) (AA (AZ rfl _ _) (AA (AN _ _ _) (AA (AN _ _ _) (AE ?_))))
        show beL1.eqv _ _
        rw [← hq]
        have e:dropW s (x::l)=x::l:=by
          unfold dropW
          rw [List.dropWhile_cons,hch]
          rfl
        rw [e]
        refine ⟨⟨trivial,trivial,trivial⟩,?_,rfl,trivial,?_,⟨rfl,fun i _=>AF rfl _ i⟩,trivial,?_,?_,⟨rfl,fun _ _=>AJ _ _⟩,⟨rfl,fun _ _=>AJ _ _⟩,trivial,trivial,trivial⟩
        · exact clP
        · exact clP
        · exact clP
        · exact clP
end Go.Proofs.YtddmgdclmkgpeaaGreat
set_option linter.unusedSimpArgs false
set_option linter.unusedVariables false
namespace Go.Proofs.YtddmgdclmkgpeaaGreat
open Go.Eng Go.RowKit Go.ChangeShapes Go.WideShapes
set_option maxRecDepth 100000
theorem rep25 {r:Nat→Bool} (h:∀ i,25≤i→r i=false):(fun i=>[r 0,r 1,r 2,r 3,r 4,r 5,r 6,r 7,r 8,r 9,r 10,r 11,r 12,r 13,r 14,r 15,r 16,r 17,r 18,r 19,r 20,r 21,r 22,r 23,r 24].getD i false)=r:=by
  funext i
  match i with
  | 0=>rfl
  | 1=>rfl
  | 2=>rfl
  | 3=>rfl
  | 4=>rfl
  | 5=>rfl
  | 6=>rfl
  | 7=>rfl
  | 8=>rfl
  | 9=>rfl
  | 10=>rfl
  | 11=>rfl
  | 12=>rfl
  | 13=>rfl
  | 14=>rfl
  | 15=>rfl
  | 16=>rfl
  | 17=>rfl
  | 18=>rfl
  | 19=>rfl
  | 20=>rfl
  | 21=>rfl
  | 22=>rfl
  | 23=>rfl
  | 24=>rfl
  | n+25=>exact (h (n+25) (by omega)).symm
theorem incsL_rows {l:List Inc} {n:Nat} {r:Nat→List Num} (hn:n=l.length) (h:∀ i:Nat,i<l.length→eqvL BB (r i) (rowJ l i)):incsL n r=l:=by
  refine List.ext_getElem (by rw [incsL_length,hn]) fun i h1 h2=>?_
  have e1:=incsL_get (r:=r) (show i<n by omega)
  rw [List.getD,List.getElem?_eq_getElem h1] at e1
  have e1:(incsL n r)[i]=incR (r i):=e1
  rw [e1]
  obtain ⟨a1,a2,a3,_⟩:=h i h2
  have e2:l.getD i .zero=l[i]:=by
    rw [List.getD,List.getElem?_eq_getElem h2]
    rfl
  have a1:(hdN (r i)).I=(l.getD i .zero).kind:=a1
  have a2:(hdN (tlN (r i))).I=(l.getD i .zero).osd:=a2
  have a3:(hdN (tlN (tlN (r i)))).I=(l.getD i .zero).n:=a3
  unfold incR
  rw [a1,a2,a3,e2]
theorem lstI_rows {l:List Int} {n:Nat} {r:Nat→List Num} (hn:n=l.length) (h:∀ i:Nat,i<l.length→(hdN (r i)).I=l.getD i 0):Ax n r=l:=by
  refine List.ext_getElem (by rw [As,hn]) fun i h1 h2=>?_
  have e1:=lstI_get (r:=r) (show i<n by omega)
  rw [List.getD,List.getElem?_eq_getElem h1] at e1
  have e1:(Ax n r)[i]=(hdN (r i)).I:=e1
  have e2:l.getD i 0=l[i]:=by
    rw [List.getD,List.getElem?_eq_getElem h2]
    rfl
  rw [e1,h i h2,e2]
theorem starts_prop (s:Al) (q:Option BA) (p:BA):({ s with prop:=q } : Al).starts p=s.starts p:=by
  rw [starts_eq,starts_eq]
  show (match prepB (p.start s.id (overB s)).b s.prom with | true=>_ | false=>_)=_
  cases prepB (p.start s.id (overB s)).b s.prom <;> rfl
theorem qx_ret {t:TS} {rt:TS} {R:Ex→EN→Prop} {ex:Ex} {m:Nat} {κ:Tm} {h:Aq} (q:QX ⟨none,[(0,t)],none⟩ R ex m κ h):QX ⟨none,[(0,t)],some rt⟩ (fun ex e=>match ex with | .exit i=>R (.exit i) e | _=>False) ex m κ h:=by
  obtain ⟨t',e,h1,h2,h3⟩:=q
  cases ex with
  | normal=>cases h1
  | ret=>cases h1
  | exit i=>exact ⟨t',e,h1,h2,h3⟩
set_option maxHeartbeats 4000000 in
theorem be1_std (hd:Dat) (s:Al) (p:BA) (hg:HGood s.incs) (hw:∀ x,x∈s.wishes→0≤x.osd):BI Tryz.prog 57 beT1 ⟨[[]],mn1 hd s p⟩ beR1 ⟨[[.u]],mn1 hd { s with wishes:=dropW s s.wishes } p⟩:=by
  refine stdX_loop rfTab Ay (n:=300) Tryz.func57 bodyBe_eq 1 (L:=beL1) (E:=beL1) (en0:=⟨[[],[]],mn1 hd s p⟩) rfl rfl (by kernel_rfl) rfl rfl lpBe (by decide) (by decide) (by decide)
    (fun τ0=>AL (be_pbeR1 hd s p τ0) (AA (AS _) (AA (AZ rfl _ _) (AA (AN _ _ _) (AA (AN _ _ _) (AE (.inl ⟨rfl,?_⟩)))))))
    (HT.mono (be_loop1 hd s p hg hw) fun _ _ _ _ q=>qx_ret q) (fun en he=>⟨⟨[[],[]],mn1 hd { s with wishes:=dropW s s.wishes } p⟩,he,fun τ0=>BG [none] (AL (be_tbeR1 hd { s with wishes:=dropW s s.wishes } p τ0) (AG (fun _=>?_) (fun _=>?_)))⟩) (fun en he=>he.elim)
  · refine ⟨⟨trivial,trivial,trivial⟩,?_,rfl,trivial,?_,⟨rfl,fun i _=>AF rfl _ i⟩,trivial,?_,?_,⟨rfl,fun i _=>AJ [.i .u8] (AR p.hp i)⟩,⟨rfl,fun i _=>AJ [.i .u8] (AR p.ha i)⟩,trivial,trivial,trivial⟩
    · exact clP
    · exact clP
    · exact clP
    · exact clP
  all_goals
    refine AA (AS _) (AA (AZ rfl _ _) (AA (AN _ _ _) (AA (AN _ _ _) (AE fun _=>?_))))
    refine ⟨⟨trivial,trivial⟩,?_,rfl,trivial,?_,⟨rfl,fun i _=>AF rfl _ i⟩,trivial,?_,?_,⟨rfl,fun i _=>AJ [.i .u8] (AR p.hp i)⟩,⟨rfl,fun i _=>AJ [.i .u8] (AR p.ha i)⟩,trivial,trivial,trivial⟩
    · exact clP
    · exact clP
    · exact clP
    · exact clP
set_option maxHeartbeats 4000000 in
theorem be0_nil (hd:Dat) (s:Al) (hg:HGood s.incs) (hw:∀ x,x∈s.wishes→0≤x.osd) (hn:dropW s s.wishes=[]):BI Tryz.prog 57 beT0 ⟨[[]],mn0 hd s⟩ beR0 ⟨[[.u]],mn0 hd { s with wishes:=[] }⟩:=by
  refine stdX_loop rfTab Ay (n:=300) Tryz.func57 bodyBe_eq 1 (L:=beL0) (E:=beL0) (en0:=⟨[[],[]],mn0 hd s⟩) rfl rfl (by kernel_rfl) rfl rfl lpBe (by decide) (by decide) (by decide)
    (fun τ0=>AL (be_pbeR0 hd s τ0) (AA (AS _) (AA (AZ rfl _ _) (AE (.inl ⟨rfl,?_⟩)))))
    (HT.mono (be_loop0 hd s hg hw) fun _ _ _ _ q=>qx_ret q) (fun en he=>⟨⟨[[],[]],mn0 hd { s with wishes:=[] }⟩,(by have he:beL0.eqv en ⟨[[],[]],mn0 hd { s with wishes:=dropW s s.wishes }⟩:=he; rw [hn] at he; exact he),fun τ0=>BG [some true] (AL (be_tbeR0 hd { s with wishes:=[] } τ0) (AA rfl ?_))⟩) (fun en he=>he.elim)
  · refine ⟨⟨trivial,trivial,trivial⟩,?_,rfl,trivial,?_,⟨rfl,fun i _=>AF rfl _ i⟩,trivial,?_,trivial⟩
    · exact clP
    · exact clP
    · exact clP
  · refine AA (AS _) (AA (AZ rfl _ _) (AE fun _=>?_))
    refine ⟨⟨trivial,trivial⟩,?_,rfl,trivial,?_,⟨rfl,fun i _=>AF rfl _ i⟩,trivial,?_,trivial⟩
    · exact clP
    · exact clP
    · exact clP
theorem okS_ok {n w a b c:Int} (h:0≤n∧n<3) (hw:w=n) (ha:0≤a) (hb:0≤b) (hc:0≤c):((idOk n&&decide (w=n))&&(decide (0≤a)&&(decide (0≤b)&&decide (0≤c))))=true:=by
  unfold idOk
  rw [decide_eq_true h,decide_eq_true hw,decide_eq_true ha,decide_eq_true hb,decide_eq_true hc]
  rfl
set_option maxHeartbeats 4000000 in
theorem be0_cons (hd : Dat) (s : Al) (hg : HGood s.incs) (hw : ∀ x, x ∈ s.wishes → 0 ≤ x.osd) (hs : 0 ≤ s.id ∧ s.id < 3) (ho : 0 ≤ s.over.n) (ho2 : 0 ≤ s.prom.n) (hr : ∀ i, 25 ≤ i → s.rep i = false) {x : Inc} {l : List Inc} (hn : dropW s s.wishes = x :: l) :
    BI Tryz.prog 57 beT0 ⟨[[]],mn0 hd s⟩ beN1 ⟨[[.u]],mn1 hd (({ s with wishes:=x::l } : Al).starts (BA.new x)).1 (propD (({ s with wishes:=x::l } : Al).starts (BA.new x)).1)++[.lst 2 (rowM (({ s with wishes:=x::l } : Al).starts (BA.new x)).2),.tok]⟩:=by
  refine stdX_loop rfTab Ay (n:=300) Tryz.func57 bodyBe_eq 1 (L:=beL0) (E:=beL0) (en0:=⟨[[],[]],mn0 hd s⟩) rfl rfl (by kernel_rfl) rfl rfl lpBe (by decide) (by decide) (by decide)
    (fun τ0=>AL (be_pbeN1 hd s τ0) (AA (AS _) (AA (AZ rfl _ _) (AE (.inl ⟨rfl,?_⟩)))))
    (HT.mono (be_loop0 hd s hg hw) fun _ _ _ _ q=>qx_ret q) (fun en he=>⟨⟨[[],[]],mn0 hd { s with wishes:=x::l }⟩,(by have he:beL0.eqv en ⟨[[],[]],mn0 hd { s with wishes:=dropW s s.wishes }⟩:=he; rw [hn] at he; exact he),fun τ0=>BG [some false] (AL (be_tbeN1 hd { s with wishes:=x::l } τ0) ?_)⟩) (fun en he=>he.elim)
  · refine ⟨⟨trivial,trivial,trivial⟩,?_,rfl,trivial,?_,⟨rfl,fun i _=>AF rfl _ i⟩,trivial,?_,trivial⟩
    · exact clP
    · exact clP
    · exact clP
  · have hm0:decide ((0:Int)≤0∧(0:Int)<(((x::l).length:Nat):Int))=true:=decide_eq_true (by simp <;> omega)
    refine AA (by simp <;> omega) (AA hm0 (AA hm0 ?_))
    repeat' with_reducible (first | refine AB ?_ | refine AM ?_)
    refine AK ?_
    repeat' with_reducible (first | refine AB ?_ | refine AM ?_)
    refine AA (AS _) (AA (AZ rfl _ _) (AA (AN _ _ _) (AA (AN _ _ _) (An fun e27 h27=>AA (by rw [h27]; exact okS_ok hs rfl (Int.le_refl 0) ho ho2) ?_))))
    have q27:propOf e27=BA.new x:=by rw [h27]; rfl
    have w27:incsL (e27.ln 4) (e27.rw 4)=x::l:=by
      rw [h27]
      exact incsL_rows rfl fun i _=>AF rfl _ i
    have r27:repOf e27=s.rep:=by
      rw [h27]
      exact rep25 hr
    have m27:mon1 e27 = { s with wishes:=x::l,prop:=some (BA.new x) }:=by
      unfold mon1 monOf
      rw [q27,w27,r27,h27]
      rfl
    have s27:stN e27=⟨[],mn1 hd (({ s with wishes:=x::l } : Al).starts (BA.new x)).1 (propD (({ s with wishes:=x::l } : Al).starts (BA.new x)).1)++[.lst 2 (rowM (({ s with wishes:=x::l } : Al).starts (BA.new x)).2)]⟩:=by
      unfold stN
      rw [q27,m27,show ({ s with wishes:=x::l,prop:=some (BA.new x) } : Al).starts (BA.new x)=({ s with wishes:=x::l } : Al).starts (BA.new x) from starts_prop { s with wishes:=x::l } _ _,h27]
      rfl
    rw [s27]
    generalize ({ s with wishes:=x::l } : Al).starts (BA.new x)=r
    clear s27 m27 r27 w27 q27 h27
    refine AK ?_
    repeat' with_reducible (first | refine AB ?_ | refine AM ?_)
    refine AA (AS _) (AA (AZ rfl _ _) (AA (AN _ _ _) (AA (AN _ _ _) (AE fun _=>?_))))
    refine ⟨⟨trivial,trivial⟩,?_,rfl,trivial,?_,⟨rfl,fun i _=>AF rfl _ i⟩,trivial,?_,?_,⟨rfl,fun i _=>AF rfl _ i⟩,⟨rfl,fun i _=>AF rfl _ i⟩,trivial,trivial,⟨trivial,fun i _=>?_⟩,trivial,trivial⟩
    · exact clP
    · exact clP
    · exact clP
    · exact clP
    · exact rowsMsg _ i
end Go.Proofs.YtddmgdclmkgpeaaGreat
set_option linter.unusedSimpArgs false
set_option linter.unusedVariables false
namespace Go.Proofs.YtddmgdclmkgpeaaGreat
open Go.Eng Go.RowKit Go.ChangeShapes Go.WideShapes
set_option maxRecDepth 100000
def bg0N (e:EN):EN:=⟨[],mn0 (e.dt 1) (mon0 e).begins.1⟩
def bg0C (e:EN):EN:=⟨[],mn1 (e.dt 1) (mon0 e).begins.1 (propD (mon0 e).begins.1)++[.lst 2 (rowM (mon0 e).begins.2)]⟩
def bg1N (e:EN):EN:=⟨[],mn1 (e.dt 1) (mon1 e).begins.1 (propD (mon1 e).begins.1)⟩
def wOk (e:EN):Bool:=(incsL (e.ln 4) (e.rw 4)).all fun x=>decide (0≤x.osd)
def ok0 (e:EN):Bool:=idOk (e.bi 0 0)&&(decide (0≤e.bi 0 6)&&(decide (0≤e.bi 3 0)&&wOk e))
def bgE (s:Al):Bool:=(dropW s s.wishes).isEmpty
noncomputable def cBe0 (e:EN):Ah (TS×EN):=.must (ok0 e) (.ite (bgE (mon0 e)) (.defE (bg0N e) fun r=>.leaf (beR0,⟨[[.u]],rawM r⟩)) (.defE (bg0C e) fun r=>.leaf (beN1,⟨[[.u]],rawM r++rawP r++[.lst 2 (r.rw 12),.tok]⟩)))
noncomputable def cBe1 (e:EN):Ah (TS×EN):=.must (ok1 e&&wOk e) (.defE (bg1N e) fun r=>.leaf (beR1,⟨[[.u]],rawM r++rawP r⟩))
theorem wOk_ok {e:EN} (h:wOk e=true):∀ x,x∈incsL (e.ln 4) (e.rw 4)→0≤x.osd:=fun x hx=>of_decide_eq_true (List.all_eq_true.1 h x hx)
theorem begins_nil {s:Al} (h:dropW s s.wishes=[]):s.begins=({ s with wishes:=[] },[]):=by
  unfold Al.begins Al.wanted
  have h:s.wishes.dropWhile (fun x=>!(s.changes x))=[]:=h
  rw [h]
theorem begins_cons {s:Al} {x:Inc} {l:List Inc} (hp:s.prop=none) (h:dropW s s.wishes=x::l):s.begins=({ s with wishes:=x::l } : Al).starts (BA.new x):=by
  unfold Al.begins Al.wanted
  have h:s.wishes.dropWhile (fun x=>!(s.changes x))=x::l:=h
  rw [h,hp]
theorem begins_some {s:Al} {p:BA} (hp:s.prop=some p):s.begins=({ s with wishes:=dropW s s.wishes },[]):=by
  unfold Al.begins Al.wanted dropW
  cases h:s.wishes.dropWhile (fun x=>!(s.changes x)) with
  | nil=>rfl
  | cons x l=>rw [hp]
theorem repOf_25 (e:EN):∀ i,25≤i→repOf e i=false:=by
  intro i hi
  unfold repOf
  rw [List.getD,List.getElem?_eq_none (by simpa using hi)]
  rfl
theorem cBe0_ok:Ak Tryz.prog 57 (AW beT0 cBe0):=BN fun e r h=>by
  obtain ⟨hm,h⟩:=Ar h
  simp only [ok0,idOk,Bool.and_eq_true,decide_eq_true_eq] at hm
  obtain ⟨hid,h1,h2,h3⟩:=hm
  have hw:=wOk_ok h3
  have pre:=pre0 e [[]] beT0.vs [] 7 clP
  refine BI.pre (t:=beT0) pre (std_good (k:=1) (g:=2) rfl rfl fun hg=>?_)
  cases hd:dropW (mon0 e) (mon0 e).wishes with
  | nil =>
    rw [show bgE (mon0 e)=true by unfold bgE; rw [hd]; rfl] at h
    cases h
    refine BI.post (t':=beR0) ?_ (be0_nil (e.dt 1) (mon0 e) hg hw hd)
    unfold bg0N
    rw [begins_nil hd]
    (repeat' (first | exact trivial | exact rfl | exact TS.eqv_refl _ _ | exact AY _ _ | exact AQ | exact fun _ _=>AJ _ _ | exact fun i _=>AF rfl _ i | apply And.intro))
  | cons x l =>
    rw [show bgE (mon0 e)=false by unfold bgE; rw [hd]; rfl] at h
    cases h
    refine BI.post (t':=beN1) ?_ (be0_cons (e.dt 1) (mon0 e) hg hw hid h1 h2 (repOf_25 e) hd)
    unfold bg0C
    rw [begins_cons rfl hd]
    (repeat' (first | exact trivial | exact rfl | exact TS.eqv_refl _ _ | exact AY _ _ | exact AQ | exact fun _ _=>AJ _ _ | exact fun i _=>AF rfl _ i | apply And.intro))
theorem cBe1_ok:Ak Tryz.prog 57 (AW beT1 cBe1):=BN fun e r h=>by
  obtain ⟨hm,h⟩:=Ar h
  cases h
  simp only [ok1,idOk,Bool.and_eq_true,decide_eq_true_eq] at hm
  obtain ⟨⟨hid,hwho⟩,h3⟩:=hm
  have hw:=wOk_ok h3
  have pre:=pre1 e [[]] beT1.vs [] 12 hwho clP
  refine BI.pre (t:=beT1) pre (std_good (k:=1) (g:=2) rfl rfl fun hg=>?_)
  refine BI.post (t':=beR1) ?_ (be1_std (e.dt 1) (mon1 e) (propOf e) hg hw)
  unfold bg1N
  rw [begins_some rfl]
  (repeat' (first | exact trivial | exact rfl | exact TS.eqv_refl _ _ | exact AY _ _ | exact AQ | exact fun _ _=>AJ _ _ | exact fun i _=>AF rfl _ i | apply And.intro))
end Go.Proofs.YtddmgdclmkgpeaaGreat
set_option linter.unusedSimpArgs false
set_option linter.unusedVariables false
namespace Go.Proofs.YtddmgdclmkgpeaaGreat
open Go.Eng Go.RowKit Go.ChangeShapes Go.WideShapes
set_option maxRecDepth 100000
noncomputable def riSm:List (FuncId×Summ):=[(24,AW laT cLa),(47,AW incT cInc),(57,orSumm (AW beT0 cBe0) (AW beT1 cBe1))]
noncomputable def riTb:Tab:=smTab (tabOf riSm)
def wiT0:TS:=⟨[],[.one (.ptr 0 0),.agg BB],mp0,7⟩
def wiT1:TS:=⟨[],[.one (.ptr 0 0),.agg BB],mp1,12⟩
def wiR0:TS:=⟨[],[.one .nils,.one (.i .i64)],beH0,10⟩
def wiR1:TS:=⟨[],[.one .nils,.one (.i .i64)],beH1,19⟩
def wiN1:TS:=⟨[],[.one (.sl 15),.one (.i .i64)],[(0,.box [.i .u8,.ptr 1 0,.ptr 3 0,.sl 8,.ptr 10 0,.i .i64,.i .u32,.i .u8,.ptr 6 0]),(1,.ob 1 Af 7),(7,.tok),(3,.box acB),(8,.lst none BB (some 9)),(9,.tok),(6,.box rpB),(10,.box [.i .u8,.i .u8,.i .u8,.i .i64,.i .u8,.i .u8,.i .i64,.i .u8,.i .u8,.i .i64,.i .u32,.i .u8,.i .u32,.i .u8,.sl 11,.sl 12,.b,.b,.i .u8,.i .u8,.i .i64,.b,.b]),(11,.lst none [.i .u8] (some 13)),(12,.lst none [.i .u8] (some 14)),(13,.tok),(14,.tok),(15,.lst (some 2) msgR (some 16)),(16,.tok)],17⟩
theorem riSm_ok:AllOk Tryz.prog riSm:=⟨cLa_ok,cInc_ok,orSumm_ok cBe0_ok cBe1_ok,trivial⟩
theorem riTab:TabAll Tryz.prog riTb:=tab_ok riSm_ok
noncomputable abbrev qRi1 {R:Type} (e:EN) (k:Int→Int→Int→Int→Int→Int→Int→Int→Int→Int→Int→Int→Bool→Bool→Bool→Bool→Bool→Bool→Bool→Bool→Bool→Bool→Bool→Bool→Bool→Bool→Bool→Bool→Bool→Bool→Bool→Bool→Bool→Bool→Bool→Bool→Bool→Ah R):Ah R:=.defI (e.bi 0 0) fun a0=>.defI (e.bi 0 5) fun a1=>.defI (e.bi 0 6) fun a2=>.defI (e.bi 0 7) fun a3=>.defI (e.bi 3 0) fun a4=>.defI (e.bi 3 1) fun a5=>.defI (e.bi 3 2) fun a6=>.defI (e.bi 3 3) fun a7=>.defI (e.bi 3 4) fun a8=>.defI (e.bi 3 5) fun a9=>.defI (e.bi 3 6) fun a10=>.defI ((e.ln 4):Int) fun a11=>.defB (e.bb 6 0) fun a12=>.defB (e.bb 6 1) fun a13=>.defB (e.bb 6 2) fun a14=>.defB (e.bb 6 3) fun a15=>.defB (e.bb 6 4) fun a16=>.defB (e.bb 6 5) fun a17=>.defB (e.bb 6 6) fun a18=>.defB (e.bb 6 7) fun a19=>.defB (e.bb 6 8) fun a20=>.defB (e.bb 6 9) fun a21=>.defB (e.bb 6 10) fun a22=>.defB (e.bb 6 11) fun a23=>.defB (e.bb 6 12) fun a24=>.defB (e.bb 6 13) fun a25=>.defB (e.bb 6 14) fun a26=>.defB (e.bb 6 15) fun a27=>.defB (e.bb 6 16) fun a28=>.defB (e.bb 6 17) fun a29=>.defB (e.bb 6 18) fun a30=>.defB (e.bb 6 19) fun a31=>.defB (e.bb 6 20) fun a32=>.defB (e.bb 6 21) fun a33=>.defB (e.bb 6 22) fun a34=>.defB (e.bb 6 23) fun a35=>.defB (e.bb 6 24) fun a36=>k a0 a1 a2 a3 a4 a5 a6 a7 a8 a9 a10 a11 a12 a13 a14 a15 a16 a17 a18 a19 a20 a21 a22 a23 a24 a25 a26 a27 a28 a29 a30 a31 a32 a33 a34 a35
 a36
noncomputable abbrev qRi2 {R:Type} (e:EN) (k:Int→Int→Int→Int→Int→Int→Int→Int→Int→Int→Int→Int→Bool→Bool→Bool→Bool→Bool→Bool→Bool→Bool→Bool→Bool→Bool→Bool→Bool→Bool→Bool→Bool→Bool→Bool→Bool→Bool→Bool→Bool→Bool→Bool→Bool→Int→Int→Int→Int→Int→Int→Int→Int→Int→Int→Int→Int→Int→Int→Bool→Bool→Int→Int→Int→Bool→Bool→Int→Int→Ah R):Ah R:=.defI (e.bi 0 0) fun a0=>.defI (e.bi 0 5) fun a1=>.defI (e.bi 0 6) fun a2=>.defI (e.bi 0 7) fun a3=>.defI (e.bi 3 0) fun a4=>.defI (e.bi 3 1) fun a5=>.defI (e.bi 3 2) fun a6=>.defI (e.bi 3 3) fun a7=>.defI (e.bi 3 4) fun a8=>.defI (e.bi 3 5) fun a9=>.defI (e.bi 3 6) fun a10=>.defI ((e.ln 4):Int) fun a11=>.defB (e.bb 6 0) fun a12=>.defB (e.bb 6 1) fun a13=>.defB (e.bb 6 2) fun a14=>.defB (e.bb 6 3) fun a15=>.defB (e.bb 6 4) fun a16=>.defB (e.bb 6 5) fun a17=>.defB (e.bb 6 6) fun a18=>.defB (e.bb 6 7) fun a19=>.defB (e.bb 6 8) fun a20=>.defB (e.bb 6 9) fun a21=>.defB (e.bb 6 10) fun a22=>.defB (e.bb 6 11) fun a23=>.defB (e.bb 6 12) fun a24=>.defB (e.bb 6 13) fun a25=>.defB (e.bb 6 14) fun a26=>.defB (e.bb 6 15) fun a27=>.defB (e.bb 6 16) fun a28=>.defB (e.bb 6 17) fun a29=>.defB (e.bb 6 18) fun a30=>.defB (e.bb 6 19) fun a31=>.defB (e.bb 6 20) fun a32=>.defB (e.bb 6 21) fun a33=>.defB (e.bb 6 22) fun a34=>.defB (e.bb 6 23) fun a35=>.defB (e.bb 6 24) fun
 a36=>.defI (e.bi 7 0) fun a37=>.defI (e.bi 7 1) fun a38=>.defI (e.bi 7 2) fun a39=>.defI (e.bi 7 3) fun a40=>.defI (e.bi 7 4) fun a41=>.defI (e.bi 7 5) fun a42=>.defI (e.bi 7 6) fun a43=>.defI (e.bi 7 7) fun a44=>.defI (e.bi 7 8) fun a45=>.defI (e.bi 7 9) fun a46=>.defI (e.bi 7 10) fun a47=>.defI (e.bi 7 11) fun a48=>.defI (e.bi 7 12) fun a49=>.defI (e.bi 7 13) fun a50=>.defB (e.bb 7 16) fun a51=>.defB (e.bb 7 17) fun a52=>.defI (e.bi 7 18) fun a53=>.defI (e.bi 7 19) fun a54=>.defI (e.bi 7 20) fun a55=>.defB (e.bb 7 21) fun a56=>.defB (e.bb 7 22) fun a57=>.defI ((e.ln 8):Int) fun a58=>.defI ((e.ln 9):Int) fun a59=>k a0 a1 a2 a3 a4 a5 a6 a7 a8 a9 a10 a11 a12 a13 a14 a15 a16 a17 a18 a19 a20 a21 a22 a23 a24 a25 a26 a27 a28 a29 a30 a31 a32 a33 a34 a35 a36 a37 a38 a39 a40 a41 a42 a43 a44 a45 a46 a47 a48 a49 a50 a51 a52 a53 a54 a55 a56 a57 a58 a59
noncomputable abbrev qRi3 (v0:Al):ON:=.box [.b (v0.10 0),.b (v0.10 1),.b (v0.10 2),.b (v0.10 3),.b (v0.10 4),.b (v0.10 5),.b (v0.10 6),.b (v0.10 7),.b (v0.10 8),.b (v0.10 9),.b (v0.10 10),.b (v0.10 11),.b (v0.10 12),.b (v0.10 13),.b (v0.10 14),.b (v0.10 15),.b (v0.10 16),.b (v0.10 17),.b (v0.10 18),.b (v0.10 19),.b (v0.10 20),.b (v0.10 21),.b (v0.10 22),.b (v0.10 23),.b (v0.10 24)]
noncomputable abbrev qRi5 (v0:Al):ON:=.box [.i v0.prom.1,.i v0.prom.2,.i v0.acc.1,.i v0.acc.2,.i v0.ainc.1,.i v0.ainc.2,.i v0.ainc.3]
noncomputable abbrev qRi6 (v0:Al) (v1:BA):ON:=.box [.i v0.1,.i v1.want.1,.i v1.want.2,.i v1.want.3,.i v1.value.1,.i v1.value.2,.i v1.value.3,.i v1.best.1,.i v1.best.2,.i v1.best.3,.i v1.b.1,.i v1.b.2,.i v1.acc.1,.i v1.acc.2,.u,.u,.b v1.8,.b v1.9,.i v1.decided.1,.i v1.decided.2,.i v1.decided.3,.b v1.11,.b v1.12]
noncomputable abbrev qRi7 (v0:Al):ON:=.box [.i v0.1,.u,.u,.u,.u,.i v0.8,.i v0.over.1,.i v0.over.2,.u]
noncomputable abbrev qRi8 (v0:Al) (v1:EN) (v2:Inc):EN:=⟨[[.u]],[(qRi7 v0),.own (v1.dt 0),.tok,(qRi5 v0),.lst ((v0.6.length:Int)+1).toNat (AH BB (AP (.sym (v0.6.length:Int)) (AI BB (rowJ v0.wishes)) (Aa 3 [.int .u8 (.sym v2.1),.int .u8 (.sym v2.2),.int .i64 (.sym v2.3)]))),.tok,(qRi3 v0)]⟩
noncomputable abbrev qRi4 (v0:Al) (v1:BA) (v2:Dat):Ah (EN):=.must (BE Af Af) (.must (AX BB (AI BB (rowJ v0.wishes)) v0.6.length) (.must (AX [.i .u8] (AI [.i .u8] (AR v1.6)) v1.6.length) (.must (AX [.i .u8] (AI [.i .u8] (AR v1.7)) v1.7.length) (.leaf ⟨[[.u],[.i 210]],[(qRi7 v0),.own (hdW v2 v0.2),.tok,(qRi5 v0),.lst v0.6.length (AH BB (AI BB (rowJ v0.wishes))),.tok,(qRi3 v0),(qRi6 v0 v1),.lst v1.6.length (AR v1.6),.lst v1.7.length (AR v1.7),.tok,.tok]⟩))))
noncomputable abbrev qRi9 (v0:Al) (v1:Dat):Ah (EN):=.must (BE Af Af) (.must (AX BB (AI BB (rowJ v0.wishes)) v0.6.length) (.leaf ⟨[[.u],[.i 210]],[(qRi7 v0),.own (hdW v1 v0.2),.tok,(qRi5 v0),.lst v0.6.length (AH BB (AI BB (rowJ v0.wishes))),.tok,(qRi3 v0)]⟩))
theorem wi0E (hd:Dat) (s:Al) (x:Inc):(BR Tryz.prog (Am Tryz.prog riTb 300) 19 (wiT0.vals ⟨[[],incNm x],mn0 hd s⟩) (wiT0.heap ⟨[[],incNm x],mn0 hd s⟩) 7 (outV 7 wiR0)).cut [none,none,some true] =

  .defE ⟨[[.i x.1,.i x.2,.i x.3]],[]⟩ fun e0=>.ite (!incF (e0.ai 0 0) (e0.ai 0 1) (e0.ai 0 2)) (qRi9 s hd) (.ite (decide ((s.6.length:Int)≥5)) (qRi9 s hd) (.must (BE Af Af) (.defE ⟨[[.u]],[.own (hdW hd s.2),.tok]⟩ fun e1=>.defI (BK (e1.dt 0).2) fun z2=>.must (decide (z2≥60)) (.must (BE Af Af) (.must (AX BB (AI BB (rowJ s.wishes)) s.6.length) (.leaf ⟨[[.u],[.i 210]],[(qRi7 s),.own (e1.dt 0),.tok,(qRi5 s),.lst s.6.length (AH BB (AI BB (rowJ s.wishes))),.tok,(qRi3 s)]⟩)))))):=by kernel_rfl
theorem wi0N (hd:Dat) (s:Al) (x:Inc):(BR Tryz.prog (Am Tryz.prog riTb 300) 19 (wiT0.vals ⟨[[],incNm x],mn0 hd s⟩) (wiT0.heap ⟨[[],incNm x],mn0 hd s⟩) 7 (outV 7 wiR0)).cut [some false,some false,some false,some true] =

  .defE ⟨[[.i x.1,.i x.2,.i x.3]],[]⟩ fun e0=>.must (!!incF (e0.ai 0 0) (e0.ai 0 1) (e0.ai 0 2)) (.must (!decide ((s.6.length:Int)≥5)) (.must (BE Af Af) (.defE ⟨[[.u]],[.own (hdW hd s.2),.tok]⟩ fun e1=>.defI (BK (e1.dt 0).2) fun z2=>.must (!decide (z2≥60)) (.must (decide (((s.6.length:Int)+1) * 16≤1099511627776∧(s.6.length:Int)+1≤1099511627776)) (.must (BE Af Af) (.must (AX BB (AP (.sym (s.6.length:Int)) (AI BB (rowJ s.wishes)) (Aa 3 [.int .u8 (.sym x.1),.int .u8 (.sym x.2),.int .i64 (.sym x.3)])) ((s.6.length:Int)+1).toNat) (.defE (qRi8 s e1 x) fun e3=>.must (ok0 e3) (.must (bgE (mon0 e3)) (.defE (bg0N e3) fun e4=>qRi1 e4 fun z5 z6 z7 z8 z9 z10 z11 z12 z13 z14 z15 z16 z17 z18 z19 z20 z21 z22 z23 z24 z25 z26 z27 z28 z29 z30 z31 z32 z33 z34 z35 z36 z37 z38 z39 z40 z41=>.must (BE Af Af) (.must (AX BB ((AI BB (e4.rw 4))) z16.toNat) (.leaf ⟨[[.u],[.i 0]],[.box [.i z5,.u,.u,.u,.u,.i z6,.i z7,.i z8,.u],.own (e4.dt 1),.tok,.box [.i z9,.i z10,.i z11,.i z12,.i z13,.i z14,.i z15],.lst z16.toNat (AH BB (AI BB (e4.rw 4))),.tok,.box [.b z17,.b z18,.b z19,.b z20,.b z21,.b z22,.b z23,.b z24,.b z25,.b z26,.b z27,.b z28,.b z29,.b z30,.b z31,.b z32,.b z33,.b z34,.b z35,.b z36,.b z37,.b z38,.b z39,.b z40,.b z41]]⟩))))))))))):=by kernel_rfl
theorem wi0C (hd:Dat) (s:Al) (x:Inc):(BR Tryz.prog (Am Tryz.prog riTb 300) 19 (wiT0.vals ⟨[[],incNm x],mn0 hd s⟩) (wiT0.heap ⟨[[],incNm x],mn0 hd s⟩) 7 (outV 7 wiN1)).cut [some false,some false,some false,some false] =

  .defE ⟨[[.i x.1,.i x.2,.i x.3]],[]⟩ fun e0=>.must (!!incF (e0.ai 0 0) (e0.ai 0 1) (e0.ai 0 2)) (.must (!decide ((s.6.length:Int)≥5)) (.must (BE Af Af) (.defE ⟨[[.u]],[.own (hdW hd s.2),.tok]⟩ fun e1=>.defI (BK (e1.dt 0).2) fun z2=>.must (!decide (z2≥60)) (.must (decide (((s.6.length:Int)+1) * 16≤1099511627776∧(s.6.length:Int)+1≤1099511627776)) (.must (BE Af Af) (.must (AX BB (AP (.sym (s.6.length:Int)) (AI BB (rowJ s.wishes)) (Aa 3 [.int .u8 (.sym x.1),.int .u8 (.sym x.2),.int .i64 (.sym x.3)])) ((s.6.length:Int)+1).toNat) (.defE (qRi8 s e1 x) fun e3=>.must (ok0 e3) (.must (!bgE (mon0 e3)) (.defE (bg0C e3) fun e4=>qRi2 e4 fun z5 z6 z7 z8 z9 z10 z11 z12 z13 z14 z15 z16 z17 z18 z19 z20 z21 z22 z23 z24 z25 z26 z27 z28 z29 z30 z31 z32 z33 z34 z35 z36 z37 z38 z39 z40 z41 z42 z43 z44 z45 z46 z47 z48 z49 z50 z51 z52 z53 z54 z55 z56 z57 z58 z59 z60 z61 z62 z63 z64=>.must (BE Af Af) (.must (AX BB ((AI BB (e4.rw 4))) z16.toNat) (.must (AX [.i .u8] ((AI [.i .u8] (e4.rw 8))) z63.toNat) (.must (AX [.i .u8] ((AI [.i .u8] (e4.rw 9))) z64.toNat) (.leaf ⟨[[.u],[.i 0]],[.box [.i z5,.u,.u,.u,.u,.i z6,.i z7,.i z8,.u],.own (e4.dt 1),.tok,.box [.i z9,.i z10,.i z11,.i z12,.i z13,.i z14,.i z15],.lst z16.toNat (AH BB (AI BB (e4.rw 4))),.tok,.box [.b z17,.b z18,.b z19,.b z20,.b z21,.b z22,.b z23,.b z24,.b z25,.b z26,.b z27,.b z28,.b z29,.b
 z30,.b z31,.b z32,.b z33,.b z34,.b z35,.b z36,.b z37,.b z38,.b z39,.b z40,.b z41],.box [.i z42,.i z43,.i z44,.i z45,.i z46,.i z47,.i z48,.i z49,.i z50,.i z51,.i z52,.i z53,.i z54,.i z55,.u,.u,.b z56,.b z57,.i z58,.i z59,.i z60,.b z61,.b z62],.lst z63.toNat (AH [.i .u8] (AI [.i .u8] (e4.rw 8))),.lst z64.toNat (AH [.i .u8] (AI [.i .u8] (e4.rw 9))),.tok,.tok,.lst 2 (AH msgR fun (i:Nat)=>(mAV [.int .u8 (.sym (hdN (e4.rw 12 i)).I),.int .u8 (.sym (hdN (tlN (e4.rw 12 i))).I),.int .u8 (.sym (hdN (tlN (tlN (e4.rw 12 i)))).I),.int .u32 (.sym (hdN (tlN (tlN (tlN (e4.rw 12 i))))).I),.int .u32 (.sym (hdN (tlN (tlN (tlN (tlN (e4.rw 12 i)))))).I),.int .u8 (.sym (hdN (tlN (tlN (tlN (tlN (tlN (e4.rw 12 i))))))).I),.int .u32 (.sym (hdN (tlN (tlN (tlN (tlN (tlN (tlN (e4.rw 12 i)))))))).I),.int .u8 (.sym (hdN (tlN (tlN (tlN (tlN (tlN (tlN (tlN (e4.rw 12 i))))))))).I),.bool (.sym (hdN (tlN (tlN (tlN (tlN (tlN (tlN (tlN (tlN (e4.rw 12 i)))))))))).B),.int .u8 (.sym (hdN (tlN (tlN (tlN (tlN (tlN (tlN (tlN (tlN (tlN (e4.rw 12 i))))))))))).I),.int .u8 (.sym (hdN (tlN (tlN (tlN (tlN (tlN (tlN (tlN (tlN (tlN (tlN (e4.rw 12 i)))))))))))).I),.int .i64 (.sym (hdN (tlN (tlN (tlN (tlN (tlN (tlN (tlN (tlN (tlN (tlN (tlN (e4.rw 12 i))))))))))))).I)] (.int .u32 (.sym (hdN (tlN (tlN (tlN (tlN (tlN (tlN (tlN (tlN (tlN (tlN (tlN (tlN (tlN (tlN (tlN (tlN (tlN (tlN (tlN (tlN (tlN (tlN (tlN (tlN (tlN (tlN (tlN (tlN (tlN (tlN (tlN (tlN (tlN
 (tlN (tlN (tlN (tlN (tlN (tlN (tlN (tlN (tlN (tlN (tlN (tlN (tlN (tlN (tlN (tlN (tlN (tlN (tlN (tlN (tlN (tlN (tlN (tlN (tlN (tlN (tlN (tlN (tlN (tlN (tlN (tlN (tlN (tlN (tlN (tlN (tlN (tlN (tlN (tlN (tlN (tlN (tlN (tlN (tlN (tlN (tlN (tlN (tlN (tlN (tlN (tlN (tlN (tlN (tlN (tlN (tlN (tlN (tlN (tlN (tlN (tlN (tlN (tlN (tlN (tlN (tlN (tlN (tlN (tlN (tlN (tlN (tlN (tlN (tlN (tlN (tlN (tlN (tlN (tlN (tlN (tlN (tlN (tlN (tlN (tlN (tlN (tlN (tlN (e4.rw 12 i)))))))))))))))))))))))))))))))))))))))))))))))))))))))))))))))))))))))))))))))))))))))))))))))))))))))))))))))))))))))))))).I)))),.tok]⟩))))))))))))):=by kernel_rfl
theorem wi1E (hd:Dat) (s:Al) (p:BA) (x:Inc):(BR Tryz.prog (Am Tryz.prog riTb 300) 19 (wiT1.vals ⟨[[],incNm x],mn1 hd s p⟩) (wiT1.heap ⟨[[],incNm x],mn1 hd s p⟩) 12 (outV 12 wiR1)).cut [none,none,some true] =

  .defE ⟨[[.i x.1,.i x.2,.i x.3]],[]⟩ fun e0=>.ite (!incF (e0.ai 0 0) (e0.ai 0 1) (e0.ai 0 2)) (qRi4 s p hd) (.ite (decide ((s.6.length:Int)≥5)) (qRi4 s p hd) (.must (BE Af Af) (.defE ⟨[[.u]],[.own (hdW hd s.2),.tok]⟩ fun e1=>.defI (BK (e1.dt 0).2) fun z2=>.must (decide (z2≥60)) (.must (BE Af Af) (.must (AX BB (AI BB (rowJ s.wishes)) s.6.length) (.must (AX [.i .u8] (AI [.i .u8] (AR p.6)) p.6.length) (.must (AX [.i .u8] (AI [.i .u8] (AR p.7)) p.7.length) (.leaf ⟨[[.u],[.i 210]],[(qRi7 s),.own (e1.dt 0),.tok,(qRi5 s),.lst s.6.length (AH BB (AI BB (rowJ s.wishes))),.tok,(qRi3 s),(qRi6 s p),.lst p.6.length (AR p.6),.lst p.7.length (AR p.7),.tok,.tok]⟩)))))))):=by kernel_rfl
theorem wi1N (hd:Dat) (s:Al) (p:BA) (x:Inc):(BR Tryz.prog (Am Tryz.prog riTb 300) 19 (wiT1.vals ⟨[[],incNm x],mn1 hd s p⟩) (wiT1.heap ⟨[[],incNm x],mn1 hd s p⟩) 12 (outV 12 wiR1)).cut [some false,some false,some false] =

  .defE ⟨[[.i x.1,.i x.2,.i x.3]],[]⟩ fun e0=>.must (!!incF (e0.ai 0 0) (e0.ai 0 1) (e0.ai 0 2)) (.must (!decide ((s.6.length:Int)≥5)) (.must (BE Af Af) (.defE ⟨[[.u]],[.own (hdW hd s.2),.tok]⟩ fun e1=>.defI (BK (e1.dt 0).2) fun z2=>.must (!decide (z2≥60)) (.must (decide (((s.6.length:Int)+1) * 16≤1099511627776∧(s.6.length:Int)+1≤1099511627776)) (.must (BE Af Af) (.must (AX BB (AP (.sym (s.6.length:Int)) (AI BB (rowJ s.wishes)) (Aa 3 [.int .u8 (.sym x.1),.int .u8 (.sym x.2),.int .i64 (.sym x.3)])) ((s.6.length:Int)+1).toNat) (.must (AX [.i .u8] (AI [.i .u8] (AR p.6)) p.6.length) (.must (AX [.i .u8] (AI [.i .u8] (AR p.7)) p.7.length) (.defE ⟨[[.u]],[(qRi7 s),.own (e1.dt 0),.tok,(qRi5 s),.lst ((s.6.length:Int)+1).toNat (AH BB (AP (.sym (s.6.length:Int)) (AI BB (rowJ s.wishes)) (Aa 3 [.int .u8 (.sym x.1),.int .u8 (.sym x.2),.int .i64 (.sym x.3)]))),.tok,(qRi3 s),(qRi6 s p),.lst p.6.length (AR p.6),.lst p.7.length (AR p.7),.tok,.tok]⟩ fun e3=>.must (ok1 e3&&wOk e3) (.defE (bg1N e3) fun e4=>qRi2 e4 fun z5 z6 z7 z8 z9 z10 z11 z12 z13 z14 z15 z16 z17 z18 z19 z20 z21 z22 z23 z24 z25 z26 z27 z28 z29 z30 z31 z32 z33 z34 z35 z36 z37 z38 z39 z40 z41 z42 z43 z44 z45 z46 z47 z48 z49 z50 z51 z52 z53 z54 z55 z56 z57 z58 z59 z60 z61 z62 z63 z64=>.must (BE Af Af) (.must (AX BB ((AI BB (e4.rw 4))) z16.toNat) (.must (AX [.i .u8]
 ((AI [.i .u8] (e4.rw 8))) z63.toNat) (.must (AX [.i .u8] ((AI [.i .u8] (e4.rw 9))) z64.toNat) (.leaf ⟨[[.u],[.i 0]],[.box [.i z5,.u,.u,.u,.u,.i z6,.i z7,.i z8,.u],.own (e4.dt 1),.tok,.box [.i z9,.i z10,.i z11,.i z12,.i z13,.i z14,.i z15],.lst z16.toNat (AH BB (AI BB (e4.rw 4))),.tok,.box [.b z17,.b z18,.b z19,.b z20,.b z21,.b z22,.b z23,.b z24,.b z25,.b z26,.b z27,.b z28,.b z29,.b z30,.b z31,.b z32,.b z33,.b z34,.b z35,.b z36,.b z37,.b z38,.b z39,.b z40,.b z41],.box [.i z42,.i z43,.i z44,.i z45,.i z46,.i z47,.i z48,.i z49,.i z50,.i z51,.i z52,.i z53,.i z54,.i z55,.u,.u,.b z56,.b z57,.i z58,.i z59,.i z60,.b z61,.b z62],.lst z63.toNat (AH [.i .u8] (AI [.i .u8] (e4.rw 8))),.lst z64.toNat (AH [.i .u8] (AI [.i .u8] (e4.rw 9))),.tok,.tok]⟩)))))))))))))):=by kernel_rfl
theorem rows_appJ {l:List Inc} {x:Inc} {i:Nat} (h:i<l.length+1):eqvL BB (AH BB (AP (.sym (l.length:Int)) (AI BB (rowJ l)) (Aa 3 [.int .u8 (.sym x.kind),.int .u8 (.sym x.osd),.int .i64 (.sym x.n)])) i) (rowJ (l++[x]) i):=by
  rw [rowNums_cat]
  have e0:(SI.sym (l.length:Int)).v.toNat=l.length:=by
    show ((l.length:Int)).toNat=l.length
    omega
  rw [e0]
  by_cases hi:i<l.length
  · rw [if_pos hi]
    have e:rowJ (l++[x]) i=rowJ l i:=by
      unfold rowJ
      rw [List.getD,List.getD,List.getElem?_append_left hi]
    rw [e]
    exact AF rfl _ i
  · rw [if_neg hi]
    have hi:i=l.length:=by omega
    subst hi
    have e:rowJ (l++[x]) l.length=incNm x:=by
      unfold rowJ
      rw [List.getD,List.getElem?_append_right (Nat.le_refl _),Nat.sub_self]
      rfl
    rw [e,Nat.sub_self]
    exact ⟨rfl,rfl,rfl,trivial⟩
theorem rowsB_appJ {l:List Inc} {x:Inc} {n:Nat} (h:n=l.length+1):AX BB (AP (.sym (l.length:Int)) (AI BB (rowJ l)) (Aa 3 [.int .u8 (.sym x.kind),.int .u8 (.sym x.osd),.int .i64 (.sym x.n)])) n=true:=by
  refine rowsB_cat (fun i _=>rowOk_inst rfl _) fun i hi=>?_
  have e0:(SI.sym (l.length:Int)).v.toNat=l.length:=by
    show ((l.length:Int)).toNat=l.length
    omega
  have:i=0:=by omega
  subst this
  rfl
theorem appJ {l:List Inc} {x:Inc} : incsL ((l.length:Int)+1).toNat (AH BB (AP (.sym (l.length:Int)) (AI BB (rowJ l)) (Aa 3 [.int .u8 (.sym x.kind),.int .u8 (.sym x.osd),.int .i64 (.sym x.n)])))=l++[x] :=
  incsL_rows (by simp <;> omega) fun i hi=>rows_appJ (by simpa using hi)
theorem wok_app {l:List Inc} {x:Inc} (hw:∀ y,y∈l→0≤y.osd) (hx:0≤x.osd):((l++[x]).all fun y=>decide (0≤y.osd))=true:=List.all_eq_true.2 fun y hy=>by
  rcases List.mem_append.1 hy with h | h
  · exact decide_eq_true (hw y h)
  · have:y=x:=by simpa using h
    rw [this]
    exact decide_eq_true hx
theorem ok0_ok {n b c:Int} {w:Bool} (h:0≤n∧n<3) (hb:0≤b) (hc:0≤c) (hw:w=true):(idOk n&&(decide (0≤b)&&(decide (0≤c)&&w)))=true:=by
  unfold idOk
  rw [decide_eq_true h,decide_eq_true hb,decide_eq_true hc,hw]
  rfl
set_option maxHeartbeats 1000000 in
theorem wi0_no (hd:Dat) (s:Al) (x:Inc) (h:s.wishB x=false):BI Tryz.prog 19 wiT0 ⟨[[],incNm x],mn0 hd s⟩ wiR0 ⟨[[.u],[.i 210]],mn0 hd s⟩:=by
  have hi:=incF_eq x.kind x.osd x.n
  refine Aj riTab Ay rfl (BG [none,none,some true] (AL (wi0E hd s x) (AK (AG (fun h1=>?_) (fun h1=>AG (fun h2=>?_) (fun h2=>AA (AS _) (AK (AB (AA ?_ ?_)))))))))
  · refine AA (AS _) (AA (AZ rfl _ _) (AE ?_))
    refine ⟨⟨trivial,rfl,trivial⟩,?_,rfl,trivial,?_,⟨rfl,fun i _=>AF rfl _ i⟩,trivial,?_,trivial⟩
    · exact clP
    · exact clP
    · exact clP
  · refine AA (AS _) (AA (AZ rfl _ _) (AE ?_))
    refine ⟨⟨trivial,rfl,trivial⟩,?_,rfl,trivial,?_,⟨rfl,fun i _=>AF rfl _ i⟩,trivial,?_,trivial⟩
    · exact clP
    · exact clP
    · exact clP
  · have h1:(!incF x.kind x.osd x.n)=false:=h1
    rw [hi] at h1
    have h2:=of_decide_eq_false h2
    unfold Al.wishB at h
    have h1:incOk x=true:=by simpa using h1
    rw [h1,decide_eq_true (by omega:(s.wishes.length:Int)<5)] at h
    have h:=of_decide_eq_false h
    show decide (BK s.incs≥60)=true
    unfold Al.last at h
    unfold BK
    exact decide_eq_true (by omega)
  · refine AA (AS _) (AA (AZ rfl _ _) (AE ?_))
    refine ⟨⟨trivial,rfl,trivial⟩,?_,rfl,trivial,?_,⟨rfl,fun i _=>AF rfl _ i⟩,trivial,?_,trivial⟩
    · exact clP
    · exact clP
    · exact clP
set_option maxHeartbeats 1000000 in
theorem wi1_no (hd:Dat) (s:Al) (p:BA) (x:Inc) (h:s.wishB x=false):BI Tryz.prog 19 wiT1 ⟨[[],incNm x],mn1 hd s p⟩ wiR1 ⟨[[.u],[.i 210]],mn1 hd s p⟩:=by
  have hi:=incF_eq x.kind x.osd x.n
  refine Aj riTab Ay rfl (BG [none,none,some true] (AL (wi1E hd s p x) (AK (AG (fun h1=>?_) (fun h1=>AG (fun h2=>?_) (fun h2=>AA (AS _) (AK (AB (AA ?_ ?_)))))))))
  · refine AA (AS _) (AA (AZ rfl _ _) (AA (AN _ _ _) (AA (AN _ _ _) (AE ?_))))
    refine ⟨⟨trivial,rfl,trivial⟩,?_,rfl,trivial,?_,⟨rfl,fun i _=>AF rfl _ i⟩,trivial,?_,?_,⟨rfl,fun i _=>AJ [.i .u8] (AR p.hp i)⟩,⟨rfl,fun i _=>AJ [.i .u8] (AR p.ha i)⟩,trivial,trivial,trivial⟩
    · exact clP
    · exact clP
    · exact clP
    · exact clP
  · refine AA (AS _) (AA (AZ rfl _ _) (AA (AN _ _ _) (AA (AN _ _ _) (AE ?_))))
    refine ⟨⟨trivial,rfl,trivial⟩,?_,rfl,trivial,?_,⟨rfl,fun i _=>AF rfl _ i⟩,trivial,?_,?_,⟨rfl,fun i _=>AJ [.i .u8] (AR p.hp i)⟩,⟨rfl,fun i _=>AJ [.i .u8] (AR p.ha i)⟩,trivial,trivial,trivial⟩
    · exact clP
    · exact clP
    · exact clP
    · exact clP
  · have h1:(!incF x.kind x.osd x.n)=false:=h1
    rw [hi] at h1
    have h2:=of_decide_eq_false h2
    unfold Al.wishB at h
    have h1:incOk x=true:=by simpa using h1
    rw [h1,decide_eq_true (by omega:(s.wishes.length:Int)<5)] at h
    have h:=of_decide_eq_false h
    show decide (BK s.incs≥60)=true
    unfold Al.last at h
    unfold BK
    exact decide_eq_true (by omega)
  · refine AA (AS _) (AA (AZ rfl _ _) (AA (AN _ _ _) (AA (AN _ _ _) (AE ?_))))
    refine ⟨⟨trivial,rfl,trivial⟩,?_,rfl,trivial,?_,⟨rfl,fun i _=>AF rfl _ i⟩,trivial,?_,?_,⟨rfl,fun i _=>AJ [.i .u8] (AR p.hp i)⟩,⟨rfl,fun i _=>AJ [.i .u8] (AR p.ha i)⟩,trivial,trivial,trivial⟩
    · exact clP
    · exact clP
    · exact clP
    · exact clP
theorem prop_rt (p:BA):({ p with hp:=Ax p.hp.length (AR p.hp),ha:=Ax p.ha.length (AR p.ha) } : BA)=p:=by
  rw [lstI_rowI,lstI_rowI]
theorem wishB_ok {s:Al} {x:Inc} (h:s.wishB x=true):(!!incF x.kind x.osd x.n)=true∧(!decide ((s.wishes.length:Int)≥5))=true∧(!decide (BK s.incs≥60))=true:=by
  unfold Al.wishB Al.last at h
  simp only [Bool.and_eq_true,decide_eq_true_eq] at h
  obtain ⟨⟨h1,h2⟩,h3⟩:=h
  refine ⟨by rw [incF_eq]; rw [h1]; rfl,by rw [decide_eq_false (by omega)]; rfl,?_⟩
  unfold BK
  rw [decide_eq_false (by omega)]
  rfl
set_option maxHeartbeats 1000000 in
theorem wi0_N (hd : Dat) (s : Al) (x : Inc) (h : s.wishB x = true) (hs : 0 ≤ s.id ∧ s.id < 3) (ho : 0 ≤ s.over.n) (ho2 : 0 ≤ s.prom.n) (hw : ∀ y, y ∈ s.wishes → 0 ≤ y.osd) (hx : 0 ≤ x.osd) (hr : ∀ i, 25 ≤ i → s.rep i = false) (hp : s.prop = none) (hb : bgE { s with wishes := s.wishes ++ [x] } = true) :
    BI Tryz.prog 19 wiT0 ⟨[[],incNm x],mn0 hd s⟩ wiR0 ⟨[[.u],[.i 0]],mn0 hd ({ s with wishes:=s.wishes++[x] } : Al).begins.1⟩:=by
  obtain ⟨h1,h2,h4⟩:=wishB_ok h
  have h5:((s.wishes.length:Int)+1) * 16≤1099511627776∧(s.wishes.length:Int)+1≤1099511627776:=by
    have:¬ (s.wishes.length:Int)≥5:=by simpa using h2
    omega
  refine Aj riTab Ay rfl (BG [some false,some false,some false,some true] (AL (wi0N hd s x) (AK (AA h1 (AA h2 (AA (AS _) (AK (AB (AA h4 (AA (decide_eq_true h5) (AA (AS _) (AA (rowsB_appJ (by omega)) (An fun e3 h3=>?_)))))))))))))
  have w3:incsL (e3.ln 4) (e3.rw 4)=s.wishes++[x]:=by
    rw [h3]
    exact appJ
  have r3:repOf e3=s.rep:=by
    rw [h3]
    exact rep25 hr
  have m3:mon0 e3 = { s with wishes:=s.wishes++[x] }:=by
    unfold mon0 monOf
    rw [w3,r3,h3,← hp]
    rfl
  have d3:e3.dt 1=hdW hd s.incs:=by rw [h3]; rfl
  have s3:bg0N e3=⟨[],mn0 hd ({ s with wishes:=s.wishes++[x] } : Al).begins.1⟩:=by
    unfold bg0N
    rw [m3,d3]
    rfl
  refine AA (by
    have o3:ok0 e3=true:=by
      unfold ok0 wOk
      rw [w3,wok_app hw hx,h3]
      exact ok0_ok hs ho ho2 rfl
    exact o3) (AA (by rw [m3,hb]) ?_)
  rw [s3]
  generalize ({ s with wishes:=s.wishes++[x] } : Al).begins=r
  clear s3 m3 r3 w3 d3 h3
  refine AK ?_
  repeat' with_reducible (first | refine AB ?_ | refine AM ?_)
  refine AA (AS _) (AA (AZ rfl _ _) (AE ?_))
  refine ⟨⟨trivial,rfl,trivial⟩,?_,rfl,trivial,?_,⟨rfl,fun i _=>AF rfl _ i⟩,trivial,?_,trivial⟩
  · exact clP
  · exact clP
  · exact clP
set_option maxHeartbeats 1000000 in
theorem wi0_C (hd : Dat) (s : Al) (x : Inc) (h : s.wishB x = true) (hs : 0 ≤ s.id ∧ s.id < 3) (ho : 0 ≤ s.over.n) (ho2 : 0 ≤ s.prom.n) (hw : ∀ y, y ∈ s.wishes → 0 ≤ y.osd) (hx : 0 ≤ x.osd) (hr : ∀ i, 25 ≤ i → s.rep i = false) (hp : s.prop = none) (hb : bgE { s with wishes := s.wishes ++ [x] } = false) :
    BI Tryz.prog 19 wiT0 ⟨[[],incNm x],mn0 hd s⟩ wiN1 ⟨[[.u],[.i 0]],mn1 hd ({ s with wishes:=s.wishes++[x] } : Al).begins.1 (propD ({ s with wishes:=s.wishes++[x] } : Al).begins.1)++[.lst 2 (rowM ({ s with wishes:=s.wishes++[x] } : Al).begins.2),.tok]⟩:=by
  obtain ⟨h1,h2,h4⟩:=wishB_ok h
  have h5:((s.wishes.length:Int)+1) * 16≤1099511627776∧(s.wishes.length:Int)+1≤1099511627776:=by
    have:¬ (s.wishes.length:Int)≥5:=by simpa using h2
    omega
  refine Aj riTab Ay rfl (BG [some false,some false,some false,some false] (AL (wi0C hd s x) (AK (AA h1 (AA h2 (AA (AS _) (AK (AB (AA h4 (AA (decide_eq_true h5) (AA (AS _) (AA (rowsB_appJ (by omega)) (An fun e3 h3=>?_)))))))))))))
  have w3:incsL (e3.ln 4) (e3.rw 4)=s.wishes++[x]:=by
    rw [h3]
    exact appJ
  have r3:repOf e3=s.rep:=by
    rw [h3]
    exact rep25 hr
  have m3:mon0 e3 = { s with wishes:=s.wishes++[x] }:=by
    unfold mon0 monOf
    rw [w3,r3,h3,← hp]
    rfl
  have d3:e3.dt 1=hdW hd s.incs:=by rw [h3]; rfl
  have s3:bg0C e3=⟨[],mn1 hd ({ s with wishes:=s.wishes++[x] } : Al).begins.1 (propD ({ s with wishes:=s.wishes++[x] } : Al).begins.1)++[.lst 2 (rowM ({ s with wishes:=s.wishes++[x] } : Al).begins.2)]⟩:=by
    unfold bg0C
    rw [m3,d3]
    rfl
  refine AA (by
    have o3:ok0 e3=true:=by
      unfold ok0 wOk
      rw [w3,wok_app hw hx,h3]
      exact ok0_ok hs ho ho2 rfl
    exact o3) (AA (by rw [m3,hb]; rfl) ?_)
  rw [s3]
  generalize ({ s with wishes:=s.wishes++[x] } : Al).begins=r
  clear s3 m3 r3 w3 d3 h3
  refine AK ?_
  repeat' with_reducible (first | refine AB ?_ | refine AM ?_)
  refine AA (AS _) (AA (AZ rfl _ _) (AA (AN _ _ _) (AA (AN _ _ _) (AE ?_))))
  refine ⟨⟨trivial,rfl,trivial⟩,?_,rfl,trivial,?_,⟨rfl,fun i _=>AF rfl _ i⟩,trivial,?_,?_,⟨rfl,fun i _=>AF rfl _ i⟩,⟨rfl,fun i _=>AF rfl _ i⟩,trivial,trivial,⟨trivial,fun i _=>?_⟩,trivial,trivial⟩
  · exact clP
  · exact clP
  · exact clP
  · exact clP
  · exact rowsMsg _ i
set_option maxHeartbeats 1000000 in
theorem wi1_N (hd : Dat) (s : Al) (p : BA) (x : Inc) (h : s.wishB x = true) (hs : 0 ≤ s.id ∧ s.id < 3) (ho : 0 ≤ s.over.n) (ho2 : 0 ≤ s.prom.n) (hw : ∀ y, y ∈ s.wishes → 0 ≤ y.osd) (hx : 0 ≤ x.osd) (hr : ∀ i, 25 ≤ i → s.rep i = false) (hp : s.prop = some p)  :
    BI Tryz.prog 19 wiT1 ⟨[[],incNm x],mn1 hd s p⟩ wiR1 ⟨[[.u],[.i 0]],mn1 hd ({ s with wishes:=s.wishes++[x] } : Al).begins.1 (propD ({ s with wishes:=s.wishes++[x] } : Al).begins.1)⟩:=by
  obtain ⟨h1,h2,h4⟩:=wishB_ok h
  have h5:((s.wishes.length:Int)+1) * 16≤1099511627776∧(s.wishes.length:Int)+1≤1099511627776:=by
    have:¬ (s.wishes.length:Int)≥5:=by simpa using h2
    omega
  refine Aj riTab Ay rfl (BG [some false,some false,some false] (AL (wi1N hd s p x) (AK (AA h1 (AA h2 (AA (AS _) (AK (AB (AA h4 (AA (decide_eq_true h5) (AA (AS _) (AA (rowsB_appJ (by omega)) (AA (AN _ _ _) (AA (AN _ _ _) (An fun e3 h3=>?_)))))))))))))))
  have w3:incsL (e3.ln 4) (e3.rw 4)=s.wishes++[x]:=by
    rw [h3]
    exact appJ
  have r3:repOf e3=s.rep:=by
    rw [h3]
    exact rep25 hr
  have q3:propOf e3=p:=by rw [h3]; exact prop_rt p
  have m3:mon1 e3 = { s with wishes:=s.wishes++[x] }:=by
    unfold mon1 monOf
    rw [q3,w3,r3,h3,← hp]
    rfl
  have d3:e3.dt 1=hdW hd s.incs:=by rw [h3]; rfl
  have s3:bg1N e3=⟨[],mn1 hd ({ s with wishes:=s.wishes++[x] } : Al).begins.1 (propD ({ s with wishes:=s.wishes++[x] } : Al).begins.1)⟩:=by
    unfold bg1N
    rw [m3,d3]
    rfl
  refine AA (by
    have o3:(ok1 e3&&wOk e3)=true:=by
      unfold ok1 wOk
      rw [w3,wok_app hw hx,h3]
      exact (Bool.and_true _).trans (idOk_ok hs)
    exact o3) ?_
  rw [s3]
  generalize ({ s with wishes:=s.wishes++[x] } : Al).begins=r
  clear s3 m3 r3 w3 d3 q3 h3
  refine AK ?_
  repeat' with_reducible (first | refine AB ?_ | refine AM ?_)
  refine AA (AS _) (AA (AZ rfl _ _) (AA (AN _ _ _) (AA (AN _ _ _) (AE ?_))))
  refine ⟨⟨trivial,rfl,trivial⟩,?_,rfl,trivial,?_,⟨rfl,fun i _=>AF rfl _ i⟩,trivial,?_,?_,⟨rfl,fun i _=>AF rfl _ i⟩,⟨rfl,fun i _=>AF rfl _ i⟩,trivial,trivial,trivial⟩
  · exact clP
  · exact clP
  · exact clP
  · exact clP
end Go.Proofs.YtddmgdclmkgpeaaGreat
set_option linter.unusedSimpArgs false
set_option linter.unusedVariables false
namespace Go.Eng
open Go.RowKit
theorem Pack.ren {m m' r r' : Nat} {h : Aq} {l : List (Nat × Ai)} {φ : Nat → Nat} {blk : Nat} {fp : List Nat} {w : World} (hp : Pack m r h blk fp w) (hr : φ r' = r)
    (ho:∀ p∈l,p.1<m'∧∃ o',AO h (φ p.1)=some o'∧SameO noNil φ (· < m') o' p.2) (inj:∀ k k',k<m'→k'<m'→φ k=φ k'→k=k') (hno:NoRo (AO (Ad l))):Pack m' r' (Ad l) blk fp w:=by
  obtain ⟨E,hU,hb,hf,hn⟩:=hp
  have hR:ResetH noNil (· < m') φ h (Ad l):=by
    refine ⟨fun k o hk=>?_,fun k k' o o' hk hk' e=>inj k k' (ho _ (BS hk)).1 (ho _ (BS hk')).1 e⟩
    obtain ⟨h1,h2⟩:=ho _ (BS hk)
    exact ⟨h1,.inl h2⟩
  refine ⟨E.via φ,hR.relU (noNil_ok E) hU.here,?_,fun k o b hk hb=>?_,hno⟩
  · show E.blk (φ r')=blk
    rw [hr]; exact hb
  · obtain ⟨_,⟨o',q,s⟩ | ⟨z,_⟩⟩:=hR.obj k o hk
    · exact hf _ _ _ q (s.owns hb)
    · cases z
section
variable {P:Program}
theorem StdN.wide {f:FuncId} {m m' m2:Nat} {h h':List (Nat×Ai)} {args:List AV} {v:AV} (hm:m'≤m2) (H:StdN P f m h args m' h' v):StdN P f m h args m2 h' v:=by
  intro E w hU
  refine (H E w hU).mono ?_
  rintro e w' ⟨E1,rfl,h2,h3,h4⟩
  exact ⟨E1,rfl,h2,⟨fun k o hk=>Nat.lt_of_lt_of_le (h3.dom k o hk) hm,fun k o g hk hg=>Nat.lt_of_lt_of_le (h3.grp k o g hk hg) hm,fun E' hE=>h3.rel E' fun k hk=>hE k (Nat.lt_of_lt_of_le hk hm)⟩,h4⟩
end
end Go.Eng
set_option linter.unusedSimpArgs false
set_option linter.unusedVariables false
namespace Go.Proofs.YtddmgdclmkgpeaaGreat
open Go.Eng Go.RowKit Go.ChangeShapes Go.WideShapes
set_option maxRecDepth 100000
def BalB (b:Bal):Prop:=(0≤b.n∧b.n<4294967296)∧0≤b.who∧b.who<3
def AccOk (P A:Bal) (I:Inc):Prop:=(A.n=0∧A.who=0∧I.kind=0∧I.osd=0∧I.n=0)∨(0<A.n∧BalB A∧incOk I=true∧0≤I.osd∧P.less A=false)
def PGood (p:BA):Prop:=((p.hp.length≤2∧(p.valued=false→p.hp.length≤1))∧p.ha.length≤2∧(p.done=false→p.ha.length≤1))∧0≤p.want.osd∧0≤p.value.osd∧0≤p.best.osd∧0≤p.decided.osd
def MKeep (d:Al):Prop:=BalB d.prom∧AccOk d.prom d.acc d.ainc∧d.over.n<4294967296∧(∀ p,d.prop=some p→p.b.n<4294967296∧PGood p)∧0≤d.ticks∧d.ticks<100
def MGood (d:Al):Prop:=(0≤d.id∧d.id<3)∧(∀ x,x∈d.wishes→0≤x.osd)∧(∀ i,25≤i→d.rep i=false)∧0≤d.over.n∧0≤d.prom.n∧(∀ p,d.prop=some p→0≤p.b.n)∧MKeep d
def MonR (d:Dat) (blk:Nat) (fp:List Nat) (w:World):Prop:=MGood d∧((d.prop=none∧∃ hd,Pack 7 0 (Ad (instH mp0 (mn0 hd d))) blk fp w)∨∃ p,d.prop=some p∧∃ hd,Pack 12 0 (Ad (instH mp1 (mn1 hd d p))) blk fp w)
def nwH:List (Nat×TO):=[(0,.box [.i .u8,.ptr 1 0,.ptr 3 0,.sl 8,.ptr 10 0,.i .i64,.i .u32,.i .u8,.ptr 6 0]),(1,.ob 1 Af 7),(7,.tok),(3,.box acB),(8,.lst none BB (some 9)),(9,.tok),(6,.box rpB),(10,.box [.i .u8,.i .u8,.i .u8,.i .i64,.i .u8,.i .u8,.i .i64,.i .u8,.i .u8,.i .i64,.i .u32,.i .u8,.i .u32,.i .u8,.sl 11,.sl 12,.b,.b,.i .u8,.i .u8,.i .i64,.b,.b]),(11,.lst none [.i .u8] (some 13)),(12,.lst none [.i .u8] (some 14)),(13,.tok),(14,.tok)]
theorem pk_post0 {hd:Dat} {s:Al} {m:Nat} {blk:Nat} {fp:List Nat} {w:World} (hp:Pack m 0 (Ad (instH beH0 (mn0 hd s))) blk fp w):Pack 7 0 (Ad (instH mp0 (mn0 hd s))) blk fp w:=by
  refine Pack.ren (φ:=lkN [0,1,7,3,8,9,6]) hp rfl ?_ (fun k k' h1 h2 e=>distB_lk (L:=[0,1,7,3,8,9,6]) rfl h1 h2 e) (noRo_of rfl)
  refine List.forall_mem_cons.2 ⟨⟨Nat.le_of_ble_eq_true rfl,_,rfl,rfl,fun _ _=>rfl,Az rfl⟩,List.forall_mem_cons.2 ⟨⟨Nat.le_of_ble_eq_true rfl,_,rfl,rfl,rfl,rfl,rfl,by decide,rfl⟩,List.forall_mem_cons.2 ⟨⟨Nat.le_of_ble_eq_true rfl,_,rfl,trivial⟩,List.forall_mem_cons.2 ⟨⟨Nat.le_of_ble_eq_true rfl,_,rfl,rfl,fun _ _=>rfl,Az rfl⟩,List.forall_mem_cons.2 ⟨⟨Nat.le_of_ble_eq_true rfl,_,rfl,rfl,rfl,rfl,fun _ e=>by cases e; exact ⟨by decide,rfl⟩,fun _ _=>⟨rfl,rfl,fun _ _=>rfl,Az rfl⟩⟩,List.forall_mem_cons.2 ⟨⟨Nat.le_of_ble_eq_true rfl,_,rfl,trivial⟩,List.forall_mem_cons.2 ⟨⟨Nat.le_of_ble_eq_true rfl,_,rfl,rfl,fun _ _=>rfl,Az rfl⟩,fun _ h=>by cases h⟩⟩⟩⟩⟩⟩⟩
theorem pk_new1 {hd:Dat} {s:Al} {p:BA} {m:Nat} {blk:Nat} {fp:List Nat} {w:World} (hp:Pack m 0 (Ad (instH nwH (mn1 hd s p))) blk fp w):Pack 12 0 (Ad (instH mp1 (mn1 hd s p))) blk fp w:=by
  refine Pack.ren (φ:=lkN [0,1,7,3,8,9,6,10,11,12,13,14]) hp rfl ?_ (fun k k' h1 h2 e=>distB_lk (L:=[0,1,7,3,8,9,6,10,11,12,13,14]) rfl h1 h2 e) (noRo_of rfl)
  refine List.forall_mem_cons.2 ⟨⟨Nat.le_of_ble_eq_true rfl,_,rfl,rfl,fun _ _=>rfl,Az rfl⟩,List.forall_mem_cons.2 ⟨⟨Nat.le_of_ble_eq_true rfl,_,rfl,rfl,rfl,rfl,rfl,by decide,rfl⟩,List.forall_mem_cons.2 ⟨⟨Nat.le_of_ble_eq_true rfl,_,rfl,trivial⟩,List.forall_mem_cons.2 ⟨⟨Nat.le_of_ble_eq_true rfl,_,rfl,rfl,fun _ _=>rfl,Az rfl⟩,List.forall_mem_cons.2 ⟨⟨Nat.le_of_ble_eq_true rfl,_,rfl,rfl,rfl,rfl,fun _ e=>by cases e; exact ⟨by decide,rfl⟩,fun _ _=>⟨rfl,rfl,fun _ _=>rfl,Az rfl⟩⟩,List.forall_mem_cons.2 ⟨⟨Nat.le_of_ble_eq_true rfl,_,rfl,trivial⟩,List.forall_mem_cons.2 ⟨⟨Nat.le_of_ble_eq_true rfl,_,rfl,rfl,fun _ _=>rfl,Az rfl⟩,List.forall_mem_cons.2 ⟨⟨Nat.le_of_ble_eq_true rfl,_,rfl,rfl,fun _ _=>rfl,Az rfl⟩,List.forall_mem_cons.2 ⟨⟨Nat.le_of_ble_eq_true rfl,_,rfl,rfl,rfl,rfl,fun _ e=>by cases e; exact ⟨by decide,rfl⟩,fun _ _=>⟨rfl,rfl,fun _ _=>rfl,Az rfl⟩⟩,List.forall_mem_cons.2 ⟨⟨Nat.le_of_ble_eq_true rfl,_,rfl,rfl,rfl,rfl,fun _ e=>by cases e; exact ⟨by decide,rfl⟩,fun _ _=>⟨rfl,rfl,fun _ _=>rfl,Az rfl⟩⟩,List.forall_mem_cons.2 ⟨⟨Nat.le_of_ble_eq_true rfl,_,rfl,trivial⟩,List.forall_mem_cons.2 ⟨⟨Nat.le_of_ble_eq_true rfl,_,rfl,trivial⟩,fun _ h=>by cases h⟩⟩⟩⟩⟩⟩⟩⟩⟩⟩⟩⟩
theorem pk_post1 {hd:Dat} {s:Al} {p:BA} {m:Nat} {blk:Nat} {fp:List Nat} {w:World} (hp:Pack m 0 (Ad (instH beH1 (mn1 hd s p))) blk fp w):Pack 12 0 (Ad (instH mp1 (mn1 hd s p))) blk fp w:=by
  refine Pack.ren (φ:=lkN [0,1,12,3,13,14,6,7,15,16,17,18]) hp rfl ?_ (fun k k' h1 h2 e=>distB_lk (L:=[0,1,12,3,13,14,6,7,15,16,17,18]) rfl h1 h2 e) (noRo_of rfl)
  refine List.forall_mem_cons.2 ⟨⟨Nat.le_of_ble_eq_true rfl,_,rfl,rfl,fun _ _=>rfl,Az rfl⟩,List.forall_mem_cons.2 ⟨⟨Nat.le_of_ble_eq_true rfl,_,rfl,rfl,rfl,rfl,rfl,by decide,rfl⟩,List.forall_mem_cons.2 ⟨⟨Nat.le_of_ble_eq_true rfl,_,rfl,trivial⟩,List.forall_mem_cons.2 ⟨⟨Nat.le_of_ble_eq_true rfl,_,rfl,rfl,fun _ _=>rfl,Az rfl⟩,List.forall_mem_cons.2 ⟨⟨Nat.le_of_ble_eq_true rfl,_,rfl,rfl,rfl,rfl,fun _ e=>by cases e; exact ⟨by decide,rfl⟩,fun _ _=>⟨rfl,rfl,fun _ _=>rfl,Az rfl⟩⟩,List.forall_mem_cons.2 ⟨⟨Nat.le_of_ble_eq_true rfl,_,rfl,trivial⟩,List.forall_mem_cons.2 ⟨⟨Nat.le_of_ble_eq_true rfl,_,rfl,rfl,fun _ _=>rfl,Az rfl⟩,List.forall_mem_cons.2 ⟨⟨Nat.le_of_ble_eq_true rfl,_,rfl,rfl,fun _ _=>rfl,Az rfl⟩,List.forall_mem_cons.2 ⟨⟨Nat.le_of_ble_eq_true rfl,_,rfl,rfl,rfl,rfl,fun _ e=>by cases e; exact ⟨by decide,rfl⟩,fun _ _=>⟨rfl,rfl,fun _ _=>rfl,Az rfl⟩⟩,List.forall_mem_cons.2 ⟨⟨Nat.le_of_ble_eq_true rfl,_,rfl,rfl,rfl,rfl,fun _ e=>by cases e; exact ⟨by decide,rfl⟩,fun _ _=>⟨rfl,rfl,fun _ _=>rfl,Az rfl⟩⟩,List.forall_mem_cons.2 ⟨⟨Nat.le_of_ble_eq_true rfl,_,rfl,trivial⟩,List.forall_mem_cons.2 ⟨⟨Nat.le_of_ble_eq_true rfl,_,rfl,trivial⟩,fun _ h=>by cases h⟩⟩⟩⟩⟩⟩⟩⟩⟩⟩⟩⟩
end Go.Proofs.YtddmgdclmkgpeaaGreat
set_option linter.unusedSimpArgs false
set_option linter.unusedVariables false
namespace Go.Proofs.YtddmgdclmkgpeaaGreat
open Go.Eng Go.RowKit Go.ChangeShapes Go.WideShapes
set_option maxRecDepth 100000
def moP:List (Nat×TO):=[(0,.ob 2 MonR 1),(1,.tok)]
def woT:TS:=⟨[],[.one (.ptr 0 0),.agg BB],moP,2⟩
def woR:TS:=⟨[],[.one .nils,.one (.i .i64)],[(0,.ob 2 MonR 40),(40,.tok)],41⟩
def woN:TS:=⟨[],[.one (.sl 15),.one (.i .i64)],[(0,.ob 2 MonR 40),(40,.tok),(15,.lst (some 2) msgR (some 16)),(16,.tok)],41⟩
theorem std_mgood {f : FuncId} {m m' : Nat} {h h' : List (Nat × Ai)} {args : List AV} {v : AV} {d : Dat} {k g t : Nat} (h1 : AO (Ad h) k = some (.own t MonR d g)) (h2 : AO (Ad h) g = some .tok)
    (H:MGood d→StdN Tryz.prog f m h args m' h' v):StdN Tryz.prog f m h args m' h' v:=fun E w hU=>by
  have:=hU.here.obj k _ h1
  exact H (this h2 w (Nat.le_refl _) (fun _ _=>rfl)).1 E w hU
theorem mon_own0 {f : FuncId} {d d' : Dat} {args : List AV} {v : AV} {m1 : Nat} {rest : List (Nat × Ai)} (hp' : Dat → List (Nat × Ai)) (hd : d.prop = none) (ha : ∀ E E' : Env, E'.blk 0 = E.blk 0 → BM E' args = BM E args)
    (hv:∀ E E':Env,E'.blk 0=E.blk 0→(∀ k,7≤k→k<41→E'.blk k=E.blk k∧E'.hdr k=E.hdr k)→den E' v=den E v) (hm:m1≤40) (hfar:∀ p∈rest,farO 7 p) (hdist:∀ h,distB ((hp' h++rest).map (·.1))=true) (hr:0 ∉ rest.map (·.1)) (hvk:(keysOf v).all (Nat.blt · 40)=true)
    (hgr:∀ p∈rest,∀ g,p.2.grp=some g→g∈rest.map (·.1)) (hno:∀ h,∀ p∈hp' h,∀ len sz rows,p.2 ≠ .lst len sz rows none) (hR:∀ h blk fp w,Pack 40 0 (Ad (hp' h)) blk fp w→MonR d' blk fp w)
    (H:∀ h,StdN Tryz.prog f 7 (instH mp0 (mn0 h d)) args m1 (hp' h++rest) v):StdN Tryz.prog f 2 [(0,.own 2 MonR d 1),(1,.tok)] args 41 ((0,.own 2 MonR d' 40)::(40,.tok)::rest) v:=by
  refine StdN.reveal (n:=0) (q:=7) (Ls:=[]) (L:=[]) (J:=Dat) (argsi:=args) (fun h=>instH mp0 (mn0 h d)) (by decide) (fun blk fp w h=>?_) (fun i o h=>by cases h) (fun E E' h _=>ha E E' h) ?_ (by decide) (fun E E' h h2=>hv E E' h h2) fun j=>?_
  · rcases h.2 with ⟨_,h,hp⟩ | ⟨p,hp,_⟩
    · exact ⟨h,hp⟩
    · rw [hd] at hp
      cases hp
  · refine List.forall_mem_cons.2 ⟨⟨.inl rfl,by decide⟩,List.forall_mem_cons.2 ⟨(by decide:7+0≤40),hfar⟩⟩
  · rw [List.append_nil]
    exact StdN.conceal (StdN.wide hm (H j)) (by decide) (hdist j) (by decide) hr hvk hgr (hno j) (hR j)
theorem mon_own1 {f : FuncId} {d d' : Dat} {p : BA} {args : List AV} {v : AV} {m1 : Nat} {rest : List (Nat × Ai)} (hp' : Dat → List (Nat × Ai)) (hd : d.prop = some p) (ha : ∀ E E' : Env, E'.blk 0 = E.blk 0 → BM E' args = BM E args)
    (hv:∀ E E':Env,E'.blk 0=E.blk 0→(∀ k,12≤k→k<41→E'.blk k=E.blk k∧E'.hdr k=E.hdr k)→den E' v=den E v) (hm:m1≤40) (hfar:∀ p∈rest,farO 12 p) (hdist:∀ h,distB ((hp' h++rest).map (·.1))=true) (hr:0 ∉ rest.map (·.1)) (hvk:(keysOf v).all (Nat.blt · 40)=true)
    (hgr:∀ p∈rest,∀ g,p.2.grp=some g→g∈rest.map (·.1)) (hno:∀ h,∀ p∈hp' h,∀ len sz rows,p.2 ≠ .lst len sz rows none) (hm12:12≤m1) (hR:∀ h blk fp w,Pack 40 0 (Ad (hp' h)) blk fp w→MonR d' blk fp w)
    (H:∀ h,StdN Tryz.prog f 12 (instH mp1 (mn1 h d p)) args m1 (hp' h++rest) v):StdN Tryz.prog f 2 [(0,.own 2 MonR d 1),(1,.tok)] args 41 ((0,.own 2 MonR d' 40)::(40,.tok)::rest) v:=by
  refine StdN.reveal (n:=0) (q:=12) (Ls:=[]) (L:=[]) (J:=Dat) (argsi:=args) (fun h=>instH mp1 (mn1 h d p)) (by decide) (fun blk fp w h=>?_) (fun i o h=>by cases h) (fun E E' h _=>ha E E' h) ?_ (by decide) (fun E E' h h2=>hv E E' h h2) fun j=>?_
  · rcases h.2 with ⟨hn,_⟩ | ⟨q,hq,h,hp⟩
    · rw [hd] at hn
      cases hn
    · rw [hd] at hq
      cases hq
      exact ⟨h,hp⟩
  · refine List.forall_mem_cons.2 ⟨⟨.inl rfl,by decide⟩,List.forall_mem_cons.2 ⟨(by decide:12+0≤40),hfar⟩⟩
  · rw [List.append_nil]
    exact StdN.conceal (StdN.wide hm (H j)) (by decide) (hdist j) (by decide) hr hvk hgr (hno j) (hR j)
theorem nextN_ge {n:Int} (h:0≤n):0≤nextN n:=by
  unfold nextN
  split <;> omega
theorem maxI_ge {a b:Int} (h:0≤a) (h':0≤b):0≤maxI a b:=by
  unfold maxI
  split <;> omega
theorem promise_b (p:BA) (f:Int) (b a:Bal) (x:Inc) (h:Bool):(p.promise f b a x h).1.b=p.b:=by
  unfold BA.promise
  split
  · rfl
  · dsimp only
    split <;> split <;> rfl
theorem nextN_lt {n:Int} (h:n<4294967296):nextN n<4294967296:=by
  unfold nextN
  split
  · rename_i h1
    have:=of_decide_eq_true h1
    omega
  · exact h
theorem maxI_lt {a b c:Int} (h:a<c) (h':b<c):maxI a b<c:=by
  unfold maxI
  split <;> omega
theorem less_def (a b:Bal):a.less b=false↔¬ (a.n<b.n∨(a.n=b.n∧a.who<b.who)):=by
  unfold Bal.less
  simp
theorem less_through {a b c:Bal} (h:a.less b=false) (h':b.less c=false):a.less c=false:=by
  rw [less_def] at *
  omega
theorem acc_up {P Q A:Bal} {I:Inc} (h:AccOk P A I) (hq:Q.less P=false):AccOk Q A I:=by
  rcases h with h | ⟨h1,h2,h3,h4,h5⟩
  · exact .inl h
  · exact .inr ⟨h1,h2,h3,h4,less_through hq h5⟩
theorem pgood_new {x:Inc} (h:0≤x.osd):PGood (BA.new x):=⟨⟨⟨Nat.zero_le _,fun _=>Nat.zero_le _⟩,Nat.zero_le _,fun _=>Nat.zero_le _⟩,h,Int.le_refl 0,Int.le_refl 0,Int.le_refl 0⟩
theorem pgood_start {p:BA} (h:PGood p) (w:Int) (o:Bal):PGood (p.start w o):=⟨⟨⟨Nat.zero_le _,fun _=>Nat.zero_le _⟩,Nat.zero_le _,fun _=>Nat.zero_le _⟩,h.2.1,Int.le_refl 0,Int.le_refl 0,h.2.2.2.2⟩
theorem pgood_promise {p:BA} (h:PGood p) (f:Int) (b a:Bal) {x:Inc} (hs:Bool) (hx:0≤x.osd):PGood (p.promise f b a x hs).1:=by
  obtain ⟨⟨⟨h1,h2⟩,h3,h4⟩,h5,h6,h7,h8⟩:=h
  unfold BA.promise
  cases hc:(!p.valued&&hearB p.hp b p.b f) with
  | false=>exact ⟨⟨⟨h1,h2⟩,h3,h4⟩,h5,h6,h7,h8⟩
  | true =>
    have hv:p.valued=false:=by
      simp only [Bool.and_eq_true,Bool.not_eq_true'] at hc
      exact hc.1
    have hl:=h2 hv
    have e1:(p.hp++[f]).length=p.hp.length+1:=by rw [List.length_append,List.length_singleton]
    cases hs&&(!p.has||p.acc.less a)
    all_goals dsimp only
    all_goals split
    all_goals rename_i he
    all_goals first
      | (have he:=beq_iff_eq.1 he; exact ⟨⟨⟨by show (p.hp++[f]).length≤2; omega,fun e=>by cases e⟩,h3,h4⟩,h5,by first | assumption | (dsimp only; first | assumption | (split <;> assumption)),by assumption,h8⟩)
      | (have he:=beq_eq_false_iff_ne.1 he; have he:(p.hp++[f]).length≠2:=he; exact ⟨⟨⟨by show (p.hp++[f]).length≤2; omega,fun _=>by show (p.hp++[f]).length≤1; omega⟩,h3,h4⟩,h5,h6,by assumption,h8⟩)
theorem acc_osd {P A:Bal} {I:Inc} (h:AccOk P A I):0≤I.osd:=by
  rcases h with ⟨_,_,_,h,_⟩ | ⟨_,_,_,h,_⟩
  · rw [h]
    exact Int.le_refl 0
  · exact h
theorem mgood_starts {s:Al} (h:MGood s) (p:BA) (hp:0≤p.b.n∧p.b.n<4294967296) (hpg:PGood p):MGood (s.starts p).1:=by
  obtain ⟨h1,h2,h3,h4,h5,_,k1,k2,k3,_⟩:=h
  have ho:0≤(overB s).n∧(overB s).n<4294967296:=by
    unfold overB
    split
    · exact ⟨h4,k3⟩
    · exact k1.1
  have hq:0≤(p.start s.id (overB s)).b.n:=nextN_ge (maxI_ge hp.1 ho.1)
  have hq2:(p.start s.id (overB s)).b.n<4294967296:=nextN_lt (maxI_lt hp.2 ho.2)
  rw [starts_eq]
  split
  · rename_i hpr
    have hlt:(p.start s.id (overB s)).b.less s.prom=false:=by
      unfold prepB at hpr
      simp only [Bool.and_eq_true,Bool.not_eq_true'] at hpr
      exact hpr.2
    exact ⟨h1,h2,h3,h4,hq,fun q e=>by cases e; rw [promise_b]; exact hq,⟨⟨⟨hq,hq2⟩,h1.1,h1.2⟩,acc_up k2 hlt,k3,⟨fun q e=>by cases e; rw [promise_b]; exact ⟨hq2,pgood_promise (pgood_start hpg _ _) _ _ _ _ (acc_osd k2)⟩,Int.le_refl 0,(by decide:(0:Int)<100)⟩⟩⟩
  · exact ⟨h1,h2,h3,h4,h5,fun q e=>by cases e; exact hq,k1,k2,k3,⟨fun q e=>by cases e; exact ⟨hq2,pgood_start hpg _ _⟩,Int.le_refl 0,(by decide:(0:Int)<100)⟩⟩
theorem mem_dropW {s:Al} {l:List Inc} {x:Inc} (h:x∈dropW s l):x∈l:=List.dropWhile_sublist _ |>.subset h
theorem mgood_begins {s:Al} (h:MGood s):MGood s.begins.1:=by
  obtain ⟨h1,h2,h3,h4,h5,h6,k1,k2,k3,k4⟩:=h
  cases hp:s.prop with
  | some p =>
    rw [begins_some hp]
    exact ⟨h1,fun x hx=>h2 x (mem_dropW hx),h3,h4,h5,fun q e=>h6 q e,k1,k2,k3,⟨fun q e=>k4.1 q e,k4.2⟩⟩
  | none =>
    cases hd:dropW s s.wishes with
    | nil =>
      rw [begins_nil hd]
      exact ⟨h1,fun x hx=>(by cases hx),h3,h4,h5,fun q e=>h6 q e,k1,k2,k3,⟨fun q e=>k4.1 q e,k4.2⟩⟩
    | cons x l =>
      rw [begins_cons hp hd]
      exact mgood_starts (s:={ s with wishes:=x::l }) ⟨h1,fun y hy=>h2 y (by have hy:y∈x::l:=hy; rw [← hd] at hy; exact mem_dropW hy),h3,h4,h5,fun q e=>h6 q e,k1,k2,k3,⟨fun q e=>k4.1 q e,k4.2⟩⟩ _ ⟨Int.le_refl 0,(by decide:(0:Int)<4294967296)⟩ (pgood_new (h2 x (mem_dropW (by rw [hd]; exact List.mem_cons_self ..))))
theorem mgood_wish {s:Al} (h:MGood s) {x:Inc} (hx:0≤x.osd):MGood { s with wishes:=s.wishes++[x] }:=by
  obtain ⟨h1,h2,h3,h4,h5,h6,k1,k2,k3,k4⟩:=h
  refine ⟨h1,fun y hy=>?_,h3,h4,h5,h6,k1,k2,k3,k4⟩
  rcases List.mem_append.1 hy with hy | hy
  · exact h2 y hy
  · have:y=x:=by simpa using hy
    rw [this]
    exact hx
theorem begins_prop {s:Al} (hp:s.prop=none) (h:bgE s=true):s.begins.1.prop=none:=by
  unfold bgE at h
  rw [begins_nil (by simpa using h)]
  exact hp
theorem starts_some (s:Al) (p:BA):(s.starts p).1.prop=some (propD (s.starts p).1):=by
  rw [starts_eq]
  split <;> rfl
theorem begins_propS {s:Al} (hp:s.prop=none) (h:bgE s=false):s.begins.1.prop=some (propD s.begins.1):=by
  unfold bgE at h
  cases hd:dropW s s.wishes with
  | nil=>rw [hd] at h; cases h
  | cons x l =>
    rw [begins_cons hp hd]
    exact starts_some _ _
theorem begins_propP {s:Al} {p:BA} (hp:s.prop=some p):s.begins.1.prop=some p∧propD s.begins.1=p:=by
  rw [begins_some hp]
  exact ⟨hp,by unfold propD; rw [hp]; rfl⟩
def noRoL:List (Nat×Ai)→Bool
  | []=>true
  | (_,.lst _ _ _ none)::_=>false
  | _::l=>noRoL l
theorem noRo_list:∀ {l:List (Nat×Ai)},noRoL l=true→∀ p∈l,∀ len sz rows,p.2 ≠ .lst len sz rows none
  | [],_,_,h=>by cases h
  | (k,o)::l,hb,p,hp=>fun len sz rows e=>by
    have h2:noRoL l=true∧∀ len sz rows,o ≠ .lst len sz rows none:=by
      cases o with
      | lst a b c g =>
        cases g with
        | none=>cases hb
        | some g=>exact ⟨hb,fun _ _ _ e=>by cases e⟩
      | _=>exact ⟨hb,fun _ _ _ e=>by cases e⟩
    rcases List.mem_cons.1 hp with rfl | hp
    · exact h2.2 _ _ _ e
    · exact noRo_list h2.1 p hp len sz rows e
end Go.Proofs.YtddmgdclmkgpeaaGreat
set_option linter.unusedSimpArgs false
set_option linter.unusedVariables false
namespace Go.Proofs.YtddmgdclmkgpeaaGreat
open Go.Eng Go.RowKit Go.ChangeShapes Go.WideShapes
set_option maxRecDepth 100000
noncomputable def rlSm:List (FuncId×Summ):=[(38,AW nilT cNe)]
noncomputable def rlTb:Tab:=smTab (tabOf rlSm)
def mwT:TS:=⟨[],[.one (.i .u8)],[],0⟩
def mwR:TS:=⟨[],[.one (.ptr 0 0)],mp0,7⟩
def ioT:TS:=⟨[],[.one (.ptr 0 0)],moP,2⟩
def noR:TS:=⟨[],[.one (.ptr 0 0)],[(0,.ob 2 MonR 40),(40,.tok)],41⟩
theorem rlSm_ok:AllOk Tryz.prog rlSm:=⟨cNe_ok,trivial⟩
theorem rlTab:TabAll Tryz.prog rlTb:=tab_ok rlSm_ok
theorem mw_t (n:Int):BR Tryz.prog (Am Tryz.prog rlTb 300) 13 (mwT.vals ⟨[[.i n]],[]⟩) (mwT.heap ⟨[[.i n]],[]⟩) 0 (outV 0 mwR) =
  .defI (bif decide (2<n) then 2 else n) fun z0=>.defE ⟨[],[]⟩ fun e1=>.must (BE Af Af) (.leaf ⟨[[.u]],[.box [.i z0,.u,.u,.u,.u,.i 0,.i 0,.i 0,.u],.own hNew,.tok,.box [.i 0,.i 0,.i 0,.i 0,.i
  0,.i 0,.i 0],.lst 0 fun (x:Nat)=>[],.tok,.box [.b false,.b false,.b false,.b false,.b false,.b false,.b false,.b false,.b false,.b false,.b false,.b false,.b false,.b false,.b false,.b false,.b
  false,.b false,.b false,.b false,.b false,.b false,.b false,.b false,.b false]]⟩):=by kernel_rfl
theorem pk_same0 {hd:Dat} {s:Al} {m:Nat} {blk:Nat} {fp:List Nat} {w:World} (hp:Pack m 0 (Ad (instH mp0 (mn0 hd s))) blk fp w):Pack 7 0 (Ad (instH mp0 (mn0 hd s))) blk fp w:=by
  refine Pack.ren (φ:=lkN [0,1,2,3,4,5,6]) hp rfl ?_ (fun k k' h1 h2 e=>distB_lk (L:=[0,1,2,3,4,5,6]) rfl h1 h2 e) (noRo_of rfl)
  refine List.forall_mem_cons.2 ⟨⟨Nat.le_of_ble_eq_true rfl,_,rfl,rfl,fun _ _=>rfl,Az rfl⟩,List.forall_mem_cons.2 ⟨⟨Nat.le_of_ble_eq_true rfl,_,rfl,rfl,rfl,rfl,rfl,by decide,rfl⟩,List.forall_mem_cons.2 ⟨⟨Nat.le_of_ble_eq_true rfl,_,rfl,trivial⟩,List.forall_mem_cons.2 ⟨⟨Nat.le_of_ble_eq_true rfl,_,rfl,rfl,fun _ _=>rfl,Az rfl⟩,List.forall_mem_cons.2 ⟨⟨Nat.le_of_ble_eq_true rfl,_,rfl,rfl,rfl,rfl,fun _ e=>by cases e; exact ⟨by decide,rfl⟩,fun _ _=>⟨rfl,rfl,fun _ _=>rfl,Az rfl⟩⟩,List.forall_mem_cons.2 ⟨⟨Nat.le_of_ble_eq_true rfl,_,rfl,trivial⟩,List.forall_mem_cons.2 ⟨⟨Nat.le_of_ble_eq_true rfl,_,rfl,rfl,fun _ _=>rfl,Az rfl⟩,fun _ h=>by cases h⟩⟩⟩⟩⟩⟩⟩
theorem mgood_new {n:Int} (h:0≤n):MGood (Al.new n):=by
  refine ⟨?_,fun x hx=>(by cases hx),fun _ _=>rfl,Int.le_refl 0,Int.le_refl 0,fun p e=>(by cases e),⟨⟨Int.le_refl 0,(by decide:(0:Int)<4294967296)⟩,Int.le_refl 0,(by decide:(0:Int)<3)⟩,.inl ⟨rfl,rfl,rfl,rfl,rfl⟩,(by decide:(0:Int)<4294967296),⟨fun p e=>(by cases e),Int.le_refl 0,(by decide:(0:Int)<100)⟩⟩
  show 0≤(match decide (2<n) with | true=>2 | false=>n)∧(match decide (2<n) with | true=>2 | false=>n)<3
  cases hd:decide (2<n) with
  | true=>exact ⟨(by decide:(0:Int)≤2),(by decide:(2:Int)<3)⟩
  | false =>
    have hd:=of_decide_eq_false hd
    exact ⟨h,(by omega:n<3)⟩
theorem mw_std (n:Int):BI Tryz.prog 13 mwT ⟨[[.i n]],[]⟩ mwR ⟨[[.u]],mn0 default (Al.new n)⟩:=by
  refine Aj rlTab Ay rfl (AL (mw_t n) (Ac fun z0 hz=>AK (AA (AS _) (AE ?_))))
  have hz:z0=(Al.new n).id:=by
    rw [hz]
    show _=(match decide (2<n) with | true=>2 | false=>n)
    cases decide (2<n) <;> rfl
  refine ⟨⟨trivial,trivial⟩,?_,rfl,trivial,?_,⟨rfl,fun i hi=>?_⟩,trivial,?_,trivial⟩
  · exact ⟨hz,trivial,trivial,trivial,trivial,rfl,rfl,rfl,trivial,trivial⟩
  · exact clP
  · have hi:(i:Int)<0:=hi
    omega
  · exact clP
end Go.Proofs.YtddmgdclmkgpeaaGreat
set_option linter.unusedSimpArgs false
set_option linter.unusedVariables false
namespace Go.Proofs.YtddmgdclmkgpeaaGreat
open Go.Eng Go.RowKit Go.ChangeShapes Go.WideShapes
set_option maxRecDepth 100000
def bp4T:TS:=⟨[],[.one (.sl 0),.one (.i .u64),.one (.il .i64 4)],[(0,.lst none [.i .u8] (some 1)),(1,.tok)],2⟩
def bp8T:TS:=⟨[],[.one (.sl 0),.one (.i .u64),.one (.il .i64 8)],[(0,.lst none [.i .u8] (some 1)),(1,.tok)],2⟩
def bpR:TS:=⟨[],[.one (.sl 2)],[(2,.lst none [.i .u8] (some 3)),(3,.tok)],4⟩
def biT:TS:=⟨[],[.one (.sl 0),.agg BB],[(0,.lst none [.i .u8] (some 1)),(1,.tok)],2⟩
def byN (l:List Int):List ON:=[.lst l.length (AR l),.tok]
def suT:TS:=⟨[],[.one (.sl 0)],[(0,.lst none [.i .u8] none)],1⟩
def suL:TS:=⟨[3,6,7,8],[.one (.i .u64),.one (.sl 0),.one (.i .i64),.one (.i .i64)],[(0,.lst none [.i .u8] none)],1⟩
def suE:TS:=⟨[3],[.one (.i .u64)],[],1⟩
def suR:TS:=⟨[2],[.one (.i .u64)],[],1⟩
theorem bp4_t (l:List Int) (n:Int):BR Tryz.prog (Am Tryz.prog noTab 300) 55 (bp4T.vals ⟨[[],[.i n],[]],byN l⟩) (bp4T.heap ⟨[[],[.i n],[]],byN l⟩) 2 (outV 2 bpR) =
  .defI (n.fdiv 16777216) fun z0=>.defI (IntKind.u8.wrap z0) fun z1=>.must (decide (((l.length:Int)+1) * 1≤1099511627776∧(l.length:Int)+1≤1099511627776)) (.defI (n.fdiv 65536) fun z2=>.defI
  (IntKind.u8.wrap z2) fun z3=>.must (decide (((l.length:Int)+1+1) * 1≤1099511627776∧(l.length:Int)+1+1≤1099511627776)) (.defI (n.fdiv 256) fun z4=>.defI (IntKind.u8.wrap z4) fun z5=>.must (decide
  (((l.length:Int)+1+1+1) * 1≤1099511627776∧(l.length:Int)+1+1+1≤1099511627776)) (.defI (n.fdiv 1) fun z6=>.defI (IntKind.u8.wrap z6) fun z7=>.must (decide (((l.length:Int)+1+1+1+1) * 1
  ≤ 1099511627776∧(l.length:Int)+1+1+1+1≤1099511627776)) (.must (AX [.i .u8] (AP (.sym ((l.length:Int)+1+1+1)) (AP (.sym ((l.length:Int)+1+1)) (AP (.sym ((l.length:Int)+1))
  (AP (.sym (l.length:Int)) (AI [.i .u8] (AR l)) (Aa 1 [.int .u8 (.sym z1)])) (Aa 1 [.int .u8 (.sym z3)])) (Aa 1 [.int .u8 (.sym z5)])) (Aa 1 [.int .u8 (.sym z7)])) ((l.length:Int)+1+1+1 +
  1).toNat) (.leaf ⟨[[.u]],[.lst ((l.length:Int)+1+1+1+1).toNat (AH [.i .u8] (AP (.sym ((l.length:Int)+1+1+1)) (AP (.sym ((l.length:Int)+1+1)) (AP (.sym ((l.length:Int)+1))
  (AP (.sym (l.length:Int)) (AI [.i .u8] (AR l)) (Aa 1 [.int .u8 (.sym z1)])) (Aa 1 [.int .u8 (.sym z3)])) (Aa 1 [.int .u8 (.sym z5)])) (Aa 1 [.int .u8 (.sym z7)]))),.tok]⟩))))):=by kernel_rfl
theorem bp8_t (l:List Int) (n:Int):BR Tryz.prog (Am Tryz.prog noTab 300) 55 (bp8T.vals ⟨[[],[.i n],[]],byN l⟩) (bp8T.heap ⟨[[],[.i n],[]],byN l⟩) 2 (outV 2 bpR) =
  .defI (n.fdiv 72057594037927936) fun z0=>.defI (IntKind.u8.wrap z0) fun z1=>.must (decide (((l.length:Int)+1) * 1≤1099511627776∧(l.length:Int)+1≤1099511627776)) (.defI (n.fdiv 281474976710656) fun z2 =>
  .defI (IntKind.u8.wrap z2) fun z3=>.must (decide (((l.length:Int)+1+1) * 1≤1099511627776∧(l.length:Int)+1+1≤1099511627776)) (.defI (n.fdiv 1099511627776) fun z4=>.defI (IntKind.u8.wrap z4) fun z5 =>
  .must (decide (((l.length:Int)+1+1+1) * 1≤1099511627776∧(l.length:Int)+1+1+1≤1099511627776)) (.defI (n.fdiv 4294967296) fun z6=>.defI (IntKind.u8.wrap z6) fun z7=>.must (decide (((l.length :
  Int)+1+1+1+1) * 1≤1099511627776∧(l.length:Int)+1+1+1+1≤1099511627776)) (.defI (n.fdiv 16777216) fun z8=>.defI (IntKind.u8.wrap z8) fun z9=>.must (decide (((l.length:Int)+1+1+1+1+1)
  * 1≤1099511627776∧(l.length:Int)+1+1+1+1+1≤1099511627776)) (.defI (n.fdiv 65536) fun z10=>.defI (IntKind.u8.wrap z10) fun z11=>.must (decide (((l.length:Int)+1+1+1+1+1+1) * 1 ≤
  1099511627776∧(l.length:Int)+1+1+1+1+1+1≤1099511627776)) (.defI (n.fdiv 256) fun z12=>.defI (IntKind.u8.wrap z12) fun z13=>.must (decide (((l.length:Int)+1+1+1+1+1+1+1) * 1 ≤
  1099511627776∧(l.length:Int)+1+1+1+1+1+1+1≤1099511627776)) (.defI (n.fdiv 1) fun z14=>.defI (IntKind.u8.wrap z14) fun z15=>.must (decide (((l.length:Int)+1+1+1+1+1+1+1+1) * 1 ≤
  1099511627776∧(l.length:Int)+1+1+1+1+1+1+1+1≤1099511627776)) (.must (AX [.i .u8] (AP (.sym ((l.length:Int)+1+1+1+1+1+1+1)) (AP (.sym ((l.length:Int)+1+1+1+1 +
  1+1)) (AP (.sym ((l.length:Int)+1+1+1+1+1)) (AP (.sym ((l.length:Int)+1+1+1+1)) (AP (.sym ((l.length:Int)+1+1+1)) (AP (.sym ((l.length:Int)+1+1)) (AP (.sym
  ((l.length:Int)+1)) (AP (.sym (l.length:Int)) (AI [.i .u8] (AR l)) (Aa 1 [.int .u8 (.sym z1)])) (Aa 1 [.int .u8 (.sym z3)])) (Aa 1 [.int .u8 (.sym z5)])) (Aa 1 [.int .u8 (.sym z7)])) (Aa 1
  [.int .u8 (.sym z9)])) (Aa 1 [.int .u8 (.sym z11)])) (Aa 1 [.int .u8 (.sym z13)])) (Aa 1 [.int .u8 (.sym z15)])) ((l.length:Int)+1+1+1+1+1+1+1+1).toNat) (.leaf ⟨[[.u]],[.lst ((l.length:Int)
  + 1+1+1+1+1+1+1+1).toNat (AH [.i .u8] (AP (.sym ((l.length:Int)+1+1+1+1+1+1+1)) (AP (.sym ((l.length:Int)+1+1+1+1+1+1)) (AP (.sym ((l.length:Int)+1+1
  + 1+1+1)) (AP (.sym ((l.length:Int)+1+1+1+1)) (AP (.sym ((l.length:Int)+1+1+1)) (AP (.sym ((l.length:Int)+1+1)) (AP (.sym ((l.length:Int)+1)) (AP (.sym (l.length :
  Int)) (AI [.i .u8] (AR l)) (Aa 1 [.int .u8 (.sym z1)])) (Aa 1 [.int .u8 (.sym z3)])) (Aa 1 [.int .u8 (.sym z5)])) (Aa 1 [.int .u8 (.sym z7)])) (Aa 1 [.int .u8 (.sym z9)])) (Aa 1 [.int .u8 (.sym
  z11)])) (Aa 1 [.int .u8 (.sym z13)])) (Aa 1 [.int .u8 (.sym z15)]))),.tok]⟩))))))))):=by kernel_rfl
theorem bi_t (l:List Int) (x:Inc):BR Tryz.prog (Am Tryz.prog noTab 300) 51 (biT.vals ⟨[[],incNm x],byN l⟩) (biT.heap ⟨[[],incNm x],byN l⟩) 2 (outV 2 bpR) =
  .defI (IntKind.u8.wrap x.3) fun z0=>.must (decide (((l.length:Int)+3) * 1≤1099511627776∧(l.length:Int)+3≤1099511627776)) (.must (AX [.i .u8] (AP (.sym (l.length:Int)) (AI [.i .u8] (AR l))
  (Aa 1 [.int .u8 (.sym x.1),.int .u8 (.sym x.2),.int .u8 (.sym z0)])) ((l.length:Int)+3).toNat) (.leaf ⟨[[.u]],[.lst ((l.length:Int)+3).toNat (AH [.i .u8] (AP (.sym (l.length:Int)) (AI [.i
  .u8] (AR l)) (Aa 1 [.int .u8 (.sym x.1),.int .u8 (.sym x.2),.int .u8 (.sym z0)]))),.tok]⟩)):=by kernel_rfl
noncomputable def bodySu:Code:=Tryz.f56.body.getD .skip
noncomputable def xSu:Code:=lp ((flat bodySu).getD 3 .skip)
theorem bodySu_eq:Tryz.f56.body=some bodySu:=by kernel_rfl
theorem inSu:BT Tryz.prog 56 Tryz.f56.ntmps bodySu:=within_body Tryz.func56 bodySu_eq
theorem lpSu:(flat bodySu).drop 3=[.block 0 (.loop xSu)]++(flat bodySu).drop 4:=by kernel_rfl
theorem inSux:BT Tryz.prog 56 Tryz.f56.ntmps xSu:=by
  have h:(flat bodySu)[3]? = some (.block 0 (.loop xSu)):=by kernel_rfl
  exact within_loop (within_block (within_at inSu 3 h))
theorem Su_pre (l:List Int) (τ0:Tm):Am Tryz.prog noTab 300 56 Tryz.f56.ntmps (Eng.ofL ((flat bodySu).take 3)) (argTm 0 (suT.vals ⟨[[]],[.lst l.length (AR l)]⟩)++τ0) (suT.heap ⟨[[]],[.lst l.length (AR l)]⟩) 1 (outX 1 ⟨some suL,[],some suR⟩) =
  .must (AX [.i .u8] (AI [.i .u8] (AR l)) l.length) (.leaf (.normal,⟨[[.i 14695981039346656037],[.u],[.i (l.length:Int)],[.i 0]],[.lst l.length (AR l)]⟩)):=by kernel_rfl
theorem Su_x (l:List Int) (h n i:Int) (τ0:Tm):Am Tryz.prog noTab 300 56 Tryz.f56.ntmps xSu (suL.tm ⟨[[.i h],[],[.i n],[.i i]],[.lst l.length (AR l)]⟩++τ0) (suL.heap ⟨[[.i h],[],[.i n],[.i i]],[.lst l.length (AR l)]⟩) 1 (outX 1 ⟨some suL,[(0,suE)],some suR⟩) =
  .ite (decide (i<n)) (.must (decide (0≤i∧i<(l.length:Int))) (.must (decide (0≤i∧i<(l.length:Int))) (.defI (l.getD i.toNat 0) fun z0=>.defI (IntKind.u64.wrap z0) fun z1=>.defI (IntKind.u64.wrap
  ((BitVec.ofInt 64 h ^^^ BitVec.ofInt 64 z1).toNat:Int)) fun z2=>.defI (IntKind.u64.wrap (z2 * 1099511628211)) fun z3=>.defI (IntKind.i64.wrap (i+1)) fun z4=>.must (AX [.i .u8] (AI [.i .u8] (AR l))
  l.length) (.leaf (.normal,⟨[[.i z3],[.u],[.i n],[.i z4]],[.lst l.length (AR l)]⟩))))) (.leaf (.exit 0,⟨[[.i h]],[]⟩)):=by kernel_rfl
theorem Su_tail (h:Int) (τ0:Tm):Am Tryz.prog noTab 300 56 Tryz.f56.ntmps (Eng.ofL ((flat bodySu).drop 4)) (suE.tm ⟨[[.i h]],[]⟩++τ0) (suE.heap ⟨[[.i h]],[]⟩) 1 (outX 1 ⟨none,[],some suR⟩) =
  .leaf (.ret,⟨[[.i h]],[]⟩):=by kernel_rfl
def be4 (n:Int):List Int:=[IntKind.u8.wrap (n.fdiv 16777216),IntKind.u8.wrap (n.fdiv 65536),IntKind.u8.wrap (n.fdiv 256),IntKind.u8.wrap (n.fdiv 1)]
def be8 (n:Int):List Int:=[IntKind.u8.wrap (n.fdiv 72057594037927936),IntKind.u8.wrap (n.fdiv 281474976710656),IntKind.u8.wrap (n.fdiv 1099511627776),IntKind.u8.wrap (n.fdiv 4294967296),IntKind.u8.wrap (n.fdiv 16777216),IntKind.u8.wrap (n.fdiv 65536),IntKind.u8.wrap (n.fdiv 256),IntKind.u8.wrap (n.fdiv 1)]
def inc3 (x:Inc):List Int:=[x.kind,x.osd,IntKind.u8.wrap x.n]
def sumStep (h c:Int):Int:=IntKind.u64.wrap (IntKind.u64.wrap ((BitVec.ofInt 64 h ^^^ BitVec.ofInt 64 (IntKind.u64.wrap c)).toNat:Int) * 1099511628211)
def sumF (l:List Int):Int:=l.foldl sumStep 14695981039346656037
def byL (e:EN):List Int:=Ax (e.ln 0) (e.rw 0)
def b4N (e:EN):EN:=⟨[],byN (byL e++be4 (e.ai 1 0))⟩
def b8N (e:EN):EN:=⟨[],byN (byL e++be8 (e.ai 1 0))⟩
def biN (e:EN):EN:=⟨[],byN (byL e++inc3 (incOf e 1))⟩
def byOk (e:EN):Bool:=decide ((e.ln 0:Int)≤100000)
def cB4 (e:EN):Ah (TS×EN):=.must (byOk e) (.defE (b4N e) fun r=>.leaf (bpR,⟨[[.u]],[.lst (r.ln 0) (r.rw 0),.tok]⟩))
def cB8 (e:EN):Ah (TS×EN):=.must (byOk e) (.defE (b8N e) fun r=>.leaf (bpR,⟨[[.u]],[.lst (r.ln 0) (r.rw 0),.tok]⟩))
def cBi (e:EN):Ah (TS×EN):=.must (byOk e) (.defE (biN e) fun r=>.leaf (bpR,⟨[[.u]],[.lst (r.ln 0) (r.rw 0),.tok]⟩))
def cSu (e:EN):Ah (TS×EN):=.must (byOk e) (.leaf (suR,⟨[[.i (sumF (byL e))]],[]⟩))
def RI (rows:Nat→List AV) (l:List Int):Prop:=∀ i,i<l.length→rowOk [.i .u8] (rows i)=true∧(hdN (AH [.i .u8] rows i)).I=l.getD i 0
theorem RI_inst (l:List Int):RI (AI [.i .u8] (AR l)) l:=fun i _=>⟨rowOk_inst rfl _,(AF (row:=[.i .u8]) rfl (AR l) i).1⟩
theorem RI_ok {rows:Nat→List AV} {l:List Int} (h:RI rows l):AX [.i .u8] rows l.length=true:=rowsB_lt fun i hi=>(h i hi).1
theorem RI_app {la:SI} {rows:Nat→List AV} {l:List Int} (h:RI rows l) (hl:la.v=(l.length:Int)) (v:Int):RI (AP la rows (Aa 1 [.int .u8 (.sym v)])) (l++[v]):=by
  intro i hi
  have e0:la.v.toNat=l.length:=by omega
  have hi:i<l.length+1:=by simpa using hi
  by_cases hlt:i<l.length
  · obtain ⟨h1,h2⟩:=h i hlt
    have e:AP la rows (Aa 1 [.int .u8 (.sym v)]) i=rows i:=by
      unfold AP
      rw [show Nat.blt i la.v.toNat=true from Nat.ble_eq_true_of_le (by omega)]
    refine ⟨by rw [e]; exact h1,?_⟩
    rw [rowNums_cat,e0,if_pos hlt,h2,List.getD,List.getD,List.getElem?_append_left hlt]
  · have:i=l.length:=by omega
    subst this
    have e:AP la rows (Aa 1 [.int .u8 (.sym v)]) l.length=[.int .u8 (.sym v)]:=by
      unfold AP
      rw [show Nat.blt l.length la.v.toNat=false from Bool.eq_false_iff.2 fun h=>by have:=Nat.le_of_ble_eq_true h; omega,e0,Nat.sub_self]
      rfl
    refine ⟨by rw [e]; rfl,?_⟩
    rw [rowNums_cat,e0,if_neg hlt,Nat.sub_self,List.getD,List.getElem?_append_right (Nat.le_refl _),Nat.sub_self]
    rfl
theorem RI_app3 {la:SI} {rows:Nat→List AV} {l:List Int} (h:RI rows l) (hl:la.v=(l.length:Int)) (a b c:Int):RI (AP la rows (Aa 1 [.int .u8 (.sym a),.int .u8 (.sym b),.int .u8 (.sym c)])) (l++[a,b,c]):=by
  intro i hi
  have e0:la.v.toNat=l.length:=by omega
  have hi:i<l.length+3:=by simpa using hi
  by_cases hlt:i<l.length
  · obtain ⟨h1,h2⟩:=h i hlt
    have e:AP la rows (Aa 1 [.int .u8 (.sym a),.int .u8 (.sym b),.int .u8 (.sym c)]) i=rows i:=by
      unfold AP
      rw [show Nat.blt i la.v.toNat=true from Nat.ble_eq_true_of_le (by omega)]
    refine ⟨by rw [e]; exact h1,?_⟩
    rw [rowNums_cat,e0,if_pos hlt,h2,List.getD,List.getD,List.getElem?_append_left hlt]
  · have e : AP la rows (Aa 1 [.int .u8 (.sym a), .int .u8 (.sym b), .int .u8 (.sym c)]) i = Aa 1 [.int .u8 (.sym a), .int .u8 (.sym b), .int .u8 (.sym c)] (i - l.length) := by
      unfold AP
      rw [show Nat.blt i la.v.toNat=false from Bool.eq_false_iff.2 fun h=>by have:=Nat.le_of_ble_eq_true h; omega,e0]
    have hj:i - l.length=0∨i - l.length=1∨i - l.length=2:=by omega
    rw [e,rowNums_cat,e0,if_neg hlt,List.getD,List.getElem?_append_right (by omega)]
    rcases hj with hj | hj | hj <;> rw [hj] <;> exact ⟨rfl,rfl⟩
theorem bp4_std (l:List Int) (n:Int) (h:(l.length:Int)≤100000):BI Tryz.prog 55 bp4T ⟨[[],[.i n],[]],byN l⟩ bpR ⟨[[.u]],byN (l++be4 n)⟩:=by
  have r0:RI (AI [.i .u8] (AR l)) l:=RI_inst l
  have r1:=RI_app (la:=.sym ((l.length:Int))) r0 (by show (l.length:Int)=_; rfl) (IntKind.u8.wrap (n.fdiv 16777216))
  have r2:=RI_app (la:=.sym ((l.length:Int)+1)) r1 (by show (l.length:Int)+1=_; simp only [List.length_append,List.length_cons,List.length_nil]; omega) (IntKind.u8.wrap (n.fdiv 65536))
  have r3:=RI_app (la:=.sym ((l.length:Int)+1+1)) r2 (by show (l.length:Int)+1+1=_; simp only [List.length_append,List.length_cons,List.length_nil]; omega) (IntKind.u8.wrap (n.fdiv 256))
  have r4:=RI_app (la:=.sym ((l.length:Int)+1+1+1)) r3 (by show (l.length:Int)+1+1+1=_; simp only [List.length_append,List.length_cons,List.length_nil]; omega) (IntKind.u8.wrap (n.fdiv 1))
  have e:((((l++[(IntKind.u8.wrap (n.fdiv 16777216))])++[(IntKind.u8.wrap (n.fdiv 65536))])++[(IntKind.u8.wrap (n.fdiv 256))])++[(IntKind.u8.wrap (n.fdiv 1))])=l++be4 n:=by unfold be4; simp only [List.append_assoc,List.cons_append,List.nil_append]
  rw [e] at r4
  have hl:((l.length:Int)+1+1+1+1).toNat=(l++be4 n).length:=by unfold be4; simp only [List.length_append,List.length_cons,List.length_nil]; omega
  refine Aj (Ao _) Ay rfl (AL (bp4_t l n) ?_)
  refine AB (AB (AA (decide_eq_true (by omega)) ?_))
  refine AB (AB (AA (decide_eq_true (by omega)) ?_))
  refine AB (AB (AA (decide_eq_true (by omega)) ?_))
  refine AB (AB (AA (decide_eq_true (by omega)) ?_))
  refine AA (by rw [hl]; exact RI_ok r4) (AE ⟨⟨trivial,trivial⟩,⟨hl,fun i hi=>?_⟩,trivial,trivial⟩)
  have hi:(i:Int)<((l++be4 n).length:Int):=hi
  exact ⟨(r4 i (by omega)).2,trivial⟩
theorem bp8_std (l:List Int) (n:Int) (h:(l.length:Int)≤100000):BI Tryz.prog 55 bp8T ⟨[[],[.i n],[]],byN l⟩ bpR ⟨[[.u]],byN (l++be8 n)⟩:=by
  have r0:RI (AI [.i .u8] (AR l)) l:=RI_inst l
  have r1:=RI_app (la:=.sym ((l.length:Int))) r0 (by show (l.length:Int)=_; rfl) (IntKind.u8.wrap (n.fdiv 72057594037927936))
  have r2:=RI_app (la:=.sym ((l.length:Int)+1)) r1 (by show (l.length:Int)+1=_; simp only [List.length_append,List.length_cons,List.length_nil]; omega) (IntKind.u8.wrap (n.fdiv 281474976710656))
  have r3:=RI_app (la:=.sym ((l.length:Int)+1+1)) r2 (by show (l.length:Int)+1+1=_; simp only [List.length_append,List.length_cons,List.length_nil]; omega) (IntKind.u8.wrap (n.fdiv 1099511627776))
  have r4:=RI_app (la:=.sym ((l.length:Int)+1+1+1)) r3 (by show (l.length:Int)+1+1+1=_; simp only [List.length_append,List.length_cons,List.length_nil]; omega) (IntKind.u8.wrap (n.fdiv 4294967296))
  have r5:=RI_app (la:=.sym ((l.length:Int)+1+1+1+1)) r4 (by show (l.length:Int)+1+1+1+1=_; simp only [List.length_append,List.length_cons,List.length_nil]; omega) (IntKind.u8.wrap (n.fdiv 16777216))
  have r6:=RI_app (la:=.sym ((l.length:Int)+1+1+1+1+1)) r5 (by show (l.length:Int)+1+1+1+1+1=_; simp only [List.length_append,List.length_cons,List.length_nil]; omega) (IntKind.u8.wrap (n.fdiv 65536))
  have r7:=RI_app (la:=.sym ((l.length:Int)+1+1+1+1+1+1)) r6 (by show (l.length:Int)+1+1+1+1+1+1=_; simp only [List.length_append,List.length_cons,List.length_nil]; omega) (IntKind.u8.wrap (n.fdiv 256))
  have r8:=RI_app (la:=.sym ((l.length:Int)+1+1+1+1+1+1+1)) r7 (by show (l.length:Int)+1+1+1+1+1+1+1=_; simp only [List.length_append,List.length_cons,List.length_nil]; omega) (IntKind.u8.wrap (n.fdiv 1))
  have e:((((((((l++[(IntKind.u8.wrap (n.fdiv 72057594037927936))])++[(IntKind.u8.wrap (n.fdiv 281474976710656))])++[(IntKind.u8.wrap (n.fdiv 1099511627776))])++[(IntKind.u8.wrap (n.fdiv 4294967296))])++[(IntKind.u8.wrap (n.fdiv 16777216))])++[(IntKind.u8.wrap (n.fdiv 65536))])++[(IntKind.u8.wrap (n.fdiv 256))])++[(IntKind.u8.wrap (n.fdiv 1))])=l++be8 n:=by unfold be8; simp only [List.append_assoc,List.cons_append,List.nil_append]
  rw [e] at r8
  have hl:((l.length:Int)+1+1+1+1+1+1+1+1).toNat=(l++be8 n).length:=by unfold be8; simp only [List.length_append,List.length_cons,List.length_nil]; omega
  refine Aj (Ao _) Ay rfl (AL (bp8_t l n) ?_)
  refine AB (AB (AA (decide_eq_true (by omega)) ?_))
  refine AB (AB (AA (decide_eq_true (by omega)) ?_))
  refine AB (AB (AA (decide_eq_true (by omega)) ?_))
  refine AB (AB (AA (decide_eq_true (by omega)) ?_))
  refine AB (AB (AA (decide_eq_true (by omega)) ?_))
  refine AB (AB (AA (decide_eq_true (by omega)) ?_))
  refine AB (AB (AA (decide_eq_true (by omega)) ?_))
  refine AB (AB (AA (decide_eq_true (by omega)) ?_))
  refine AA (by rw [hl]; exact RI_ok r8) (AE ⟨⟨trivial,trivial⟩,⟨hl,fun i hi=>?_⟩,trivial,trivial⟩)
  have hi:(i:Int)<((l++be8 n).length:Int):=hi
  exact ⟨(r8 i (by omega)).2,trivial⟩
theorem bi_std (l:List Int) (x:Inc) (h:(l.length:Int)≤100000):BI Tryz.prog 51 biT ⟨[[],incNm x],byN l⟩ bpR ⟨[[.u]],byN (l++inc3 x)⟩:=by
  have r1:=RI_app3 (la:=.sym (l.length:Int)) (RI_inst l) rfl x.kind x.osd (IntKind.u8.wrap x.n)
  have hl:((l.length:Int)+3).toNat=(l++inc3 x).length:=by unfold inc3; simp only [List.length_append,List.length_cons,List.length_nil]; omega
  refine Aj (Ao _) Ay rfl (AL (bi_t l x) (AB (AA (decide_eq_true (by omega)) (AA (by rw [hl]; exact RI_ok r1) (AE ⟨⟨trivial,trivial⟩,⟨hl,fun i hi=>?_⟩,trivial,trivial⟩)))))
  have hi:(i:Int)<((l++inc3 x).length:Int):=hi
  exact ⟨(r1 i (by unfold inc3 at hi; omega)).2,trivial⟩
theorem preBy {e:EN} {k g:Nat} : eqvH [(k,.lst none [.i .u8] (some g)),(g,.tok)] e.o (byN (byL e)):=⟨⟨(As _ _).symm,fun i hi=>rowI_eqv (by
  have hi:(i:Int)<((byL e).length:Int):=hi
  unfold byL at hi
  rw [As] at hi
  exact_mod_cast hi)⟩,trivial,trivial⟩
theorem byOk_ok {e:EN} (h:byOk e=true):((byL e).length:Int)≤100000:=by
  unfold byL
  rw [As]
  exact of_decide_eq_true h
theorem cB4_ok:Ak Tryz.prog 55 (AW bp4T cB4):=BN fun e r h=>by
  obtain ⟨hm,h⟩:=Ar h
  cases h
  refine BI.pre (x':=⟨[[],[.i (e.ai 1 0)],[]],byN (byL e)⟩) ⟨by (repeat' (first | exact trivial | exact rfl | exact TS.eqv_refl _ _ | exact AY _ _ | exact AQ | exact fun _ _=>AJ _ _ | exact fun i _=>AF rfl _ i | apply And.intro)),preBy⟩ (BI.post (t':=bpR) clP (bp4_std (byL e) (e.ai 1 0) (byOk_ok hm)))
theorem cB8_ok:Ak Tryz.prog 55 (AW bp8T cB8):=BN fun e r h=>by
  obtain ⟨hm,h⟩:=Ar h
  cases h
  refine BI.pre (x':=⟨[[],[.i (e.ai 1 0)],[]],byN (byL e)⟩) ⟨by (repeat' (first | exact trivial | exact rfl | exact TS.eqv_refl _ _ | exact AY _ _ | exact AQ | exact fun _ _=>AJ _ _ | exact fun i _=>AF rfl _ i | apply And.intro)),preBy⟩ (BI.post (t':=bpR) clP (bp8_std (byL e) (e.ai 1 0) (byOk_ok hm)))
theorem cBi_ok:Ak Tryz.prog 51 (AW biT cBi):=BN fun e r h=>by
  obtain ⟨hm,h⟩:=Ar h
  cases h
  refine BI.pre (x':=⟨[[],incNm (incOf e 1)],byN (byL e)⟩) ⟨by (repeat' (first | exact trivial | exact rfl | exact TS.eqv_refl _ _ | exact AY _ _ | exact AQ | exact fun _ _=>AJ _ _ | exact fun i _=>AF rfl _ i | apply And.intro)),preBy⟩ (BI.post (t':=bpR) clP (bi_std (byL e) (incOf e 1) (byOk_ok hm)))
theorem take_succ_getD (l:List Int) {i:Nat} (h:i<l.length):l.take (i+1)=l.take i++[l.getD i 0]:=by
  rw [List.take_add_one,List.getElem?_eq_getElem h,List.getD,List.getElem?_eq_getElem h]
  rfl
def suQ (l:List Int):Ex→EN→Prop
  | .exit _,e=>e.ai 0 0=sumF l
  | _,_=>False
theorem su_loop (l:List Int) (hl:(l.length:Int)≤100000):HT Tryz.prog Tryz.f56.ntmps 1 (.loop xSu) 1 (suL.tm ⟨[[.i 14695981039346656037],[],[.i (l.length:Int)],[.i 0]],[.lst l.length (AR l)]⟩) (suL.heap ⟨[[.i 14695981039346656037],[],[.i (l.length:Int)],[.i 0]],[.lst l.length (AR l)]⟩) (QX ⟨none,[(0,suE)],some suR⟩ (suQ l)):=by
  refine HT.loopX (Ao _) Ay (n:=300) inSux suL _ _ (fun i:Nat=>⟨[[.i ((l.take i).foldl sumStep 14695981039346656037)],[],[.i (l.length:Int)],[.i (i:Int)]],[.lst l.length (AR l)]⟩) (fun i=>i≤l.length) (fun i=>l.length - i) (fun _=>suQ l) (by decide) ?_ 0 (Nat.zero_le _)
  intro i hi τ0
  refine AL (Su_x l _ (l.length:Int) (i:Int) τ0) (AG (fun h=>?_) (fun h=>AE ?_))
  · have h:=of_decide_eq_true h
    have e1:IntKind.i64.wrap ((i:Int)+1)=((i+1:Nat):Int):=IntWalk.i64_in _ (by omega)
    have hm:decide ((0:Int)≤(i:Int)∧(i:Int)<(l.length:Int))=true:=decide_eq_true (by omega)
    refine AA hm (AA hm (AB (AB (AB (AB (AB (AA (AN _ _ _) (AE ⟨i+1,by omega,by omega,?_,fun _ _ h=>h⟩))))))))
    refine ⟨⟨?_,trivial,rfl,e1,trivial⟩,⟨rfl,fun _ _=>AJ [.i .u8] (AR l _)⟩,trivial⟩
    show sumStep ((l.take i).foldl sumStep 14695981039346656037) (l.getD i 0)=(l.take (i+1)).foldl sumStep 14695981039346656037
    rw [take_succ_getD l (by omega),List.foldl_append]
    rfl
  · have h:=of_decide_eq_false h
    have:i=l.length:=by omega
    subst this
    show (l.take l.length).foldl sumStep 14695981039346656037=sumF l
    rw [List.take_length]
    rfl
theorem su_std (l:List Int) (hl:(l.length:Int)≤100000):BI Tryz.prog 56 suT ⟨[[]],[.lst l.length (AR l)]⟩ suR ⟨[[.i (sumF l)]],[]⟩:=by
  refine stdX_loop (Ao _) Ay (n:=300) Tryz.func56 bodySu_eq 3 (L:=suL) (E:=suE) (RL:=suQ l) rfl rfl (by kernel_rfl) rfl rfl lpSu (by decide) (by decide) (by decide)
    (fun τ0=>AL (Su_pre l τ0) (AA (AN _ _ _) (AE (.inl ⟨rfl,?_⟩)))) (su_loop l hl) (fun en he=>⟨⟨[[.i (sumF l)]],[]⟩,⟨⟨he,trivial⟩,trivial⟩,fun τ0=>AL (Su_tail (sumF l) τ0) (AE fun _=>⟨⟨rfl,trivial⟩,trivial⟩)⟩) (fun en he=>he.elim)
  (repeat' (first | exact trivial | exact rfl | exact TS.eqv_refl _ _ | exact AY _ _ | exact AQ | exact fun _ _=>AJ _ _ | exact fun i _=>AF rfl _ i | apply And.intro))
theorem cSu_ok:Ak Tryz.prog 56 (AW suT cSu):=BN fun e r h=>by
  obtain ⟨hm,h⟩:=Ar h
  cases h
  refine BI.pre (x':=⟨[[]],[.lst (byL e).length (AR (byL e))]⟩) ⟨by (repeat' (first | exact trivial | exact rfl | exact TS.eqv_refl _ _ | exact AY _ _ | exact AQ | exact fun _ _=>AJ _ _ | exact fun i _=>AF rfl _ i | apply And.intro)),⟨⟨(As _ _).symm,fun i hi=>rowI_eqv ?_⟩,trivial⟩⟩ (su_std (byL e) (byOk_ok hm))
  have hi:(i:Int)<((byL e).length:Int):=hi
  unfold byL at hi
  rw [As] at hi
  exact_mod_cast hi
end Go.Proofs.YtddmgdclmkgpeaaGreat
set_option linter.unusedSimpArgs false
set_option linter.unusedVariables false
namespace Go.Proofs.YtddmgdclmkgpeaaGreat
open Go.Eng Go.RowKit Go.ChangeShapes Go.WideShapes
set_option maxRecDepth 100000
noncomputable def tbSm:List (FuncId×Summ):=[(24,AW laT cLa),(22,AW inT cHi),(55,orSumm (AW bp4T cB4) (AW bp8T cB8)),(51,AW biT cBi),(56,AW suT cSu)]
noncomputable def tbTb:Tab:=smTab (tabOf tbSm)
def svT0:TS:=⟨[],[.one (.ptr 0 0)],mp0,7⟩
def svT1:TS:=⟨[],[.one (.ptr 0 0)],mp1,12⟩
def svL0:TS:=⟨[0,3,4],[.one (.ptr 0 0),.one (.sl 10),.one (.i .u32)],beH0++[(10,.lst none [.i .u8] (some 11)),(11,.tok)],12⟩
def svL1:TS:=⟨[0,3,4],[.one (.ptr 0 0),.one (.sl 19),.one (.i .u32)],beH1++[(19,.lst none [.i .u8] (some 20)),(20,.tok)],21⟩
def svR0:TS:=⟨[2],[.one (.sl 10)],beH0++[(10,.lst none [.i .u8] (some 11)),(11,.tok)],12⟩
def svR1:TS:=⟨[2],[.one (.sl 19)],beH1++[(19,.lst none [.i .u8] (some 20)),(20,.tok)],21⟩
theorem tbSm_ok:AllOk Tryz.prog tbSm:=⟨cLa_ok,cHi_ok,orSumm_ok cB4_ok cB8_ok,cBi_ok,cSu_ok,trivial⟩
theorem tbTab:TabAll Tryz.prog tbTb:=tab_ok tbSm_ok
noncomputable def bodySv:Code:=Tryz.f16.body.getD .skip
noncomputable def xSv:Code:=lp ((flat bodySv).getD 3 .skip)
theorem bodySv_eq:Tryz.f16.body=some bodySv:=by kernel_rfl
theorem inSv:BT Tryz.prog 16 Tryz.f16.ntmps bodySv:=within_body Tryz.func16 bodySv_eq
theorem lpSv:(flat bodySv).drop 3=[.block 0 (.loop xSv)]++(flat bodySv).drop 4:=by kernel_rfl
theorem inSvx:BT Tryz.prog 16 Tryz.f16.ntmps xSv:=by
  have h:(flat bodySv)[3]? = some (.block 0 (.loop xSv)):=by kernel_rfl
  exact within_loop (within_block (within_at inSv 3 h))
noncomputable abbrev qTb1 (v0:Al):ON:=.box [.b (v0.10 0),.b (v0.10 1),.b (v0.10 2),.b (v0.10 3),.b (v0.10 4),.b (v0.10 5),.b (v0.10 6),.b (v0.10 7),.b (v0.10 8),.b (v0.10 9),.b (v0.10 10),.b (v0.10 11),.b (v0.10 12),.b (v0.10 13),.b (v0.10 14),.b (v0.10 15),.b (v0.10 16),.b (v0.10 17),.b (v0.10 18),.b (v0.10 19),.b (v0.10 20),.b (v0.10 21),.b (v0.10 22),.b (v0.10 23),.b (v0.10 24)]
noncomputable abbrev qTb2 (v0:Al) (v1:BA):ON:=.box [.i v0.1,.i v1.want.1,.i v1.want.2,.i v1.want.3,.i v1.value.1,.i v1.value.2,.i v1.value.3,.i v1.best.1,.i v1.best.2,.i v1.best.3,.i v1.b.1,.i v1.b.2,.i v1.acc.1,.i v1.acc.2,.u,.u,.b v1.8,.b v1.9,.i v1.decided.1,.i v1.decided.2,.i v1.decided.3,.b v1.11,.b v1.12]
noncomputable abbrev qTb3 (v0:Al):ON:=.box [.i v0.prom.1,.i v0.prom.2,.i v0.acc.1,.i v0.acc.2,.i v0.ainc.1,.i v0.ainc.2,.i v0.ainc.3]
noncomputable abbrev qTb4 (v0:Al):ON:=.box [.i v0.1,.u,.u,.u,.u,.i v0.8,.i v0.over.1,.i v0.over.2,.u]
theorem sv_p0 (hd:Dat) (s:Al) (τ0:Tm):Am Tryz.prog tbTb 300 16 Tryz.f16.ntmps (Eng.ofL ((flat bodySv).take 3)) (argTm 0 (svT0.vals ⟨[[]],mn0 hd s⟩)++τ0) (svT0.heap ⟨[[]],mn0 hd s⟩) 7 (outX 7 ⟨some svL0,[],some svR0⟩) =

  .must (BE Af Af) (.defE ⟨[[.u]],[.own (hdW hd s.2),.tok]⟩ fun e0=>.defI (BK (e0.dt 0).2) fun z1=>.defI (IntKind.u8.wrap z1) fun z2=>.must (BE Af Af) (.must (AX BB (AI BB (rowJ s.wishes)) s.6.length) (.leaf (.normal,⟨[[.u],[.u],[.i 2]],[(qTb4 s),.own (e0.dt 0),.tok,(qTb3 s),.lst s.6.length (AH BB (AI BB (rowJ s.wishes))),.tok,(qTb1 s),.lst 2 (AH [.i .u8] (Aa 1 [.int .u8 (.sym s.1),.int .u8 (.sym z2)])),.tok]⟩)))):=by kernel_rfl
theorem sv_x0 (hd:Dat) (s:Al) (l:List Int) (e:Int) (τ0:Tm):(Am Tryz.prog tbTb 300 16 Tryz.f16.ntmps xSv (svL0.tm ⟨[[],[],[.i e]],mn0 hd s++byN l⟩++τ0) (svL0.heap ⟨[[],[],[.i e]],mn0 hd s++byN l⟩) 12 (outX 7 ⟨some svL0,[(0,svL0)],none⟩)).cut [none,some true] =

  .must (BE Af Af) (.defE ⟨[[.u]],[.own (hdW hd s.2),.tok]⟩ fun e0=>.defI (BK (e0.dt 0).2) fun z1=>.ite (decide (e≤z1)) (.must (BE Af Af) (.defE ⟨[[.u],[.i e]],[.own (e0.dt 0),.tok]⟩ fun e2=>.must (hasI (e2.dt 0).2 (e2.ai 1 0)) (.defI (incK (e2.dt 0).2 (e2.ai 1 0)) fun z3=>.defI (incO (e2.dt 0).2 (e2.ai 1 0)) fun z4=>.defI (incZ (e2.dt 0).2 (e2.ai 1 0)) fun z5=>.must (AX [.i .u8] (AI [.i .u8] (AR l)) l.length) (.defE ⟨[[.u],[.i z3,.i z4,.i z5]],[.lst l.length (AR l),.tok]⟩ fun e6=>.must (byOk e6) (.defE (biN e6) fun e7=>.defI ((e7.ln 0):Int) fun z8=>.defI (IntKind.u32.wrap (e+1)) fun z9=>.must (BE Af Af) (.must (AX BB (AI BB (rowJ s.wishes)) s.6.length) (.must (AX [.i .u8] ((AI [.i .u8] (e7.rw 0))) z8.toNat) (.leaf (.normal,⟨[[.u],[.u],[.i z9]],[(qTb4 s),.own (e2.dt 0),.tok,(qTb3 s),.lst s.6.length (AH BB (AI BB (rowJ s.wishes))),.tok,(qTb1 s),.lst z8.toNat (AH [.i .u8] (AI [.i .u8] (e7.rw 0))),.tok]⟩))))))))) (.must (BE Af Af) (.must (AX BB (AI BB (rowJ s.wishes)) s.6.length) (.must (AX [.i .u8] (AI [.i .u8] (AR l)) l.length) (.leaf (.exit 0,⟨[[.u],[.u],[.i e]],[(qTb4 s),.own (e0.dt 0),.tok,(qTb3 s),.lst s.6.length (AH BB (AI BB (rowJ s.wishes))),.tok,(qTb1 s),.lst l.length (AR l),.tok]⟩)))))):=by kernel_rfl
theorem sv_t0 (hd:Dat) (s:Al) (l:List Int) (e:Int) (τ0:Tm):Am Tryz.prog tbTb 300 16 Tryz.f16.ntmps (Eng.ofL ((flat bodySv).drop 4)) (svL0.tm ⟨[[],[],[.i e]],mn0 hd s++byN l⟩++τ0) (svL0.heap ⟨[[],[],[.i e]],mn0 hd s++byN l⟩) 12 (outX 7 ⟨none,[],some svR0⟩) =

  .defI (IntKind.u64.wrap s.prom.1) fun z0=>.must (AX [.i .u8] (AI [.i .u8] (AR l)) l.length) (.defE ⟨[[.u],[.i z0],[.u]],[.lst l.length (AR l),.tok]⟩ fun e1=>.must (byOk e1) (.defE (b4N e1) fun e2=>.defI ((e2.ln 0):Int) fun z3=>.must (decide ((z3+1) * 1≤1099511627776∧z3+1≤1099511627776)) (.defI (IntKind.u64.wrap s.acc.1) fun z4=>.must (AX [.i .u8] (AP (.sym z3) ((AI [.i .u8] (e2.rw 0))) (Aa 1 [.int .u8 (.sym s.prom.2)])) (z3+1).toNat) (.defE ⟨[[.u],[.i z4],[.u]],[.lst (z3+1).toNat (AH [.i .u8] (AP (.sym z3) ((AI [.i .u8] (e2.rw 0))) (Aa 1 [.int .u8 (.sym s.prom.2)]))),.tok]⟩ fun e5=>.must (byOk e5) (.defE (b4N e5) fun e6=>.defI ((e6.ln 0):Int) fun z7=>.must (decide ((z7+1) * 1≤1099511627776∧z7+1≤1099511627776)) (.must (AX [.i .u8] (AP (.sym z7) ((AI [.i .u8] (e6.rw 0))) (Aa 1 [.int .u8 (.sym s.acc.2)])) (z7+1).toNat) (.defE ⟨[[.u],[.i s.ainc.1,.i s.ainc.2,.i s.ainc.3]],[.lst (z7+1).toNat (AH [.i .u8] (AP (.sym z7) ((AI [.i .u8] (e6.rw 0))) (Aa 1 [.int .u8 (.sym s.acc.2)]))),.tok]⟩ fun e8=>.must (byOk e8) (.defE (biN e8) fun e9=>.defI ((e9.ln 0):Int) fun z10=>.must (AX [.i .u8] ((AI [.i .u8] (e9.rw 0))) z10.toNat) (.defE ⟨[[.u]],[.lst z10.toNat (AH [.i .u8] (AI [.i .u8] (e9.rw 0)))]⟩ fun e11=>.must (byOk e11) (.defI (sumF (byL e11)) fun z12=>.must (AX [.i .u8] ((AI [.i .u8] (e9.rw 0))) z10.toNat) (.defE ⟨[[.u],[.i
 z12],[.u]],[.lst z10.toNat (AH [.i .u8] (AI [.i .u8] (e9.rw 0))),.tok]⟩ fun e13=>.must (byOk e13) (.defE (b8N e13) fun e14=>.defI ((e14.ln 0):Int) fun z15=>.must (BE Af Af) (.must (AX BB (AI BB (rowJ s.wishes)) s.6.length) (.must (AX [.i .u8] ((AI [.i .u8] (e14.rw 0))) z15.toNat) (.leaf (.ret,⟨[[.u]],[(qTb4 s),.own (hdW hd s.2),.tok,(qTb3 s),.lst s.6.length (AH BB (AI BB (rowJ s.wishes))),.tok,(qTb1 s),.lst z15.toNat (AH [.i .u8] (AI [.i .u8] (e14.rw 0))),.tok]⟩)))))))))))))))):=by kernel_rfl
theorem sv_p1 (hd:Dat) (s:Al) (p:BA) (τ0:Tm):Am Tryz.prog tbTb 300 16 Tryz.f16.ntmps (Eng.ofL ((flat bodySv).take 3)) (argTm 0 (svT1.vals ⟨[[]],mn1 hd s p⟩)++τ0) (svT1.heap ⟨[[]],mn1 hd s p⟩) 12 (outX 12 ⟨some svL1,[],some svR1⟩) =

  .must (BE Af Af) (.defE ⟨[[.u]],[.own (hdW hd s.2),.tok]⟩ fun e0=>.defI (BK (e0.dt 0).2) fun z1=>.defI (IntKind.u8.wrap z1) fun z2=>.must (BE Af Af) (.must (AX BB (AI BB (rowJ s.wishes)) s.6.length) (.must (AX [.i .u8] (AI [.i .u8] (AR p.6)) p.6.length) (.must (AX [.i .u8] (AI [.i .u8] (AR p.7)) p.7.length) (.leaf (.normal,⟨[[.u],[.u],[.i 2]],[(qTb4 s),.own (e0.dt 0),.tok,(qTb3 s),.lst s.6.length (AH BB (AI BB (rowJ s.wishes))),.tok,(qTb1 s),(qTb2 s p),.lst p.6.length (AR p.6),.lst p.7.length (AR p.7),.tok,.tok,.lst 2 (AH [.i .u8] (Aa 1 [.int .u8 (.sym s.1),.int .u8 (.sym z2)])),.tok]⟩)))))):=by kernel_rfl
theorem sv_x1 (hd:Dat) (s:Al) (p:BA) (l:List Int) (e:Int) (τ0:Tm):(Am Tryz.prog tbTb 300 16 Tryz.f16.ntmps xSv (svL1.tm ⟨[[],[],[.i e]],mn1 hd s p++byN l⟩++τ0) (svL1.heap ⟨[[],[],[.i e]],mn1 hd s p++byN l⟩) 21 (outX 12 ⟨some svL1,[(0,svL1)],none⟩)).cut [none,some true] =

  .must (BE Af Af) (.defE ⟨[[.u]],[.own (hdW hd s.2),.tok]⟩ fun e0=>.defI (BK (e0.dt 0).2) fun z1=>.ite (decide (e≤z1)) (.must (BE Af Af) (.defE ⟨[[.u],[.i e]],[.own (e0.dt 0),.tok]⟩ fun e2=>.must (hasI (e2.dt 0).2 (e2.ai 1 0)) (.defI (incK (e2.dt 0).2 (e2.ai 1 0)) fun z3=>.defI (incO (e2.dt 0).2 (e2.ai 1 0)) fun z4=>.defI (incZ (e2.dt 0).2 (e2.ai 1 0)) fun z5=>.must (AX [.i .u8] (AI [.i .u8] (AR l)) l.length) (.defE ⟨[[.u],[.i z3,.i z4,.i z5]],[.lst l.length (AR l),.tok]⟩ fun e6=>.must (byOk e6) (.defE (biN e6) fun e7=>.defI ((e7.ln 0):Int) fun z8=>.defI (IntKind.u32.wrap (e+1)) fun z9=>.must (BE Af Af) (.must (AX BB (AI BB (rowJ s.wishes)) s.6.length) (.must (AX [.i .u8] (AI [.i .u8] (AR p.6)) p.6.length) (.must (AX [.i .u8] (AI [.i .u8] (AR p.7)) p.7.length) (.must (AX [.i .u8] ((AI [.i .u8] (e7.rw 0))) z8.toNat) (.leaf (.normal,⟨[[.u],[.u],[.i z9]],[(qTb4 s),.own (e2.dt 0),.tok,(qTb3 s),.lst s.6.length (AH BB (AI BB (rowJ s.wishes))),.tok,(qTb1 s),(qTb2 s p),.lst p.6.length (AR p.6),.lst p.7.length (AR p.7),.tok,.tok,.lst z8.toNat (AH [.i .u8] (AI [.i .u8] (e7.rw 0))),.tok]⟩))))))))))) (.must (BE Af Af) (.must (AX BB (AI BB (rowJ s.wishes)) s.6.length) (.must (AX [.i .u8] (AI [.i .u8] (AR p.6)) p.6.length) (.must (AX [.i .u8] (AI [.i .u8] (AR p.7)) p.7.length) (.must (AX [.i .u8] (AI [.i
 .u8] (AR l)) l.length) (.leaf (.exit 0,⟨[[.u],[.u],[.i e]],[(qTb4 s),.own (e0.dt 0),.tok,(qTb3 s),.lst s.6.length (AH BB (AI BB (rowJ s.wishes))),.tok,(qTb1 s),(qTb2 s p),.lst p.6.length (AR p.6),.lst p.7.length (AR p.7),.tok,.tok,.lst l.length (AR l),.tok]⟩)))))))):=by kernel_rfl
theorem sv_t1 (hd:Dat) (s:Al) (p:BA) (l:List Int) (e:Int) (τ0:Tm):Am Tryz.prog tbTb 300 16 Tryz.f16.ntmps (Eng.ofL ((flat bodySv).drop 4)) (svL1.tm ⟨[[],[],[.i e]],mn1 hd s p++byN l⟩++τ0) (svL1.heap ⟨[[],[],[.i e]],mn1 hd s p++byN l⟩) 21 (outX 12 ⟨none,[],some svR1⟩) =

  .defI (IntKind.u64.wrap s.prom.1) fun z0=>.must (AX [.i .u8] (AI [.i .u8] (AR l)) l.length) (.defE ⟨[[.u],[.i z0],[.u]],[.lst l.length (AR l),.tok]⟩ fun e1=>.must (byOk e1) (.defE (b4N e1) fun e2=>.defI ((e2.ln 0):Int) fun z3=>.must (decide ((z3+1) * 1≤1099511627776∧z3+1≤1099511627776)) (.defI (IntKind.u64.wrap s.acc.1) fun z4=>.must (AX [.i .u8] (AP (.sym z3) ((AI [.i .u8] (e2.rw 0))) (Aa 1 [.int .u8 (.sym s.prom.2)])) (z3+1).toNat) (.defE ⟨[[.u],[.i z4],[.u]],[.lst (z3+1).toNat (AH [.i .u8] (AP (.sym z3) ((AI [.i .u8] (e2.rw 0))) (Aa 1 [.int .u8 (.sym s.prom.2)]))),.tok]⟩ fun e5=>.must (byOk e5) (.defE (b4N e5) fun e6=>.defI ((e6.ln 0):Int) fun z7=>.must (decide ((z7+1) * 1≤1099511627776∧z7+1≤1099511627776)) (.must (AX [.i .u8] (AP (.sym z7) ((AI [.i .u8] (e6.rw 0))) (Aa 1 [.int .u8 (.sym s.acc.2)])) (z7+1).toNat) (.defE ⟨[[.u],[.i s.ainc.1,.i s.ainc.2,.i s.ainc.3]],[.lst (z7+1).toNat (AH [.i .u8] (AP (.sym z7) ((AI [.i .u8] (e6.rw 0))) (Aa 1 [.int .u8 (.sym s.acc.2)]))),.tok]⟩ fun e8=>.must (byOk e8) (.defE (biN e8) fun e9=>.defI ((e9.ln 0):Int) fun z10=>.must (AX [.i .u8] ((AI [.i .u8] (e9.rw 0))) z10.toNat) (.defE ⟨[[.u]],[.lst z10.toNat (AH [.i .u8] (AI [.i .u8] (e9.rw 0)))]⟩ fun e11=>.must (byOk e11) (.defI (sumF (byL e11)) fun z12=>.must (AX [.i .u8] ((AI [.i .u8] (e9.rw 0))) z10.toNat) (.defE ⟨[[.u],[.i
 z12],[.u]],[.lst z10.toNat (AH [.i .u8] (AI [.i .u8] (e9.rw 0))),.tok]⟩ fun e13=>.must (byOk e13) (.defE (b8N e13) fun e14=>.defI ((e14.ln 0):Int) fun z15=>.must (BE Af Af) (.must (AX BB (AI BB (rowJ s.wishes)) s.6.length) (.must (AX [.i .u8] (AI [.i .u8] (AR p.6)) p.6.length) (.must (AX [.i .u8] (AI [.i .u8] (AR p.7)) p.7.length) (.must (AX [.i .u8] ((AI [.i .u8] (e14.rw 0))) z15.toNat) (.leaf (.ret,⟨[[.u]],[(qTb4 s),.own (hdW hd s.2),.tok,(qTb3 s),.lst s.6.length (AH BB (AI BB (rowJ s.wishes))),.tok,(qTb1 s),(qTb2 s p),.lst p.6.length (AR p.6),.lst p.7.length (AR p.7),.tok,.tok,.lst z15.toNat (AH [.i .u8] (AI [.i .u8] (e14.rw 0))),.tok]⟩)))))))))))))))))):=by kernel_rfl
def headL (s:Al):List Int:=[s.id,BK s.incs]
def incB (l:List Inc):List Int:=l.flatMap inc3
def balB (b:Bal):List Int:=be4 (IntKind.u64.wrap b.n)++[b.who]
def bodyL (s:Al):List Int:=headL s++incB s.incs++balB s.prom++balB s.acc++inc3 s.ainc
def saveL (s:Al):List Int:=bodyL s++be8 (sumF (bodyL s))
theorem byL_app (l:List Int) (v:Int):Ax ((l.length:Int)+1).toNat (AH [.i .u8] (AP (.sym (l.length:Int)) (AI [.i .u8] (AR l)) (Aa 1 [.int .u8 (.sym v)])))=l++[v] :=
  lstI_rows (by simp only [List.length_append,List.length_cons,List.length_nil]; omega) fun i hi=>((RI_app (la:=.sym (l.length:Int)) (RI_inst l) rfl v) i hi).2
theorem rowsB_app1 (l:List Int) (v:Int):AX [.i .u8] (AP (.sym (l.length:Int)) (AI [.i .u8] (AR l)) (Aa 1 [.int .u8 (.sym v)])) ((l.length:Int)+1).toNat=true:=by
  have h:=RI_ok (RI_app (la:=.sym (l.length:Int)) (RI_inst l) rfl v)
  rw [show (l++[v]).length=((l.length:Int)+1).toNat by simp only [List.length_append,List.length_cons,List.length_nil]; omega] at h
  exact h
theorem incB_length (l:List Inc):(incB l).length=3 * l.length:=by
  induction l with
  | nil=>rfl
  | cons x l ih =>
    have e:incB (x::l)=inc3 x++incB l:=rfl
    rw [e,List.length_append,ih]
    unfold inc3
    simp only [List.length_cons,List.length_nil]
    omega
theorem incB_take (l:List Inc) {j:Nat} (h:j<l.length):incB (l.take (j+1))=incB (l.take j)++inc3 (l.getD j .zero):=by
  have e:l.take (j+1)=l.take j++[l.getD j .zero]:=by
    rw [List.take_add_one,List.getElem?_eq_getElem h,List.getD,List.getElem?_eq_getElem h]
    rfl
  rw [e]
  unfold incB
  rw [List.flatMap_append]
  simp
theorem be4_len (n:Int):(be4 n).length=4:=rfl
theorem b4N_eq {e:EN} {l:List Int} {n:Int} (h1:byL e=l) (h2:e.ai 1 0=n):b4N e=⟨[],byN (l++be4 n)⟩:=by
  unfold b4N
  rw [h1,h2]
theorem b8N_eq {e:EN} {l:List Int} {n:Int} (h1:byL e=l) (h2:e.ai 1 0=n):b8N e=⟨[],byN (l++be8 n)⟩:=by
  unfold b8N
  rw [h1,h2]
theorem biN_eq {e:EN} {l:List Int} {x:Inc} (h1:byL e=l) (h2:incOf e 1=x):biN e=⟨[],byN (l++inc3 x)⟩:=by
  unfold biN
  rw [h1,h2]
theorem byOk_of {e:EN} {n:Nat} (h:e.ln 0=n) (hn:(n:Int)≤100000):byOk e=true:=by
  unfold byOk
  rw [h]
  exact decide_eq_true hn
set_option maxHeartbeats 2000000 in
theorem sv_loop0 (hd : Dat) (s : Al) (hg : HGood s.incs) : HT Tryz.prog Tryz.f16.ntmps 7 (.loop xSv) 12 (svL0.tm ⟨[[], [], [.i (2)]], mn0 hd s ++ byN (headL s ++ incB (s.incs.take 0))⟩) (svL0.heap ⟨[[], [], [.i (2)]], mn0 hd s ++ byN (headL s ++ incB (s.incs.take 0))⟩) (QX ⟨none, [(0, svL0)], none⟩ fun ex e => match ex with
    | .exit _=>svL0.eqv e ⟨[[],[],[.i ((s.incs.length:Int)+2)]],mn0 hd s++byN (headL s++incB s.incs)⟩
    | _=>True):=by
  have hl:=hg.1
  refine HT.loopX tbTab Ay (n:=300) inSvx svL0 _ _ (fun j:Nat=>⟨[[],[],[.i ((j:Int)+2)]],mn0 hd s++byN (headL s++incB (s.incs.take j))⟩) (fun j=>j≤s.incs.length) (fun j=>s.incs.length - j) (fun _ ex e=>match ex with
    | .exit _=>svL0.eqv e ⟨[[],[],[.i ((s.incs.length:Int)+2)]],mn0 hd s++byN (headL s++incB s.incs)⟩
    | _=>True) (by decide) ?_ 0 (Nat.zero_le _)
  intro j hj τ0
  have hlen:((headL s++incB (s.incs.take j)).length:Int)≤1000:=by
    rw [List.length_append,incB_length,List.length_take]
    show ((2+3 * min j s.incs.length:Nat):Int)≤1000
    omega
  refine BG [none,some true] (AL (sv_x0 hd s (headL s++incB (s.incs.take j)) ((j:Int)+2) τ0) (AA (AS _) (AK (AB (AG (fun h=>?_) (fun h=>?_))))))
  · have h:(j:Int)+2≤(s.incs.length:Int)+1:=of_decide_eq_true h
    have hlt:j<s.incs.length:=by omega
    have hI:hasI s.incs ((j:Int)+2)=true:=by
      unfold hasI
      rw [decide_eq_true (by omega),decide_eq_true (by omega)]
      rfl
    have hz:((j:Int)+2 - 2).toNat=j:=by omega
    have hx:(⟨incK s.incs ((j:Int)+2),incO s.incs ((j:Int)+2),incZ s.incs ((j:Int)+2)⟩:Inc)=s.incs.getD j .zero:=by
      unfold incK incO incZ
      rw [hz]
    refine AA (AS _) (AK (AA hI ?_))
    repeat' with_reducible (first | refine AB ?_ | refine AM ?_)
    refine AA (AN _ _ _) (An fun e6 h6=>AA (byOk_of (e:=e6) (n:=(headL s++incB (s.incs.take j)).length) (by rw [h6]; rfl) (by omega)) ?_)
    have n6:biN e6=⟨[],byN ((headL s++incB (s.incs.take j))++inc3 (s.incs.getD j .zero))⟩:=biN_eq (by rw [h6]; exact lstI_rowI _) (by rw [h6]; exact hx)
    rw [n6,List.append_assoc,← incB_take s.incs hlt]
    clear n6 h6
    refine AK ?_
    repeat' with_reducible (first | refine AB ?_ | refine AM ?_)
    refine (AA (AS _) (AA (AZ rfl _ _) (AA (AN _ _ _) (AE ⟨j+1,hlt,by omega,?_,fun _ _ h=>h⟩))))
    have e1:IntKind.u32.wrap ((j:Int)+2+1)=((j+1:Nat):Int)+2:=by
      rw [show ((j+1:Nat):Int)+2=(j:Int)+2+1 by omega]
      exact IntWalk.u32_in _ (by omega)
    refine ⟨⟨trivial,trivial,e1,trivial⟩,?_,rfl,trivial,?_,⟨rfl,fun i _=>AF rfl _ i⟩,trivial,?_,⟨rfl,fun i _=>AF rfl _ i⟩,trivial,trivial⟩
    · exact clP
    · exact clP
    · exact clP
  · have h:¬ (j:Int)+2≤(s.incs.length:Int)+1:=of_decide_eq_false h
    have:j=s.incs.length:=by omega
    subst this
    rw [List.take_length]
    refine (AA (AS _) (AA (AZ rfl _ _) (AA (AN _ _ _) (AE ?_))))
    refine ⟨⟨trivial,trivial,rfl,trivial⟩,?_,rfl,trivial,?_,⟨rfl,fun i _=>AF rfl _ i⟩,trivial,?_,⟨rfl,fun i _=>AJ [.i .u8] (AR _ i)⟩,trivial,trivial⟩
    · exact clP
    · exact clP
    · exact clP
set_option maxHeartbeats 2000000 in
theorem sv_std0 (hd:Dat) (s:Al) (hg:HGood s.incs):BI Tryz.prog 16 svT0 ⟨[[]],mn0 hd s⟩ svR0 ⟨[[.u]],mn0 hd s++byN (saveL s)⟩:=by
  have hl:=hg.1
  refine stdX_loop tbTab Ay (n:=300) Tryz.func16 bodySv_eq 3 (L:=svL0) (E:=svL0) (en0:=⟨[[],[],[.i (2)]],mn0 hd s++byN (headL s++incB (s.incs.take 0))⟩) rfl rfl (by kernel_rfl) rfl rfl lpSv (by decide) (by decide) (by decide)
    (fun τ0=>AL (sv_p0 hd s τ0) (AA (AS _) (AK (AB (AB (AA (AS _) (AA (AZ rfl _ _) (AE (.inl ⟨rfl,?_⟩)))))))))
    (HT.mono (sv_loop0 hd s hg) fun _ _ _ _ q=>qx_ret q) (fun en he=>⟨⟨[[],[],[.i ((s.incs.length:Int)+2)]],mn0 hd s++byN (headL s++incB s.incs)⟩,he,fun τ0=>AL (sv_t0 hd s (headL s++incB s.incs) ((s.incs.length:Int)+2) τ0) ?_⟩) (fun en he=>he.elim)
  · have e1 : IntKind.u8.wrap (BK s.incs) = BK s.incs := by
      unfold BK
      exact IntWalk.u8_in _ (by omega)
    refine ⟨⟨trivial,trivial,rfl,trivial⟩,?_,rfl,trivial,?_,⟨rfl,fun i _=>AF rfl _ i⟩,trivial,?_,⟨rfl,fun i hi=>?_⟩,trivial,trivial⟩
    · exact clP
    · exact clP
    · exact clP
    · have hi:(i:Int)<2:=hi
      have hj:i=0∨i=1:=by omega
      rcases hj with rfl | rfl
      · exact ⟨rfl,trivial⟩
      · exact ⟨e1,trivial⟩
  · have hlen : ((headL s ++ incB s.incs).length : Int) ≤ 1000 := by
      rw [List.length_append,incB_length]
      show ((2+3 * s.incs.length:Nat):Int)≤1000
      omega
    generalize hL:headL s++incB s.incs=L at hlen
    refine AB (AA (AN _ _ _) (An fun e1 h1=>AA (byOk_of (e:=e1) (n:=L.length) (by rw [h1]; rfl) (by omega)) ?_))
    rw [b4N_eq (e:=e1) (l:=L) (n:=IntKind.u64.wrap s.prom.n) (by rw [h1]; exact lstI_rowI _) (by rw [h1]; rfl)]
    clear h1
    have l1:((L++be4 (IntKind.u64.wrap s.prom.n)).length:Int)=L.length+4:=by rw [List.length_append,be4_len]; omega
    generalize hL1:L++be4 (IntKind.u64.wrap s.prom.n)=L1 at l1
    refine AK (AB (AA (decide_eq_true (by show ((L1.length:Int)+1) * 1≤1099511627776∧(L1.length:Int)+1≤1099511627776; omega)) (AB (AA (rowsB_app1 L1 _) (An fun e5 h5=>AA (byOk_of (e:=e5) (n:=((L1.length:Int)+1).toNat) (by rw [h5]; rfl) (by omega)) ?_)))))
    rw [b4N_eq (e:=e5) (l:=L1++[s.prom.who]) (n:=IntKind.u64.wrap s.acc.n) (by rw [h5]; exact byL_app L1 _) (by rw [h5]; rfl)]
    clear h5
    have l2:((L1++[s.prom.who]++be4 (IntKind.u64.wrap s.acc.n)).length:Int)=L1.length+5:=by rw [List.length_append,List.length_append,be4_len]; simp only [List.length_cons,List.length_nil]; omega
    generalize hL2:L1++[s.prom.who]++be4 (IntKind.u64.wrap s.acc.n)=L2 at l2
    refine AK (AB (AA (decide_eq_true (by show ((L2.length:Int)+1) * 1≤1099511627776∧(L2.length:Int)+1≤1099511627776; omega)) (AA (rowsB_app1 L2 _) (An fun e8 h8=>AA (byOk_of (e:=e8) (n:=((L2.length:Int)+1).toNat) (by rw [h8]; rfl) (by omega)) ?_))))
    rw [biN_eq (e:=e8) (l:=L2++[s.acc.who]) (x:=s.ainc) (by rw [h8]; exact byL_app L2 _) (by rw [h8]; rfl)]
    clear h8
    have e3:L2++[s.acc.who]++inc3 s.ainc=bodyL s:=by
      rw [← hL2,← hL1,← hL]
      unfold bodyL balB
      simp only [List.append_assoc]
    have l3:((L2++[s.acc.who]++inc3 s.ainc).length:Int)=L2.length+4:=by unfold inc3; simp only [List.length_append,List.length_cons,List.length_nil]; omega
    rw [e3] at l3 ⊢
    refine AK (AB (AA (AN _ _ _) (An fun e11 h11=>AA (byOk_of (e:=e11) (n:=(bodyL s).length) (by rw [h11]; rfl) (by omega)) ?_)))
    have b11:byL e11=bodyL s:=by rw [h11]; exact lstI_nums _
    rw [b11]
    clear h11 b11
    refine AB (AA (AN _ _ _) (An fun e13 h13=>AA (byOk_of (e:=e13) (n:=(bodyL s).length) (by rw [h13]; rfl) (by omega)) ?_))
    rw [b8N_eq (e:=e13) (l:=bodyL s) (n:=sumF (bodyL s)) (by rw [h13]; exact lstI_nums _) (by rw [h13]; rfl)]
    clear h13
    refine AK (AB (AA (AS _) (AA (AZ rfl _ _) (AA (AN _ _ _) (AE fun _=>?_)))))
    refine ⟨⟨trivial,trivial⟩,?_,rfl,trivial,?_,⟨rfl,fun i _=>AF rfl _ i⟩,trivial,?_,⟨rfl,fun i _=>AF rfl _ i⟩,trivial,trivial⟩
    · exact clP
    · exact clP
    · exact clP
set_option maxHeartbeats 2000000 in
theorem sv_loop1 (hd : Dat) (s : Al) (p : BA) (hg : HGood s.incs) : HT Tryz.prog Tryz.f16.ntmps 12 (.loop xSv) 21 (svL1.tm ⟨[[], [], [.i (2)]], mn1 hd s p ++ byN (headL s ++ incB (s.incs.take 0))⟩) (svL1.heap ⟨[[], [], [.i (2)]], mn1 hd s p ++ byN (headL s ++ incB (s.incs.take 0))⟩) (QX ⟨none, [(0, svL1)], none⟩ fun ex e => match ex with
    | .exit _=>svL1.eqv e ⟨[[],[],[.i ((s.incs.length:Int)+2)]],mn1 hd s p++byN (headL s++incB s.incs)⟩
    | _=>True):=by
  have hl:=hg.1
  refine HT.loopX tbTab Ay (n:=300) inSvx svL1 _ _ (fun j:Nat=>⟨[[],[],[.i ((j:Int)+2)]],mn1 hd s p++byN (headL s++incB (s.incs.take j))⟩) (fun j=>j≤s.incs.length) (fun j=>s.incs.length - j) (fun _ ex e=>match ex with
    | .exit _=>svL1.eqv e ⟨[[],[],[.i ((s.incs.length:Int)+2)]],mn1 hd s p++byN (headL s++incB s.incs)⟩
    | _=>True) (by decide) ?_ 0 (Nat.zero_le _)
  intro j hj τ0
  have hlen:((headL s++incB (s.incs.take j)).length:Int)≤1000:=by
    rw [List.length_append,incB_length,List.length_take]
    show ((2+3 * min j s.incs.length:Nat):Int)≤1000
    omega
  refine BG [none,some true] (AL (sv_x1 hd s p (headL s++incB (s.incs.take j)) ((j:Int)+2) τ0) (AA (AS _) (AK (AB (AG (fun h=>?_) (fun h=>?_))))))
  · have h:(j:Int)+2≤(s.incs.length:Int)+1:=of_decide_eq_true h
    have hlt:j<s.incs.length:=by omega
    have hI:hasI s.incs ((j:Int)+2)=true:=by
      unfold hasI
      rw [decide_eq_true (by omega),decide_eq_true (by omega)]
      rfl
    have hz:((j:Int)+2 - 2).toNat=j:=by omega
    have hx:(⟨incK s.incs ((j:Int)+2),incO s.incs ((j:Int)+2),incZ s.incs ((j:Int)+2)⟩:Inc)=s.incs.getD j .zero:=by
      unfold incK incO incZ
      rw [hz]
    refine AA (AS _) (AK (AA hI ?_))
    repeat' with_reducible (first | refine AB ?_ | refine AM ?_)
    refine AA (AN _ _ _) (An fun e6 h6=>AA (byOk_of (e:=e6) (n:=(headL s++incB (s.incs.take j)).length) (by rw [h6]; rfl) (by omega)) ?_)
    have n6:biN e6=⟨[],byN ((headL s++incB (s.incs.take j))++inc3 (s.incs.getD j .zero))⟩:=biN_eq (by rw [h6]; exact lstI_rowI _) (by rw [h6]; exact hx)
    rw [n6,List.append_assoc,← incB_take s.incs hlt]
    clear n6 h6
    refine AK ?_
    repeat' with_reducible (first | refine AB ?_ | refine AM ?_)
    refine (AA (AS _) (AA (AZ rfl _ _) (AA (AN _ _ _) (AA (AN _ _ _) (AA (AN _ _ _) (AE ⟨j+1,hlt,by omega,?_,fun _ _ h=>h⟩))))))
    have e1:IntKind.u32.wrap ((j:Int)+2+1)=((j+1:Nat):Int)+2:=by
      rw [show ((j+1:Nat):Int)+2=(j:Int)+2+1 by omega]
      exact IntWalk.u32_in _ (by omega)
    refine ⟨⟨trivial,trivial,e1,trivial⟩,?_,rfl,trivial,?_,⟨rfl,fun i _=>AF rfl _ i⟩,trivial,?_,?_,⟨rfl,fun i _=>AJ [.i .u8] (AR p.hp i)⟩,⟨rfl,fun i _=>AJ [.i .u8] (AR p.ha i)⟩,trivial,trivial,⟨rfl,fun i _=>AF rfl _ i⟩,trivial,trivial⟩
    · exact clP
    · exact clP
    · exact clP
    · exact clP
  · have h:¬ (j:Int)+2≤(s.incs.length:Int)+1:=of_decide_eq_false h
    have:j=s.incs.length:=by omega
    subst this
    rw [List.take_length]
    refine (AA (AS _) (AA (AZ rfl _ _) (AA (AN _ _ _) (AA (AN _ _ _) (AA (AN _ _ _) (AE ?_))))))
    refine ⟨⟨trivial,trivial,rfl,trivial⟩,?_,rfl,trivial,?_,⟨rfl,fun i _=>AF rfl _ i⟩,trivial,?_,?_,⟨rfl,fun i _=>AJ [.i .u8] (AR p.hp i)⟩,⟨rfl,fun i _=>AJ [.i .u8] (AR p.ha i)⟩,trivial,trivial,⟨rfl,fun i _=>AJ [.i .u8] (AR _ i)⟩,trivial,trivial⟩
    · exact clP
    · exact clP
    · exact clP
    · exact clP
set_option maxHeartbeats 2000000 in
theorem sv_std1 (hd:Dat) (s:Al) (p:BA) (hg:HGood s.incs):BI Tryz.prog 16 svT1 ⟨[[]],mn1 hd s p⟩ svR1 ⟨[[.u]],mn1 hd s p++byN (saveL s)⟩:=by
  have hl:=hg.1
  refine stdX_loop tbTab Ay (n:=300) Tryz.func16 bodySv_eq 3 (L:=svL1) (E:=svL1) (en0:=⟨[[],[],[.i (2)]],mn1 hd s p++byN (headL s++incB (s.incs.take 0))⟩) rfl rfl (by kernel_rfl) rfl rfl lpSv (by decide) (by decide) (by decide)
    (fun τ0=>AL (sv_p1 hd s p τ0) (AA (AS _) (AK (AB (AB (AA (AS _) (AA (AZ rfl _ _) (AA (AN _ _ _) (AA (AN _ _ _) (AE (.inl ⟨rfl,?_⟩)))))))))))
    (HT.mono (sv_loop1 hd s p hg) fun _ _ _ _ q=>qx_ret q) (fun en he=>⟨⟨[[],[],[.i ((s.incs.length:Int)+2)]],mn1 hd s p++byN (headL s++incB s.incs)⟩,he,fun τ0=>AL (sv_t1 hd s p (headL s++incB s.incs) ((s.incs.length:Int)+2) τ0) ?_⟩) (fun en he=>he.elim)
  · have e1 : IntKind.u8.wrap (BK s.incs) = BK s.incs := by
      unfold BK
      exact IntWalk.u8_in _ (by omega)
    refine ⟨⟨trivial,trivial,rfl,trivial⟩,?_,rfl,trivial,?_,⟨rfl,fun i _=>AF rfl _ i⟩,trivial,?_,?_,⟨rfl,fun i _=>AJ [.i .u8] (AR p.hp i)⟩,⟨rfl,fun i _=>AJ [.i .u8] (AR p.ha i)⟩,trivial,trivial,⟨rfl,fun i hi=>?_⟩,trivial,trivial⟩
    · exact clP
    · exact clP
    · exact clP
    · exact clP
    · have hi:(i:Int)<2:=hi
      have hj:i=0∨i=1:=by omega
      rcases hj with rfl | rfl
      · exact ⟨rfl,trivial⟩
      · exact ⟨e1,trivial⟩
  · have hlen : ((headL s ++ incB s.incs).length : Int) ≤ 1000 := by
      rw [List.length_append,incB_length]
      show ((2+3 * s.incs.length:Nat):Int)≤1000
      omega
    generalize hL:headL s++incB s.incs=L at hlen
    refine AB (AA (AN _ _ _) (An fun e1 h1=>AA (byOk_of (e:=e1) (n:=L.length) (by rw [h1]; rfl) (by omega)) ?_))
    rw [b4N_eq (e:=e1) (l:=L) (n:=IntKind.u64.wrap s.prom.n) (by rw [h1]; exact lstI_rowI _) (by rw [h1]; rfl)]
    clear h1
    have l1:((L++be4 (IntKind.u64.wrap s.prom.n)).length:Int)=L.length+4:=by rw [List.length_append,be4_len]; omega
    generalize hL1:L++be4 (IntKind.u64.wrap s.prom.n)=L1 at l1
    refine AK (AB (AA (decide_eq_true (by show ((L1.length:Int)+1) * 1≤1099511627776∧(L1.length:Int)+1≤1099511627776; omega)) (AB (AA (rowsB_app1 L1 _) (An fun e5 h5=>AA (byOk_of (e:=e5) (n:=((L1.length:Int)+1).toNat) (by rw [h5]; rfl) (by omega)) ?_)))))
    rw [b4N_eq (e:=e5) (l:=L1++[s.prom.who]) (n:=IntKind.u64.wrap s.acc.n) (by rw [h5]; exact byL_app L1 _) (by rw [h5]; rfl)]
    clear h5
    have l2:((L1++[s.prom.who]++be4 (IntKind.u64.wrap s.acc.n)).length:Int)=L1.length+5:=by rw [List.length_append,List.length_append,be4_len]; simp only [List.length_cons,List.length_nil]; omega
    generalize hL2:L1++[s.prom.who]++be4 (IntKind.u64.wrap s.acc.n)=L2 at l2
    refine AK (AB (AA (decide_eq_true (by show ((L2.length:Int)+1) * 1≤1099511627776∧(L2.length:Int)+1≤1099511627776; omega)) (AA (rowsB_app1 L2 _) (An fun e8 h8=>AA (byOk_of (e:=e8) (n:=((L2.length:Int)+1).toNat) (by rw [h8]; rfl) (by omega)) ?_))))
    rw [biN_eq (e:=e8) (l:=L2++[s.acc.who]) (x:=s.ainc) (by rw [h8]; exact byL_app L2 _) (by rw [h8]; rfl)]
    clear h8
    have e3:L2++[s.acc.who]++inc3 s.ainc=bodyL s:=by
      rw [← hL2,← hL1,← hL]
      unfold bodyL balB
      simp only [List.append_assoc]
    have l3:((L2++[s.acc.who]++inc3 s.ainc).length:Int)=L2.length+4:=by unfold inc3; simp only [List.length_append,List.length_cons,List.length_nil]; omega
    rw [e3] at l3 ⊢
    refine AK (AB (AA (AN _ _ _) (An fun e11 h11=>AA (byOk_of (e:=e11) (n:=(bodyL s).length) (by rw [h11]; rfl) (by omega)) ?_)))
    have b11:byL e11=bodyL s:=by rw [h11]; exact lstI_nums _
    rw [b11]
    clear h11 b11
    refine AB (AA (AN _ _ _) (An fun e13 h13=>AA (byOk_of (e:=e13) (n:=(bodyL s).length) (by rw [h13]; rfl) (by omega)) ?_))
    rw [b8N_eq (e:=e13) (l:=bodyL s) (n:=sumF (bodyL s)) (by rw [h13]; exact lstI_nums _) (by rw [h13]; rfl)]
    clear h13
    refine AK (AB (AA (AS _) (AA (AZ rfl _ _) (AA (AN _ _ _) (AA (AN _ _ _) (AA (AN _ _ _) (AE fun _=>?_)))))))
    refine ⟨⟨trivial,trivial⟩,?_,rfl,trivial,?_,⟨rfl,fun i _=>AF rfl _ i⟩,trivial,?_,?_,⟨rfl,fun i _=>AJ [.i .u8] (AR p.hp i)⟩,⟨rfl,fun i _=>AJ [.i .u8] (AR p.ha i)⟩,trivial,trivial,⟨rfl,fun i _=>AF rfl _ i⟩,trivial,trivial⟩
    · exact clP
    · exact clP
    · exact clP
    · exact clP
end Go.Proofs.YtddmgdclmkgpeaaGreat
set_option linter.unusedSimpArgs false
set_option linter.unusedVariables false
namespace Go.Proofs.YtddmgdclmkgpeaaGreat
open Go.Eng Go.RowKit Go.ChangeShapes Go.WideShapes
set_option maxRecDepth 100000
def soR0:TS:=⟨[],[.one (.sl 10)],[(0,.ob 2 MonR 40),(40,.tok),(10,.lst none [.i .u8] (some 11)),(11,.tok)],41⟩
def soR1:TS:=⟨[],[.one (.sl 19)],[(0,.ob 2 MonR 40),(40,.tok),(19,.lst none [.i .u8] (some 20)),(20,.tok)],41⟩
def svN (e:EN):EN:=⟨[],byN (saveL (e.dt 0))⟩
end Go.Proofs.YtddmgdclmkgpeaaGreat
