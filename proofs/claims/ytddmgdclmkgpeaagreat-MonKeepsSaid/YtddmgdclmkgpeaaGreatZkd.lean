/- Texts of this claim, laid together (part 4).
   Conditions: none. -/
import Derived.Test.YtddmgdclmkgpeaaGreatZkc
set_option linter.unusedSimpArgs false
set_option linter.unusedVariables false
set_option linter.unusedSimpArgs false
set_option linter.unusedVariables false
namespace Go.Proofs.YtddmgdclmkgpeaaGreat
open Go.Eng Go.RowKit Go.ChangeShapes Go.WideShapes
set_option maxRecDepth 100000
def rMap:List TV:=[.i .u32,.b,.i .i64,.i .u8,.b,.i .i64,.i .u8,.b,.i .i64,.i .u8,.b,.i .i64,.i .u8,.b,.i .i64,.i .u8]
def mapN (ep:Int) (u:Nat→Bool) (w h:Nat→Int):List Num:=[.i ep,.b (u 0),.i (w 0),.i (h 0),.b (u 1),.i (w 1),.i (h 1),.b (u 2),.i (w 2),.i (h 2),.b (u 3),.i (w 3),.i (h 3),.b (u 4),.i (w 4),.i (h 4)]
def mapT:TS:=⟨[],[.agg rMap],[],0⟩
def intsR:TS:=⟨[],[.one (.sl 0)],[(0,.lst none [.i .i64] (some 1)),(1,.tok)],2⟩
def inF (w:Nat→Int):List Int:=(bif decide (w 0>0) then [0] else [])++((bif decide (w 1>0) then [1] else [])++((bif decide (w 2>0) then [2] else [])++((bif decide (w 3>0) then [3] else [])++((bif decide (w 4>0) then [4] else [])))))
theorem in_t (ep:Int) (u:Nat→Bool) (w h:Nat→Int):BR Tryz.prog (Am Tryz.prog noTab 300) 196 (mapT.vals ⟨[mapN ep u w h],[]⟩) (mapT.heap ⟨[mapN ep u w h],[]⟩) 0 (outV 0 intsR) =
  .ite (decide (w 0>0)) (.ite (decide (w 1>0)) (.ite (decide (w 2>0)) (.ite (decide (w 3>0)) (.ite (decide (w 4>0)) (.leaf ⟨[[.u]],[.lst 5 (AH [.i .i64] (AP (.lit 4) (AP (.lit 3) (AP (.lit 2)
  (AP (.lit 1) (AP (.lit 0) (fun (x:Nat)=>[]) (Aa 1 [.int .i64 (.lit 0)])) (Aa 1 [.int .i64 (.lit 1)])) (Aa 1 [.int .i64 (.lit 2)])) (Aa 1 [.int .i64 (.lit 3)])) (Aa 1 [.int .i64 (.lit 4)]))),
  .tok]⟩) (.leaf ⟨[[.u]],[.lst 4 (AH [.i .i64] (AP (.lit 3) (AP (.lit 2) (AP (.lit 1) (AP (.lit 0) (fun (x:Nat)=>[]) (Aa 1 [.int .i64 (.lit 0)])) (Aa 1 [.int .i64 (.lit 1)])) (Aa 1
  [.int .i64 (.lit 2)])) (Aa 1 [.int .i64 (.lit 3)]))),.tok]⟩)) (.ite (decide (w 4>0)) (.leaf ⟨[[.u]],[.lst 4 (AH [.i .i64] (AP (.lit 3) (AP (.lit 2) (AP (.lit 1) (AP (.lit 0) (fun (x:Nat)
  => []) (Aa 1 [.int .i64 (.lit 0)])) (Aa 1 [.int .i64 (.lit 1)])) (Aa 1 [.int .i64 (.lit 2)])) (Aa 1 [.int .i64 (.lit 4)]))),.tok]⟩) (.leaf ⟨[[.u]],[.lst 3 (AH [.i .i64] (AP (.lit 2) (AP (.lit
  1) (AP (.lit 0) (fun (x:Nat)=>[]) (Aa 1 [.int .i64 (.lit 0)])) (Aa 1 [.int .i64 (.lit 1)])) (Aa 1 [.int .i64 (.lit 2)]))),.tok]⟩))) (.ite (decide (w 3>0)) (.ite (decide (w 4>0)) (.leaf ⟨[[.u]],
  [.lst 4 (AH [.i .i64] (AP (.lit 3) (AP (.lit 2) (AP (.lit 1) (AP (.lit 0) (fun (x:Nat)=>[]) (Aa 1 [.int .i64 (.lit 0)])) (Aa 1 [.int .i64 (.lit 1)])) (Aa 1 [.int .i64 (.lit 3)]))
  (Aa 1 [.int .i64 (.lit 4)]))),.tok]⟩) (.leaf ⟨[[.u]],[.lst 3 (AH [.i .i64] (AP (.lit 2) (AP (.lit 1) (AP (.lit 0) (fun (x:Nat)=>[]) (Aa 1 [.int .i64 (.lit 0)])) (Aa 1 [.int .i64 (.lit
  1)])) (Aa 1 [.int .i64 (.lit 3)]))),.tok]⟩)) (.ite (decide (w 4>0)) (.leaf ⟨[[.u]],[.lst 3 (AH [.i .i64] (AP (.lit 2) (AP (.lit 1) (AP (.lit 0) (fun (x:Nat)=>[]) (Aa 1 [.int .i64 (.lit
  0)])) (Aa 1 [.int .i64 (.lit 1)])) (Aa 1 [.int .i64 (.lit 4)]))),.tok]⟩) (.leaf ⟨[[.u]],[.lst 2 (AH [.i .i64] (AP (.lit 1) (AP (.lit 0) (fun (x:Nat)=>[]) (Aa 1 [.int .i64 (.lit 0)])) (Aa
  1 [.int .i64 (.lit 1)]))),.tok]⟩)))) (.ite (decide (w 2>0)) (.ite (decide (w 3>0)) (.ite (decide (w 4>0)) (.leaf ⟨[[.u]],[.lst 4 (AH [.i .i64] (AP (.lit 3) (AP (.lit 2) (AP (.lit 1) (AP
  (.lit 0) (fun (x:Nat)=>[]) (Aa 1 [.int .i64 (.lit 0)])) (Aa 1 [.int .i64 (.lit 2)])) (Aa 1 [.int .i64 (.lit 3)])) (Aa 1 [.int .i64 (.lit 4)]))),.tok]⟩) (.leaf ⟨[[.u]],[.lst 3 (AH [.i .i64] (AP
  (.lit 2) (AP (.lit 1) (AP (.lit 0) (fun (x:Nat)=>[]) (Aa 1 [.int .i64 (.lit 0)])) (Aa 1 [.int .i64 (.lit 2)])) (Aa 1 [.int .i64 (.lit 3)]))),.tok]⟩)) (.ite (decide (w 4>0)) (.leaf ⟨[[.u]],[.lst
  3 (AH [.i .i64] (AP (.lit 2) (AP (.lit 1) (AP (.lit 0) (fun (x:Nat)=>[]) (Aa 1 [.int .i64 (.lit 0)])) (Aa 1 [.int .i64 (.lit 2)])) (Aa 1 [.int .i64 (.lit 4)]))),.tok]⟩) (.leaf ⟨[[.u]],
  [.lst 2 (AH [.i .i64] (AP (.lit 1) (AP (.lit 0) (fun (x:Nat)=>[]) (Aa 1 [.int .i64 (.lit 0)])) (Aa 1 [.int .i64 (.lit 2)]))),.tok]⟩))) (.ite (decide (w 3>0)) (.ite (decide (w 4>0)) (.leaf
  ⟨[[.u]],[.lst 3 (AH [.i .i64] (AP (.lit 2) (AP (.lit 1) (AP (.lit 0) (fun (x:Nat)=>[]) (Aa 1 [.int .i64 (.lit 0)])) (Aa 1 [.int .i64 (.lit 3)])) (Aa 1 [.int .i64 (.lit 4)]))),.tok]⟩)
  (.leaf ⟨[[.u]],[.lst 2 (AH [.i .i64] (AP (.lit 1) (AP (.lit 0) (fun (x:Nat)=>[]) (Aa 1 [.int .i64 (.lit 0)])) (Aa 1 [.int .i64 (.lit 3)]))),.tok]⟩)) (.ite (decide (w 4>0)) (.leaf ⟨[[.u]],
  [.lst 2 (AH [.i .i64] (AP (.lit 1) (AP (.lit 0) (fun (x:Nat)=>[]) (Aa 1 [.int .i64 (.lit 0)])) (Aa 1 [.int .i64 (.lit 4)]))),.tok]⟩) (.leaf ⟨[[.u]],[.lst 1 (AH [.i .i64] (AP (.lit 0)
  (fun (x:Nat)=>[]) (Aa 1 [.int .i64 (.lit 0)]))),.tok]⟩))))) (.ite (decide (w 1>0)) (.ite (decide (w 2>0)) (.ite (decide (w 3>0)) (.ite (decide (w 4>0)) (.leaf ⟨[[.u]],[.lst 4 (AH [.i .i64] (AP
  (.lit 3) (AP (.lit 2) (AP (.lit 1) (AP (.lit 0) (fun (x:Nat)=>[]) (Aa 1 [.int .i64 (.lit 1)])) (Aa 1 [.int .i64 (.lit 2)])) (Aa 1 [.int .i64 (.lit 3)])) (Aa 1 [.int .i64 (.lit 4)]))),
  .tok]⟩) (.leaf ⟨[[.u]],[.lst 3 (AH [.i .i64] (AP (.lit 2) (AP (.lit 1) (AP (.lit 0) (fun (x:Nat)=>[]) (Aa 1 [.int .i64 (.lit 1)])) (Aa 1 [.int .i64 (.lit 2)])) (Aa 1 [.int .i64 (.lit
  3)]))),.tok]⟩)) (.ite (decide (w 4>0)) (.leaf ⟨[[.u]],[.lst 3 (AH [.i .i64] (AP (.lit 2) (AP (.lit 1) (AP (.lit 0) (fun (x:Nat)=>[]) (Aa 1 [.int .i64 (.lit 1)])) (Aa 1 [.int .i64 (.lit
  2)])) (Aa 1 [.int .i64 (.lit 4)]))),.tok]⟩) (.leaf ⟨[[.u]],[.lst 2 (AH [.i .i64] (AP (.lit 1) (AP (.lit 0) (fun (x:Nat)=>[]) (Aa 1 [.int .i64 (.lit 1)])) (Aa 1 [.int .i64 (.lit 2)]))),
  .tok]⟩))) (.ite (decide (w 3>0)) (.ite (decide (w 4>0)) (.leaf ⟨[[.u]],[.lst 3 (AH [.i .i64] (AP (.lit 2) (AP (.lit 1) (AP (.lit 0) (fun (x:Nat)=>[]) (Aa 1 [.int .i64 (.lit 1)])) (Aa 1
  [.int .i64 (.lit 3)])) (Aa 1 [.int .i64 (.lit 4)]))),.tok]⟩) (.leaf ⟨[[.u]],[.lst 2 (AH [.i .i64] (AP (.lit 1) (AP (.lit 0) (fun (x:Nat)=>[]) (Aa 1 [.int .i64 (.lit 1)])) (Aa 1 [.int .i64
  (.lit 3)]))),.tok]⟩)) (.ite (decide (w 4>0)) (.leaf ⟨[[.u]],[.lst 2 (AH [.i .i64] (AP (.lit 1) (AP (.lit 0) (fun (x:Nat)=>[]) (Aa 1 [.int .i64 (.lit 1)])) (Aa 1 [.int .i64 (.lit 4)]))),
  .tok]⟩) (.leaf ⟨[[.u]],[.lst 1 (AH [.i .i64] (AP (.lit 0) (fun (x:Nat)=>[]) (Aa 1 [.int .i64 (.lit 1)]))),.tok]⟩)))) (.ite (decide (w 2>0)) (.ite (decide (w 3>0)) (.ite (decide (w 4>0)) (.leaf
  ⟨[[.u]],[.lst 3 (AH [.i .i64] (AP (.lit 2) (AP (.lit 1) (AP (.lit 0) (fun (x:Nat)=>[]) (Aa 1 [.int .i64 (.lit 2)])) (Aa 1 [.int .i64 (.lit 3)])) (Aa 1 [.int .i64 (.lit 4)]))),.tok]⟩)
  (.leaf ⟨[[.u]],[.lst 2 (AH [.i .i64] (AP (.lit 1) (AP (.lit 0) (fun (x:Nat)=>[]) (Aa 1 [.int .i64 (.lit 2)])) (Aa 1 [.int .i64 (.lit 3)]))),.tok]⟩)) (.ite (decide (w 4>0)) (.leaf ⟨[[.u]],
  [.lst 2 (AH [.i .i64] (AP (.lit 1) (AP (.lit 0) (fun (x:Nat)=>[]) (Aa 1 [.int .i64 (.lit 2)])) (Aa 1 [.int .i64 (.lit 4)]))),.tok]⟩) (.leaf ⟨[[.u]],[.lst 1 (AH [.i .i64] (AP (.lit 0)
  (fun (x:Nat)=>[]) (Aa 1 [.int .i64 (.lit 2)]))),.tok]⟩))) (.ite (decide (w 3>0)) (.ite (decide (w 4>0)) (.leaf ⟨[[.u]],[.lst 2 (AH [.i .i64] (AP (.lit 1) (AP (.lit 0) (fun (x:Nat)=>[])
  (Aa 1 [.int .i64 (.lit 3)])) (Aa 1 [.int .i64 (.lit 4)]))),.tok]⟩) (.leaf ⟨[[.u]],[.lst 1 (AH [.i .i64] (AP (.lit 0) (fun (x:Nat)=>[]) (Aa 1 [.int .i64 (.lit 3)]))),.tok]⟩)) (.ite (decide (w 4 >
  0)) (.leaf ⟨[[.u]],[.lst 1 (AH [.i .i64] (AP (.lit 0) (fun (x:Nat)=>[]) (Aa 1 [.int .i64 (.lit 4)]))),.tok]⟩) (.leaf ⟨[[.u]],[.lst 0 fun (x:Nat)=>[],.tok]⟩))))):=by kernel_rfl
def Av (e:EN) (j o:Nat) (i:Nat):Int:=e.ai j (o+(2+3 * i))
def Ag (e:EN) (j o:Nat) (i:Nat):Bool:=e.ab j (o+(1+3 * i))
def BF (e:EN) (j o:Nat) (i:Nat):Int:=e.ai j (o+(3+3 * i))
def cIn (e:EN):Ah (TS×EN):=.leaf (intsR,⟨[[]],[.lst (inF (Av e 0 0)).length (AR (inF (Av e 0 0))),.tok]⟩)
noncomputable def inSm:List (FuncId×Summ):=[(196,AW mapT cIn)]
theorem rowsL (l:List Int) (r:Nat→List Num) (h:AllN (fun i=>(hdN (r i)).I=l.getD i 0) l.length):∀ i:Nat,(i:Int)<(l.length:Int)→eqvL [.i .i64] (r i) (AR l i):=fun i hi=>⟨allN_of h i hi,trivial⟩
set_option maxHeartbeats 4000000 in
theorem in_std (ep:Int) (u:Nat→Bool) (w h:Nat→Int):BI Tryz.prog 196 mapT ⟨[mapN ep u w h],[]⟩ intsR ⟨[[]],[.lst (inF w).length (AR (inF w)),.tok]⟩:=by
  refine Aj (Ao _) Ay rfl (AL (in_t ep u w h) ?_)
  repeat' with_reducible (refine AG (fun _=>?_) (fun _=>?_))
  all_goals refine AE ⟨⟨trivial,trivial⟩,?_⟩
  all_goals simp only [inF, *,cond_true,cond_false,List.nil_append,List.cons_append,List.append_nil]
  all_goals refine ⟨⟨rfl,rowsL _ _ ?_⟩,trivial,trivial⟩
  all_goals (repeat' (first | exact trivial | exact rfl | apply And.intro))
theorem cIn_ok:Ak Tryz.prog 196 (AW mapT cIn):=BN fun e r h=>by
  cases h
  refine BI.pre (x':=⟨[mapN (e.ai 0 0) (Ag e 0 0) (Av e 0 0) (BF e 0 0)],[]⟩) ?_ (in_std _ _ _ _)
  (repeat' (first | exact trivial | exact rfl | exact TS.eqv_refl _ _ | exact AY _ _ | exact AQ | exact fun _ _=>AJ _ _ | exact fun i _=>AF rfl _ i | apply And.intro))
end Go.Proofs.YtddmgdclmkgpeaaGreat
set_option linter.unusedSimpArgs false
set_option linter.unusedVariables false
namespace Go.Proofs.YtddmgdclmkgpeaaGreat
open Go.Eng Go.RowKit Go.ChangeShapes Go.WideShapes
set_option maxRecDepth 100000
noncomputable def peSm:List (FuncId×Summ):=[(204,AW bestT cBest)]++pdSm
noncomputable def peT:Tab:=smTab (tabOf peSm)
noncomputable def drawL (g t:Int) (w:Nat→Int) (l:List Int):List Int:=l.map fun o=>drawS g o t (w o.toNat)
noncomputable def pickO (g t:Int) (w:Nat→Int) (l:List Int):Int:=l.getD (bestS (drawL g t w l)).toNat 0
theorem peSm_ok:AllOk Tryz.prog peSm:=⟨cBest_ok,pdSm_ok⟩
theorem peTab:TabAll Tryz.prog peT:=tab_ok peSm_ok
noncomputable def bodyDr:Code:=Tryz.f201.body.getD .skip
noncomputable def xDr:Code:=lp ((flat bodyDr).getD 3 .skip)
theorem bodyDr_eq:Tryz.f201.body=some bodyDr:=by kernel_rfl
theorem inDr:BT Tryz.prog 201 Tryz.f201.ntmps bodyDr:=within_body Tryz.func201 bodyDr_eq
theorem lpDr:(flat bodyDr).drop 3=[.block 0 (.loop xDr)]++(flat bodyDr).drop 4:=by kernel_rfl
theorem inDrx:BT Tryz.prog 201 Tryz.f201.ntmps xDr:=by
  have h:(flat bodyDr)[3]? = some (.block 0 (.loop xDr)):=by kernel_rfl
  exact within_loop (within_block (within_at inDr 3 h))
def ch0:List TV:=[.i .u32,.b,.i .i64,.i .u8,.b,.i .i64,.i .u8,.b,.i .i64,.i .u8,.b,.i .i64,.i .u8,.b,.i .i64,.i .u8,.i .u8,.sl 1,.nils]
def chP0:List (Nat×TO):=[(0,.box ch0),(1,.lst none [.i .i64] none)]
def dr0T:TS:=⟨[],[.one (.ptr 0 0),.one (.i .i64)],chP0,2⟩
def dr0L:TS:=⟨[0,1,5,11,12,13],[.one (.ptr 0 0),.one (.i .i64),.one (.sl 2),.one (.sl 1),.one (.i .i64),.one (.i .i64)],chP0++[(2,.lst none [.i .i64] (some 3)),(3,.tok)],4⟩
def dr0E:TS:=⟨[0,5],[.one (.ptr 0 0),.one (.sl 2)],chP0++[(2,.lst none [.i .i64] (some 3)),(3,.tok)],4⟩
def dr0R:TS:=⟨[4],[.one (.i .i64)],[(0,.box ch0)],2⟩
def ch0N (ep:Int) (u:Nat→Bool) (w h:Nat→Int) (g:Int) (l p:List Int):List ON:=[.box (mapN ep u w h++[.i g,.u,.u]),.lst l.length (AR l)]
def dr0X (ep:Int) (u:Nat→Bool) (w h:Nat→Int) (g:Int) (l p:List Int) (t:Int):EN:=⟨[[],[.i t]],ch0N ep u w h g l p⟩
def dr0Y (ep:Int) (u:Nat→Bool) (w h:Nat→Int) (g:Int) (l p:List Int) (t i:Int) (q:List Int):EN:=⟨[[],[.i t],[],[],[.i (l.length:Int)],[.i i]],ch0N ep u w h g l p++[.lst q.length (AR q),.tok]⟩
def dr0Z (ep:Int) (u:Nat→Bool) (w h:Nat→Int) (g:Int) (l p q:List Int):EN:=⟨[[],[]],ch0N ep u w h g l p++[.lst q.length (AR q),.tok]⟩
noncomputable abbrev qPe1 (v0:Int) (v1:Nat→Bool) (v2:Nat→Int) (v3:Nat→Int) (v4:Int):ON:=.box [.i v0,.b (v1 0),.i (v2 0),.i (v3 0),.b (v1 1),.i (v2 1),.i (v3 1),.b (v1 2),.i (v2 2),.i (v3 2),.b (v1 3),.i (v2 3),.i (v3 3),.b (v1 4),.i (v2 4),.i (v3 4),.i v4,.u,.u]
noncomputable abbrev qPe2 (v0:List Int) (v1:Int) (v2:List Int) (v3:Int) (v4:Int) (v5:Int) (v6:Nat→Bool) (v7:Nat→Int) (v8:Nat→Int) (v9:Int) (v10:List Int):Ah (Ex×EN):=.must (decide (((v0.length:Int)+1) * 8≤1099511627776∧(v0.length:Int)+1≤1099511627776)) (.defI (IntKind.i64.wrap (v1+1)) fun z10=>.must (AX [.i .i64] (AI [.i .i64] (AR v2)) v2.length) (.must (AX [.i .i64] (AP (.sym (v0.length:Int)) (AI [.i .i64] (AR v0)) (Aa 1 [.int .i64 (.sym v3)])) ((v0.length:Int)+1).toNat) (.leaf (.normal,⟨[[.u],[.i v4],[.u],[.u],[.i (v2.length:Int)],[.i z10]],[(qPe1 v5 v6 v7 v8 v9),.lst v2.length (AR v2),.lst 1 (AR v10),.lst ((v0.length:Int)+1).toNat (AH [.i .i64] (AP (.sym (v0.length:Int)) (AI [.i .i64] (AR v0)) (Aa 1 [.int .i64 (.sym v3)]))),.tok]⟩))))
noncomputable abbrev qPe3 (v0:List Int) (v1:Int) (v2:List Int) (v3:Int) (v4:Int) (v5:Int) (v6:Nat→Bool) (v7:Nat→Int) (v8:Nat→Int) (v9:Int) (v10:List Int):Ah (Ex×EN):=.must (decide (((v0.length:Int)+1) * 8≤1099511627776∧(v0.length:Int)+1≤1099511627776)) (.defI (IntKind.i64.wrap (v1+1)) fun z10=>.must (AX [.i .i64] (AI [.i .i64] (AR v2)) v2.length) (.must (AX [.i .i64] (AP (.sym (v0.length:Int)) (AI [.i .i64] (AR v0)) (Aa 1 [.int .i64 (.sym v3)])) ((v0.length:Int)+1).toNat) (.leaf (.normal,⟨[[.u],[.i v4],[.u],[.u],[.i (v2.length:Int)],[.i z10]],[(qPe1 v5 v6 v7 v8 v9),.lst v2.length (AR v2),.lst 2 (AR v10),.lst ((v0.length:Int)+1).toNat (AH [.i .i64] (AP (.sym (v0.length:Int)) (AI [.i .i64] (AR v0)) (Aa 1 [.int .i64 (.sym v3)]))),.tok]⟩))))
noncomputable abbrev qPe4 (v0:List Int) (v1:Int) (v2:List Int) (v3:Int) (v4:Int) (v5:Int) (v6:Nat→Bool) (v7:Nat→Int) (v8:Nat→Int) (v9:Int):Ah (Ex×EN):=.must (decide (((v0.length:Int)+1) * 8≤1099511627776∧(v0.length:Int)+1≤1099511627776)) (.defI (IntKind.i64.wrap (v1+1)) fun z10=>.must (AX [.i .i64] (AI [.i .i64] (AR v2)) v2.length) (.must (AX [.i .i64] (AP (.sym (v0.length:Int)) (AI [.i .i64] (AR v0)) (Aa 1 [.int .i64 (.sym v3)])) ((v0.length:Int)+1).toNat) (.leaf (.normal,⟨[[.u],[.i v4],[.u],[.u],[.i (v2.length:Int)],[.i z10]],[(qPe1 v5 v6 v7 v8 v9),.lst v2.length (AR v2),.lst ((v0.length:Int)+1).toNat (AH [.i .i64] (AP (.sym (v0.length:Int)) (AI [.i .i64] (AR v0)) (Aa 1 [.int .i64 (.sym v3)]))),.tok]⟩))))
noncomputable abbrev qPe5 (v0:List Int) (v1:List Int) (v2:Int) (v3:Nat→Bool) (v4:Nat→Int) (v5:Nat→Int) (v6:Int):Ah (Ex×EN):=.must (AX [.i .i64] (AI [.i .i64] (AR v0)) v0.length) (.defE ⟨[[.u]],[.lst v0.length (AR v0)]⟩ fun e0=>.must (decide (((e0.ln 0):Int)<1000000)) (.defI (bestS (Ax (e0.ln 0) (e0.rw 0))) fun z1=>.must (decide (0≤z1∧z1<(v1.length:Int))) (.must (decide (0≤z1∧z1<(v1.length:Int))) (.defI (v1.getD z1.toNat 0) fun z2=>.leaf (.ret,⟨[[.i z2]],[(qPe1 v2 v3 v4 v5 v6)]⟩)))))
theorem d0_pre (ep:Int) (u:Nat→Bool) (w h:Nat→Int) (g:Int) (l p:List Int) (t:Int) (τ0:Tm):Am Tryz.prog peT 300 201 Tryz.f201.ntmps (Eng.ofL ((flat bodyDr).take 3)) (argTm 0 (dr0T.vals (dr0X ep u w h g l p t))++τ0) (dr0T.heap (dr0X ep u w h g l p t)) 2 (outX 2 ⟨some dr0L,[],some dr0R⟩) =

  .must (AX [.i .i64] (AI [.i .i64] (AR l)) l.length) (.leaf (.normal,⟨[[.u],[.i t],[.u],[.u],[.i (l.length:Int)],[.i 0]],[(qPe1 ep u w h g),.lst l.length (AR l),.lst 0 fun (x:Nat)=>[],.tok]⟩)):=by kernel_rfl
theorem d0_x (ep:Int) (u:Nat→Bool) (w h:Nat→Int) (g:Int) (l p:List Int) (t:Int) (i:Int) (q:List Int) (τ0:Tm):Am Tryz.prog peT 300 201 Tryz.f201.ntmps xDr (dr0L.tm (dr0Y ep u w h g l p t i q)++τ0) (dr0L.heap (dr0Y ep u w h g l p t i q)) 4 (outX 2 ⟨some dr0L,[(0,dr0E)],some dr0R⟩) =

  .ite (decide (i<(l.length:Int))) (.must (decide (0≤i∧i<(l.length:Int))) (.must (decide (0≤i∧i<(l.length:Int))) (.defI (l.getD i.toNat 0) fun z0=>.ite (decide (z0=0)) (.defI (drawS g z0 t (w 0)) fun z1=>qPe4 q i l z1 t ep u w h g) (.ite (decide (z0=1)) (.defI (drawS g z0 t (w 1)) fun z3=>qPe4 q i l z3 t ep u w h g) (.ite (decide (z0=2)) (.defI (drawS g z0 t (w 2)) fun z5=>qPe4 q i l z5 t ep u w h g) (.ite (decide (z0=3)) (.defI (drawS g z0 t (w 3)) fun z7=>qPe4 q i l z7 t ep u w h g) (.ite (decide (z0=4)) (.defI (drawS g z0 t (w 4)) fun z9=>qPe4 q i l z9 t ep u w h g) (.must false (.fail "index"))))))))) (.must (AX [.i .i64] (AI [.i .i64] (AR l)) l.length) (.must (AX [.i .i64] (AI [.i .i64] (AR q)) q.length) (.leaf (.exit 0,⟨[[.u],[.u]],[(qPe1 ep u w h g),.lst l.length (AR l),.lst q.length (AR q),.tok]⟩)))):=by kernel_rfl
theorem d0_tail (ep:Int) (u:Nat→Bool) (w h:Nat→Int) (g:Int) (l p:List Int) (q:List Int) (τ0:Tm):Am Tryz.prog peT 300 201 Tryz.f201.ntmps (Eng.ofL ((flat bodyDr).drop 4)) (dr0E.tm (dr0Z ep u w h g l p q)++τ0) (dr0E.heap (dr0Z ep u w h g l p q)) 4 (outX 2 ⟨none,[],some dr0R⟩) =

  qPe5 q l ep u w h g:=by kernel_rfl
def ch1:List TV:=[.i .u32,.b,.i .i64,.i .u8,.b,.i .i64,.i .u8,.b,.i .i64,.i .u8,.b,.i .i64,.i .u8,.b,.i .i64,.i .u8,.i .u8,.sl 1,.sl 2]
def chP1:List (Nat×TO):=[(0,.box ch1),(1,.lst none [.i .i64] none),(2,.lst (some 1) [.i .i64] none)]
def dr1T:TS:=⟨[],[.one (.ptr 0 0),.one (.i .i64)],chP1,3⟩
def dr1L:TS:=⟨[0,1,5,11,12,13],[.one (.ptr 0 0),.one (.i .i64),.one (.sl 3),.one (.sl 1),.one (.i .i64),.one (.i .i64)],chP1++[(3,.lst none [.i .i64] (some 4)),(4,.tok)],5⟩
def dr1E:TS:=⟨[0,5],[.one (.ptr 0 0),.one (.sl 3)],chP1++[(3,.lst none [.i .i64] (some 4)),(4,.tok)],5⟩
def dr1R:TS:=⟨[4],[.one (.i .i64)],[(0,.box ch1)],3⟩
def ch1N (ep:Int) (u:Nat→Bool) (w h:Nat→Int) (g:Int) (l p:List Int):List ON:=[.box (mapN ep u w h++[.i g,.u,.u]),.lst l.length (AR l),.lst 1 (AR p)]
def dr1X (ep:Int) (u:Nat→Bool) (w h:Nat→Int) (g:Int) (l p:List Int) (t:Int):EN:=⟨[[],[.i t]],ch1N ep u w h g l p⟩
def dr1Y (ep:Int) (u:Nat→Bool) (w h:Nat→Int) (g:Int) (l p:List Int) (t i:Int) (q:List Int):EN:=⟨[[],[.i t],[],[],[.i (l.length:Int)],[.i i]],ch1N ep u w h g l p++[.lst q.length (AR q),.tok]⟩
def dr1Z (ep:Int) (u:Nat→Bool) (w h:Nat→Int) (g:Int) (l p q:List Int):EN:=⟨[[],[]],ch1N ep u w h g l p++[.lst q.length (AR q),.tok]⟩
theorem d1_pre (ep:Int) (u:Nat→Bool) (w h:Nat→Int) (g:Int) (l p:List Int) (t:Int) (τ0:Tm):Am Tryz.prog peT 300 201 Tryz.f201.ntmps (Eng.ofL ((flat bodyDr).take 3)) (argTm 0 (dr1T.vals (dr1X ep u w h g l p t))++τ0) (dr1T.heap (dr1X ep u w h g l p t)) 3 (outX 3 ⟨some dr1L,[],some dr1R⟩) =

  .must (AX [.i .i64] (AI [.i .i64] (AR l)) l.length) (.leaf (.normal,⟨[[.u],[.i t],[.u],[.u],[.i (l.length:Int)],[.i 0]],[(qPe1 ep u w h g),.lst l.length (AR l),.lst 1 (AR p),.lst 0 fun (x:Nat)=>[],.tok]⟩)):=by kernel_rfl
theorem d1_x (ep:Int) (u:Nat→Bool) (w h:Nat→Int) (g:Int) (l p:List Int) (t:Int) (i:Int) (q:List Int) (τ0:Tm):Am Tryz.prog peT 300 201 Tryz.f201.ntmps xDr (dr1L.tm (dr1Y ep u w h g l p t i q)++τ0) (dr1L.heap (dr1Y ep u w h g l p t i q)) 5 (outX 3 ⟨some dr1L,[(0,dr1E)],some dr1R⟩) =

  .ite (decide (i<(l.length:Int))) (.must (decide (0≤i∧i<(l.length:Int))) (.must (decide (0≤i∧i<(l.length:Int))) (.defI (l.getD i.toNat 0) fun z0=>.ite (decide (z0=0)) (.defI (drawS g z0 t (w 0)) fun z1=>qPe2 q i l z1 t ep u w h g p) (.ite (decide (z0=1)) (.defI (drawS g z0 t (w 1)) fun z3=>qPe2 q i l z3 t ep u w h g p) (.ite (decide (z0=2)) (.defI (drawS g z0 t (w 2)) fun z5=>qPe2 q i l z5 t ep u w h g p) (.ite (decide (z0=3)) (.defI (drawS g z0 t (w 3)) fun z7=>qPe2 q i l z7 t ep u w h g p) (.ite (decide (z0=4)) (.defI (drawS g z0 t (w 4)) fun z9=>qPe2 q i l z9 t ep u w h g p) (.must false (.fail "index"))))))))) (.must (AX [.i .i64] (AI [.i .i64] (AR l)) l.length) (.must (AX [.i .i64] (AI [.i .i64] (AR q)) q.length) (.leaf (.exit 0,⟨[[.u],[.u]],[(qPe1 ep u w h g),.lst l.length (AR l),.lst 1 (AR p),.lst q.length (AR q),.tok]⟩)))):=by kernel_rfl
theorem d1_tail (ep:Int) (u:Nat→Bool) (w h:Nat→Int) (g:Int) (l p:List Int) (q:List Int) (τ0:Tm):Am Tryz.prog peT 300 201 Tryz.f201.ntmps (Eng.ofL ((flat bodyDr).drop 4)) (dr1E.tm (dr1Z ep u w h g l p q)++τ0) (dr1E.heap (dr1Z ep u w h g l p q)) 5 (outX 3 ⟨none,[],some dr1R⟩) =

  qPe5 q l ep u w h g:=by kernel_rfl
def ch2:List TV:=[.i .u32,.b,.i .i64,.i .u8,.b,.i .i64,.i .u8,.b,.i .i64,.i .u8,.b,.i .i64,.i .u8,.b,.i .i64,.i .u8,.i .u8,.sl 1,.sl 2]
def chP2:List (Nat×TO):=[(0,.box ch2),(1,.lst none [.i .i64] none),(2,.lst (some 2) [.i .i64] none)]
def dr2T:TS:=⟨[],[.one (.ptr 0 0),.one (.i .i64)],chP2,3⟩
def dr2L:TS:=⟨[0,1,5,11,12,13],[.one (.ptr 0 0),.one (.i .i64),.one (.sl 3),.one (.sl 1),.one (.i .i64),.one (.i .i64)],chP2++[(3,.lst none [.i .i64] (some 4)),(4,.tok)],5⟩
def dr2E:TS:=⟨[0,5],[.one (.ptr 0 0),.one (.sl 3)],chP2++[(3,.lst none [.i .i64] (some 4)),(4,.tok)],5⟩
def dr2R:TS:=⟨[4],[.one (.i .i64)],[(0,.box ch2)],3⟩
def ch2N (ep:Int) (u:Nat→Bool) (w h:Nat→Int) (g:Int) (l p:List Int):List ON:=[.box (mapN ep u w h++[.i g,.u,.u]),.lst l.length (AR l),.lst 2 (AR p)]
def dr2X (ep:Int) (u:Nat→Bool) (w h:Nat→Int) (g:Int) (l p:List Int) (t:Int):EN:=⟨[[],[.i t]],ch2N ep u w h g l p⟩
def dr2Y (ep:Int) (u:Nat→Bool) (w h:Nat→Int) (g:Int) (l p:List Int) (t i:Int) (q:List Int):EN:=⟨[[],[.i t],[],[],[.i (l.length:Int)],[.i i]],ch2N ep u w h g l p++[.lst q.length (AR q),.tok]⟩
def dr2Z (ep:Int) (u:Nat→Bool) (w h:Nat→Int) (g:Int) (l p q:List Int):EN:=⟨[[],[]],ch2N ep u w h g l p++[.lst q.length (AR q),.tok]⟩
theorem d2_pre (ep:Int) (u:Nat→Bool) (w h:Nat→Int) (g:Int) (l p:List Int) (t:Int) (τ0:Tm):Am Tryz.prog peT 300 201 Tryz.f201.ntmps (Eng.ofL ((flat bodyDr).take 3)) (argTm 0 (dr2T.vals (dr2X ep u w h g l p t))++τ0) (dr2T.heap (dr2X ep u w h g l p t)) 3 (outX 3 ⟨some dr2L,[],some dr2R⟩) =

  .must (AX [.i .i64] (AI [.i .i64] (AR l)) l.length) (.leaf (.normal,⟨[[.u],[.i t],[.u],[.u],[.i (l.length:Int)],[.i 0]],[(qPe1 ep u w h g),.lst l.length (AR l),.lst 2 (AR p),.lst 0 fun (x:Nat)=>[],.tok]⟩)):=by kernel_rfl
theorem d2_x (ep:Int) (u:Nat→Bool) (w h:Nat→Int) (g:Int) (l p:List Int) (t:Int) (i:Int) (q:List Int) (τ0:Tm):Am Tryz.prog peT 300 201 Tryz.f201.ntmps xDr (dr2L.tm (dr2Y ep u w h g l p t i q)++τ0) (dr2L.heap (dr2Y ep u w h g l p t i q)) 5 (outX 3 ⟨some dr2L,[(0,dr2E)],some dr2R⟩) =

  .ite (decide (i<(l.length:Int))) (.must (decide (0≤i∧i<(l.length:Int))) (.must (decide (0≤i∧i<(l.length:Int))) (.defI (l.getD i.toNat 0) fun z0=>.ite (decide (z0=0)) (.defI (drawS g z0 t (w 0)) fun z1=>qPe3 q i l z1 t ep u w h g p) (.ite (decide (z0=1)) (.defI (drawS g z0 t (w 1)) fun z3=>qPe3 q i l z3 t ep u w h g p) (.ite (decide (z0=2)) (.defI (drawS g z0 t (w 2)) fun z5=>qPe3 q i l z5 t ep u w h g p) (.ite (decide (z0=3)) (.defI (drawS g z0 t (w 3)) fun z7=>qPe3 q i l z7 t ep u w h g p) (.ite (decide (z0=4)) (.defI (drawS g z0 t (w 4)) fun z9=>qPe3 q i l z9 t ep u w h g p) (.must false (.fail "index"))))))))) (.must (AX [.i .i64] (AI [.i .i64] (AR l)) l.length) (.must (AX [.i .i64] (AI [.i .i64] (AR q)) q.length) (.leaf (.exit 0,⟨[[.u],[.u]],[(qPe1 ep u w h g),.lst l.length (AR l),.lst 2 (AR p),.lst q.length (AR q),.tok]⟩)))):=by kernel_rfl
theorem d2_tail (ep:Int) (u:Nat→Bool) (w h:Nat→Int) (g:Int) (l p:List Int) (q:List Int) (τ0:Tm):Am Tryz.prog peT 300 201 Tryz.f201.ntmps (Eng.ofL ((flat bodyDr).drop 4)) (dr2E.tm (dr2Z ep u w h g l p q)++τ0) (dr2E.heap (dr2Z ep u w h g l p q)) 5 (outX 3 ⟨none,[],some dr2R⟩) =

  qPe5 q l ep u w h g:=by kernel_rfl
theorem drawL_len (g t:Int) (w:Nat→Int) (l:List Int):(drawL g t w l).length=l.length:=List.length_map ..
theorem drawL_succ (g t:Int) (w:Nat→Int) (l:List Int) (i j:Nat) (hi:i<l.length) (hj:l.getD i 0=(j:Int)):drawL g t w (l.take (i+1))=drawL g t w (l.take i)++[drawS g (l.getD i 0) t (w j)]:=by
  unfold drawL
  rw [List.take_succ_eq_append_getElem hi,List.map_append]
  have e:l.getD i 0=l[i]:=by simp [List.getD,List.getElem?_eq_getElem hi]
  have e2:l[i]=(j:Int):=e.symm.trans hj
  rw [e]
  simp [e2]
def d0Q (ep:Int) (u:Nat→Bool) (w h:Nat→Int) (g:Int) (l p:List Int) (t:Int):Ex→EN→Prop
  | .exit _,e=>dr0E.eqv e (dr0Z ep u w h g l p (drawL g t w l))
  | .ret,_=>False
  | .normal,_=>True
set_option maxHeartbeats 2000000 in
theorem d0_loop (ep : Int) (u : Nat → Bool) (w h : Nat → Int) (g : Int) (l p : List Int) (t : Int) (hl : l.length ≤ 5) (ho : ∀ i, i < l.length → 0 ≤ l.getD i 0 ∧ l.getD i 0 < 5) :
    HT Tryz.prog Tryz.f201.ntmps 2 (.loop xDr) 4 (dr0L.tm (dr0Y ep u w h g l p t 0 [])) (dr0L.heap (dr0Y ep u w h g l p t 0 [])) (QX ⟨none,[(0,dr0E)],some dr0R⟩ (d0Q ep u w h g l p t)):=by
  refine HT.loopX peTab Ay (n:=300) inDrx dr0L _ _ (fun i:Nat=>dr0Y ep u w h g l p t (i:Int) (drawL g t w (l.take i))) (fun i=>i≤l.length) (fun i=>l.length - i) (fun _=>d0Q ep u w h g l p t) (by decide) ?_ 0 (Nat.zero_le _)
  intro i hi τ0
  refine AL (d0_x ep u w h g l p t (i:Int) (drawL g t w (l.take i)) τ0) ?_
  have e1:IntKind.i64.wrap ((i:Int)+1)=((i+1:Nat):Int):=IntWalk.i64_in _ (by omega)
  have el:((drawL g t w (l.take i)).length:Int)=i:=by rw [drawL_len,List.length_take]; omega
  refine AG (fun hlt=>?_) (fun hge=>AA (AN _ _ _) (AA (AN _ _ _) (AE ?_)))
  · have hlt:=of_decide_eq_true hlt
    have hlt':i<l.length:=by omega
    have hm:decide ((0:Int)≤(i:Int)∧(i:Int)<(l.length:Int))=true:=decide_eq_true (by omega)
    have hs:decide ((((drawL g t w (l.take i)).length:Int)+1) * 8≤1099511627776∧((drawL g t w (l.take i)).length:Int)+1≤1099511627776)=true:=decide_eq_true (by omega)
    have hoi:=ho i hlt'
    have hsu:=drawL_succ g t w l i
    have go:∀ (j:Nat),l.getD i 0=(j:Int)→∀ e:EN,dr0L.eqv e (dr0Y ep u w h g l p t ((i+1:Nat):Int) (drawL g t w (l.take i)++[drawS g (l.getD i 0) t (w j)]))→∃ d',d'≤l.length∧l.length - d'<l.length - i∧dr0L.eqv e (dr0Y ep u w h g l p t (d':Int) (drawL g t w (l.take d')))∧∀ (ex:Ex) (e:EN),d0Q ep u w h g l p t ex e→d0Q ep u w h g l p t ex e :=
      fun j hj e he=>⟨i+1,by omega,by omega,by rw [hsu j hlt' hj]; exact he,fun _ _ h=>h⟩
    refine AA hm (AA hm (AB ?_))
    refine AG (fun hz=>?_) (fun hz0=>?_)
    · have hz:=of_decide_eq_true hz
      refine AB (AA hs (AB (AA (AN _ _ _) (AA (BH (by omega)) (AE (go 0 hz _ ?_))))))
      rw [e1]
      (repeat' (first | exact trivial | exact rfl | exact TS.eqv_refl _ _ | exact AY _ _ | exact AQ | exact fun _ _=>AJ _ _ | exact fun i _=>AF rfl _ i | apply And.intro))
    refine AG (fun hz=>?_) (fun hz1=>?_)
    · have hz:=of_decide_eq_true hz
      refine AB (AA hs (AB (AA (AN _ _ _) (AA (BH (by omega)) (AE (go 1 hz _ ?_))))))
      rw [e1]
      (repeat' (first | exact trivial | exact rfl | exact TS.eqv_refl _ _ | exact AY _ _ | exact AQ | exact fun _ _=>AJ _ _ | exact fun i _=>AF rfl _ i | apply And.intro))
    refine AG (fun hz=>?_) (fun hz2=>?_)
    · have hz:=of_decide_eq_true hz
      refine AB (AA hs (AB (AA (AN _ _ _) (AA (BH (by omega)) (AE (go 2 hz _ ?_))))))
      rw [e1]
      (repeat' (first | exact trivial | exact rfl | exact TS.eqv_refl _ _ | exact AY _ _ | exact AQ | exact fun _ _=>AJ _ _ | exact fun i _=>AF rfl _ i | apply And.intro))
    refine AG (fun hz=>?_) (fun hz3=>?_)
    · have hz:=of_decide_eq_true hz
      refine AB (AA hs (AB (AA (AN _ _ _) (AA (BH (by omega)) (AE (go 3 hz _ ?_))))))
      rw [e1]
      (repeat' (first | exact trivial | exact rfl | exact TS.eqv_refl _ _ | exact AY _ _ | exact AQ | exact fun _ _=>AJ _ _ | exact fun i _=>AF rfl _ i | apply And.intro))
    refine AG (fun hz=>?_) (fun hz4=>?_)
    · have hz:=of_decide_eq_true hz
      refine AB (AA hs (AB (AA (AN _ _ _) (AA (BH (by omega)) (AE (go 4 hz _ ?_))))))
      rw [e1]
      (repeat' (first | exact trivial | exact rfl | exact TS.eqv_refl _ _ | exact AY _ _ | exact AQ | exact fun _ _=>AJ _ _ | exact fun i _=>AF rfl _ i | apply And.intro))
    exfalso
    have:=of_decide_eq_false hz0; have:=of_decide_eq_false hz1; have:=of_decide_eq_false hz2; have:=of_decide_eq_false hz3; have:=of_decide_eq_false hz4
    have ei:((i:Nat):Int).toNat=i:=Int.toNat_natCast i
    simp only [ei] at *
    omega
  · have hge:=of_decide_eq_false hge
    have:i=l.length:=by omega
    subst this
    rw [List.take_length]
    show dr0E.eqv _ _
    (repeat' (first | exact trivial | exact rfl | exact TS.eqv_refl _ _ | exact AY _ _ | exact AQ | exact fun _ _=>AJ _ _ | exact fun i _=>AF rfl _ i | apply And.intro))
theorem d0_std (ep : Int) (u : Nat → Bool) (w h : Nat → Int) (g : Int) (l p : List Int) (t : Int) (hl0 : 0 < l.length) (hl : l.length ≤ 5) (ho : ∀ i, i < l.length → 0 ≤ l.getD i 0 ∧ l.getD i 0 < 5) :
    BI Tryz.prog 201 dr0T (dr0X ep u w h g l p t) dr0R ⟨[[.i (pickO g t w l)]],[.box (mapN ep u w h++[.i g,.u,.u])]⟩:=by
  have hb:=bestS_range (drawL g t w l) (by rw [drawL_len]; exact hl0)
  have e1:=drawL_len g t w l
  refine stdX_loop peTab Ay (n:=300) Tryz.func201 bodyDr_eq 3 (L:=dr0L) (E:=dr0E) (RL:=d0Q ep u w h g l p t) rfl rfl (by kernel_rfl) rfl rfl lpDr (by decide) (by decide) (by decide)
    (fun τ0=>AL (d0_pre ep u w h g l p t τ0) (AA (AN _ _ _) (AE (.inl ⟨rfl,?_⟩)))) (d0_loop ep u w h g l p t hl ho) (fun en he=>⟨dr0Z ep u w h g l p (drawL g t w l),he,fun τ0=>?_⟩) (fun en he=>he.elim)
  · (repeat' (first | exact trivial | exact rfl | exact TS.eqv_refl _ _ | exact AY _ _ | exact AQ | exact fun _ _=>AJ _ _ | exact fun i _=>AF rfl _ i | apply And.intro))
    all_goals exact fun i hi=>absurd (show (i:Int)<0 from hi) (by omega)
  · refine AL (d0_tail ep u w h g l p (drawL g t w l) τ0) (AA (AN _ _ _) (An fun e0 he0=>?_))
    have h1:Ax (e0.ln 0) (e0.rw 0)=drawL g t w l:=by rw [he0]; exact lstI_rowI _
    have h2:((e0.ln 0:Nat):Int)<1000000:=by
      have:e0.ln 0=(drawL g t w l).length:=by rw [he0]; rfl
      rw [this]; omega
    rw [h1]
    refine AA (decide_eq_true h2) (AB ?_)
    have hm:decide (0≤bestS (drawL g t w l)∧bestS (drawL g t w l)<(l.length:Int))=true:=decide_eq_true (by omega)
    refine AA hm (AA hm (AB (AE fun _=>?_)))
    (repeat' (first | exact trivial | exact rfl | exact TS.eqv_refl _ _ | exact AY _ _ | exact AQ | exact fun _ _=>AJ _ _ | exact fun i _=>AF rfl _ i | apply And.intro))
def d1Q (ep:Int) (u:Nat→Bool) (w h:Nat→Int) (g:Int) (l p:List Int) (t:Int):Ex→EN→Prop
  | .exit _,e=>dr1E.eqv e (dr1Z ep u w h g l p (drawL g t w l))
  | .ret,_=>False
  | .normal,_=>True
set_option maxHeartbeats 2000000 in
theorem d1_loop (ep : Int) (u : Nat → Bool) (w h : Nat → Int) (g : Int) (l p : List Int) (t : Int) (hl : l.length ≤ 5) (ho : ∀ i, i < l.length → 0 ≤ l.getD i 0 ∧ l.getD i 0 < 5) :
    HT Tryz.prog Tryz.f201.ntmps 3 (.loop xDr) 5 (dr1L.tm (dr1Y ep u w h g l p t 0 [])) (dr1L.heap (dr1Y ep u w h g l p t 0 [])) (QX ⟨none,[(0,dr1E)],some dr1R⟩ (d1Q ep u w h g l p t)):=by
  refine HT.loopX peTab Ay (n:=300) inDrx dr1L _ _ (fun i:Nat=>dr1Y ep u w h g l p t (i:Int) (drawL g t w (l.take i))) (fun i=>i≤l.length) (fun i=>l.length - i) (fun _=>d1Q ep u w h g l p t) (by decide) ?_ 0 (Nat.zero_le _)
  intro i hi τ0
  refine AL (d1_x ep u w h g l p t (i:Int) (drawL g t w (l.take i)) τ0) ?_
  have e1:IntKind.i64.wrap ((i:Int)+1)=((i+1:Nat):Int):=IntWalk.i64_in _ (by omega)
  have el:((drawL g t w (l.take i)).length:Int)=i:=by rw [drawL_len,List.length_take]; omega
  refine AG (fun hlt=>?_) (fun hge=>AA (AN _ _ _) (AA (AN _ _ _) (AE ?_)))
  · have hlt:=of_decide_eq_true hlt
    have hlt':i<l.length:=by omega
    have hm:decide ((0:Int)≤(i:Int)∧(i:Int)<(l.length:Int))=true:=decide_eq_true (by omega)
    have hs:decide ((((drawL g t w (l.take i)).length:Int)+1) * 8≤1099511627776∧((drawL g t w (l.take i)).length:Int)+1≤1099511627776)=true:=decide_eq_true (by omega)
    have hoi:=ho i hlt'
    have hsu:=drawL_succ g t w l i
    have go:∀ (j:Nat),l.getD i 0=(j:Int)→∀ e:EN,dr1L.eqv e (dr1Y ep u w h g l p t ((i+1:Nat):Int) (drawL g t w (l.take i)++[drawS g (l.getD i 0) t (w j)]))→∃ d',d'≤l.length∧l.length - d'<l.length - i∧dr1L.eqv e (dr1Y ep u w h g l p t (d':Int) (drawL g t w (l.take d')))∧∀ (ex:Ex) (e:EN),d1Q ep u w h g l p t ex e→d1Q ep u w h g l p t ex e :=
      fun j hj e he=>⟨i+1,by omega,by omega,by rw [hsu j hlt' hj]; exact he,fun _ _ h=>h⟩
    refine AA hm (AA hm (AB ?_))
    refine AG (fun hz=>?_) (fun hz0=>?_)
    · have hz:=of_decide_eq_true hz
      refine AB (AA hs (AB (AA (AN _ _ _) (AA (BH (by omega)) (AE (go 0 hz _ ?_))))))
      rw [e1]
      (repeat' (first | exact trivial | exact rfl | exact TS.eqv_refl _ _ | exact AY _ _ | exact AQ | exact fun _ _=>AJ _ _ | exact fun i _=>AF rfl _ i | apply And.intro))
    refine AG (fun hz=>?_) (fun hz1=>?_)
    · have hz:=of_decide_eq_true hz
      refine AB (AA hs (AB (AA (AN _ _ _) (AA (BH (by omega)) (AE (go 1 hz _ ?_))))))
      rw [e1]
      (repeat' (first | exact trivial | exact rfl | exact TS.eqv_refl _ _ | exact AY _ _ | exact AQ | exact fun _ _=>AJ _ _ | exact fun i _=>AF rfl _ i | apply And.intro))
    refine AG (fun hz=>?_) (fun hz2=>?_)
    · have hz:=of_decide_eq_true hz
      refine AB (AA hs (AB (AA (AN _ _ _) (AA (BH (by omega)) (AE (go 2 hz _ ?_))))))
      rw [e1]
      (repeat' (first | exact trivial | exact rfl | exact TS.eqv_refl _ _ | exact AY _ _ | exact AQ | exact fun _ _=>AJ _ _ | exact fun i _=>AF rfl _ i | apply And.intro))
    refine AG (fun hz=>?_) (fun hz3=>?_)
    · have hz:=of_decide_eq_true hz
      refine AB (AA hs (AB (AA (AN _ _ _) (AA (BH (by omega)) (AE (go 3 hz _ ?_))))))
      rw [e1]
      (repeat' (first | exact trivial | exact rfl | exact TS.eqv_refl _ _ | exact AY _ _ | exact AQ | exact fun _ _=>AJ _ _ | exact fun i _=>AF rfl _ i | apply And.intro))
    refine AG (fun hz=>?_) (fun hz4=>?_)
    · have hz:=of_decide_eq_true hz
      refine AB (AA hs (AB (AA (AN _ _ _) (AA (BH (by omega)) (AE (go 4 hz _ ?_))))))
      rw [e1]
      (repeat' (first | exact trivial | exact rfl | exact TS.eqv_refl _ _ | exact AY _ _ | exact AQ | exact fun _ _=>AJ _ _ | exact fun i _=>AF rfl _ i | apply And.intro))
    exfalso
    have:=of_decide_eq_false hz0; have:=of_decide_eq_false hz1; have:=of_decide_eq_false hz2; have:=of_decide_eq_false hz3; have:=of_decide_eq_false hz4
    have ei:((i:Nat):Int).toNat=i:=Int.toNat_natCast i
    simp only [ei] at *
    omega
  · have hge:=of_decide_eq_false hge
    have:i=l.length:=by omega
    subst this
    rw [List.take_length]
    show dr1E.eqv _ _
    (repeat' (first | exact trivial | exact rfl | exact TS.eqv_refl _ _ | exact AY _ _ | exact AQ | exact fun _ _=>AJ _ _ | exact fun i _=>AF rfl _ i | apply And.intro))
theorem d1_std (ep : Int) (u : Nat → Bool) (w h : Nat → Int) (g : Int) (l p : List Int) (t : Int) (hl0 : 0 < l.length) (hl : l.length ≤ 5) (ho : ∀ i, i < l.length → 0 ≤ l.getD i 0 ∧ l.getD i 0 < 5) :
    BI Tryz.prog 201 dr1T (dr1X ep u w h g l p t) dr1R ⟨[[.i (pickO g t w l)]],[.box (mapN ep u w h++[.i g,.u,.u])]⟩:=by
  have hb:=bestS_range (drawL g t w l) (by rw [drawL_len]; exact hl0)
  have e1:=drawL_len g t w l
  refine stdX_loop peTab Ay (n:=300) Tryz.func201 bodyDr_eq 3 (L:=dr1L) (E:=dr1E) (RL:=d1Q ep u w h g l p t) rfl rfl (by kernel_rfl) rfl rfl lpDr (by decide) (by decide) (by decide)
    (fun τ0=>AL (d1_pre ep u w h g l p t τ0) (AA (AN _ _ _) (AE (.inl ⟨rfl,?_⟩)))) (d1_loop ep u w h g l p t hl ho) (fun en he=>⟨dr1Z ep u w h g l p (drawL g t w l),he,fun τ0=>?_⟩) (fun en he=>he.elim)
  · (repeat' (first | exact trivial | exact rfl | exact TS.eqv_refl _ _ | exact AY _ _ | exact AQ | exact fun _ _=>AJ _ _ | exact fun i _=>AF rfl _ i | apply And.intro))
    all_goals exact fun i hi=>absurd (show (i:Int)<0 from hi) (by omega)
  · refine AL (d1_tail ep u w h g l p (drawL g t w l) τ0) (AA (AN _ _ _) (An fun e0 he0=>?_))
    have h1:Ax (e0.ln 0) (e0.rw 0)=drawL g t w l:=by rw [he0]; exact lstI_rowI _
    have h2:((e0.ln 0:Nat):Int)<1000000:=by
      have:e0.ln 0=(drawL g t w l).length:=by rw [he0]; rfl
      rw [this]; omega
    rw [h1]
    refine AA (decide_eq_true h2) (AB ?_)
    have hm:decide (0≤bestS (drawL g t w l)∧bestS (drawL g t w l)<(l.length:Int))=true:=decide_eq_true (by omega)
    refine AA hm (AA hm (AB (AE fun _=>?_)))
    (repeat' (first | exact trivial | exact rfl | exact TS.eqv_refl _ _ | exact AY _ _ | exact AQ | exact fun _ _=>AJ _ _ | exact fun i _=>AF rfl _ i | apply And.intro))
def d2Q (ep:Int) (u:Nat→Bool) (w h:Nat→Int) (g:Int) (l p:List Int) (t:Int):Ex→EN→Prop
  | .exit _,e=>dr2E.eqv e (dr2Z ep u w h g l p (drawL g t w l))
  | .ret,_=>False
  | .normal,_=>True
set_option maxHeartbeats 2000000 in
theorem d2_loop (ep : Int) (u : Nat → Bool) (w h : Nat → Int) (g : Int) (l p : List Int) (t : Int) (hl : l.length ≤ 5) (ho : ∀ i, i < l.length → 0 ≤ l.getD i 0 ∧ l.getD i 0 < 5) :
    HT Tryz.prog Tryz.f201.ntmps 3 (.loop xDr) 5 (dr2L.tm (dr2Y ep u w h g l p t 0 [])) (dr2L.heap (dr2Y ep u w h g l p t 0 [])) (QX ⟨none,[(0,dr2E)],some dr2R⟩ (d2Q ep u w h g l p t)):=by
  refine HT.loopX peTab Ay (n:=300) inDrx dr2L _ _ (fun i:Nat=>dr2Y ep u w h g l p t (i:Int) (drawL g t w (l.take i))) (fun i=>i≤l.length) (fun i=>l.length - i) (fun _=>d2Q ep u w h g l p t) (by decide) ?_ 0 (Nat.zero_le _)
  intro i hi τ0
  refine AL (d2_x ep u w h g l p t (i:Int) (drawL g t w (l.take i)) τ0) ?_
  have e1:IntKind.i64.wrap ((i:Int)+1)=((i+1:Nat):Int):=IntWalk.i64_in _ (by omega)
  have el:((drawL g t w (l.take i)).length:Int)=i:=by rw [drawL_len,List.length_take]; omega
  refine AG (fun hlt=>?_) (fun hge=>AA (AN _ _ _) (AA (AN _ _ _) (AE ?_)))
  · have hlt:=of_decide_eq_true hlt
    have hlt':i<l.length:=by omega
    have hm:decide ((0:Int)≤(i:Int)∧(i:Int)<(l.length:Int))=true:=decide_eq_true (by omega)
    have hs:decide ((((drawL g t w (l.take i)).length:Int)+1) * 8≤1099511627776∧((drawL g t w (l.take i)).length:Int)+1≤1099511627776)=true:=decide_eq_true (by omega)
    have hoi:=ho i hlt'
    have hsu:=drawL_succ g t w l i
    have go:∀ (j:Nat),l.getD i 0=(j:Int)→∀ e:EN,dr2L.eqv e (dr2Y ep u w h g l p t ((i+1:Nat):Int) (drawL g t w (l.take i)++[drawS g (l.getD i 0) t (w j)]))→∃ d',d'≤l.length∧l.length - d'<l.length - i∧dr2L.eqv e (dr2Y ep u w h g l p t (d':Int) (drawL g t w (l.take d')))∧∀ (ex:Ex) (e:EN),d2Q ep u w h g l p t ex e→d2Q ep u w h g l p t ex e :=
      fun j hj e he=>⟨i+1,by omega,by omega,by rw [hsu j hlt' hj]; exact he,fun _ _ h=>h⟩
    refine AA hm (AA hm (AB ?_))
    refine AG (fun hz=>?_) (fun hz0=>?_)
    · have hz:=of_decide_eq_true hz
      refine AB (AA hs (AB (AA (AN _ _ _) (AA (BH (by omega)) (AE (go 0 hz _ ?_))))))
      rw [e1]
      (repeat' (first | exact trivial | exact rfl | exact TS.eqv_refl _ _ | exact AY _ _ | exact AQ | exact fun _ _=>AJ _ _ | exact fun i _=>AF rfl _ i | apply And.intro))
    refine AG (fun hz=>?_) (fun hz1=>?_)
    · have hz:=of_decide_eq_true hz
      refine AB (AA hs (AB (AA (AN _ _ _) (AA (BH (by omega)) (AE (go 1 hz _ ?_))))))
      rw [e1]
      (repeat' (first | exact trivial | exact rfl | exact TS.eqv_refl _ _ | exact AY _ _ | exact AQ | exact fun _ _=>AJ _ _ | exact fun i _=>AF rfl _ i | apply And.intro))
    refine AG (fun hz=>?_) (fun hz2=>?_)
    · have hz:=of_decide_eq_true hz
      refine AB (AA hs (AB (AA (AN _ _ _) (AA (BH (by omega)) (AE (go 2 hz _ ?_))))))
      rw [e1]
      (repeat' (first | exact trivial | exact rfl | exact TS.eqv_refl _ _ | exact AY _ _ | exact AQ | exact fun _ _=>AJ _ _ | exact fun i _=>AF rfl _ i | apply And.intro))
    refine AG (fun hz=>?_) (fun hz3=>?_)
    · have hz:=of_decide_eq_true hz
      refine AB (AA hs (AB (AA (AN _ _ _) (AA (BH (by omega)) (AE (go 3 hz _ ?_))))))
      rw [e1]
      (repeat' (first | exact trivial | exact rfl | exact TS.eqv_refl _ _ | exact AY _ _ | exact AQ | exact fun _ _=>AJ _ _ | exact fun i _=>AF rfl _ i | apply And.intro))
    refine AG (fun hz=>?_) (fun hz4=>?_)
    · have hz:=of_decide_eq_true hz
      refine AB (AA hs (AB (AA (AN _ _ _) (AA (BH (by omega)) (AE (go 4 hz _ ?_))))))
      rw [e1]
      (repeat' (first | exact trivial | exact rfl | exact TS.eqv_refl _ _ | exact AY _ _ | exact AQ | exact fun _ _=>AJ _ _ | exact fun i _=>AF rfl _ i | apply And.intro))
    exfalso
    have:=of_decide_eq_false hz0; have:=of_decide_eq_false hz1; have:=of_decide_eq_false hz2; have:=of_decide_eq_false hz3; have:=of_decide_eq_false hz4
    have ei:((i:Nat):Int).toNat=i:=Int.toNat_natCast i
    simp only [ei] at *
    omega
  · have hge:=of_decide_eq_false hge
    have:i=l.length:=by omega
    subst this
    rw [List.take_length]
    show dr2E.eqv _ _
    (repeat' (first | exact trivial | exact rfl | exact TS.eqv_refl _ _ | exact AY _ _ | exact AQ | exact fun _ _=>AJ _ _ | exact fun i _=>AF rfl _ i | apply And.intro))
theorem d2_std (ep : Int) (u : Nat → Bool) (w h : Nat → Int) (g : Int) (l p : List Int) (t : Int) (hl0 : 0 < l.length) (hl : l.length ≤ 5) (ho : ∀ i, i < l.length → 0 ≤ l.getD i 0 ∧ l.getD i 0 < 5) :
    BI Tryz.prog 201 dr2T (dr2X ep u w h g l p t) dr2R ⟨[[.i (pickO g t w l)]],[.box (mapN ep u w h++[.i g,.u,.u])]⟩:=by
  have hb:=bestS_range (drawL g t w l) (by rw [drawL_len]; exact hl0)
  have e1:=drawL_len g t w l
  refine stdX_loop peTab Ay (n:=300) Tryz.func201 bodyDr_eq 3 (L:=dr2L) (E:=dr2E) (RL:=d2Q ep u w h g l p t) rfl rfl (by kernel_rfl) rfl rfl lpDr (by decide) (by decide) (by decide)
    (fun τ0=>AL (d2_pre ep u w h g l p t τ0) (AA (AN _ _ _) (AE (.inl ⟨rfl,?_⟩)))) (d2_loop ep u w h g l p t hl ho) (fun en he=>⟨dr2Z ep u w h g l p (drawL g t w l),he,fun τ0=>?_⟩) (fun en he=>he.elim)
  · (repeat' (first | exact trivial | exact rfl | exact TS.eqv_refl _ _ | exact AY _ _ | exact AQ | exact fun _ _=>AJ _ _ | exact fun i _=>AF rfl _ i | apply And.intro))
    all_goals exact fun i hi=>absurd (show (i:Int)<0 from hi) (by omega)
  · refine AL (d2_tail ep u w h g l p (drawL g t w l) τ0) (AA (AN _ _ _) (An fun e0 he0=>?_))
    have h1:Ax (e0.ln 0) (e0.rw 0)=drawL g t w l:=by rw [he0]; exact lstI_rowI _
    have h2:((e0.ln 0:Nat):Int)<1000000:=by
      have:e0.ln 0=(drawL g t w l).length:=by rw [he0]; rfl
      rw [this]; omega
    rw [h1]
    refine AA (decide_eq_true h2) (AB ?_)
    have hm:decide (0≤bestS (drawL g t w l)∧bestS (drawL g t w l)<(l.length:Int))=true:=decide_eq_true (by omega)
    refine AA hm (AA hm (AB (AE fun _=>?_)))
    (repeat' (first | exact trivial | exact rfl | exact TS.eqv_refl _ _ | exact AY _ _ | exact AQ | exact fun _ _=>AJ _ _ | exact fun i _=>AF rfl _ i | apply And.intro))
def inB (l:List Int):Bool:=decide (0<l.length∧l.length≤5∧∀ i,i<l.length→0≤l.getD i 0∧l.getD i 0<5)
noncomputable def cDr0 (e:EN):Ah (TS×EN):=.must (inB (Ax (e.ln 1) (e.rw 1))) (.leaf (dr0R,⟨[[.i (pickO (e.bi 0 16) (e.ai 1 0) (fun i=>e.bi 0 (2+3 * i)) (Ax (e.ln 1) (e.rw 1)))]],[.box [.i (e.bi 0 0),.b (e.bb 0 1),.i (e.bi 0 2),.i (e.bi 0 3),.b (e.bb 0 4),.i (e.bi 0 5),.i (e.bi 0 6),.b (e.bb 0 7),.i (e.bi 0 8),.i (e.bi 0 9),.b (e.bb 0 10),.i (e.bi 0 11),.i (e.bi 0 12),.b (e.bb 0 13),.i (e.bi 0 14),.i (e.bi 0 15),.i (e.bi 0 16),.u,.u]]⟩))
theorem cDr0_ok:Ak Tryz.prog 201 (AW dr0T cDr0):=BN fun e r h=>by
  obtain ⟨hb,h⟩:=Ar h
  cases h
  obtain ⟨h1,h2,h3⟩:=of_decide_eq_true hb
  have e1:(Ax (e.ln 1) (e.rw 1)).length=e.ln 1:=As _ _
  refine BI.pre (x':=dr0X (e.bi 0 0) (fun i=>e.bb 0 (1+3 * i)) (fun i=>e.bi 0 (2+3 * i)) (fun i=>e.bi 0 (3+3 * i)) (e.bi 0 16) (Ax (e.ln 1) (e.rw 1)) [] (e.ai 1 0)) ⟨?_,?_,⟨e1.symm,fun i hi=>rowI_eqv ?_⟩,trivial⟩ (d0_std _ _ _ _ _ _ _ _ h1 h2 h3)
  · exact clP
  · exact clP
  · have hi:(i:Int)<((Ax (e.ln 1) (e.rw 1)).length:Int):=hi
    rw [e1] at hi
    exact_mod_cast hi
noncomputable def cDr1 (e:EN):Ah (TS×EN):=.must (inB (Ax (e.ln 1) (e.rw 1))) (.leaf (dr1R,⟨[[.i (pickO (e.bi 0 16) (e.ai 1 0) (fun i=>e.bi 0 (2+3 * i)) (Ax (e.ln 1) (e.rw 1)))]],[.box [.i (e.bi 0 0),.b (e.bb 0 1),.i (e.bi 0 2),.i (e.bi 0 3),.b (e.bb 0 4),.i (e.bi 0 5),.i (e.bi 0 6),.b (e.bb 0 7),.i (e.bi 0 8),.i (e.bi 0 9),.b (e.bb 0 10),.i (e.bi 0 11),.i (e.bi 0 12),.b (e.bb 0 13),.i (e.bi 0 14),.i (e.bi 0 15),.i (e.bi 0 16),.u,.u]]⟩))
theorem cDr1_ok:Ak Tryz.prog 201 (AW dr1T cDr1):=BN fun e r h=>by
  obtain ⟨hb,h⟩:=Ar h
  cases h
  obtain ⟨h1,h2,h3⟩:=of_decide_eq_true hb
  have e1:(Ax (e.ln 1) (e.rw 1)).length=e.ln 1:=As _ _
  refine BI.pre (x':=dr1X (e.bi 0 0) (fun i=>e.bb 0 (1+3 * i)) (fun i=>e.bi 0 (2+3 * i)) (fun i=>e.bi 0 (3+3 * i)) (e.bi 0 16) (Ax (e.ln 1) (e.rw 1)) (Ax 1 (e.rw 2)) (e.ai 1 0)) ⟨?_,?_,⟨e1.symm,fun i hi=>rowI_eqv ?_⟩,⟨trivial,fun i hi=>rowI_eqv ?_⟩,trivial⟩ (d1_std _ _ _ _ _ _ _ _ h1 h2 h3)
  · exact clP
  · exact clP
  · have hi:(i:Int)<((Ax (e.ln 1) (e.rw 1)).length:Int):=hi
    rw [e1] at hi
    exact_mod_cast hi
  · exact_mod_cast (show (i:Int)<(1:Int) from hi)
noncomputable def cDr2 (e:EN):Ah (TS×EN):=.must (inB (Ax (e.ln 1) (e.rw 1))) (.leaf (dr2R,⟨[[.i (pickO (e.bi 0 16) (e.ai 1 0) (fun i=>e.bi 0 (2+3 * i)) (Ax (e.ln 1) (e.rw 1)))]],[.box [.i (e.bi 0 0),.b (e.bb 0 1),.i (e.bi 0 2),.i (e.bi 0 3),.b (e.bb 0 4),.i (e.bi 0 5),.i (e.bi 0 6),.b (e.bb 0 7),.i (e.bi 0 8),.i (e.bi 0 9),.b (e.bb 0 10),.i (e.bi 0 11),.i (e.bi 0 12),.b (e.bb 0 13),.i (e.bi 0 14),.i (e.bi 0 15),.i (e.bi 0 16),.u,.u]]⟩))
theorem cDr2_ok:Ak Tryz.prog 201 (AW dr2T cDr2):=BN fun e r h=>by
  obtain ⟨hb,h⟩:=Ar h
  cases h
  obtain ⟨h1,h2,h3⟩:=of_decide_eq_true hb
  have e1:(Ax (e.ln 1) (e.rw 1)).length=e.ln 1:=As _ _
  refine BI.pre (x':=dr2X (e.bi 0 0) (fun i=>e.bb 0 (1+3 * i)) (fun i=>e.bi 0 (2+3 * i)) (fun i=>e.bi 0 (3+3 * i)) (e.bi 0 16) (Ax (e.ln 1) (e.rw 1)) (Ax 2 (e.rw 2)) (e.ai 1 0)) ⟨?_,?_,⟨e1.symm,fun i hi=>rowI_eqv ?_⟩,⟨trivial,fun i hi=>rowI_eqv ?_⟩,trivial⟩ (d2_std _ _ _ _ _ _ _ _ h1 h2 h3)
  · exact clP
  · exact clP
  · have hi:(i:Int)<((Ax (e.ln 1) (e.rw 1)).length:Int):=hi
    rw [e1] at hi
    exact_mod_cast hi
  · exact_mod_cast (show (i:Int)<(2:Int) from hi)
noncomputable def sDr:Summ:=orSumm (AW dr0T cDr0) (orSumm (AW dr1T cDr1) (AW dr2T cDr2))
theorem sDr_ok:Ak Tryz.prog 201 sDr:=orSumm_ok cDr0_ok (orSumm_ok cDr1_ok cDr2_ok)
end Go.Proofs.YtddmgdclmkgpeaaGreat
set_option linter.unusedSimpArgs false
set_option linter.unusedVariables false
namespace Go.Proofs.YtddmgdclmkgpeaaGreat
open Go.Eng Go.RowKit Go.ChangeShapes Go.WideShapes
set_option maxRecDepth 100000
def fitB (h:Nat→Int) (o z:Int):Bool:=o==z||h o.toNat==h z.toNat
def d5 (o:Int):Bool:=decide (0≤o∧o<5)
def cl1T:TS:=⟨[],[.one (.i .i64),.one (.ptr 0 0),.one (.ptr 1 0)],[(0,.box [.i .i64]),(1,.box [.ptr 2 0]),(2,.box [.i .u32,.b,.i .i64,.i .u8,.b,.i .i64,.i .u8,.b,.i .i64,.i .u8,.b,.i .i64,.i .u8,.b,.i .i64,.i .u8,.i .u8,.sl 3,.sl 4]),(3,.lst none [.i .i64] none),(4,.lst (some 1) [.i .i64] none)],5⟩
def cl1R:TS:=⟨[],[.one .b],[(0,.box [.i .i64]),(1,.box [.ptr 2 0]),(2,.box [.i .u32,.b,.i .i64,.i .u8,.b,.i .i64,.i .u8,.b,.i .i64,.i .u8,.b,.i .i64,.i .u8,.b,.i .i64,.i .u8,.i .u8,.sl 3,.sl 4])],5⟩
def cl1X (ep:Int) (u:Nat→Bool) (w h:Nat→Int) (g:Int) (l p:List Int) (o z:Int):EN:=⟨[[.i o],[],[]],[.box [.i z],.box [.u],.box (mapN ep u w h++[.i g,.u,.u]),.lst l.length (AR l),.lst 1 (AR p)]⟩
noncomputable abbrev qPf1 {R:Type} (e:EN) (k:Int→Int→Bool→Int→Int→Bool→Int→Int→Bool→Int→Int→Bool→Int→Int→Bool→Int→Int→Int→Ah R):Ah R:=.defI (e.bi 0 0) fun a0=>.defI (e.bi 2 0) fun a1=>.defB (e.bb 2 1) fun a2=>.defI (e.bi 2 2) fun a3=>.defI (e.bi 2 3) fun a4=>.defB (e.bb 2 4) fun a5=>.defI (e.bi 2 5) fun a6=>.defI (e.bi 2 6) fun a7=>.defB (e.bb 2 7) fun a8=>.defI (e.bi 2 8) fun a9=>.defI (e.bi 2 9) fun a10=>.defB (e.bb 2 10) fun a11=>.defI (e.bi 2 11) fun a12=>.defI (e.bi 2 12) fun a13=>.defB (e.bb 2 13) fun a14=>.defI (e.bi 2 14) fun a15=>.defI (e.bi 2 15) fun a16=>.defI (e.bi 2 16) fun a17=>k a0 a1 a2 a3 a4 a5 a6 a7 a8 a9 a10 a11 a12 a13 a14 a15 a16 a17
noncomputable abbrev qPf2 (v0:Int) (v1:Nat→Bool) (v2:Nat→Int) (v3:Nat→Int) (v4:Int):ON:=.box [.i v0,.b (v1 0),.i (v2 0),.i (v3 0),.b (v1 1),.i (v2 1),.i (v3 1),.b (v1 2),.i (v2 2),.i (v3 2),.b (v1 3),.i (v2 3),.i (v3 3),.b (v1 4),.i (v2 4),.i (v3 4),.i v4,.u,.u]
noncomputable abbrev qPf3 (v0:Int) (v1:Int) (v2:Int) (v3:Nat→Bool) (v4:Nat→Int) (v5:Nat→Int) (v6:Int):Ah (EN):=.ite (v0==v1) (.leaf ⟨[[.b true]],[.box [.i v1],.box [.u],(qPf2 v2 v3 v4 v5 v6)]⟩) (.ite (decide (v0=0)) (.ite (decide (v1=0)) (.leaf ⟨[[.b (v5 0==v5 0)]],[.box [.i v1],.box [.u],(qPf2 v2 v3 v4 v5 v6)]⟩) (.ite (decide (v1=1)) (.leaf ⟨[[.b (v5 0==v5 1)]],[.box [.i v1],.box [.u],(qPf2 v2 v3 v4 v5 v6)]⟩) (.ite (decide (v1=2)) (.leaf ⟨[[.b (v5 0==v5 2)]],[.box [.i v1],.box [.u],(qPf2 v2 v3 v4 v5 v6)]⟩) (.ite (decide (v1=3)) (.leaf ⟨[[.b (v5 0==v5 3)]],[.box [.i v1],.box [.u],(qPf2 v2 v3 v4 v5 v6)]⟩) (.ite (decide (v1=4)) (.leaf ⟨[[.b (v5 0==v5 4)]],[.box [.i v1],.box [.u],(qPf2 v2 v3 v4 v5 v6)]⟩) (.must false (.fail "index"))))))) (.ite (decide (v0=1)) (.ite (decide (v1=0)) (.leaf ⟨[[.b (v5 1==v5 0)]],[.box [.i v1],.box [.u],(qPf2 v2 v3 v4 v5 v6)]⟩) (.ite (decide (v1=1)) (.leaf ⟨[[.b (v5 1==v5 1)]],[.box [.i v1],.box [.u],(qPf2 v2 v3 v4 v5 v6)]⟩) (.ite (decide (v1=2)) (.leaf ⟨[[.b (v5 1==v5 2)]],[.box [.i v1],.box [.u],(qPf2 v2 v3 v4 v5 v6)]⟩) (.ite (decide (v1=3)) (.leaf ⟨[[.b (v5 1==v5 3)]],[.box [.i v1],.box [.u],(qPf2 v2 v3 v4 v5 v6)]⟩) (.ite (decide (v1=4)) (.leaf ⟨[[.b (v5 1==v5 4)]],[.box [.i v1],.box [.u],(qPf2 v2 v3 v4 v5 v6)]⟩) (.must false (.fail "index"))))))) (.ite (decide (v0=2)) (.ite (decide (v1=0)) (.leaf ⟨[[.b (v5 2==v5 0)]],[.box [.i v1],
 .box [.u],(qPf2 v2 v3 v4 v5 v6)]⟩) (.ite (decide (v1=1)) (.leaf ⟨[[.b (v5 2==v5 1)]],[.box [.i v1],.box [.u],(qPf2 v2 v3 v4 v5 v6)]⟩) (.ite (decide (v1=2)) (.leaf ⟨[[.b (v5 2==v5 2)]],[.box [.i v1],.box [.u],(qPf2 v2 v3 v4 v5 v6)]⟩) (.ite (decide (v1=3)) (.leaf ⟨[[.b (v5 2==v5 3)]],[.box [.i v1],.box [.u],(qPf2 v2 v3 v4 v5 v6)]⟩) (.ite (decide (v1=4)) (.leaf ⟨[[.b (v5 2==v5 4)]],[.box [.i v1],.box [.u],(qPf2 v2 v3 v4 v5 v6)]⟩) (.must false (.fail "index"))))))) (.ite (decide (v0=3)) (.ite (decide (v1=0)) (.leaf ⟨[[.b (v5 3==v5 0)]],[.box [.i v1],.box [.u],(qPf2 v2 v3 v4 v5 v6)]⟩) (.ite (decide (v1=1)) (.leaf ⟨[[.b (v5 3==v5 1)]],[.box [.i v1],.box [.u],(qPf2 v2 v3 v4 v5 v6)]⟩) (.ite (decide (v1=2)) (.leaf ⟨[[.b (v5 3==v5 2)]],[.box [.i v1],.box [.u],(qPf2 v2 v3 v4 v5 v6)]⟩) (.ite (decide (v1=3)) (.leaf ⟨[[.b (v5 3==v5 3)]],[.box [.i v1],.box [.u],(qPf2 v2 v3 v4 v5 v6)]⟩) (.ite (decide (v1=4)) (.leaf ⟨[[.b (v5 3==v5 4)]],[.box [.i v1],.box [.u],(qPf2 v2 v3 v4 v5 v6)]⟩) (.must false (.fail "index"))))))) (.ite (decide (v0=4)) (.ite (decide (v1=0)) (.leaf ⟨[[.b (v5 4==v5 0)]],[.box [.i v1],.box [.u],(qPf2 v2 v3 v4 v5 v6)]⟩) (.ite (decide (v1=1)) (.leaf ⟨[[.b (v5 4==v5 1)]],[.box [.i v1],.box [.u],(qPf2 v2 v3 v4 v5 v6)]⟩) (.ite (decide (v1=2)) (.leaf ⟨[[.b (v5 4==v5 2)]],[.box [.i v1],.box [.u],(qPf2 v2 v3 v4 v5 v6)]⟩) (.ite (decide (v1=3)) (.leaf ⟨[[.b (v5 4==v5 3)]],[.box [.i v1],.box
 [.u],(qPf2 v2 v3 v4 v5 v6)]⟩) (.ite (decide (v1=4)) (.leaf ⟨[[.b (v5 4==v5 4)]],[.box [.i v1],.box [.u],(qPf2 v2 v3 v4 v5 v6)]⟩) (.must false (.fail "index"))))))) (.must false (.fail "index")))))))
noncomputable abbrev qPf4 (v0:EN):Ah (EN):=.must (d5 (v0.ai 0 0)) (.must (d5 (v0.bi 0 0)) (qPf1 v0 fun z2 z3 z4 z5 z6 z7 z8 z9 z10 z11 z12 z13 z14 z15 z16 z17 z18 z19=>.ite (fitB (fun (i:Nat)=>v0.bi 2 (3+3 * i)) (v0.ai 0 0) (v0.bi 0 0)) (.leaf ⟨[[.b false]],[.box [.i z3,.b z4,.i z5,.i z6,.b z7,.i z8,.i z9,.b z10,.i z11,.i z12,.b z13,.i z14,.i z15,.b z16,.i z17,.i z18,.i z19,.u,.u]]⟩) (.leaf ⟨[[.b true]],[.box [.i z3,.b z4,.i z5,.i z6,.b z7,.i z8,.i z9,.b z10,.i z11,.i z12,.b z13,.i z14,.i z15,.b z16,.i z17,.i z18,.i z19,.u,.u]]⟩)))
theorem cl1_t (ep:Int) (u:Nat→Bool) (w h:Nat→Int) (g:Int) (l p:List Int) (o z:Int):BR Tryz.prog (Am Tryz.prog noTab 300) 206 (cl1T.vals (cl1X ep u w h g l p o z)) (cl1T.heap (cl1X ep u w h g l p o z)) 5 (outV 5 cl1R) =

  qPf3 o z ep u w h g:=by kernel_rfl
def cl2T:TS:=⟨[],[.one (.i .i64),.one (.ptr 0 0),.one (.ptr 1 0)],[(0,.box [.i .i64]),(1,.box [.ptr 2 0]),(2,.box [.i .u32,.b,.i .i64,.i .u8,.b,.i .i64,.i .u8,.b,.i .i64,.i .u8,.b,.i .i64,.i .u8,.b,.i .i64,.i .u8,.i .u8,.sl 3,.sl 4]),(3,.lst none [.i .i64] none),(4,.lst (some 2) [.i .i64] none)],5⟩
def cl2R:TS:=⟨[],[.one .b],[(0,.box [.i .i64]),(1,.box [.ptr 2 0]),(2,.box [.i .u32,.b,.i .i64,.i .u8,.b,.i .i64,.i .u8,.b,.i .i64,.i .u8,.b,.i .i64,.i .u8,.b,.i .i64,.i .u8,.i .u8,.sl 3,.sl 4])],5⟩
def cl2X (ep:Int) (u:Nat→Bool) (w h:Nat→Int) (g:Int) (l p:List Int) (o z:Int):EN:=⟨[[.i o],[],[]],[.box [.i z],.box [.u],.box (mapN ep u w h++[.i g,.u,.u]),.lst l.length (AR l),.lst 2 (AR p)]⟩
theorem cl2_t (ep:Int) (u:Nat→Bool) (w h:Nat→Int) (g:Int) (l p:List Int) (o z:Int):BR Tryz.prog (Am Tryz.prog noTab 300) 206 (cl2T.vals (cl2X ep u w h g l p o z)) (cl2T.heap (cl2X ep u w h g l p o z)) 5 (outV 5 cl2R) =

  qPf3 o z ep u w h g:=by kernel_rfl
theorem cl1_std (ep:Int) (u:Nat→Bool) (w h:Nat→Int) (g:Int) (l p:List Int) (o z:Int) (ho:0≤o∧o<5) (hz:0≤z∧z<5):BI Tryz.prog 206 cl1T (cl1X ep u w h g l p o z) cl1R ⟨[[.b (fitB h o z)]],[.box [.i z],.box [.u],.box (mapN ep u w h++[.i g,.u,.u])]⟩:=by
  refine Aj (Ao _) Ay rfl (AL (cl1_t ep u w h g l p o z) ?_)
  refine AG (fun he=>?_) (fun hne=>?_)
  · refine AE ⟨⟨?_,trivial⟩,?_⟩
    · show true=fitB h o z
      rw [fitB,he,Bool.true_or]
    · exact clP
  refine AG (fun hj=>?_) (fun nj0=>?_)
  · have hj:=of_decide_eq_true hj
    refine AG (fun hk=>?_) (fun nk0=>?_)
    · have hk:=of_decide_eq_true hk
      refine AE ⟨⟨?_,trivial⟩,?_⟩
      · show (h 0==h 0)=fitB h o z
        rw [fitB,hne,Bool.false_or,hj,hk]
        rfl
      · exact clP
    refine AG (fun hk=>?_) (fun nk1=>?_)
    · have hk:=of_decide_eq_true hk
      refine AE ⟨⟨?_,trivial⟩,?_⟩
      · show (h 0==h 1)=fitB h o z
        rw [fitB,hne,Bool.false_or,hj,hk]
        rfl
      · exact clP
    refine AG (fun hk=>?_) (fun nk2=>?_)
    · have hk:=of_decide_eq_true hk
      refine AE ⟨⟨?_,trivial⟩,?_⟩
      · show (h 0==h 2)=fitB h o z
        rw [fitB,hne,Bool.false_or,hj,hk]
        rfl
      · exact clP
    refine AG (fun hk=>?_) (fun nk3=>?_)
    · have hk:=of_decide_eq_true hk
      refine AE ⟨⟨?_,trivial⟩,?_⟩
      · show (h 0==h 3)=fitB h o z
        rw [fitB,hne,Bool.false_or,hj,hk]
        rfl
      · exact clP
    refine AG (fun hk=>?_) (fun nk4=>?_)
    · have hk:=of_decide_eq_true hk
      refine AE ⟨⟨?_,trivial⟩,?_⟩
      · show (h 0==h 4)=fitB h o z
        rw [fitB,hne,Bool.false_or,hj,hk]
        rfl
      · exact clP
    exfalso
    have:=of_decide_eq_false nk0; have:=of_decide_eq_false nk1; have:=of_decide_eq_false nk2; have:=of_decide_eq_false nk3; have:=of_decide_eq_false nk4
    omega
  refine AG (fun hj=>?_) (fun nj1=>?_)
  · have hj:=of_decide_eq_true hj
    refine AG (fun hk=>?_) (fun nk0=>?_)
    · have hk:=of_decide_eq_true hk
      refine AE ⟨⟨?_,trivial⟩,?_⟩
      · show (h 1==h 0)=fitB h o z
        rw [fitB,hne,Bool.false_or,hj,hk]
        rfl
      · exact clP
    refine AG (fun hk=>?_) (fun nk1=>?_)
    · have hk:=of_decide_eq_true hk
      refine AE ⟨⟨?_,trivial⟩,?_⟩
      · show (h 1==h 1)=fitB h o z
        rw [fitB,hne,Bool.false_or,hj,hk]
        rfl
      · exact clP
    refine AG (fun hk=>?_) (fun nk2=>?_)
    · have hk:=of_decide_eq_true hk
      refine AE ⟨⟨?_,trivial⟩,?_⟩
      · show (h 1==h 2)=fitB h o z
        rw [fitB,hne,Bool.false_or,hj,hk]
        rfl
      · exact clP
    refine AG (fun hk=>?_) (fun nk3=>?_)
    · have hk:=of_decide_eq_true hk
      refine AE ⟨⟨?_,trivial⟩,?_⟩
      · show (h 1==h 3)=fitB h o z
        rw [fitB,hne,Bool.false_or,hj,hk]
        rfl
      · exact clP
    refine AG (fun hk=>?_) (fun nk4=>?_)
    · have hk:=of_decide_eq_true hk
      refine AE ⟨⟨?_,trivial⟩,?_⟩
      · show (h 1==h 4)=fitB h o z
        rw [fitB,hne,Bool.false_or,hj,hk]
        rfl
      · exact clP
    exfalso
    have:=of_decide_eq_false nk0; have:=of_decide_eq_false nk1; have:=of_decide_eq_false nk2; have:=of_decide_eq_false nk3; have:=of_decide_eq_false nk4
    omega
  refine AG (fun hj=>?_) (fun nj2=>?_)
  · have hj:=of_decide_eq_true hj
    refine AG (fun hk=>?_) (fun nk0=>?_)
    · have hk:=of_decide_eq_true hk
      refine AE ⟨⟨?_,trivial⟩,?_⟩
      · show (h 2==h 0)=fitB h o z
        rw [fitB,hne,Bool.false_or,hj,hk]
        rfl
      · exact clP
    refine AG (fun hk=>?_) (fun nk1=>?_)
    · have hk:=of_decide_eq_true hk
      refine AE ⟨⟨?_,trivial⟩,?_⟩
      · show (h 2==h 1)=fitB h o z
        rw [fitB,hne,Bool.false_or,hj,hk]
        rfl
      · exact clP
    refine AG (fun hk=>?_) (fun nk2=>?_)
    · have hk:=of_decide_eq_true hk
      refine AE ⟨⟨?_,trivial⟩,?_⟩
      · show (h 2==h 2)=fitB h o z
        rw [fitB,hne,Bool.false_or,hj,hk]
        rfl
      · exact clP
    refine AG (fun hk=>?_) (fun nk3=>?_)
    · have hk:=of_decide_eq_true hk
      refine AE ⟨⟨?_,trivial⟩,?_⟩
      · show (h 2==h 3)=fitB h o z
        rw [fitB,hne,Bool.false_or,hj,hk]
        rfl
      · exact clP
    refine AG (fun hk=>?_) (fun nk4=>?_)
    · have hk:=of_decide_eq_true hk
      refine AE ⟨⟨?_,trivial⟩,?_⟩
      · show (h 2==h 4)=fitB h o z
        rw [fitB,hne,Bool.false_or,hj,hk]
        rfl
      · exact clP
    exfalso
    have:=of_decide_eq_false nk0; have:=of_decide_eq_false nk1; have:=of_decide_eq_false nk2; have:=of_decide_eq_false nk3; have:=of_decide_eq_false nk4
    omega
  refine AG (fun hj=>?_) (fun nj3=>?_)
  · have hj:=of_decide_eq_true hj
    refine AG (fun hk=>?_) (fun nk0=>?_)
    · have hk:=of_decide_eq_true hk
      refine AE ⟨⟨?_,trivial⟩,?_⟩
      · show (h 3==h 0)=fitB h o z
        rw [fitB,hne,Bool.false_or,hj,hk]
        rfl
      · exact clP
    refine AG (fun hk=>?_) (fun nk1=>?_)
    · have hk:=of_decide_eq_true hk
      refine AE ⟨⟨?_,trivial⟩,?_⟩
      · show (h 3==h 1)=fitB h o z
        rw [fitB,hne,Bool.false_or,hj,hk]
        rfl
      · exact clP
    refine AG (fun hk=>?_) (fun nk2=>?_)
    · have hk:=of_decide_eq_true hk
      refine AE ⟨⟨?_,trivial⟩,?_⟩
      · show (h 3==h 2)=fitB h o z
        rw [fitB,hne,Bool.false_or,hj,hk]
        rfl
      · exact clP
    refine AG (fun hk=>?_) (fun nk3=>?_)
    · have hk:=of_decide_eq_true hk
      refine AE ⟨⟨?_,trivial⟩,?_⟩
      · show (h 3==h 3)=fitB h o z
        rw [fitB,hne,Bool.false_or,hj,hk]
        rfl
      · exact clP
    refine AG (fun hk=>?_) (fun nk4=>?_)
    · have hk:=of_decide_eq_true hk
      refine AE ⟨⟨?_,trivial⟩,?_⟩
      · show (h 3==h 4)=fitB h o z
        rw [fitB,hne,Bool.false_or,hj,hk]
        rfl
      · exact clP
    exfalso
    have:=of_decide_eq_false nk0; have:=of_decide_eq_false nk1; have:=of_decide_eq_false nk2; have:=of_decide_eq_false nk3; have:=of_decide_eq_false nk4
    omega
  refine AG (fun hj=>?_) (fun nj4=>?_)
  · have hj:=of_decide_eq_true hj
    refine AG (fun hk=>?_) (fun nk0=>?_)
    · have hk:=of_decide_eq_true hk
      refine AE ⟨⟨?_,trivial⟩,?_⟩
      · show (h 4==h 0)=fitB h o z
        rw [fitB,hne,Bool.false_or,hj,hk]
        rfl
      · exact clP
    refine AG (fun hk=>?_) (fun nk1=>?_)
    · have hk:=of_decide_eq_true hk
      refine AE ⟨⟨?_,trivial⟩,?_⟩
      · show (h 4==h 1)=fitB h o z
        rw [fitB,hne,Bool.false_or,hj,hk]
        rfl
      · exact clP
    refine AG (fun hk=>?_) (fun nk2=>?_)
    · have hk:=of_decide_eq_true hk
      refine AE ⟨⟨?_,trivial⟩,?_⟩
      · show (h 4==h 2)=fitB h o z
        rw [fitB,hne,Bool.false_or,hj,hk]
        rfl
      · exact clP
    refine AG (fun hk=>?_) (fun nk3=>?_)
    · have hk:=of_decide_eq_true hk
      refine AE ⟨⟨?_,trivial⟩,?_⟩
      · show (h 4==h 3)=fitB h o z
        rw [fitB,hne,Bool.false_or,hj,hk]
        rfl
      · exact clP
    refine AG (fun hk=>?_) (fun nk4=>?_)
    · have hk:=of_decide_eq_true hk
      refine AE ⟨⟨?_,trivial⟩,?_⟩
      · show (h 4==h 4)=fitB h o z
        rw [fitB,hne,Bool.false_or,hj,hk]
        rfl
      · exact clP
    exfalso
    have:=of_decide_eq_false nk0; have:=of_decide_eq_false nk1; have:=of_decide_eq_false nk2; have:=of_decide_eq_false nk3; have:=of_decide_eq_false nk4
    omega
  exfalso
  have:=of_decide_eq_false nj0; have:=of_decide_eq_false nj1; have:=of_decide_eq_false nj2; have:=of_decide_eq_false nj3; have:=of_decide_eq_false nj4
  omega
def cCl1 (e:EN):Ah (TS×EN):=.must (d5 (e.ai 0 0)) (.must (d5 (e.bi 0 0)) (.leaf (cl1R,⟨[[.b (fitB (fun i=>e.bi 2 (3+3 * i)) (e.ai 0 0) (e.bi 0 0))]],[.box [.i (e.bi 0 0)],.box [.u],.box [.i (e.bi 2 0),.b (e.bb 2 1),.i (e.bi 2 2),.i (e.bi 2 3),.b (e.bb 2 4),.i (e.bi 2 5),.i (e.bi 2 6),.b (e.bb 2 7),.i (e.bi 2 8),.i (e.bi 2 9),.b (e.bb 2 10),.i (e.bi 2 11),.i (e.bi 2 12),.b (e.bb 2 13),.i (e.bi 2 14),.i (e.bi 2 15),.i (e.bi 2 16),.u,.u]]⟩)))
theorem cCl1_ok:Ak Tryz.prog 206 (AW cl1T cCl1):=BN fun e r h=>by
  obtain ⟨h1,h⟩:=Ar h
  obtain ⟨h2,h⟩:=Ar h
  cases h
  have h1:=of_decide_eq_true h1
  have h2:=of_decide_eq_true h2
  have e1:(Ax (e.ln 3) (e.rw 3)).length=e.ln 3:=As _ _
  refine BI.pre (x':=cl1X (e.bi 2 0) (fun i=>e.bb 2 (1+3 * i)) (fun i=>e.bi 2 (2+3 * i)) (fun i=>e.bi 2 (3+3 * i)) (e.bi 2 16) (Ax (e.ln 3) (e.rw 3)) (Ax 1 (e.rw 4)) (e.ai 0 0) (e.bi 0 0)) ⟨?_,?_,?_,?_,⟨e1.symm,fun i hi=>rowI_eqv ?_⟩,⟨trivial,fun i hi=>rowI_eqv ?_⟩,trivial⟩ (cl1_std _ _ _ _ _ _ _ _ _ h1 h2)
  · exact clP
  · exact clP
  · exact clP
  · exact clP
  · have hi:(i:Int)<((Ax (e.ln 3) (e.rw 3)).length:Int):=hi
    rw [e1] at hi
    exact_mod_cast hi
  · exact_mod_cast (show (i:Int)<(1:Int) from hi)
theorem cl2_std (ep:Int) (u:Nat→Bool) (w h:Nat→Int) (g:Int) (l p:List Int) (o z:Int) (ho:0≤o∧o<5) (hz:0≤z∧z<5):BI Tryz.prog 206 cl2T (cl2X ep u w h g l p o z) cl2R ⟨[[.b (fitB h o z)]],[.box [.i z],.box [.u],.box (mapN ep u w h++[.i g,.u,.u])]⟩:=by
  refine Aj (Ao _) Ay rfl (AL (cl2_t ep u w h g l p o z) ?_)
  refine AG (fun he=>?_) (fun hne=>?_)
  · refine AE ⟨⟨?_,trivial⟩,?_⟩
    · show true=fitB h o z
      rw [fitB,he,Bool.true_or]
    · exact clP
  refine AG (fun hj=>?_) (fun nj0=>?_)
  · have hj:=of_decide_eq_true hj
    refine AG (fun hk=>?_) (fun nk0=>?_)
    · have hk:=of_decide_eq_true hk
      refine AE ⟨⟨?_,trivial⟩,?_⟩
      · show (h 0==h 0)=fitB h o z
        rw [fitB,hne,Bool.false_or,hj,hk]
        rfl
      · exact clP
    refine AG (fun hk=>?_) (fun nk1=>?_)
    · have hk:=of_decide_eq_true hk
      refine AE ⟨⟨?_,trivial⟩,?_⟩
      · show (h 0==h 1)=fitB h o z
        rw [fitB,hne,Bool.false_or,hj,hk]
        rfl
      · exact clP
    refine AG (fun hk=>?_) (fun nk2=>?_)
    · have hk:=of_decide_eq_true hk
      refine AE ⟨⟨?_,trivial⟩,?_⟩
      · show (h 0==h 2)=fitB h o z
        rw [fitB,hne,Bool.false_or,hj,hk]
        rfl
      · exact clP
    refine AG (fun hk=>?_) (fun nk3=>?_)
    · have hk:=of_decide_eq_true hk
      refine AE ⟨⟨?_,trivial⟩,?_⟩
      · show (h 0==h 3)=fitB h o z
        rw [fitB,hne,Bool.false_or,hj,hk]
        rfl
      · exact clP
    refine AG (fun hk=>?_) (fun nk4=>?_)
    · have hk:=of_decide_eq_true hk
      refine AE ⟨⟨?_,trivial⟩,?_⟩
      · show (h 0==h 4)=fitB h o z
        rw [fitB,hne,Bool.false_or,hj,hk]
        rfl
      · exact clP
    exfalso
    have:=of_decide_eq_false nk0; have:=of_decide_eq_false nk1; have:=of_decide_eq_false nk2; have:=of_decide_eq_false nk3; have:=of_decide_eq_false nk4
    omega
  refine AG (fun hj=>?_) (fun nj1=>?_)
  · have hj:=of_decide_eq_true hj
    refine AG (fun hk=>?_) (fun nk0=>?_)
    · have hk:=of_decide_eq_true hk
      refine AE ⟨⟨?_,trivial⟩,?_⟩
      · show (h 1==h 0)=fitB h o z
        rw [fitB,hne,Bool.false_or,hj,hk]
        rfl
      · exact clP
    refine AG (fun hk=>?_) (fun nk1=>?_)
    · have hk:=of_decide_eq_true hk
      refine AE ⟨⟨?_,trivial⟩,?_⟩
      · show (h 1==h 1)=fitB h o z
        rw [fitB,hne,Bool.false_or,hj,hk]
        rfl
      · exact clP
    refine AG (fun hk=>?_) (fun nk2=>?_)
    · have hk:=of_decide_eq_true hk
      refine AE ⟨⟨?_,trivial⟩,?_⟩
      · show (h 1==h 2)=fitB h o z
        rw [fitB,hne,Bool.false_or,hj,hk]
        rfl
      · exact clP
    refine AG (fun hk=>?_) (fun nk3=>?_)
    · have hk:=of_decide_eq_true hk
      refine AE ⟨⟨?_,trivial⟩,?_⟩
      · show (h 1==h 3)=fitB h o z
        rw [fitB,hne,Bool.false_or,hj,hk]
        rfl
      · exact clP
    refine AG (fun hk=>?_) (fun nk4=>?_)
    · have hk:=of_decide_eq_true hk
      refine AE ⟨⟨?_,trivial⟩,?_⟩
      · show (h 1==h 4)=fitB h o z
        rw [fitB,hne,Bool.false_or,hj,hk]
        rfl
      · exact clP
    exfalso
    have:=of_decide_eq_false nk0; have:=of_decide_eq_false nk1; have:=of_decide_eq_false nk2; have:=of_decide_eq_false nk3; have:=of_decide_eq_false nk4
    omega
  refine AG (fun hj=>?_) (fun nj2=>?_)
  · have hj:=of_decide_eq_true hj
    refine AG (fun hk=>?_) (fun nk0=>?_)
    · have hk:=of_decide_eq_true hk
      refine AE ⟨⟨?_,trivial⟩,?_⟩
      · show (h 2==h 0)=fitB h o z
        rw [fitB,hne,Bool.false_or,hj,hk]
        rfl
      · exact clP
    refine AG (fun hk=>?_) (fun nk1=>?_)
    · have hk:=of_decide_eq_true hk
      refine AE ⟨⟨?_,trivial⟩,?_⟩
      · show (h 2==h 1)=fitB h o z
        rw [fitB,hne,Bool.false_or,hj,hk]
        rfl
      · exact clP
    refine AG (fun hk=>?_) (fun nk2=>?_)
    · have hk:=of_decide_eq_true hk
      refine AE ⟨⟨?_,trivial⟩,?_⟩
      · show (h 2==h 2)=fitB h o z
        rw [fitB,hne,Bool.false_or,hj,hk]
        rfl
      · exact clP
    refine AG (fun hk=>?_) (fun nk3=>?_)
    · have hk:=of_decide_eq_true hk
      refine AE ⟨⟨?_,trivial⟩,?_⟩
      · show (h 2==h 3)=fitB h o z
        rw [fitB,hne,Bool.false_or,hj,hk]
        rfl
      · exact clP
    refine AG (fun hk=>?_) (fun nk4=>?_)
    · have hk:=of_decide_eq_true hk
      refine AE ⟨⟨?_,trivial⟩,?_⟩
      · show (h 2==h 4)=fitB h o z
        rw [fitB,hne,Bool.false_or,hj,hk]
        rfl
      · exact clP
    exfalso
    have:=of_decide_eq_false nk0; have:=of_decide_eq_false nk1; have:=of_decide_eq_false nk2; have:=of_decide_eq_false nk3; have:=of_decide_eq_false nk4
    omega
  refine AG (fun hj=>?_) (fun nj3=>?_)
  · have hj:=of_decide_eq_true hj
    refine AG (fun hk=>?_) (fun nk0=>?_)
    · have hk:=of_decide_eq_true hk
      refine AE ⟨⟨?_,trivial⟩,?_⟩
      · show (h 3==h 0)=fitB h o z
        rw [fitB,hne,Bool.false_or,hj,hk]
        rfl
      · exact clP
    refine AG (fun hk=>?_) (fun nk1=>?_)
    · have hk:=of_decide_eq_true hk
      refine AE ⟨⟨?_,trivial⟩,?_⟩
      · show (h 3==h 1)=fitB h o z
        rw [fitB,hne,Bool.false_or,hj,hk]
        rfl
      · exact clP
    refine AG (fun hk=>?_) (fun nk2=>?_)
    · have hk:=of_decide_eq_true hk
      refine AE ⟨⟨?_,trivial⟩,?_⟩
      · show (h 3==h 2)=fitB h o z
        rw [fitB,hne,Bool.false_or,hj,hk]
        rfl
      · exact clP
    refine AG (fun hk=>?_) (fun nk3=>?_)
    · have hk:=of_decide_eq_true hk
      refine AE ⟨⟨?_,trivial⟩,?_⟩
      · show (h 3==h 3)=fitB h o z
        rw [fitB,hne,Bool.false_or,hj,hk]
        rfl
      · exact clP
    refine AG (fun hk=>?_) (fun nk4=>?_)
    · have hk:=of_decide_eq_true hk
      refine AE ⟨⟨?_,trivial⟩,?_⟩
      · show (h 3==h 4)=fitB h o z
        rw [fitB,hne,Bool.false_or,hj,hk]
        rfl
      · exact clP
    exfalso
    have:=of_decide_eq_false nk0; have:=of_decide_eq_false nk1; have:=of_decide_eq_false nk2; have:=of_decide_eq_false nk3; have:=of_decide_eq_false nk4
    omega
  refine AG (fun hj=>?_) (fun nj4=>?_)
  · have hj:=of_decide_eq_true hj
    refine AG (fun hk=>?_) (fun nk0=>?_)
    · have hk:=of_decide_eq_true hk
      refine AE ⟨⟨?_,trivial⟩,?_⟩
      · show (h 4==h 0)=fitB h o z
        rw [fitB,hne,Bool.false_or,hj,hk]
        rfl
      · exact clP
    refine AG (fun hk=>?_) (fun nk1=>?_)
    · have hk:=of_decide_eq_true hk
      refine AE ⟨⟨?_,trivial⟩,?_⟩
      · show (h 4==h 1)=fitB h o z
        rw [fitB,hne,Bool.false_or,hj,hk]
        rfl
      · exact clP
    refine AG (fun hk=>?_) (fun nk2=>?_)
    · have hk:=of_decide_eq_true hk
      refine AE ⟨⟨?_,trivial⟩,?_⟩
      · show (h 4==h 2)=fitB h o z
        rw [fitB,hne,Bool.false_or,hj,hk]
        rfl
      · exact clP
    refine AG (fun hk=>?_) (fun nk3=>?_)
    · have hk:=of_decide_eq_true hk
      refine AE ⟨⟨?_,trivial⟩,?_⟩
      · show (h 4==h 3)=fitB h o z
        rw [fitB,hne,Bool.false_or,hj,hk]
        rfl
      · exact clP
    refine AG (fun hk=>?_) (fun nk4=>?_)
    · have hk:=of_decide_eq_true hk
      refine AE ⟨⟨?_,trivial⟩,?_⟩
      · show (h 4==h 4)=fitB h o z
        rw [fitB,hne,Bool.false_or,hj,hk]
        rfl
      · exact clP
    exfalso
    have:=of_decide_eq_false nk0; have:=of_decide_eq_false nk1; have:=of_decide_eq_false nk2; have:=of_decide_eq_false nk3; have:=of_decide_eq_false nk4
    omega
  exfalso
  have:=of_decide_eq_false nj0; have:=of_decide_eq_false nj1; have:=of_decide_eq_false nj2; have:=of_decide_eq_false nj3; have:=of_decide_eq_false nj4
  omega
def cCl2 (e:EN):Ah (TS×EN):=.must (d5 (e.ai 0 0)) (.must (d5 (e.bi 0 0)) (.leaf (cl2R,⟨[[.b (fitB (fun i=>e.bi 2 (3+3 * i)) (e.ai 0 0) (e.bi 0 0))]],[.box [.i (e.bi 0 0)],.box [.u],.box [.i (e.bi 2 0),.b (e.bb 2 1),.i (e.bi 2 2),.i (e.bi 2 3),.b (e.bb 2 4),.i (e.bi 2 5),.i (e.bi 2 6),.b (e.bb 2 7),.i (e.bi 2 8),.i (e.bi 2 9),.b (e.bb 2 10),.i (e.bi 2 11),.i (e.bi 2 12),.b (e.bb 2 13),.i (e.bi 2 14),.i (e.bi 2 15),.i (e.bi 2 16),.u,.u]]⟩)))
theorem cCl2_ok:Ak Tryz.prog 206 (AW cl2T cCl2):=BN fun e r h=>by
  obtain ⟨h1,h⟩:=Ar h
  obtain ⟨h2,h⟩:=Ar h
  cases h
  have h1:=of_decide_eq_true h1
  have h2:=of_decide_eq_true h2
  have e1:(Ax (e.ln 3) (e.rw 3)).length=e.ln 3:=As _ _
  refine BI.pre (x':=cl2X (e.bi 2 0) (fun i=>e.bb 2 (1+3 * i)) (fun i=>e.bi 2 (2+3 * i)) (fun i=>e.bi 2 (3+3 * i)) (e.bi 2 16) (Ax (e.ln 3) (e.rw 3)) (Ax 2 (e.rw 4)) (e.ai 0 0) (e.bi 0 0)) ⟨?_,?_,?_,?_,⟨e1.symm,fun i hi=>rowI_eqv ?_⟩,⟨trivial,fun i hi=>rowI_eqv ?_⟩,trivial⟩ (cl2_std _ _ _ _ _ _ _ _ _ h1 h2)
  · exact clP
  · exact clP
  · exact clP
  · exact clP
  · have hi:(i:Int)<((Ax (e.ln 3) (e.rw 3)).length:Int):=hi
    rw [e1] at hi
    exact_mod_cast hi
  · exact_mod_cast (show (i:Int)<(2:Int) from hi)
noncomputable def pfSm:List (FuncId×Summ):=[(206,orSumm (AW cl1T cCl1) (AW cl2T cCl2))]
noncomputable def pfT:Tab:=smTab (tabOf pfSm)
theorem pfSm_ok:AllOk Tryz.prog pfSm:=⟨orSumm_ok cCl1_ok cCl2_ok,trivial⟩
theorem pfTab:TabAll Tryz.prog pfT:=tab_ok pfSm_ok
def fi0T:TS:=⟨[],[.one (.ptr 0 0),.one (.i .i64)],chP0,2⟩
def fi0R:TS:=⟨[],[.one .b],[(0,.box ch0)],2⟩
theorem fi0_t (ep:Int) (u:Nat→Bool) (w h:Nat→Int) (g:Int) (l p:List Int) (z:Int):BR Tryz.prog (Am Tryz.prog pfT 300) 202 (fi0T.vals (dr0X ep u w h g l p z)) (fi0T.heap (dr0X ep u w h g l p z)) 2 (outV 2 fi0R) =

  .leaf ⟨[[.b true]],[(qPf2 ep u w h g)]⟩:=by kernel_rfl
def fi1T:TS:=⟨[],[.one (.ptr 0 0),.one (.i .i64)],chP1,3⟩
def fi1R:TS:=⟨[],[.one .b],[(0,.box ch1)],3⟩
theorem fi1_t (ep:Int) (u:Nat→Bool) (w h:Nat→Int) (g:Int) (l p:List Int) (z:Int):BR Tryz.prog (Am Tryz.prog pfT 300) 202 (fi1T.vals (dr1X ep u w h g l p z)) (fi1T.heap (dr1X ep u w h g l p z)) 3 (outV 3 fi1R) =

  .defI (p.getD 0 0) fun z0=>.must (AX [.i .i64] (AI [.i .i64] (AR l)) l.length) (.defE ⟨[[.i z0],[.u],[.u]],[.box [.i z],.box [.u],(qPf2 ep u w h g),.lst l.length (AR l),.lst 1 (AR p)]⟩ fun e1=>qPf4 e1):=by kernel_rfl
def fi2T:TS:=⟨[],[.one (.ptr 0 0),.one (.i .i64)],chP2,3⟩
def fi2R:TS:=⟨[],[.one .b],[(0,.box ch2)],3⟩
theorem fi2_t (ep:Int) (u:Nat→Bool) (w h:Nat→Int) (g:Int) (l p:List Int) (z:Int):BR Tryz.prog (Am Tryz.prog pfT 300) 202 (fi2T.vals (dr2X ep u w h g l p z)) (fi2T.heap (dr2X ep u w h g l p z)) 3 (outV 3 fi2R) =

  .defI (p.getD 0 0) fun z0=>.must (AX [.i .i64] (AI [.i .i64] (AR l)) l.length) (.defE ⟨[[.i z0],[.u],[.u]],[.box [.i z],.box [.u],(qPf2 ep u w h g),.lst l.length (AR l),.lst 2 (AR p)]⟩ fun e1=>.must (d5 (e1.ai 0 0)) (.must (d5 (e1.bi 0 0)) (qPf1 e1 fun z2 z3 z4 z5 z6 z7 z8 z9 z10 z11 z12 z13 z14 z15 z16 z17 z18 z19=>.ite (fitB (fun (i:Nat)=>e1.bi 2 (3+3 * i)) (e1.ai 0 0) (e1.bi 0 0)) (.leaf ⟨[[.b false]],[.box [.i z3,.b z4,.i z5,.i z6,.b z7,.i z8,.i z9,.b z10,.i z11,.i z12,.b z13,.i z14,.i z15,.b z16,.i z17,.i z18,.i z19,.u,.u]]⟩) (.defI (p.getD 1 0) fun z20=>.must (AX [.i .i64] (AI [.i .i64] (AR l)) l.length) (.defE ⟨[[.i z20],[.u],[.u]],[.box [.i z2],.box [.u],.box [.i z3,.b z4,.i z5,.i z6,.b z7,.i z8,.i z9,.b z10,.i z11,.i z12,.b z13,.i z14,.i z15,.b z16,.i z17,.i z18,.i z19,.u,.u],.lst l.length (AR l),.lst 2 (AR p)]⟩ fun e21=>qPf4 e21))))):=by kernel_rfl
end Go.Proofs.YtddmgdclmkgpeaaGreat
set_option linter.unusedSimpArgs false
set_option linter.unusedVariables false
namespace Go.Proofs.YtddmgdclmkgpeaaGreat
open Go.Eng Go.RowKit Go.ChangeShapes Go.WideShapes
set_option maxRecDepth 100000
def fitsF (h:Nat→Int) (p:List Int) (z:Int):Bool:=!(p.any fun o=>fitB h o z)
theorem fitB_eq {H h:Nat→Int} (hH:AllN (fun i=>H i=h i) 5) {o z:Int} (ho:d5 o=true) (hz:d5 z=true):fitB H o z=fitB h o z:=by
  have ho:=of_decide_eq_true ho
  have hz:=of_decide_eq_true hz
  unfold fitB
  rw [allN_lt hH o.toNat (by omega),allN_lt hH z.toNat (by omega)]
set_option maxHeartbeats 2000000 in
theorem fi0_std (ep:Int) (u:Nat→Bool) (w h:Nat→Int) (g:Int) (l:List Int) (z:Int) (hz:d5 z=true):BI Tryz.prog 202 fi0T (dr0X ep u w h g l [] z) fi0R ⟨[[.b (fitsF h [] z)]],[.box (mapN ep u w h++[.i g,.u,.u])]⟩:=by
  refine Aj pfTab Ay rfl (AL (fi0_t ep u w h g l [] z) ?_)
  refine AE ?_
  (repeat' (first | exact trivial | exact rfl | exact TS.eqv_refl _ _ | exact AY _ _ | exact AQ | exact fun _ _=>AJ _ _ | exact fun i _=>AF rfl _ i | apply And.intro))
def cFi0 (e:EN):Ah (TS×EN):=.must (d5 (e.ai 1 0)) (.leaf (fi0R,⟨[[.b (fitsF (fun i=>e.bi 0 (3+3 * i)) [] (e.ai 1 0))]],[.box [.i (e.bi 0 0),.b (e.bb 0 1),.i (e.bi 0 2),.i (e.bi 0 3),.b (e.bb 0 4),.i (e.bi 0 5),.i (e.bi 0 6),.b (e.bb 0 7),.i (e.bi 0 8),.i (e.bi 0 9),.b (e.bb 0 10),.i (e.bi 0 11),.i (e.bi 0 12),.b (e.bb 0 13),.i (e.bi 0 14),.i (e.bi 0 15),.i (e.bi 0 16),.u,.u]]⟩))
theorem cFi0_ok:Ak Tryz.prog 202 (AW fi0T cFi0):=BN fun e r h=>by
  obtain ⟨hz,h⟩:=Ar h
  cases h
  have e1:(Ax (e.ln 1) (e.rw 1)).length=e.ln 1:=As _ _
  refine BI.pre (x':=dr0X (e.bi 0 0) (fun i=>e.bb 0 (1+3 * i)) (fun i=>e.bi 0 (2+3 * i)) (fun i=>e.bi 0 (3+3 * i)) (e.bi 0 16) (Ax (e.ln 1) (e.rw 1)) [] (e.ai 1 0)) ⟨?_,?_,⟨e1.symm,fun i hi=>rowI_eqv ?_⟩,trivial⟩ (fi0_std _ _ _ _ _ _ _ hz)
  · exact clP
  · exact clP
  · have hi:(i:Int)<((Ax (e.ln 1) (e.rw 1)).length:Int):=hi
    rw [e1] at hi
    exact_mod_cast hi
set_option maxHeartbeats 2000000 in
theorem fi1_std (ep:Int) (u:Nat→Bool) (w h:Nat→Int) (g:Int) (l:List Int) (a:Int) (z:Int) (ha:d5 a=true) (hz:d5 z=true):BI Tryz.prog 202 fi1T (dr1X ep u w h g l [a] z) fi1R ⟨[[.b (fitsF h [a] z)]],[.box (mapN ep u w h++[.i g,.u,.u])]⟩:=by
  refine Aj pfTab Ay rfl (AL (fi1_t ep u w h g l [a] z) ?_)
  refine AB (AA (AN _ _ _) (AK (AA ha (AA hz ?_))))
  repeat' with_reducible (first | refine AB ?_ | refine AM ?_)
  refine AG (fun hc=>?_) (fun hc=>?_)
  · have hc:fitB h a z=true:=(fitB_eq clP ha hz).symm.trans hc
    have hr:fitsF h [a] z=false:=by simp [fitsF,hc]
    rw [hr]
    refine AE ?_
    (repeat' (first | exact trivial | exact rfl | exact TS.eqv_refl _ _ | exact AY _ _ | exact AQ | exact fun _ _=>AJ _ _ | exact fun i _=>AF rfl _ i | apply And.intro))
  have ha2:fitB h a z=false:=(fitB_eq clP ha hz).symm.trans hc
  have hr:fitsF h [a] z=true:=by simp [fitsF,ha2]
  rw [hr]
  refine AE ?_
  (repeat' (first | exact trivial | exact rfl | exact TS.eqv_refl _ _ | exact AY _ _ | exact AQ | exact fun _ _=>AJ _ _ | exact fun i _=>AF rfl _ i | apply And.intro))
def cFi1 (e:EN):Ah (TS×EN):=.must (d5 (hdN (e.rw 2 0)).I) (.must (d5 (e.ai 1 0)) (.leaf (fi1R,⟨[[.b (fitsF (fun i=>e.bi 0 (3+3 * i)) [(hdN (e.rw 2 0)).I] (e.ai 1 0))]],[.box [.i (e.bi 0 0),.b (e.bb 0 1),.i (e.bi 0 2),.i (e.bi 0 3),.b (e.bb 0 4),.i (e.bi 0 5),.i (e.bi 0 6),.b (e.bb 0 7),.i (e.bi 0 8),.i (e.bi 0 9),.b (e.bb 0 10),.i (e.bi 0 11),.i (e.bi 0 12),.b (e.bb 0 13),.i (e.bi 0 14),.i (e.bi 0 15),.i (e.bi 0 16),.u,.u]]⟩)))
theorem cFi1_ok:Ak Tryz.prog 202 (AW fi1T cFi1):=BN fun e r h=>by
  obtain ⟨ha,h⟩:=Ar h
  obtain ⟨hz,h⟩:=Ar h
  cases h
  have e1:(Ax (e.ln 1) (e.rw 1)).length=e.ln 1:=As _ _
  refine BI.pre (x':=dr1X (e.bi 0 0) (fun i=>e.bb 0 (1+3 * i)) (fun i=>e.bi 0 (2+3 * i)) (fun i=>e.bi 0 (3+3 * i)) (e.bi 0 16) (Ax (e.ln 1) (e.rw 1)) [(hdN (e.rw 2 0)).I] (e.ai 1 0)) ⟨?_,?_,⟨e1.symm,fun i hi=>rowI_eqv ?_⟩,⟨trivial,?_⟩,trivial⟩ (fi1_std _ _ _ _ _ _ _ _ ha hz)
  · exact clP
  · exact clP
  · have hi:(i:Int)<((Ax (e.ln 1) (e.rw 1)).length:Int):=hi
    rw [e1] at hi
    exact_mod_cast hi
  · exact rowsL [(hdN (e.rw 2 0)).I] _ clP
set_option maxHeartbeats 2000000 in
theorem fi2_std (ep:Int) (u:Nat→Bool) (w h:Nat→Int) (g:Int) (l:List Int) (a b:Int) (z:Int) (ha:d5 a=true) (hb:d5 b=true) (hz:d5 z=true):BI Tryz.prog 202 fi2T (dr2X ep u w h g l [a,b] z) fi2R ⟨[[.b (fitsF h [a,b] z)]],[.box (mapN ep u w h++[.i g,.u,.u])]⟩:=by
  refine Aj pfTab Ay rfl (AL (fi2_t ep u w h g l [a,b] z) ?_)
  refine AB (AA (AN _ _ _) (AK (AA ha (AA hz ?_))))
  repeat' with_reducible (first | refine AB ?_ | refine AM ?_)
  refine AG (fun hc=>?_) (fun hc=>?_)
  · have hc:fitB h a z=true:=(fitB_eq clP ha hz).symm.trans hc
    have hr:fitsF h [a,b] z=false:=by simp [fitsF,hc]
    rw [hr]
    refine AE ?_
    (repeat' (first | exact trivial | exact rfl | exact TS.eqv_refl _ _ | exact AY _ _ | exact AQ | exact fun _ _=>AJ _ _ | exact fun i _=>AF rfl _ i | apply And.intro))
  have ha2:fitB h a z=false:=(fitB_eq clP ha hz).symm.trans hc
  refine AB (AA (AN _ _ _) (AK (AA hb (AA hz ?_))))
  repeat' with_reducible (first | refine AB ?_ | refine AM ?_)
  refine AG (fun hc=>?_) (fun hc=>?_)
  · have hc:fitB h b z=true:=(fitB_eq clP hb hz).symm.trans hc
    have hr:fitsF h [a,b] z=false:=by simp [fitsF,ha2,hc]
    rw [hr]
    refine AE ?_
    (repeat' (first | exact trivial | exact rfl | exact TS.eqv_refl _ _ | exact AY _ _ | exact AQ | exact fun _ _=>AJ _ _ | exact fun i _=>AF rfl _ i | apply And.intro))
  have hb2:fitB h b z=false:=(fitB_eq clP hb hz).symm.trans hc
  have hr:fitsF h [a,b] z=true:=by simp [fitsF,ha2,hb2]
  rw [hr]
  refine AE ?_
  (repeat' (first | exact trivial | exact rfl | exact TS.eqv_refl _ _ | exact AY _ _ | exact AQ | exact fun _ _=>AJ _ _ | exact fun i _=>AF rfl _ i | apply And.intro))
def cFi2 (e:EN):Ah (TS×EN):=.must (d5 (hdN (e.rw 2 0)).I) (.must (d5 (hdN (e.rw 2 1)).I) (.must (d5 (e.ai 1 0)) (.leaf (fi2R,⟨[[.b (fitsF (fun i=>e.bi 0 (3+3 * i)) [(hdN (e.rw 2 0)).I,(hdN (e.rw 2 1)).I] (e.ai 1 0))]],[.box [.i (e.bi 0 0),.b (e.bb 0 1),.i (e.bi 0 2),.i (e.bi 0 3),.b (e.bb 0 4),.i (e.bi 0 5),.i (e.bi 0 6),.b (e.bb 0 7),.i (e.bi 0 8),.i (e.bi 0 9),.b (e.bb 0 10),.i (e.bi 0 11),.i (e.bi 0 12),.b (e.bb 0 13),.i (e.bi 0 14),.i (e.bi 0 15),.i (e.bi 0 16),.u,.u]]⟩))))
theorem cFi2_ok:Ak Tryz.prog 202 (AW fi2T cFi2):=BN fun e r h=>by
  obtain ⟨ha,h⟩:=Ar h
  obtain ⟨hb,h⟩:=Ar h
  obtain ⟨hz,h⟩:=Ar h
  cases h
  have e1:(Ax (e.ln 1) (e.rw 1)).length=e.ln 1:=As _ _
  refine BI.pre (x':=dr2X (e.bi 0 0) (fun i=>e.bb 0 (1+3 * i)) (fun i=>e.bi 0 (2+3 * i)) (fun i=>e.bi 0 (3+3 * i)) (e.bi 0 16) (Ax (e.ln 1) (e.rw 1)) [(hdN (e.rw 2 0)).I,(hdN (e.rw 2 1)).I] (e.ai 1 0)) ⟨?_,?_,⟨e1.symm,fun i hi=>rowI_eqv ?_⟩,⟨trivial,?_⟩,trivial⟩ (fi2_std _ _ _ _ _ _ _ _ _ ha hb hz)
  · exact clP
  · exact clP
  · have hi:(i:Int)<((Ax (e.ln 1) (e.rw 1)).length:Int):=hi
    rw [e1] at hi
    exact_mod_cast hi
  · exact rowsL [(hdN (e.rw 2 0)).I,(hdN (e.rw 2 1)).I] _ clP
noncomputable def sFi:Summ:=orSumm (AW fi0T cFi0) (orSumm (AW fi1T cFi1) (AW fi2T cFi2))
noncomputable def pgSm:List (FuncId×Summ):=[(201,sDr),(202,sFi)]
noncomputable def pgT:Tab:=smTab (tabOf pgSm)
theorem pgSm_ok:AllOk Tryz.prog pgSm:=⟨sDr_ok,orSumm_ok cFi0_ok (orSumm_ok cFi1_ok cFi2_ok),trivial⟩
theorem pgTab:TabAll Tryz.prog pgT:=tab_ok pgSm_ok
noncomputable def bodyPk:Code:=Tryz.f197.body.getD .skip
noncomputable def xPk:Code:=lp ((flat bodyPk).getD 2 .skip)
theorem bodyPk_eq:Tryz.f197.body=some bodyPk:=by kernel_rfl
theorem inPk:BT Tryz.prog 197 Tryz.f197.ntmps bodyPk:=within_body Tryz.func197 bodyPk_eq
theorem lpPk:(flat bodyPk).drop 2=[.block 0 (.loop xPk)]++(flat bodyPk).drop 3:=by kernel_rfl
theorem inPkx:BT Tryz.prog 197 Tryz.f197.ntmps xPk:=by
  have h:(flat bodyPk)[2]? = some (.block 0 (.loop xPk)):=by kernel_rfl
  exact within_loop (within_block (within_at inPk 2 h))
def pkP0:List (Nat×TO):=[(0,.box ch0),(1,.lst none [.i .i64] none)]
def pk0T:TS:=⟨[],[.one (.ptr 0 0),.one (.i .i64)],pkP0,2⟩
def pk0L:TS:=⟨[0,1,4,7],[.one (.ptr 0 0),.one (.i .i64),.one (.fnv 201),.one (.i .i64)],pkP0,2⟩
def pk0E:TS:=⟨[],[],[(0,.box ch0)],2⟩
def pk0Y:TS:=⟨[],[],[(0,.box [.i .u32,.b,.i .i64,.i .u8,.b,.i .i64,.i .u8,.b,.i .i64,.i .u8,.b,.i .i64,.i .u8,.b,.i .i64,.i .u8,.i .u8,.sl 1,.sl 2]),(2,.lst (some 1) [.i .i64] (some 3)),(3,.tok)],4⟩
def pk0N (ep:Int) (u:Nat→Bool) (w h:Nat→Int) (g:Int) (l p:List Int):List ON:=[.box (mapN ep u w h++[.i g,.u,.u]),.lst l.length (AR l)]
def pk0X (ep:Int) (u:Nat→Bool) (w h:Nat→Int) (g:Int) (l p:List Int) (r:Int):EN:=⟨[[],[.i r]],pk0N ep u w h g l p⟩
def pk0Z (ep:Int) (u:Nat→Bool) (w h:Nat→Int) (g:Int) (l p:List Int) (r t:Int):EN:=⟨[[],[.i r],[],[.i t]],pk0N ep u w h g l p⟩
noncomputable abbrev qPg1 {R:Type} (e:EN) (k:Int→Bool→Int→Int→Bool→Int→Int→Bool→Int→Int→Bool→Int→Int→Bool→Int→Int→Int→Ah R):Ah R:=.defI (e.bi 0 0) fun a0=>.defB (e.bb 0 1) fun a1=>.defI (e.bi 0 2) fun a2=>.defI (e.bi 0 3) fun a3=>.defB (e.bb 0 4) fun a4=>.defI (e.bi 0 5) fun a5=>.defI (e.bi 0 6) fun a6=>.defB (e.bb 0 7) fun a7=>.defI (e.bi 0 8) fun a8=>.defI (e.bi 0 9) fun a9=>.defB (e.bb 0 10) fun a10=>.defI (e.bi 0 11) fun a11=>.defI (e.bi 0 12) fun a12=>.defB (e.bb 0 13) fun a13=>.defI (e.bi 0 14) fun a14=>.defI (e.bi 0 15) fun a15=>.defI (e.bi 0 16) fun a16=>k a0 a1 a2 a3 a4 a5 a6 a7 a8 a9 a10 a11 a12 a13 a14 a15 a16
noncomputable abbrev qPg2 (v0:Int) (v1:Nat→Bool) (v2:Nat→Int) (v3:Nat→Int) (v4:Int):ON:=.box [.i v0,.b (v1 0),.i (v2 0),.i (v3 0),.b (v1 1),.i (v2 1),.i (v3 1),.b (v1 2),.i (v2 2),.i (v3 2),.b (v1 3),.i (v2 3),.i (v3 3),.b (v1 4),.i (v2 4),.i (v3 4),.i v4,.u,.u]
noncomputable abbrev qPg3 (v0:Int) (v1:Bool) (v2:Int) (v3:Int) (v4:Bool) (v5:Int) (v6:Int) (v7:Bool) (v8:Int) (v9:Int) (v10:Bool) (v11:Int) (v12:Int) (v13:Bool) (v14:Int) (v15:Int) (v16:Int):ON:=.box [.i v0,.b v1,.i v2,.i v3,.b v4,.i v5,.i v6,.b v7,.i v8,.i v9,.b v10,.i v11,.i v12,.b v13,.i v14,.i v15,.i v16,.u,.u]
theorem pk0_pre (ep:Int) (u:Nat→Bool) (w h:Nat→Int) (g:Int) (l p:List Int) (r:Int) (τ0:Tm):Am Tryz.prog pgT 300 197 Tryz.f197.ntmps (Eng.ofL ((flat bodyPk).take 2)) (argTm 0 (pk0T.vals (pk0X ep u w h g l p r))++τ0) (pk0T.heap (pk0X ep u w h g l p r)) 2 (outX 2 ⟨some pk0L,[],none⟩) =

  .must (AX [.i .i64] (AI [.i .i64] (AR l)) l.length) (.leaf (.normal,⟨[[.u],[.i r],[.u],[.i 0]],[(qPg2 ep u w h g),.lst l.length (AR l)]⟩)):=by kernel_rfl
theorem pk0_x (ep:Int) (u:Nat→Bool) (w h:Nat→Int) (g:Int) (l p:List Int) (r t:Int) (τ0:Tm):Am Tryz.prog pgT 300 197 Tryz.f197.ntmps xPk (pk0L.tm (pk0Z ep u w h g l p r t)++τ0) (pk0L.heap (pk0Z ep u w h g l p r t)) 2 (outX 2 ⟨some pk0L,[(0,pk0E)],some pk0Y⟩) =

  .ite (decide (t<20)) (.defI (IntKind.i64.wrap (t * 3)) fun z0=>.defI (IntKind.i64.wrap (r+z0)) fun z1=>.must (AX [.i .i64] (AI [.i .i64] (AR l)) l.length) (.defE ⟨[[.u],[.i z1]],[(qPg2 ep u w h g),.lst l.length (AR l)]⟩ fun e2=>.must (inB (Ax (e2.ln 1) (e2.rw 1))) (.defI (pickO (e2.bi 0 16) (e2.ai 1 0) (fun (i:Nat)=>e2.bi 0 (2+3 * i)) (Ax (e2.ln 1) (e2.rw 1))) fun z3=>qPg1 e2 fun z4 z5 z6 z7 z8 z9 z10 z11 z12 z13 z14 z15 z16 z17 z18 z19 z20=>.must (AX [.i .i64] (AI [.i .i64] (AR l)) l.length) (.defE ⟨[[.u],[.i z3]],[(qPg3 z4 z5 z6 z7 z8 z9 z10 z11 z12 z13 z14 z15 z16 z17 z18 z19 z20),.lst l.length (AR l)]⟩ fun e21=>.must (d5 (e21.ai 1 0)) (qPg1 e21 fun z22 z23 z24 z25 z26 z27 z28 z29 z30 z31 z32 z33 z34 z35 z36 z37 z38=>.ite (fitsF (fun (i:Nat)=>e21.bi 0 (3+3 * i)) [] (e21.ai 1 0)) (.leaf (.ret,⟨[],[(qPg3 z22 z23 z24 z25 z26 z27 z28 z29 z30 z31 z32 z33 z34 z35 z36 z37 z38),.lst 1 (AH [.i .i64] (AP (.lit 0) (fun (x:Nat)=>[]) (Aa 1 [.int .i64 (.sym z3)]))),.tok]⟩)) (.defI (IntKind.i64.wrap (t+1)) fun z39=>.must (AX [.i .i64] (AI [.i .i64] (AR l)) l.length) (.leaf (.normal,⟨[[.u],[.i r],[.u],[.i z39]],[(qPg3 z22 z23 z24 z25 z26 z27 z28 z29 z30 z31 z32 z33 z34 z35 z36 z37 z38),.lst l.length (AR l)]⟩)))))))) (.leaf (.exit 0,⟨[],[(qPg2 ep u w h g)]⟩)):=by kernel_rfl
def pkP1:List (Nat×TO):=[(0,.box ch1),(1,.lst none [.i .i64] none),(2,.lst (some 1) [.i .i64] (some 3)),(3,.tok)]
def pk1T:TS:=⟨[],[.one (.ptr 0 0),.one (.i .i64)],pkP1,4⟩
def pk1L:TS:=⟨[0,1,4,7],[.one (.ptr 0 0),.one (.i .i64),.one (.fnv 201),.one (.i .i64)],pkP1,4⟩
def pk1E:TS:=⟨[],[],[(0,.box [.i .u32,.b,.i .i64,.i .u8,.b,.i .i64,.i .u8,.b,.i .i64,.i .u8,.b,.i .i64,.i .u8,.b,.i .i64,.i .u8,.i .u8,.sl 1,.sl 4]),(4,.lst (some 1) [.i .i64] (some 5)),(5,.tok)],6⟩
def pk1Y:TS:=⟨[],[],[(0,.box [.i .u32,.b,.i .i64,.i .u8,.b,.i .i64,.i .u8,.b,.i .i64,.i .u8,.b,.i .i64,.i .u8,.b,.i .i64,.i .u8,.i .u8,.sl 1,.sl 4]),(4,.lst (some 2) [.i .i64] (some 5)),(5,.tok)],6⟩
def pk1N (ep:Int) (u:Nat→Bool) (w h:Nat→Int) (g:Int) (l p:List Int):List ON:=[.box (mapN ep u w h++[.i g,.u,.u]),.lst l.length (AR l),.lst 1 (AR p),.tok]
def pk1X (ep:Int) (u:Nat→Bool) (w h:Nat→Int) (g:Int) (l p:List Int) (r:Int):EN:=⟨[[],[.i r]],pk1N ep u w h g l p⟩
def pk1Z (ep:Int) (u:Nat→Bool) (w h:Nat→Int) (g:Int) (l p:List Int) (r t:Int):EN:=⟨[[],[.i r],[],[.i t]],pk1N ep u w h g l p⟩
theorem pk1_pre (ep:Int) (u:Nat→Bool) (w h:Nat→Int) (g:Int) (l p:List Int) (r:Int) (τ0:Tm):Am Tryz.prog pgT 300 197 Tryz.f197.ntmps (Eng.ofL ((flat bodyPk).take 2)) (argTm 0 (pk1T.vals (pk1X ep u w h g l p r))++τ0) (pk1T.heap (pk1X ep u w h g l p r)) 4 (outX 4 ⟨some pk1L,[],none⟩) =

  .must (AX [.i .i64] (AI [.i .i64] (AR l)) l.length) (.leaf (.normal,⟨[[.u],[.i r],[.u],[.i 0]],[(qPg2 ep u w h g),.lst l.length (AR l),.lst 1 (AR p),.tok]⟩)):=by kernel_rfl
theorem pk1_x (ep:Int) (u:Nat→Bool) (w h:Nat→Int) (g:Int) (l p:List Int) (r t:Int) (τ0:Tm):Am Tryz.prog pgT 300 197 Tryz.f197.ntmps xPk (pk1L.tm (pk1Z ep u w h g l p r t)++τ0) (pk1L.heap (pk1Z ep u w h g l p r t)) 4 (outX 4 ⟨some pk1L,[(0,pk1E)],some pk1Y⟩) =

  .ite (decide (t<20)) (.defI (IntKind.i64.wrap (t * 3)) fun z0=>.defI (IntKind.i64.wrap (r+z0)) fun z1=>.must (AX [.i .i64] (AI [.i .i64] (AR l)) l.length) (.defE ⟨[[.u],[.i z1]],[(qPg2 ep u w h g),.lst l.length (AR l),.lst 1 (AR p)]⟩ fun e2=>.must (inB (Ax (e2.ln 1) (e2.rw 1))) (.defI (pickO (e2.bi 0 16) (e2.ai 1 0) (fun (i:Nat)=>e2.bi 0 (2+3 * i)) (Ax (e2.ln 1) (e2.rw 1))) fun z3=>qPg1 e2 fun z4 z5 z6 z7 z8 z9 z10 z11 z12 z13 z14 z15 z16 z17 z18 z19 z20=>.must (AX [.i .i64] (AI [.i .i64] (AR l)) l.length) (.defE ⟨[[.u],[.i z3]],[(qPg3 z4 z5 z6 z7 z8 z9 z10 z11 z12 z13 z14 z15 z16 z17 z18 z19 z20),.lst l.length (AR l),.lst 1 (AR p)]⟩ fun e21=>.must (d5 (hdN (e21.rw 2 0)).I) (.must (d5 (e21.ai 1 0)) (qPg1 e21 fun z22 z23 z24 z25 z26 z27 z28 z29 z30 z31 z32 z33 z34 z35 z36 z37 z38=>.ite (fitsF (fun (i:Nat)=>e21.bi 0 (3+3 * i)) [(hdN (e21.rw 2 0)).I] (e21.ai 1 0)) (.leaf (.ret,⟨[],[(qPg3 z22 z23 z24 z25 z26 z27 z28 z29 z30 z31 z32 z33 z34 z35 z36 z37 z38),.lst 2 (AH [.i .i64] (AP (.lit 1) (AI [.i .i64] (AR p)) (Aa 1 [.int .i64 (.sym z3)]))),.tok]⟩)) (.defI (IntKind.i64.wrap (t+1)) fun z39=>.must (AX [.i .i64] (AI [.i .i64] (AR l)) l.length) (.leaf (.normal,⟨[[.u],[.i r],[.u],[.i z39]],[(qPg3 z22 z23 z24 z25 z26 z27 z28 z29 z30 z31 z32 z33 z34 z35 z36 z37 z38),.lst l.length (AR l),.lst 1 (AR p),.tok]⟩))))))))) (.leaf (.exit 0,⟨[],[(qPg2 ep u w h g),.lst 1 (AR p),
 .tok]⟩)):=by kernel_rfl
def pkP2:List (Nat×TO):=[(0,.box ch2),(1,.lst none [.i .i64] none),(2,.lst (some 2) [.i .i64] (some 3)),(3,.tok)]
def pk2T:TS:=⟨[],[.one (.ptr 0 0),.one (.i .i64)],pkP2,4⟩
def pk2L:TS:=⟨[0,1,4,7],[.one (.ptr 0 0),.one (.i .i64),.one (.fnv 201),.one (.i .i64)],pkP2,4⟩
def pk2E:TS:=⟨[],[],[(0,.box [.i .u32,.b,.i .i64,.i .u8,.b,.i .i64,.i .u8,.b,.i .i64,.i .u8,.b,.i .i64,.i .u8,.b,.i .i64,.i .u8,.i .u8,.sl 1,.sl 4]),(4,.lst (some 2) [.i .i64] (some 5)),(5,.tok)],6⟩
def pk2Y:TS:=⟨[],[],[(0,.box [.i .u32,.b,.i .i64,.i .u8,.b,.i .i64,.i .u8,.b,.i .i64,.i .u8,.b,.i .i64,.i .u8,.b,.i .i64,.i .u8,.i .u8,.sl 1,.sl 4]),(4,.lst (some 3) [.i .i64] (some 5)),(5,.tok)],6⟩
def pk2N (ep:Int) (u:Nat→Bool) (w h:Nat→Int) (g:Int) (l p:List Int):List ON:=[.box (mapN ep u w h++[.i g,.u,.u]),.lst l.length (AR l),.lst 2 (AR p),.tok]
def pk2X (ep:Int) (u:Nat→Bool) (w h:Nat→Int) (g:Int) (l p:List Int) (r:Int):EN:=⟨[[],[.i r]],pk2N ep u w h g l p⟩
def pk2Z (ep:Int) (u:Nat→Bool) (w h:Nat→Int) (g:Int) (l p:List Int) (r t:Int):EN:=⟨[[],[.i r],[],[.i t]],pk2N ep u w h g l p⟩
theorem pk2_pre (ep:Int) (u:Nat→Bool) (w h:Nat→Int) (g:Int) (l p:List Int) (r:Int) (τ0:Tm):Am Tryz.prog pgT 300 197 Tryz.f197.ntmps (Eng.ofL ((flat bodyPk).take 2)) (argTm 0 (pk2T.vals (pk2X ep u w h g l p r))++τ0) (pk2T.heap (pk2X ep u w h g l p r)) 4 (outX 4 ⟨some pk2L,[],none⟩) =

  .must (AX [.i .i64] (AI [.i .i64] (AR l)) l.length) (.leaf (.normal,⟨[[.u],[.i r],[.u],[.i 0]],[(qPg2 ep u w h g),.lst l.length (AR l),.lst 2 (AR p),.tok]⟩)):=by kernel_rfl
theorem pk2_x (ep:Int) (u:Nat→Bool) (w h:Nat→Int) (g:Int) (l p:List Int) (r t:Int) (τ0:Tm):Am Tryz.prog pgT 300 197 Tryz.f197.ntmps xPk (pk2L.tm (pk2Z ep u w h g l p r t)++τ0) (pk2L.heap (pk2Z ep u w h g l p r t)) 4 (outX 4 ⟨some pk2L,[(0,pk2E)],some pk2Y⟩) =

  .ite (decide (t<20)) (.defI (IntKind.i64.wrap (t * 3)) fun z0=>.defI (IntKind.i64.wrap (r+z0)) fun z1=>.must (AX [.i .i64] (AI [.i .i64] (AR l)) l.length) (.defE ⟨[[.u],[.i z1]],[(qPg2 ep u w h g),.lst l.length (AR l),.lst 2 (AR p)]⟩ fun e2=>.must (inB (Ax (e2.ln 1) (e2.rw 1))) (.defI (pickO (e2.bi 0 16) (e2.ai 1 0) (fun (i:Nat)=>e2.bi 0 (2+3 * i)) (Ax (e2.ln 1) (e2.rw 1))) fun z3=>qPg1 e2 fun z4 z5 z6 z7 z8 z9 z10 z11 z12 z13 z14 z15 z16 z17 z18 z19 z20=>.must (AX [.i .i64] (AI [.i .i64] (AR l)) l.length) (.defE ⟨[[.u],[.i z3]],[(qPg3 z4 z5 z6 z7 z8 z9 z10 z11 z12 z13 z14 z15 z16 z17 z18 z19 z20),.lst l.length (AR l),.lst 2 (AR p)]⟩ fun e21=>.must (d5 (hdN (e21.rw 2 0)).I) (.must (d5 (hdN (e21.rw 2 1)).I) (.must (d5 (e21.ai 1 0)) (qPg1 e21 fun z22 z23 z24 z25 z26 z27 z28 z29 z30 z31 z32 z33 z34 z35 z36 z37 z38=>.ite (fitsF (fun (i:Nat)=>e21.bi 0 (3+3 * i)) [(hdN (e21.rw 2 0)).I,(hdN (e21.rw 2 1)).I] (e21.ai 1 0)) (.leaf (.ret,⟨[],[(qPg3 z22 z23 z24 z25 z26 z27 z28 z29 z30 z31 z32 z33 z34 z35 z36 z37 z38),.lst 3 (AH [.i .i64] (AP (.lit 2) (AI [.i .i64] (AR p)) (Aa 1 [.int .i64 (.sym z3)]))),.tok]⟩)) (.defI (IntKind.i64.wrap (t+1)) fun z39=>.must (AX [.i .i64] (AI [.i .i64] (AR l)) l.length) (.leaf (.normal,⟨[[.u],[.i r],[.u],[.i z39]],[(qPg3 z22 z23 z24 z25 z26 z27 z28 z29 z30 z31 z32 z33 z34 z35 z36 z37 z38),.lst l.length (AR l),.lst 2 (AR p),.tok]⟩))))))))))
 (.leaf (.exit 0,⟨[],[(qPg2 ep u w h g),.lst 2 (AR p),.tok]⟩)):=by kernel_rfl
end Go.Proofs.YtddmgdclmkgpeaaGreat
set_option linter.unusedSimpArgs false
set_option linter.unusedVariables false
namespace Go.Proofs.YtddmgdclmkgpeaaGreat
open Go.Eng Go.RowKit Go.ChangeShapes Go.WideShapes
set_option maxRecDepth 100000
def findO (f:Nat→Int) (ok:Int→Bool):Nat→Nat→Option Int
  | 0,_=>none
  | k+1,t=>bif ok (f t) then some (f t) else findO f ok k (t+1)
noncomputable def pickF (g r:Int) (w h:Nat→Int) (l p:List Int):Option Int:=findO (fun t=>pickO g (r+3 * t) w l) (fun z=>fitsF h p z) 20 0
theorem inB_iff {l:List Int} (h:inB l=true):0<l.length∧l.length≤5∧∀ i,i<l.length→0≤l.getD i 0∧l.getD i 0<5:=of_decide_eq_true h
theorem pickO_d5 {g t:Int} {w:Nat→Int} {l:List Int} (h:inB l=true):d5 (pickO g t w l)=true:=by
  obtain ⟨h1,h2,h3⟩:=inB_iff h
  have hb:=bestS_range (drawL g t w l) (by rw [drawL_len]; exact h1)
  rw [drawL_len] at hb
  exact decide_eq_true (h3 _ (by omega))
theorem pickO_eq {g t:Int} {W w:Nat→Int} {l:List Int} (hW:AllN (fun i=>W i=w i) 5) (h:inB l=true):pickO g t W l=pickO g t w l:=by
  obtain ⟨h1,h2,h3⟩:=inB_iff h
  have:drawL g t W l=drawL g t w l:=by
    unfold drawL
    refine List.map_congr_left fun o ho=>?_
    obtain ⟨i,hi,rfl⟩:=List.getElem_of_mem ho
    have:=h3 i hi
    have e:l.getD i 0=l[i]:=by simp [List.getD,List.getElem?_eq_getElem hi]
    rw [e] at this
    rw [allN_lt hW _ (show l[i].toNat<5 by omega)]
  unfold pickO
  rw [this]
theorem findO_succ (f:Nat→Int) (ok:Int→Bool) (t:Nat) (ht:t<20):findO f ok (20 - t) t=bif ok (f t) then some (f t) else findO f ok (20 - (t+1)) (t+1):=by
  have:20 - t=(20 - (t+1))+1:=by omega
  rw [this]
  rfl
def pk0Q (ep:Int) (u:Nat→Bool) (w h:Nat→Int) (g:Int) (l:List Int) (r:Int) (t:Nat):Ex→EN→Prop
  | .ret,e=>∃ o,findO (fun t=>pickO g (r+3 * t) w l) (fun z=>fitsF h [] z) (20 - t) t=some o∧pk0Y.eqv e ⟨[],[.box (mapN ep u w h++[.i g,.u,.u]),.lst 1 (AR [o]),.tok]⟩
  | .exit _,e=>findO (fun t=>pickO g (r+3 * t) w l) (fun z=>fitsF h [] z) (20 - t) t=none∧pk0E.eqv e ⟨[],[.box (mapN ep u w h++[.i g,.u,.u])]⟩
  | .normal,_=>True
set_option maxHeartbeats 2000000 in
theorem pk0_loop (ep:Int) (u:Nat→Bool) (w h:Nat→Int) (g:Int) (l:List Int) (r:Int) (hr:0≤r∧r<3) (hl:inB l=true):HT Tryz.prog Tryz.f197.ntmps 2 (.loop xPk) 2 (pk0L.tm (pk0Z ep u w h g l [] r 0)) (pk0L.heap (pk0Z ep u w h g l [] r 0)) (QX ⟨none,[(0,pk0E)],some pk0Y⟩ (pk0Q ep u w h g l r 0)):=by
  refine HT.loopX pgTab Ay (n:=300) inPkx pk0L _ _ (fun t:Nat=>pk0Z ep u w h g l [] r (t:Int)) (fun t=>t≤20) (fun t=>20 - t) (fun t=>pk0Q ep u w h g l r t) (by decide) ?_ 0 (Nat.zero_le _)
  intro t ht τ0
  refine AL (pk0_x ep u w h g l [] r (t:Int) τ0) ?_
  refine AG (fun hlt=>?_) (fun hge=>?_)
  · have hlt:=of_decide_eq_true hlt
    have hlt':t<20:=by omega
    have w1:IntKind.i64.wrap ((t:Int) * 3)=3 * t:=by rw [IntWalk.i64_in _ (by omega)]; omega
    have w2:IntKind.i64.wrap (r+3 * t)=r+3 * t:=IntWalk.i64_in _ (by omega)
    have w3:IntKind.i64.wrap ((t:Int)+1)=((t+1:Nat):Int):=IntWalk.i64_in _ (by omega)
    have hfs:=findO_succ (fun t=>pickO g (r+3 * t) w l) (fun z=>fitsF h [] z) t hlt'
    refine AB (AB ?_)
    rw [w1,w2]
    refine AA (AN _ _ _) (AK ?_)
    refine AA (show inB (Ax l.length (AR l))=true by rw [lstI_rowI]; exact hl) (Ac fun z3 e3=>?_)
    have e3:z3=pickO g (r+3 * t) w l:=by
      rw [e3]
      show pickO g (r+3 * t) _ (Ax l.length (AR l))=_
      rw [lstI_rowI]
      exact pickO_eq clP hl
    have hz:d5 z3=true:=by rw [e3]; exact pickO_d5 hl
    repeat' with_reducible (first | refine AB ?_ | refine AM ?_)
    refine AA (AN _ _ _) (AK ?_)
    refine AA hz ?_
    repeat' with_reducible (first | refine AB ?_ | refine AM ?_)
    have hfit:∀ H:Nat→Int,AllN (fun i=>H i=h i) 5→fitsF H [] z3=fitsF h [] z3:=fun H hH=>by
      simp only [fitsF,List.any_cons,List.any_nil]
    refine AG (fun hc=>?_) (fun hc=>?_)
    · have hc:fitsF h [] z3=true:=(hfit _ clP).symm.trans hc
      refine AE ⟨z3,?_,?_⟩
      · rw [hfs,← e3,hc]; rfl
      · refine ⟨trivial,?_,⟨trivial,rowsL [z3] _ clP⟩,trivial,trivial⟩
        (repeat' (first | exact trivial | exact rfl | exact TS.eqv_refl _ _ | exact AY _ _ | exact AQ | exact fun _ _=>AJ _ _ | exact fun i _=>AF rfl _ i | apply And.intro))
    · have hc:fitsF h [] z3=false:=(hfit _ clP).symm.trans hc
      refine AB (AA (AN _ _ _) (AE ?_))
      refine ⟨t+1,by omega,by omega,?_,?_⟩
      · rw [w3]
        (repeat' (first | exact trivial | exact rfl | exact TS.eqv_refl _ _ | exact AY _ _ | exact AQ | exact fun _ _=>AJ _ _ | exact fun i _=>AF rfl _ i | apply And.intro))
      · intro ex e
        cases ex with
        | ret=>rintro ⟨o,h1,h2⟩; exact ⟨o,by rw [hfs,← e3,hc]; exact h1,h2⟩
        | exit i=>rintro ⟨h1,h2⟩; exact ⟨by rw [hfs,← e3,hc]; exact h1,h2⟩
        | normal=>exact fun h=>h
  · have hge:=of_decide_eq_false hge
    have:t=20:=by omega
    subst this
    refine AE ⟨rfl,?_⟩
    (repeat' (first | exact trivial | exact rfl | exact TS.eqv_refl _ _ | exact AY _ _ | exact AQ | exact fun _ _=>AJ _ _ | exact fun i _=>AF rfl _ i | apply And.intro))
def pk1Q (ep:Int) (u:Nat→Bool) (w h:Nat→Int) (g:Int) (l:List Int) (a:Int) (r:Int) (t:Nat):Ex→EN→Prop
  | .ret,e=>∃ o,findO (fun t=>pickO g (r+3 * t) w l) (fun z=>fitsF h [a] z) (20 - t) t=some o∧pk1Y.eqv e ⟨[],[.box (mapN ep u w h++[.i g,.u,.u]),.lst 2 (AR [a,o]),.tok]⟩
  | .exit _,e=>findO (fun t=>pickO g (r+3 * t) w l) (fun z=>fitsF h [a] z) (20 - t) t=none∧pk1E.eqv e ⟨[],[.box (mapN ep u w h++[.i g,.u,.u]),.lst 1 (AR [a]),.tok]⟩
  | .normal,_=>True
set_option maxHeartbeats 2000000 in
theorem pk1_loop (ep:Int) (u:Nat→Bool) (w h:Nat→Int) (g:Int) (l:List Int) (a:Int) (r:Int) (hr:0≤r∧r<3) (hl:inB l=true) (ha:d5 a=true):HT Tryz.prog Tryz.f197.ntmps 4 (.loop xPk) 4 (pk1L.tm (pk1Z ep u w h g l [a] r 0)) (pk1L.heap (pk1Z ep u w h g l [a] r 0)) (QX ⟨none,[(0,pk1E)],some pk1Y⟩ (pk1Q ep u w h g l a r 0)):=by
  refine HT.loopX pgTab Ay (n:=300) inPkx pk1L _ _ (fun t:Nat=>pk1Z ep u w h g l [a] r (t:Int)) (fun t=>t≤20) (fun t=>20 - t) (fun t=>pk1Q ep u w h g l a r t) (by decide) ?_ 0 (Nat.zero_le _)
  intro t ht τ0
  refine AL (pk1_x ep u w h g l [a] r (t:Int) τ0) ?_
  refine AG (fun hlt=>?_) (fun hge=>?_)
  · have hlt:=of_decide_eq_true hlt
    have hlt':t<20:=by omega
    have w1:IntKind.i64.wrap ((t:Int) * 3)=3 * t:=by rw [IntWalk.i64_in _ (by omega)]; omega
    have w2:IntKind.i64.wrap (r+3 * t)=r+3 * t:=IntWalk.i64_in _ (by omega)
    have w3:IntKind.i64.wrap ((t:Int)+1)=((t+1:Nat):Int):=IntWalk.i64_in _ (by omega)
    have hfs:=findO_succ (fun t=>pickO g (r+3 * t) w l) (fun z=>fitsF h [a] z) t hlt'
    refine AB (AB ?_)
    rw [w1,w2]
    refine AA (AN _ _ _) (AK ?_)
    refine AA (show inB (Ax l.length (AR l))=true by rw [lstI_rowI]; exact hl) (Ac fun z3 e3=>?_)
    have e3:z3=pickO g (r+3 * t) w l:=by
      rw [e3]
      show pickO g (r+3 * t) _ (Ax l.length (AR l))=_
      rw [lstI_rowI]
      exact pickO_eq clP hl
    have hz:d5 z3=true:=by rw [e3]; exact pickO_d5 hl
    repeat' with_reducible (first | refine AB ?_ | refine AM ?_)
    refine AA (AN _ _ _) (AK ?_)
    refine AA ha ?_
    refine AA hz ?_
    repeat' with_reducible (first | refine AB ?_ | refine AM ?_)
    have hfit:∀ H:Nat→Int,AllN (fun i=>H i=h i) 5→fitsF H [a] z3=fitsF h [a] z3:=fun H hH=>by
      simp only [fitsF,List.any_cons,List.any_nil,fitB_eq hH ha hz]
    refine AG (fun hc=>?_) (fun hc=>?_)
    · have hc:fitsF h [a] z3=true:=(hfit _ clP).symm.trans hc
      refine AE ⟨z3,?_,?_⟩
      · rw [hfs,← e3,hc]; rfl
      · refine ⟨trivial,?_,⟨trivial,rowsL [a,z3] _ clP⟩,trivial,trivial⟩
        (repeat' (first | exact trivial | exact rfl | exact TS.eqv_refl _ _ | exact AY _ _ | exact AQ | exact fun _ _=>AJ _ _ | exact fun i _=>AF rfl _ i | apply And.intro))
    · have hc:fitsF h [a] z3=false:=(hfit _ clP).symm.trans hc
      refine AB (AA (AN _ _ _) (AE ?_))
      refine ⟨t+1,by omega,by omega,?_,?_⟩
      · rw [w3]
        (repeat' (first | exact trivial | exact rfl | exact TS.eqv_refl _ _ | exact AY _ _ | exact AQ | exact fun _ _=>AJ _ _ | exact fun i _=>AF rfl _ i | apply And.intro))
      · intro ex e
        cases ex with
        | ret=>rintro ⟨o,h1,h2⟩; exact ⟨o,by rw [hfs,← e3,hc]; exact h1,h2⟩
        | exit i=>rintro ⟨h1,h2⟩; exact ⟨by rw [hfs,← e3,hc]; exact h1,h2⟩
        | normal=>exact fun h=>h
  · have hge:=of_decide_eq_false hge
    have:t=20:=by omega
    subst this
    refine AE ⟨rfl,?_⟩
    (repeat' (first | exact trivial | exact rfl | exact TS.eqv_refl _ _ | exact AY _ _ | exact AQ | exact fun _ _=>AJ _ _ | exact fun i _=>AF rfl _ i | apply And.intro))
def pk2Q (ep:Int) (u:Nat→Bool) (w h:Nat→Int) (g:Int) (l:List Int) (a b:Int) (r:Int) (t:Nat):Ex→EN→Prop
  | .ret,e=>∃ o,findO (fun t=>pickO g (r+3 * t) w l) (fun z=>fitsF h [a,b] z) (20 - t) t=some o∧pk2Y.eqv e ⟨[],[.box (mapN ep u w h++[.i g,.u,.u]),.lst 3 (AR [a,b,o]),.tok]⟩
  | .exit _,e=>findO (fun t=>pickO g (r+3 * t) w l) (fun z=>fitsF h [a,b] z) (20 - t) t=none∧pk2E.eqv e ⟨[],[.box (mapN ep u w h++[.i g,.u,.u]),.lst 2 (AR [a,b]),.tok]⟩
  | .normal,_=>True
set_option maxHeartbeats 2000000 in
theorem pk2_loop (ep:Int) (u:Nat→Bool) (w h:Nat→Int) (g:Int) (l:List Int) (a b:Int) (r:Int) (hr:0≤r∧r<3) (hl:inB l=true) (ha:d5 a=true) (hb:d5 b=true):HT Tryz.prog Tryz.f197.ntmps 4 (.loop xPk) 4 (pk2L.tm (pk2Z ep u w h g l [a,b] r 0)) (pk2L.heap (pk2Z ep u w h g l [a,b] r 0)) (QX ⟨none,[(0,pk2E)],some pk2Y⟩ (pk2Q ep u w h g l a b r 0)):=by
  refine HT.loopX pgTab Ay (n:=300) inPkx pk2L _ _ (fun t:Nat=>pk2Z ep u w h g l [a,b] r (t:Int)) (fun t=>t≤20) (fun t=>20 - t) (fun t=>pk2Q ep u w h g l a b r t) (by decide) ?_ 0 (Nat.zero_le _)
  intro t ht τ0
  refine AL (pk2_x ep u w h g l [a,b] r (t:Int) τ0) ?_
  refine AG (fun hlt=>?_) (fun hge=>?_)
  · have hlt:=of_decide_eq_true hlt
    have hlt':t<20:=by omega
    have w1:IntKind.i64.wrap ((t:Int) * 3)=3 * t:=by rw [IntWalk.i64_in _ (by omega)]; omega
    have w2:IntKind.i64.wrap (r+3 * t)=r+3 * t:=IntWalk.i64_in _ (by omega)
    have w3:IntKind.i64.wrap ((t:Int)+1)=((t+1:Nat):Int):=IntWalk.i64_in _ (by omega)
    have hfs:=findO_succ (fun t=>pickO g (r+3 * t) w l) (fun z=>fitsF h [a,b] z) t hlt'
    refine AB (AB ?_)
    rw [w1,w2]
    refine AA (AN _ _ _) (AK ?_)
    refine AA (show inB (Ax l.length (AR l))=true by rw [lstI_rowI]; exact hl) (Ac fun z3 e3=>?_)
    have e3:z3=pickO g (r+3 * t) w l:=by
      rw [e3]
      show pickO g (r+3 * t) _ (Ax l.length (AR l))=_
      rw [lstI_rowI]
      exact pickO_eq clP hl
    have hz:d5 z3=true:=by rw [e3]; exact pickO_d5 hl
    repeat' with_reducible (first | refine AB ?_ | refine AM ?_)
    refine AA (AN _ _ _) (AK ?_)
    refine AA ha (AA hb ?_)
    refine AA hz ?_
    repeat' with_reducible (first | refine AB ?_ | refine AM ?_)
    have hfit:∀ H:Nat→Int,AllN (fun i=>H i=h i) 5→fitsF H [a,b] z3=fitsF h [a,b] z3:=fun H hH=>by
      simp only [fitsF,List.any_cons,List.any_nil,fitB_eq hH ha hz,fitB_eq hH hb hz]
    refine AG (fun hc=>?_) (fun hc=>?_)
    · have hc:fitsF h [a,b] z3=true:=(hfit _ clP).symm.trans hc
      refine AE ⟨z3,?_,?_⟩
      · rw [hfs,← e3,hc]; rfl
      · refine ⟨trivial,?_,⟨trivial,rowsL [a,b,z3] _ clP⟩,trivial,trivial⟩
        (repeat' (first | exact trivial | exact rfl | exact TS.eqv_refl _ _ | exact AY _ _ | exact AQ | exact fun _ _=>AJ _ _ | exact fun i _=>AF rfl _ i | apply And.intro))
    · have hc:fitsF h [a,b] z3=false:=(hfit _ clP).symm.trans hc
      refine AB (AA (AN _ _ _) (AE ?_))
      refine ⟨t+1,by omega,by omega,?_,?_⟩
      · rw [w3]
        (repeat' (first | exact trivial | exact rfl | exact TS.eqv_refl _ _ | exact AY _ _ | exact AQ | exact fun _ _=>AJ _ _ | exact fun i _=>AF rfl _ i | apply And.intro))
      · intro ex e
        cases ex with
        | ret=>rintro ⟨o,h1,h2⟩; exact ⟨o,by rw [hfs,← e3,hc]; exact h1,h2⟩
        | exit i=>rintro ⟨h1,h2⟩; exact ⟨by rw [hfs,← e3,hc]; exact h1,h2⟩
        | normal=>exact fun h=>h
  · have hge:=of_decide_eq_false hge
    have:t=20:=by omega
    subst this
    refine AE ⟨rfl,?_⟩
    (repeat' (first | exact trivial | exact rfl | exact TS.eqv_refl _ _ | exact AY _ _ | exact AQ | exact fun _ _=>AJ _ _ | exact fun i _=>AF rfl _ i | apply And.intro))
end Go.Proofs.YtddmgdclmkgpeaaGreat
set_option linter.unusedSimpArgs false
set_option linter.unusedVariables false
namespace Go.Eng
open Go.RowKit
section
variable {P:Program} {T:Tab}
theorem HTL.nil {nt b m:Nat} {κ:Tm} {h:Aq} {Q:Ex→Nat→Tm→Aq→Prop} (hQ:Q .normal m κ h):HTL P nt b [] m κ h Q :=
  fun E _ w hS=>⟨.normal,m,κ,h,E,rfl,hQ,hS,WExt.refl _ _ _,Ae.refl _ _⟩
theorem stdX_voidLoop (hT : TabAll P T) (hm : P.follows .mixedOrders = true) {n : Nat} {f : FuncId} {fn : Func} {c x : Code} (hf : P.funcs[f]? = some fn) (hb : fn.body = some c) {t rt L E Y : TS} {ex y en0 : EN} {id : Nat} (k : Nat) {RL : Ex → EN → Prop}
    (hle:Nat.ble t.vs.length fn.ntmps=true) (hargs:t.vs.all (TA.keyB t.m)=true) (hr:fn.results.toList=[]) (hv:rt.vs=[])
    (hlp:(Eng.flat c).drop k=[.block id (.loop x)]++[]) (hk:(Eng.flat c).take k≠[])
    (hpre:∀ τ0:Tm,(Am P T n f fn.ntmps (Eng.ofL ((Eng.flat c).take k)) (argTm 0 (t.vals ex)++τ0) (t.heap ex) t.m (outX t.m ⟨some L,[],none⟩)).Holds fun r=>r.1 = .normal∧L.eqv r.2 en0)
    (hloop:HT P fn.ntmps t.m (.loop x) L.m (L.tm en0) (L.heap en0) (QX ⟨none,[(id,E)],some Y⟩ RL))
    (hex:∀ en,RL (.exit id) en→E=rt∧rt.eqv en y) (hret:∀ en,RL .ret en→Y=rt∧rt.eqv en y):BI P f t ex rt y:=by
  have hin:=within_body hf hb
  refine stdX_void hf hb (p:=⟨some E,[],some Y⟩) hle hargs hr hv rfl ?_
  refine HT.cut k (R:=QX ⟨some L,[],none⟩ fun ex e=>ex = .normal∧L.eqv e en0) (HTL.runX hT hm (n:=n) hk (within_take hin k) (Nat.le_refl _) hpre) ?_ ?_
  · rintro m' κ' h' ⟨t',en,h1,⟨_,he⟩,rfl,rfl,rfl⟩
    cases h1
    refine HTg.pre (WP:=wpL P _) (fun h hq=>wpL_mono h hq) he (HTL.loopThen hlp hloop ?_ ?_)
    · intro en he
      obtain ⟨h1,h2⟩:=hex en he
      exact HTL.nil ⟨E,en,rfl,⟨congrArg some h1,h2⟩,rfl,rfl,rfl⟩
    · intro en he
      obtain ⟨h1,h2⟩:=hret en he
      exact ⟨congrArg some h1,h2⟩
  · rintro ex m' κ' h' ⟨t',en,h1,⟨h2,_⟩,rfl,rfl,rfl⟩ hn
    subst h2
    exact absurd trivial hn
end
end Go.Eng
set_option linter.unusedSimpArgs false
set_option linter.unusedVariables false
namespace Go.Proofs.YtddmgdclmkgpeaaGreat
open Go.Eng Go.RowKit Go.ChangeShapes Go.WideShapes
set_option maxRecDepth 100000
def c5 (f:Nat→Int) (i:Nat):Int:=[f 0,f 1,f 2,f 3,f 4].getD i 0
def c5B (f:Nat→Bool) (i:Nat):Bool:=[f 0,f 1,f 2,f 3,f 4].getD i false
def r3 (r:Int):Bool:=decide (0≤r∧r<3)
theorem pickF_some {g r:Int} {w h:Nat→Int} {l p:List Int} {o:Int} (ho:pickF g r w h l p=some o) (hl:inB l=true):d5 o=true∧fitsF h p o=true:=by
  unfold pickF at ho
  have:∀ k t,findO (fun t=>pickO g (r+3 * t) w l) (fun z=>fitsF h p z) k t=some o→d5 o=true∧fitsF h p o=true:=by
    intro k
    induction k with
    | zero=>intro t h'; cases h'
    | succ k ih =>
      intro t h'
      simp only [findO] at h'
      cases hc:fitsF h p (pickO g (r+3 * t) w l) with
      | true =>
        rw [hc] at h'
        cases h'
        exact ⟨pickO_d5 hl,hc⟩
      | false =>
        rw [hc] at h'
        exact ih _ h'
  exact this _ _ ho
theorem pk0_some (ep:Int) (u:Nat→Bool) (w h:Nat→Int) (g:Int) (l:List Int) (r:Int) (hr:0≤r∧r<3) (hl:inB l=true) (o:Int) (ho:pickF g r w h l []=some o):BI Tryz.prog 197 pk0T (pk0X ep u w h g l [] r) pk0Y ⟨[],[.box (mapN ep u w h++[.i g,.u,.u]),.lst 1 (AR [o]),.tok]⟩:=by
  refine stdX_voidLoop pgTab Ay (n:=300) Tryz.func197 bodyPk_eq 2 (L:=pk0L) (E:=pk0E) (Y:=pk0Y) (RL:=pk0Q ep u w h g l r 0) (id:=0) (by kernel_rfl) (by kernel_rfl) (by kernel_rfl) rfl lpPk (by decide)
    (fun τ0=>AL (pk0_pre ep u w h g l [] r τ0) (AA (AN _ _ _) (AE ⟨rfl,?_⟩))) (pk0_loop ep u w h g l r hr hl ) (fun en he=>absurd (he.1.symm.trans ho) (by simp)) (fun en he=>by
      obtain ⟨o2,h1,h2⟩:=he
      cases h1.symm.trans ho
      exact ⟨rfl,h2⟩)
  (repeat' (first | exact trivial | exact rfl | exact TS.eqv_refl _ _ | exact AY _ _ | exact AQ | exact fun _ _=>AJ _ _ | exact fun i _=>AF rfl _ i | apply And.intro))
theorem pk0_none (ep:Int) (u:Nat→Bool) (w h:Nat→Int) (g:Int) (l:List Int) (r:Int) (hr:0≤r∧r<3) (hl:inB l=true) (ho:pickF g r w h l []=none):BI Tryz.prog 197 pk0T (pk0X ep u w h g l [] r) pk0E ⟨[],[.box (mapN ep u w h++[.i g,.u,.u])]⟩:=by
  refine stdX_voidLoop pgTab Ay (n:=300) Tryz.func197 bodyPk_eq 2 (L:=pk0L) (E:=pk0E) (Y:=pk0Y) (RL:=pk0Q ep u w h g l r 0) (id:=0) (by kernel_rfl) (by kernel_rfl) (by kernel_rfl) rfl lpPk (by decide)
    (fun τ0=>AL (pk0_pre ep u w h g l [] r τ0) (AA (AN _ _ _) (AE ⟨rfl,?_⟩))) (pk0_loop ep u w h g l r hr hl ) (fun en he=>⟨rfl,he.2⟩) (fun en he=>by
      obtain ⟨o2,h1,h2⟩:=he
      cases h1.symm.trans ho)
  (repeat' (first | exact trivial | exact rfl | exact TS.eqv_refl _ _ | exact AY _ _ | exact AQ | exact fun _ _=>AJ _ _ | exact fun i _=>AF rfl _ i | apply And.intro))
noncomputable def pkO0 (e:EN):Option Int:=pickF (e.bi 0 16) (e.ai 1 0) (c5 fun i=>e.bi 0 (2+3 * i)) (c5 fun i=>e.bi 0 (3+3 * i)) (Ax (e.ln 1) (e.rw 1)) []
noncomputable def cPk0 (e:EN):Ah (TS×EN):=.must (inB (Ax (e.ln 1) (e.rw 1))) (.must (r3 (e.ai 1 0)) (.ite (pkO0 e).isSome (.leaf (pk0Y,⟨[],[.box [.i (e.bi 0 0),.b (e.bb 0 1),.i (e.bi 0 2),.i (e.bi 0 3),.b (e.bb 0 4),.i (e.bi 0 5),.i (e.bi 0 6),.b (e.bb 0 7),.i (e.bi 0 8),.i (e.bi 0 9),.b (e.bb 0 10),.i (e.bi 0 11),.i (e.bi 0 12),.b (e.bb 0 13),.i (e.bi 0 14),.i (e.bi 0 15),.i (e.bi 0 16),.u,.u],.lst 1 (AR [(pkO0 e).getD 0]),.tok]⟩)) (.leaf (pk0E,⟨[],[.box [.i (e.bi 0 0),.b (e.bb 0 1),.i (e.bi 0 2),.i (e.bi 0 3),.b (e.bb 0 4),.i (e.bi 0 5),.i (e.bi 0 6),.b (e.bb 0 7),.i (e.bi 0 8),.i (e.bi 0 9),.b (e.bb 0 10),.i (e.bi 0 11),.i (e.bi 0 12),.b (e.bb 0 13),.i (e.bi 0 14),.i (e.bi 0 15),.i (e.bi 0 16),.u,.u]]⟩))))
theorem cPk0_ok:Ak Tryz.prog 197 (AW pk0T cPk0):=BN fun e r h=>by
  obtain ⟨hl,h⟩:=Ar h
  obtain ⟨hr,h⟩:=Ar h
  have hr:=of_decide_eq_true hr
  have e1:(Ax (e.ln 1) (e.rw 1)).length=e.ln 1:=As _ _
  have pre:pk0T.eqv e (pk0X (e.bi 0 0) (fun i=>e.bb 0 (1+3 * i)) (c5 fun i=>e.bi 0 (2+3 * i)) (c5 fun i=>e.bi 0 (3+3 * i)) (e.bi 0 16) (Ax (e.ln 1) (e.rw 1)) [] (e.ai 1 0)):=by
    refine ⟨?_,?_,⟨e1.symm,fun i hi=>rowI_eqv ?_⟩,trivial⟩
    · exact clP
    · exact clP
    · have hi:(i:Int)<((Ax (e.ln 1) (e.rw 1)).length:Int):=hi
      rw [e1] at hi
      exact_mod_cast hi
  cases ho:pkO0 e with
  | none =>
    rw [ho] at h
    cases h
    exact BI.pre pre (pk0_none _ _ _ _ _ _ _ hr hl ho)
  | some o =>
    rw [ho] at h
    cases h
    exact BI.pre pre (pk0_some _ _ _ _ _ _ _ hr hl o ho)
theorem pk1_some (ep:Int) (u:Nat→Bool) (w h:Nat→Int) (g:Int) (l:List Int) (a:Int) (r:Int) (hr:0≤r∧r<3) (hl:inB l=true) (ha:d5 a=true) (o:Int) (ho:pickF g r w h l [a]=some o):BI Tryz.prog 197 pk1T (pk1X ep u w h g l [a] r) pk1Y ⟨[],[.box (mapN ep u w h++[.i g,.u,.u]),.lst 2 (AR [a,o]),.tok]⟩:=by
  refine stdX_voidLoop pgTab Ay (n:=300) Tryz.func197 bodyPk_eq 2 (L:=pk1L) (E:=pk1E) (Y:=pk1Y) (RL:=pk1Q ep u w h g l a r 0) (id:=0) (by kernel_rfl) (by kernel_rfl) (by kernel_rfl) rfl lpPk (by decide)
    (fun τ0=>AL (pk1_pre ep u w h g l [a] r τ0) (AA (AN _ _ _) (AE ⟨rfl,?_⟩))) (pk1_loop ep u w h g l a r hr hl ha ) (fun en he=>absurd (he.1.symm.trans ho) (by simp)) (fun en he=>by
      obtain ⟨o2,h1,h2⟩:=he
      cases h1.symm.trans ho
      exact ⟨rfl,h2⟩)
  (repeat' (first | exact trivial | exact rfl | exact TS.eqv_refl _ _ | exact AY _ _ | exact AQ | exact fun _ _=>AJ _ _ | exact fun i _=>AF rfl _ i | apply And.intro))
theorem pk1_none (ep:Int) (u:Nat→Bool) (w h:Nat→Int) (g:Int) (l:List Int) (a:Int) (r:Int) (hr:0≤r∧r<3) (hl:inB l=true) (ha:d5 a=true) (ho:pickF g r w h l [a]=none):BI Tryz.prog 197 pk1T (pk1X ep u w h g l [a] r) pk1E ⟨[],[.box (mapN ep u w h++[.i g,.u,.u]),.lst 1 (AR [a]),.tok]⟩:=by
  refine stdX_voidLoop pgTab Ay (n:=300) Tryz.func197 bodyPk_eq 2 (L:=pk1L) (E:=pk1E) (Y:=pk1Y) (RL:=pk1Q ep u w h g l a r 0) (id:=0) (by kernel_rfl) (by kernel_rfl) (by kernel_rfl) rfl lpPk (by decide)
    (fun τ0=>AL (pk1_pre ep u w h g l [a] r τ0) (AA (AN _ _ _) (AE ⟨rfl,?_⟩))) (pk1_loop ep u w h g l a r hr hl ha ) (fun en he=>⟨rfl,he.2⟩) (fun en he=>by
      obtain ⟨o2,h1,h2⟩:=he
      cases h1.symm.trans ho)
  (repeat' (first | exact trivial | exact rfl | exact TS.eqv_refl _ _ | exact AY _ _ | exact AQ | exact fun _ _=>AJ _ _ | exact fun i _=>AF rfl _ i | apply And.intro))
noncomputable def pkO1 (e:EN):Option Int:=pickF (e.bi 0 16) (e.ai 1 0) (c5 fun i=>e.bi 0 (2+3 * i)) (c5 fun i=>e.bi 0 (3+3 * i)) (Ax (e.ln 1) (e.rw 1)) [(hdN (e.rw 2 0)).I]
noncomputable def cPk1 (e:EN):Ah (TS×EN):=.must (inB (Ax (e.ln 1) (e.rw 1))) (.must (r3 (e.ai 1 0)) (.must (d5 (hdN (e.rw 2 0)).I) (.ite (pkO1 e).isSome (.leaf (pk1Y,⟨[],[.box [.i (e.bi 0 0),.b (e.bb 0 1),.i (e.bi 0 2),.i (e.bi 0 3),.b (e.bb 0 4),.i (e.bi 0 5),.i (e.bi 0 6),.b (e.bb 0 7),.i (e.bi 0 8),.i (e.bi 0 9),.b (e.bb 0 10),.i (e.bi 0 11),.i (e.bi 0 12),.b (e.bb 0 13),.i (e.bi 0 14),.i (e.bi 0 15),.i (e.bi 0 16),.u,.u],.lst 2 (AR [(hdN (e.rw 2 0)).I,(pkO1 e).getD 0]),.tok]⟩)) (.leaf (pk1E,⟨[],[.box [.i (e.bi 0 0),.b (e.bb 0 1),.i (e.bi 0 2),.i (e.bi 0 3),.b (e.bb 0 4),.i (e.bi 0 5),.i (e.bi 0 6),.b (e.bb 0 7),.i (e.bi 0 8),.i (e.bi 0 9),.b (e.bb 0 10),.i (e.bi 0 11),.i (e.bi 0 12),.b (e.bb 0 13),.i (e.bi 0 14),.i (e.bi 0 15),.i (e.bi 0 16),.u,.u],.lst 1 (AR [(hdN (e.rw 2 0)).I]),.tok]⟩)))))
theorem cPk1_ok:Ak Tryz.prog 197 (AW pk1T cPk1):=BN fun e r h=>by
  obtain ⟨hl,h⟩:=Ar h
  obtain ⟨hr,h⟩:=Ar h
  obtain ⟨ha,h⟩:=Ar h
  have hr:=of_decide_eq_true hr
  have e1:(Ax (e.ln 1) (e.rw 1)).length=e.ln 1:=As _ _
  have pre:pk1T.eqv e (pk1X (e.bi 0 0) (fun i=>e.bb 0 (1+3 * i)) (c5 fun i=>e.bi 0 (2+3 * i)) (c5 fun i=>e.bi 0 (3+3 * i)) (e.bi 0 16) (Ax (e.ln 1) (e.rw 1)) [(hdN (e.rw 2 0)).I] (e.ai 1 0)):=by
    refine ⟨?_,?_,⟨e1.symm,fun i hi=>rowI_eqv ?_⟩,⟨trivial,?_⟩,trivial,trivial⟩
    · exact clP
    · exact clP
    · have hi:(i:Int)<((Ax (e.ln 1) (e.rw 1)).length:Int):=hi
      rw [e1] at hi
      exact_mod_cast hi
    · exact rowsL [(hdN (e.rw 2 0)).I] _ clP
  cases ho:pkO1 e with
  | none =>
    rw [ho] at h
    cases h
    exact BI.pre pre (pk1_none _ _ _ _ _ _ _ _ hr hl ha ho)
  | some o =>
    rw [ho] at h
    cases h
    exact BI.pre pre (pk1_some _ _ _ _ _ _ _ _ hr hl ha o ho)
theorem pk2_some (ep:Int) (u:Nat→Bool) (w h:Nat→Int) (g:Int) (l:List Int) (a b:Int) (r:Int) (hr:0≤r∧r<3) (hl:inB l=true) (ha:d5 a=true) (hb:d5 b=true) (o:Int) (ho:pickF g r w h l [a,b]=some o):BI Tryz.prog 197 pk2T (pk2X ep u w h g l [a,b] r) pk2Y ⟨[],[.box (mapN ep u w h++[.i g,.u,.u]),.lst 3 (AR [a,b,o]),.tok]⟩:=by
  refine stdX_voidLoop pgTab Ay (n:=300) Tryz.func197 bodyPk_eq 2 (L:=pk2L) (E:=pk2E) (Y:=pk2Y) (RL:=pk2Q ep u w h g l a b r 0) (id:=0) (by kernel_rfl) (by kernel_rfl) (by kernel_rfl) rfl lpPk (by decide)
    (fun τ0=>AL (pk2_pre ep u w h g l [a,b] r τ0) (AA (AN _ _ _) (AE ⟨rfl,?_⟩))) (pk2_loop ep u w h g l a b r hr hl ha hb ) (fun en he=>absurd (he.1.symm.trans ho) (by simp)) (fun en he=>by
      obtain ⟨o2,h1,h2⟩:=he
      cases h1.symm.trans ho
      exact ⟨rfl,h2⟩)
  (repeat' (first | exact trivial | exact rfl | exact TS.eqv_refl _ _ | exact AY _ _ | exact AQ | exact fun _ _=>AJ _ _ | exact fun i _=>AF rfl _ i | apply And.intro))
theorem pk2_none (ep:Int) (u:Nat→Bool) (w h:Nat→Int) (g:Int) (l:List Int) (a b:Int) (r:Int) (hr:0≤r∧r<3) (hl:inB l=true) (ha:d5 a=true) (hb:d5 b=true) (ho:pickF g r w h l [a,b]=none):BI Tryz.prog 197 pk2T (pk2X ep u w h g l [a,b] r) pk2E ⟨[],[.box (mapN ep u w h++[.i g,.u,.u]),.lst 2 (AR [a,b]),.tok]⟩:=by
  refine stdX_voidLoop pgTab Ay (n:=300) Tryz.func197 bodyPk_eq 2 (L:=pk2L) (E:=pk2E) (Y:=pk2Y) (RL:=pk2Q ep u w h g l a b r 0) (id:=0) (by kernel_rfl) (by kernel_rfl) (by kernel_rfl) rfl lpPk (by decide)
    (fun τ0=>AL (pk2_pre ep u w h g l [a,b] r τ0) (AA (AN _ _ _) (AE ⟨rfl,?_⟩))) (pk2_loop ep u w h g l a b r hr hl ha hb ) (fun en he=>⟨rfl,he.2⟩) (fun en he=>by
      obtain ⟨o2,h1,h2⟩:=he
      cases h1.symm.trans ho)
  (repeat' (first | exact trivial | exact rfl | exact TS.eqv_refl _ _ | exact AY _ _ | exact AQ | exact fun _ _=>AJ _ _ | exact fun i _=>AF rfl _ i | apply And.intro))
noncomputable def pkO2 (e:EN):Option Int:=pickF (e.bi 0 16) (e.ai 1 0) (c5 fun i=>e.bi 0 (2+3 * i)) (c5 fun i=>e.bi 0 (3+3 * i)) (Ax (e.ln 1) (e.rw 1)) [(hdN (e.rw 2 0)).I,(hdN (e.rw 2 1)).I]
noncomputable def cPk2 (e:EN):Ah (TS×EN):=.must (inB (Ax (e.ln 1) (e.rw 1))) (.must (r3 (e.ai 1 0)) (.must (d5 (hdN (e.rw 2 0)).I) (.must (d5 (hdN (e.rw 2 1)).I) (.ite (pkO2 e).isSome (.leaf (pk2Y,⟨[],[.box [.i (e.bi 0 0),.b (e.bb 0 1),.i (e.bi 0 2),.i (e.bi 0 3),.b (e.bb 0 4),.i (e.bi 0 5),.i (e.bi 0 6),.b (e.bb 0 7),.i (e.bi 0 8),.i (e.bi 0 9),.b (e.bb 0 10),.i (e.bi 0 11),.i (e.bi 0 12),.b (e.bb 0 13),.i (e.bi 0 14),.i (e.bi 0 15),.i (e.bi 0 16),.u,.u],.lst 3 (AR [(hdN (e.rw 2 0)).I,(hdN (e.rw 2 1)).I,(pkO2 e).getD 0]),.tok]⟩)) (.leaf (pk2E,⟨[],[.box [.i (e.bi 0 0),.b (e.bb 0 1),.i (e.bi 0 2),.i (e.bi 0 3),.b (e.bb 0 4),.i (e.bi 0 5),.i (e.bi 0 6),.b (e.bb 0 7),.i (e.bi 0 8),.i (e.bi 0 9),.b (e.bb 0 10),.i (e.bi 0 11),.i (e.bi 0 12),.b (e.bb 0 13),.i (e.bi 0 14),.i (e.bi 0 15),.i (e.bi 0 16),.u,.u],.lst 2 (AR [(hdN (e.rw 2 0)).I,(hdN (e.rw 2 1)).I]),.tok]⟩))))))
theorem cPk2_ok:Ak Tryz.prog 197 (AW pk2T cPk2):=BN fun e r h=>by
  obtain ⟨hl,h⟩:=Ar h
  obtain ⟨hr,h⟩:=Ar h
  obtain ⟨ha,h⟩:=Ar h
  obtain ⟨hb,h⟩:=Ar h
  have hr:=of_decide_eq_true hr
  have e1:(Ax (e.ln 1) (e.rw 1)).length=e.ln 1:=As _ _
  have pre:pk2T.eqv e (pk2X (e.bi 0 0) (fun i=>e.bb 0 (1+3 * i)) (c5 fun i=>e.bi 0 (2+3 * i)) (c5 fun i=>e.bi 0 (3+3 * i)) (e.bi 0 16) (Ax (e.ln 1) (e.rw 1)) [(hdN (e.rw 2 0)).I,(hdN (e.rw 2 1)).I] (e.ai 1 0)):=by
    refine ⟨?_,?_,⟨e1.symm,fun i hi=>rowI_eqv ?_⟩,⟨trivial,?_⟩,trivial,trivial⟩
    · exact clP
    · exact clP
    · have hi:(i:Int)<((Ax (e.ln 1) (e.rw 1)).length:Int):=hi
      rw [e1] at hi
      exact_mod_cast hi
    · exact rowsL [(hdN (e.rw 2 0)).I,(hdN (e.rw 2 1)).I] _ clP
  cases ho:pkO2 e with
  | none =>
    rw [ho] at h
    cases h
    exact BI.pre pre (pk2_none _ _ _ _ _ _ _ _ _ hr hl ha hb ho)
  | some o =>
    rw [ho] at h
    cases h
    exact BI.pre pre (pk2_some _ _ _ _ _ _ _ _ _ hr hl ha hb o ho)
noncomputable def sPk:Summ:=orSumm (AW pk0T cPk0) (orSumm (AW pk1T cPk1) (AW pk2T cPk2))
noncomputable def piSm:List (FuncId×Summ):=[(197,sPk)]++inSm
theorem piSm_ok:AllOk Tryz.prog piSm:=⟨orSumm_ok cPk0_ok (orSumm_ok cPk1_ok cPk2_ok),cIn_ok,trivial⟩
end Go.Proofs.YtddmgdclmkgpeaaGreat
set_option linter.unusedSimpArgs false
set_option linter.unusedVariables false
namespace Go.Proofs.YtddmgdclmkgpeaaGreat
open Go.Eng Go.RowKit Go.ChangeShapes Go.WideShapes
set_option maxRecDepth 100000
def boolR:TS:=⟨[],[.one .b],[],0⟩
def oIs (w h:Int):Bool:=!(decide (w<0)||decide (w>16)||decide (h≥8))
def mIs (ep:Int) (w h:Nat→Int):Bool:=oIs (w 0) (h 0)&&oIs (w 1) (h 1)&&oIs (w 2) (h 2)&&oIs (w 3) (h 3)&&oIs (w 4) (h 4)&&(decide (ep≥1)&&decide (ep≤60))
def acT:TS:=⟨[],[.one (.i .i64),.one (.ptr 0 0)],[(0,.box [.i .u32,.b,.i .i64,.i .u8,.b,.i .i64,.i .u8,.b,.i .i64,.i .u8,.b,.i .i64,.i .u8,.b,.i .i64,.i .u8])],1⟩
def acR:TS:=⟨[],[.one .b],[(0,.box [.i .u32,.b,.i .i64,.i .u8,.b,.i .i64,.i .u8,.b,.i .i64,.i .u8,.b,.i .i64,.i .u8,.b,.i .i64,.i .u8])],1⟩
def acX (ep:Int) (u:Nat→Bool) (w h:Nat→Int) (o:Int):EN:=⟨[[.i o],[]],[.box (mapN ep u w h)]⟩
noncomputable abbrev qPj1 (v0:Int) (v1:Nat→Bool) (v2:Nat→Int) (v3:Nat→Int):ON:=.box [.i v0,.b (v1 0),.i (v2 0),.i (v3 0),.b (v1 1),.i (v2 1),.i (v3 1),.b (v1 2),.i (v2 2),.i (v3 2),.b (v1 3),.i (v2 3),.i (v3 3),.b (v1 4),.i (v2 4),.i (v3 4)]
theorem is_t (ep:Int) (u:Nat→Bool) (w h:Nat→Int):BR Tryz.prog (Am Tryz.prog noTab 300) 164 (mapT.vals ⟨[mapN ep u w h],[]⟩) (mapT.heap ⟨[mapN ep u w h],[]⟩) 0 (outV 0 boolR) =

  .ite (decide (w 0<0)) (.leaf ⟨[[.b false]],[]⟩) (.ite (decide (w 0>16)) (.leaf ⟨[[.b false]],[]⟩) (.ite (decide (h 0≥8)) (.leaf ⟨[[.b false]],[]⟩) (.ite (decide (w 1<0)) (.leaf ⟨[[.b false]],[]⟩) (.ite (decide (w 1>16)) (.leaf ⟨[[.b false]],[]⟩) (.ite (decide (h 1≥8)) (.leaf ⟨[[.b false]],[]⟩) (.ite (decide (w 2<0)) (.leaf ⟨[[.b false]],[]⟩) (.ite (decide (w 2>16)) (.leaf ⟨[[.b false]],[]⟩) (.ite (decide (h 2≥8)) (.leaf ⟨[[.b false]],[]⟩) (.ite (decide (w 3<0)) (.leaf ⟨[[.b false]],[]⟩) (.ite (decide (w 3>16)) (.leaf ⟨[[.b false]],[]⟩) (.ite (decide (h 3≥8)) (.leaf ⟨[[.b false]],[]⟩) (.ite (decide (w 4<0)) (.leaf ⟨[[.b false]],[]⟩) (.ite (decide (w 4>16)) (.leaf ⟨[[.b false]],[]⟩) (.ite (decide (h 4≥8)) (.leaf ⟨[[.b false]],[]⟩) (.ite (decide (ep≥1)) (.leaf ⟨[[.b (decide (ep≤60))]],[]⟩) (.leaf ⟨[[.b false]],[]⟩)))))))))))))))):=by kernel_rfl
theorem ac_t (ep:Int) (u:Nat→Bool) (w h:Nat→Int) (o:Int):BR Tryz.prog (Am Tryz.prog noTab 300) 184 (acT.vals (acX ep u w h o)) (acT.heap (acX ep u w h o)) 1 (outV 1 acR) =

  .ite (decide (o=0)) (.leaf ⟨[[.b !u 0]],[(qPj1 ep u w h)]⟩) (.ite (decide (o=1)) (.leaf ⟨[[.b !u 1]],[(qPj1 ep u w h)]⟩) (.ite (decide (o=2)) (.leaf ⟨[[.b !u 2]],[(qPj1 ep u w h)]⟩) (.ite (decide (o=3)) (.leaf ⟨[[.b !u 3]],[(qPj1 ep u w h)]⟩) (.ite (decide (o=4)) (.leaf ⟨[[.b !u 4]],[(qPj1 ep u w h)]⟩) (.must false (.fail "index")))))):=by kernel_rfl
def cIs (e:EN):Ah (TS×EN):=.leaf (boolR,⟨[[.b (mIs (e.ai 0 0) (Av e 0 0) (BF e 0 0))]],[]⟩)
def cAc (e:EN):Ah (TS×EN):=.must (d5 (e.ai 0 0)) (.leaf (acR,⟨[[.b (!(c5B (fun i=>e.bb 0 (1+3 * i)) (e.ai 0 0).toNat))]],[.box [.i (e.bi 0 0),.b (e.bb 0 1),.i (e.bi 0 2),.i (e.bi 0 3),.b (e.bb 0 4),.i (e.bi 0 5),.i (e.bi 0 6),.b (e.bb 0 7),.i (e.bi 0 8),.i (e.bi 0 9),.b (e.bb 0 10),.i (e.bi 0 11),.i (e.bi 0 12),.b (e.bb 0 13),.i (e.bi 0 14),.i (e.bi 0 15)]]⟩))
set_option maxHeartbeats 4000000 in
theorem is_std (ep:Int) (u:Nat→Bool) (w h:Nat→Int):BI Tryz.prog 164 mapT ⟨[mapN ep u w h],[]⟩ boolR ⟨[[.b (mIs ep w h)]],[]⟩:=by
  refine Aj (Ao _) Ay rfl (AL (is_t ep u w h) ?_)
  repeat' with_reducible (refine AG (fun _=>?_) (fun _=>?_))
  all_goals refine AE ?_
  all_goals first
    | (simp only [mIs,oIs, *,cond_true,cond_false,Bool.true_and,Bool.and_true,Bool.false_and,Bool.and_false,Bool.true_or,Bool.or_true,Bool.false_or,Bool.or_false,Bool.not_true,Bool.not_false]; (repeat' (first | exact trivial | exact rfl | exact TS.eqv_refl _ _ | exact AY _ _ | exact AQ | exact fun _ _=>AJ _ _ | exact fun i _=>AF rfl _ i | apply And.intro)); done)
    | (simp only [mIs,oIs, *,cond_true,cond_false,Bool.true_and,Bool.and_true,Bool.false_and,Bool.and_false,Bool.true_or,Bool.or_true,Bool.false_or,Bool.or_false,Bool.not_true,Bool.not_false]; done)
theorem cIs_ok:Ak Tryz.prog 164 (AW mapT cIs):=BN fun e r h=>by
  cases h
  refine BI.pre (x':=⟨[mapN (e.ai 0 0) (Ag e 0 0) (Av e 0 0) (BF e 0 0)],[]⟩) ?_ (is_std _ _ _ _)
  (repeat' (first | exact trivial | exact rfl | exact TS.eqv_refl _ _ | exact AY _ _ | exact AQ | exact fun _ _=>AJ _ _ | exact fun i _=>AF rfl _ i | apply And.intro))
theorem ac_std (ep:Int) (u:Nat→Bool) (w h:Nat→Int) (o:Int) (ho:0≤o∧o<5):BI Tryz.prog 184 acT (acX ep u w h o) acR ⟨[[.b (!(u o.toNat))]],[.box (mapN ep u w h)]⟩:=by
  refine Aj (Ao _) Ay rfl (AL (ac_t ep u w h o) ?_)
  refine AG (fun hj=>?_) (fun nj0=>?_)
  · have hj:=of_decide_eq_true hj
    refine AE ⟨⟨?_,trivial⟩,?_⟩
    · show (!(u 0)) = !(u o.toNat)
      rw [hj]
      rfl
    · exact clP
  refine AG (fun hj=>?_) (fun nj1=>?_)
  · have hj:=of_decide_eq_true hj
    refine AE ⟨⟨?_,trivial⟩,?_⟩
    · show (!(u 1)) = !(u o.toNat)
      rw [hj]
      rfl
    · exact clP
  refine AG (fun hj=>?_) (fun nj2=>?_)
  · have hj:=of_decide_eq_true hj
    refine AE ⟨⟨?_,trivial⟩,?_⟩
    · show (!(u 2)) = !(u o.toNat)
      rw [hj]
      rfl
    · exact clP
  refine AG (fun hj=>?_) (fun nj3=>?_)
  · have hj:=of_decide_eq_true hj
    refine AE ⟨⟨?_,trivial⟩,?_⟩
    · show (!(u 3)) = !(u o.toNat)
      rw [hj]
      rfl
    · exact clP
  refine AG (fun hj=>?_) (fun nj4=>?_)
  · have hj:=of_decide_eq_true hj
    refine AE ⟨⟨?_,trivial⟩,?_⟩
    · show (!(u 4)) = !(u o.toNat)
      rw [hj]
      rfl
    · exact clP
  exfalso
  have:=of_decide_eq_false nj0; have:=of_decide_eq_false nj1; have:=of_decide_eq_false nj2; have:=of_decide_eq_false nj3; have:=of_decide_eq_false nj4
  omega
theorem cAc_ok:Ak Tryz.prog 184 (AW acT cAc):=BN fun e r h=>by
  obtain ⟨h1,h⟩:=Ar h
  cases h
  have h1:=of_decide_eq_true h1
  refine BI.pre (x':=acX (e.bi 0 0) (c5B fun i=>e.bb 0 (1+3 * i)) (fun i=>e.bi 0 (2+3 * i)) (fun i=>e.bi 0 (3+3 * i)) (e.ai 0 0)) ?_ (ac_std _ _ _ _ _ h1)
  (repeat' (first | exact trivial | exact rfl | exact TS.eqv_refl _ _ | exact AY _ _ | exact AQ | exact fun _ _=>AJ _ _ | exact fun i _=>AF rfl _ i | apply And.intro))
noncomputable def pjSm:List (FuncId×Summ):=[(164,AW mapT cIs),(184,AW acT cAc)]++piSm
noncomputable def pjT:Tab:=smTab (tabOf pjSm)
theorem pjSm_ok:AllOk Tryz.prog pjSm:=⟨cIs_ok,cAc_ok,piSm_ok⟩
theorem pjTab:TabAll Tryz.prog pjT:=tab_ok pjSm_ok
end Go.Proofs.YtddmgdclmkgpeaaGreat
set_option linter.unusedSimpArgs false
set_option linter.unusedVariables false
namespace Go.Proofs.YtddmgdclmkgpeaaGreat
open Go.Eng Go.RowKit Go.ChangeShapes Go.WideShapes
set_option maxRecDepth 100000
def ckT:TS:=⟨[],[.agg rMap,.one (.i .u8)],[],0⟩
def ckX (ep:Int) (u:Nat→Bool) (w h:Nat→Int) (g:Int):EN:=⟨[mapN ep u w h,[.i g]],[]⟩
def ck0R:TS:=⟨[],[.one .nils],[],0⟩
def ck1R:TS:=⟨[],[.one (.sl 0)],[(0,.lst (some 1) [.i .i64] (some 1)),(1,.tok)],2⟩
def ck2R:TS:=⟨[],[.one (.sl 0)],[(0,.lst (some 2) [.i .i64] (some 1)),(1,.tok)],2⟩
def ck3R:TS:=⟨[],[.one (.sl 0)],[(0,.lst (some 3) [.i .i64] (some 1)),(1,.tok)],2⟩
noncomputable abbrev qPk1 {R:Type} (e:EN) (k:Int→Bool→Int→Int→Bool→Int→Int→Bool→Int→Int→Bool→Int→Int→Bool→Int→Int→Int→Ah R):Ah R:=.defI (e.bi 0 0) fun a0=>.defB (e.bb 0 1) fun a1=>.defI (e.bi 0 2) fun a2=>.defI (e.bi 0 3) fun a3=>.defB (e.bb 0 4) fun a4=>.defI (e.bi 0 5) fun a5=>.defI (e.bi 0 6) fun a6=>.defB (e.bb 0 7) fun a7=>.defI (e.bi 0 8) fun a8=>.defI (e.bi 0 9) fun a9=>.defB (e.bb 0 10) fun a10=>.defI (e.bi 0 11) fun a11=>.defI (e.bi 0 12) fun a12=>.defB (e.bb 0 13) fun a13=>.defI (e.bi 0 14) fun a14=>.defI (e.bi 0 15) fun a15=>.defI (e.bi 0 16) fun a16=>k a0 a1 a2 a3 a4 a5 a6 a7 a8 a9 a10 a11 a12 a13 a14 a15 a16
noncomputable abbrev qPk3 (v0:Int) (v1:Bool) (v2:Int) (v3:Int) (v4:Bool) (v5:Int) (v6:Int) (v7:Bool) (v8:Int) (v9:Int) (v10:Bool) (v11:Int) (v12:Int) (v13:Bool) (v14:Int) (v15:Int) (v16:Int):ON:=.box [.i v0,.b v1,.i v2,.i v3,.b v4,.i v5,.i v6,.b v7,.i v8,.i v9,.b v10,.i v11,.i v12,.b v13,.i v14,.i v15,.i v16,.u,.u]
noncomputable abbrev qPk4 (v0:Int) (v1:Nat→Bool) (v2:Nat→Int) (v3:Nat→Int):EN:=⟨[[.i v0,.b (v1 0),.i (v2 0),.i (v3 0),.b (v1 1),.i (v2 1),.i (v3 1),.b (v1 2),.i (v2 2),.i (v3 2),.b (v1 3),.i (v2 3),.i (v3 3),.b (v1 4),.i (v2 4),.i (v3 4)]],[]⟩
noncomputable abbrev qPk6 (v0:Int) (v1:Nat→Bool) (v2:Nat→Int) (v3:Nat→Int) (v4:Int) (v5:Int) (v6:EN):EN:=⟨[[.u],[.i 0]],[.box [.i v0,.b (v1 0),.i (v2 0),.i (v3 0),.b (v1 1),.i (v2 1),.i (v3 1),.b (v1 2),.i (v2 2),.i (v3 2),.b (v1 3),.i (v2 3),.i (v3 3),.b (v1 4),.i (v2 4),.i (v3 4),.i v4,.u,.u],.lst v5.toNat (AH [.i .i64] (AI [.i .i64] (AR ((inF (Av v6 0 0))))))]⟩
noncomputable abbrev qPk2 (v0:EN):Ah (EN):=qPk1 v0 fun z214 z215 z216 z217 z218 z219 z220 z221 z222 z223 z224 z225 z226 z227 z228 z229 z230=>.fail "the result is not of its template"
noncomputable abbrev qPk5 (v0:EN) (v1:Int) (v2:EN):Ah (EN):=qPk1 v0 fun z22 z23 z24 z25 z26 z27 z28 z29 z30 z31 z32 z33 z34 z35 z36 z37 z38=>.ite (decide (v1>0)) (.must (AX [.i .i64] (AI [.i .i64] (AR ((inF (Av v2 0 0))))) v1.toNat) (.defE ⟨[[.u],[.i 2]],[(qPk3 z22 z23 z24 z25 z26 z27 z28 z29 z30 z31 z32 z33 z34 z35 z36 z37 z38),.lst v1.toNat (AH [.i .i64] (AI [.i .i64] (AR ((inF (Av v2 0 0)))))),.lst 2 (AH [.i .i64] (AI [.i .i64] (AR ([(hdN (v0.rw 2 0)).I,(pkO1 v0).getD 0])))),.tok]⟩ fun e39=>.must (inB (Ax (e39.ln 1) (e39.rw 1))) (.must (r3 (e39.ai 1 0)) (.must (d5 (hdN (e39.rw 2 0)).I) (.must (d5 (hdN (e39.rw 2 1)).I) (.ite (pkO2 e39).isSome (qPk2 e39) (qPk2 e39))))))) (.fail "the result is not of its template")
noncomputable abbrev qPk7 (v0:EN) (v1:Int) (v2:EN):Ah (EN):=qPk1 v0 fun z144 z145 z146 z147 z148 z149 z150 z151 z152 z153 z154 z155 z156 z157 z158 z159 z160=>.ite (decide (v1>0)) (.must (AX [.i .i64] (AI [.i .i64] (AR ((inF (Av v2 0 0))))) v1.toNat) (.defE ⟨[[.u],[.i 2]],[(qPk3 z144 z145 z146 z147 z148 z149 z150 z151 z152 z153 z154 z155 z156 z157 z158 z159 z160),.lst v1.toNat (AH [.i .i64] (AI [.i .i64] (AR ((inF (Av v2 0 0)))))),.lst 1 (AR ([(pkO0 v0).getD 0])),.tok]⟩ fun e161=>.must (inB (Ax (e161.ln 1) (e161.rw 1))) (.must (r3 (e161.ai 1 0)) (.must (d5 (hdN (e161.rw 2 0)).I) (.ite (pkO1 e161).isSome (qPk2 e161) (qPk2 e161)))))) (.fail "the result is not of its template")
noncomputable abbrev qPk8 (v0:EN) (v1:Int) (v2:EN):Ah (EN):=qPk1 v0 fun z74 z75 z76 z77 z78 z79 z80 z81 z82 z83 z84 z85 z86 z87 z88 z89 z90=>.ite (decide (v1>0)) (.must (AX [.i .i64] (AI [.i .i64] (AR ((inF (Av v2 0 0))))) v1.toNat) (.defE ⟨[[.u],[.i 2]],[(qPk3 z74 z75 z76 z77 z78 z79 z80 z81 z82 z83 z84 z85 z86 z87 z88 z89 z90),.lst v1.toNat (AH [.i .i64] (AI [.i .i64] (AR ((inF (Av v2 0 0)))))),.lst 1 (AH [.i .i64] (AI [.i .i64] (AR ([(hdN (v0.rw 2 0)).I])))),.tok]⟩ fun e91=>.must (inB (Ax (e91.ln 1) (e91.rw 1))) (.must (r3 (e91.ai 1 0)) (.must (d5 (hdN (e91.rw 2 0)).I) (.ite (pkO1 e91).isSome (qPk2 e91) (qPk2 e91)))))) (.fail "the result is not of its template")
noncomputable abbrev qPk9 (v0:EN) (v1:Int) (v2:EN):Ah (EN):=qPk1 v0 fun z196 z197 z198 z199 z200 z201 z202 z203 z204 z205 z206 z207 z208 z209 z210 z211 z212=>.ite (decide (v1>0)) (.must (AX [.i .i64] (AI [.i .i64] (AR ((inF (Av v2 0 0))))) v1.toNat) (.defE ⟨[[.u],[.i 2]],[(qPk3 z196 z197 z198 z199 z200 z201 z202 z203 z204 z205 z206 z207 z208 z209 z210 z211 z212),.lst v1.toNat (AH [.i .i64] (AI [.i .i64] (AR ((inF (Av v2 0 0))))))]⟩ fun e213=>.must (inB (Ax (e213.ln 1) (e213.rw 1))) (.must (r3 (e213.ai 1 0)) (.ite (pkO0 e213).isSome (qPk2 e213) (qPk2 e213))))) (.fail "the result is not of its template")
noncomputable abbrev qPk10 (v0:EN):Ah (EN):=.must (inB (Ax (v0.ln 1) (v0.rw 1))) (.must (r3 (v0.ai 1 0)) (.must (d5 (hdN (v0.rw 2 0)).I) (.ite (pkO1 v0).isSome (qPk1 v0 fun z162 z163 z164 z165 z166 z167 z168 z169 z170 z171 z172 z173 z174 z175 z176 z177 z178=>.leaf ⟨[[.u]],[.lst 2 (AH [.i .i64] (AI [.i .i64] (AR ([(hdN (v0.rw 2 0)).I,(pkO1 v0).getD 0])))),.tok]⟩) (qPk2 v0))))
noncomputable abbrev qPk11 (v0:EN):Ah (EN):=.must (inB (Ax (v0.ln 1) (v0.rw 1))) (.must (r3 (v0.ai 1 0)) (.must (d5 (hdN (v0.rw 2 0)).I) (.ite (pkO1 v0).isSome (qPk2 v0) (qPk1 v0 fun z179 z180 z181 z182 z183 z184 z185 z186 z187 z188 z189 z190 z191 z192 z193 z194 z195=>.leaf ⟨[[.u]],[.lst 1 (AH [.i .i64] (AI [.i .i64] (AR ([(hdN (v0.rw 2 0)).I])))),.tok]⟩))))
theorem ck0_t (ep:Int) (u:Nat→Bool) (w h:Nat→Int) (g:Int):BR Tryz.prog (Am Tryz.prog pjT 300) 183 (ckT.vals (ckX ep u w h g)) (ckT.heap (ckX ep u w h g)) 0 (outV 0 ck0R) =

  .defE (qPk4 ep u w h) fun e0=>.ite (!mIs (e0.ai 0 0) (Av e0 0 0) (BF e0 0 0)) (.leaf ⟨[[.u]],[]⟩) (.ite (decide (g≥4)) (.leaf ⟨[[.u]],[]⟩) (.defE (qPk4 ep u w h) fun e1=>.defI ((inF (Av e1 0 0)).length:Int) fun z2=>.ite (decide (z2>0)) (.must (AX [.i .i64] (AI [.i .i64] (AR ((inF (Av e1 0 0))))) z2.toNat) (.defE (qPk6 ep u w h g z2 e1) fun e3=>.must (inB (Ax (e3.ln 1) (e3.rw 1))) (.must (r3 (e3.ai 1 0)) (.ite (pkO0 e3).isSome (qPk1 e3 fun z4 z5 z6 z7 z8 z9 z10 z11 z12 z13 z14 z15 z16 z17 z18 z19 z20=>.ite (decide (z2>0)) (.must (AX [.i .i64] (AI [.i .i64] (AR ((inF (Av e1 0 0))))) z2.toNat) (.defE ⟨[[.u],[.i 1]],[(qPk3 z4 z5 z6 z7 z8 z9 z10 z11 z12 z13 z14 z15 z16 z17 z18 z19 z20),.lst z2.toNat (AH [.i .i64] (AI [.i .i64] (AR ((inF (Av e1 0 0)))))),.lst 1 (AR ([(pkO0 e3).getD 0])),.tok]⟩ fun e21=>.must (inB (Ax (e21.ln 1) (e21.rw 1))) (.must (r3 (e21.ai 1 0)) (.must (d5 (hdN (e21.rw 2 0)).I) (.ite (pkO1 e21).isSome (qPk5 e21 z2 e1) (qPk8 e21 z2 e1)))))) (.fail "the result is not of its template")) (qPk1 e3 fun z126 z127 z128 z129 z130 z131 z132 z133 z134 z135 z136 z137 z138 z139 z140 z141 z142=>.ite (decide (z2>0)) (.must (AX [.i .i64] (AI [.i .i64] (AR ((inF (Av e1 0 0))))) z2.toNat) (.defE ⟨[[.u],[.i 1]],[(qPk3 z126 z127 z128 z129 z130 z131 z132 z133 z134 z135 z136 z137 z138 z139 z140 z141 z142),.lst z2.toNat (AH [.i .i64] (AI [.i .i64] (AR ((inF (Av e1 0 0))))))]⟩ fun e143
 => .must (inB (Ax (e143.ln 1) (e143.rw 1))) (.must (r3 (e143.ai 1 0)) (.ite (pkO0 e143).isSome (qPk7 e143 z2 e1) (qPk1 e143 fun z196 z197 z198 z199 z200 z201 z202 z203 z204 z205 z206 z207 z208 z209 z210 z211 z212=>.ite (decide (z2>0)) (.must (AX [.i .i64] (AI [.i .i64] (AR ((inF (Av e1 0 0))))) z2.toNat) (.defE ⟨[[.u],[.i 2]],[(qPk3 z196 z197 z198 z199 z200 z201 z202 z203 z204 z205 z206 z207 z208 z209 z210 z211 z212),.lst z2.toNat (AH [.i .i64] (AI [.i .i64] (AR ((inF (Av e1 0 0))))))]⟩ fun e213=>.must (inB (Ax (e213.ln 1) (e213.rw 1))) (.must (r3 (e213.ai 1 0)) (.ite (pkO0 e213).isSome (qPk2 e213) (qPk1 e213 fun z231 z232 z233 z234 z235 z236 z237 z238 z239 z240 z241 z242 z243 z244 z245 z246 z247=>.leaf ⟨[[.u]],[]⟩))))) (.leaf ⟨[[.u]],[]⟩)))))) (.leaf ⟨[[.u]],[]⟩)))))) (.leaf ⟨[[.u]],[]⟩))):=by kernel_rfl
theorem ck1_t (ep:Int) (u:Nat→Bool) (w h:Nat→Int) (g:Int):BR Tryz.prog (Am Tryz.prog pjT 300) 183 (ckT.vals (ckX ep u w h g)) (ckT.heap (ckX ep u w h g)) 0 (outV 0 ck1R) =

  .defE (qPk4 ep u w h) fun e0=>.ite (!mIs (e0.ai 0 0) (Av e0 0 0) (BF e0 0 0)) (.fail "the result is not of its template") (.ite (decide (g≥4)) (.fail "the result is not of its template") (.defE (qPk4 ep u w h) fun e1=>.defI ((inF (Av e1 0 0)).length:Int) fun z2=>.ite (decide (z2>0)) (.must (AX [.i .i64] (AI [.i .i64] (AR ((inF (Av e1 0 0))))) z2.toNat) (.defE (qPk6 ep u w h g z2 e1) fun e3=>.must (inB (Ax (e3.ln 1) (e3.rw 1))) (.must (r3 (e3.ai 1 0)) (.ite (pkO0 e3).isSome (qPk1 e3 fun z4 z5 z6 z7 z8 z9 z10 z11 z12 z13 z14 z15 z16 z17 z18 z19 z20=>.ite (decide (z2>0)) (.must (AX [.i .i64] (AI [.i .i64] (AR ((inF (Av e1 0 0))))) z2.toNat) (.defE ⟨[[.u],[.i 1]],[(qPk3 z4 z5 z6 z7 z8 z9 z10 z11 z12 z13 z14 z15 z16 z17 z18 z19 z20),.lst z2.toNat (AH [.i .i64] (AI [.i .i64] (AR ((inF (Av e1 0 0)))))),.lst 1 (AR ([(pkO0 e3).getD 0])),.tok]⟩ fun e21=>.must (inB (Ax (e21.ln 1) (e21.rw 1))) (.must (r3 (e21.ai 1 0)) (.must (d5 (hdN (e21.rw 2 0)).I) (.ite (pkO1 e21).isSome (qPk5 e21 z2 e1) (qPk1 e21 fun z74 z75 z76 z77 z78 z79 z80 z81 z82 z83 z84 z85 z86 z87 z88 z89 z90=>.ite (decide (z2>0)) (.must (AX [.i .i64] (AI [.i .i64] (AR ((inF (Av e1 0 0))))) z2.toNat) (.defE ⟨[[.u],[.i 2]],[(qPk3 z74 z75 z76 z77 z78 z79 z80 z81 z82 z83 z84 z85 z86 z87 z88 z89 z90),.lst z2.toNat (AH [.i .i64] (AI [.i .i64] (AR ((inF (Av e1 0 0)))))),.lst 1 (AH [.i .i64] (AI [.i .i64] (AR ([(hdN (e21.rw 2
 0)).I])))),.tok]⟩ fun e91=>qPk11 e91)) (.leaf ⟨[[.u]],[.lst 1 (AH [.i .i64] (AI [.i .i64] (AR ([(hdN (e21.rw 2 0)).I])))),.tok]⟩))))))) (.leaf ⟨[[.u]],[.lst 1 (AR ([(pkO0 e3).getD 0])),.tok]⟩)) (qPk1 e3 fun z126 z127 z128 z129 z130 z131 z132 z133 z134 z135 z136 z137 z138 z139 z140 z141 z142=>.ite (decide (z2>0)) (.must (AX [.i .i64] (AI [.i .i64] (AR ((inF (Av e1 0 0))))) z2.toNat) (.defE ⟨[[.u],[.i 1]],[(qPk3 z126 z127 z128 z129 z130 z131 z132 z133 z134 z135 z136 z137 z138 z139 z140 z141 z142),.lst z2.toNat (AH [.i .i64] (AI [.i .i64] (AR ((inF (Av e1 0 0))))))]⟩ fun e143=>.must (inB (Ax (e143.ln 1) (e143.rw 1))) (.must (r3 (e143.ai 1 0)) (.ite (pkO0 e143).isSome (qPk1 e143 fun z144 z145 z146 z147 z148 z149 z150 z151 z152 z153 z154 z155 z156 z157 z158 z159 z160=>.ite (decide (z2>0)) (.must (AX [.i .i64] (AI [.i .i64] (AR ((inF (Av e1 0 0))))) z2.toNat) (.defE ⟨[[.u],[.i 2]],[(qPk3 z144 z145 z146 z147 z148 z149 z150 z151 z152 z153 z154 z155 z156 z157 z158 z159 z160),.lst z2.toNat (AH [.i .i64] (AI [.i .i64] (AR ((inF (Av e1 0 0)))))),.lst 1 (AR ([(pkO0 e143).getD 0])),.tok]⟩ fun e161=>qPk11 e161)) (.leaf ⟨[[.u]],[.lst 1 (AR ([(pkO0 e143).getD 0])),.tok]⟩)) (qPk1 e143 fun z196 z197 z198 z199 z200 z201 z202 z203 z204 z205 z206 z207 z208 z209 z210 z211 z212=>.ite (decide (z2>0)) (.must (AX [.i .i64] (AI [.i .i64] (AR ((inF (Av e1 0 0))))) z2.toNat) (.defE ⟨[[.u],[.i 2]],
 [(qPk3 z196 z197 z198 z199 z200 z201 z202 z203 z204 z205 z206 z207 z208 z209 z210 z211 z212),.lst z2.toNat (AH [.i .i64] (AI [.i .i64] (AR ((inF (Av e1 0 0))))))]⟩ fun e213=>.must (inB (Ax (e213.ln 1) (e213.rw 1))) (.must (r3 (e213.ai 1 0)) (.ite (pkO0 e213).isSome (qPk1 e213 fun z214 z215 z216 z217 z218 z219 z220 z221 z222 z223 z224 z225 z226 z227 z228 z229 z230=>.leaf ⟨[[.u]],[.lst 1 (AR ([(pkO0 e213).getD 0])),.tok]⟩) (qPk2 e213))))) (.fail "the result is not of its template")))))) (.fail "the result is not of its template")))))) (.fail "the result is not of its template"))):=by kernel_rfl
theorem ck2_t (ep:Int) (u:Nat→Bool) (w h:Nat→Int) (g:Int):BR Tryz.prog (Am Tryz.prog pjT 300) 183 (ckT.vals (ckX ep u w h g)) (ckT.heap (ckX ep u w h g)) 0 (outV 0 ck2R) =

  .defE (qPk4 ep u w h) fun e0=>.ite (!mIs (e0.ai 0 0) (Av e0 0 0) (BF e0 0 0)) (.fail "the result is not of its template") (.ite (decide (g≥4)) (.fail "the result is not of its template") (.defE (qPk4 ep u w h) fun e1=>.defI ((inF (Av e1 0 0)).length:Int) fun z2=>.ite (decide (z2>0)) (.must (AX [.i .i64] (AI [.i .i64] (AR ((inF (Av e1 0 0))))) z2.toNat) (.defE (qPk6 ep u w h g z2 e1) fun e3=>.must (inB (Ax (e3.ln 1) (e3.rw 1))) (.must (r3 (e3.ai 1 0)) (.ite (pkO0 e3).isSome (qPk1 e3 fun z4 z5 z6 z7 z8 z9 z10 z11 z12 z13 z14 z15 z16 z17 z18 z19 z20=>.ite (decide (z2>0)) (.must (AX [.i .i64] (AI [.i .i64] (AR ((inF (Av e1 0 0))))) z2.toNat) (.defE ⟨[[.u],[.i 1]],[(qPk3 z4 z5 z6 z7 z8 z9 z10 z11 z12 z13 z14 z15 z16 z17 z18 z19 z20),.lst z2.toNat (AH [.i .i64] (AI [.i .i64] (AR ((inF (Av e1 0 0)))))),.lst 1 (AR ([(pkO0 e3).getD 0])),.tok]⟩ fun e21=>.must (inB (Ax (e21.ln 1) (e21.rw 1))) (.must (r3 (e21.ai 1 0)) (.must (d5 (hdN (e21.rw 2 0)).I) (.ite (pkO1 e21).isSome (qPk1 e21 fun z22 z23 z24 z25 z26 z27 z28 z29 z30 z31 z32 z33 z34 z35 z36 z37 z38=>.ite (decide (z2>0)) (.must (AX [.i .i64] (AI [.i .i64] (AR ((inF (Av e1 0 0))))) z2.toNat) (.defE ⟨[[.u],[.i 2]],[(qPk3 z22 z23 z24 z25 z26 z27 z28 z29 z30 z31 z32 z33 z34 z35 z36 z37 z38),.lst z2.toNat (AH [.i .i64] (AI [.i .i64] (AR ((inF (Av e1 0 0)))))),.lst 2 (AH [.i .i64] (AI [.i .i64] (AR ([(hdN (e21.rw 2 0)).I,(pkO1
 e21).getD 0])))),.tok]⟩ fun e39=>.must (inB (Ax (e39.ln 1) (e39.rw 1))) (.must (r3 (e39.ai 1 0)) (.must (d5 (hdN (e39.rw 2 0)).I) (.must (d5 (hdN (e39.rw 2 1)).I) (.ite (pkO2 e39).isSome (qPk2 e39) (qPk1 e39 fun z57 z58 z59 z60 z61 z62 z63 z64 z65 z66 z67 z68 z69 z70 z71 z72 z73=>.leaf ⟨[[.u]],[.lst 2 (AH [.i .i64] (AI [.i .i64] (AR ([(hdN (e39.rw 2 0)).I,(hdN (e39.rw 2 1)).I])))),.tok]⟩))))))) (.leaf ⟨[[.u]],[.lst 2 (AH [.i .i64] (AI [.i .i64] (AR ([(hdN (e21.rw 2 0)).I,(pkO1 e21).getD 0])))),.tok]⟩)) (qPk1 e21 fun z74 z75 z76 z77 z78 z79 z80 z81 z82 z83 z84 z85 z86 z87 z88 z89 z90=>.ite (decide (z2>0)) (.must (AX [.i .i64] (AI [.i .i64] (AR ((inF (Av e1 0 0))))) z2.toNat) (.defE ⟨[[.u],[.i 2]],[(qPk3 z74 z75 z76 z77 z78 z79 z80 z81 z82 z83 z84 z85 z86 z87 z88 z89 z90),.lst z2.toNat (AH [.i .i64] (AI [.i .i64] (AR ((inF (Av e1 0 0)))))),.lst 1 (AH [.i .i64] (AI [.i .i64] (AR ([(hdN (e21.rw 2 0)).I])))),.tok]⟩ fun e91=>qPk10 e91)) (.fail "the result is not of its template"))))))) (.fail "the result is not of its template")) (qPk1 e3 fun z126 z127 z128 z129 z130 z131 z132 z133 z134 z135 z136 z137 z138 z139 z140 z141 z142=>.ite (decide (z2>0)) (.must (AX [.i .i64] (AI [.i .i64] (AR ((inF (Av e1 0 0))))) z2.toNat) (.defE ⟨[[.u],[.i 1]],[(qPk3 z126 z127 z128 z129 z130 z131 z132 z133 z134 z135 z136 z137 z138 z139 z140 z141 z142),.lst z2.toNat (AH [.i .i64] (AI [.i .i64] (AR ((inF
 (Av e1 0 0))))))]⟩ fun e143=>.must (inB (Ax (e143.ln 1) (e143.rw 1))) (.must (r3 (e143.ai 1 0)) (.ite (pkO0 e143).isSome (qPk1 e143 fun z144 z145 z146 z147 z148 z149 z150 z151 z152 z153 z154 z155 z156 z157 z158 z159 z160=>.ite (decide (z2>0)) (.must (AX [.i .i64] (AI [.i .i64] (AR ((inF (Av e1 0 0))))) z2.toNat) (.defE ⟨[[.u],[.i 2]],[(qPk3 z144 z145 z146 z147 z148 z149 z150 z151 z152 z153 z154 z155 z156 z157 z158 z159 z160),.lst z2.toNat (AH [.i .i64] (AI [.i .i64] (AR ((inF (Av e1 0 0)))))),.lst 1 (AR ([(pkO0 e143).getD 0])),.tok]⟩ fun e161=>qPk10 e161)) (.fail "the result is not of its template")) (qPk9 e143 z2 e1))))) (.fail "the result is not of its template")))))) (.fail "the result is not of its template"))):=by kernel_rfl
theorem ck3_t (ep:Int) (u:Nat→Bool) (w h:Nat→Int) (g:Int):BR Tryz.prog (Am Tryz.prog pjT 300) 183 (ckT.vals (ckX ep u w h g)) (ckT.heap (ckX ep u w h g)) 0 (outV 0 ck3R) =

  .defE (qPk4 ep u w h) fun e0=>.ite (!mIs (e0.ai 0 0) (Av e0 0 0) (BF e0 0 0)) (.fail "the result is not of its template") (.ite (decide (g≥4)) (.fail "the result is not of its template") (.defE (qPk4 ep u w h) fun e1=>.defI ((inF (Av e1 0 0)).length:Int) fun z2=>.ite (decide (z2>0)) (.must (AX [.i .i64] (AI [.i .i64] (AR ((inF (Av e1 0 0))))) z2.toNat) (.defE (qPk6 ep u w h g z2 e1) fun e3=>.must (inB (Ax (e3.ln 1) (e3.rw 1))) (.must (r3 (e3.ai 1 0)) (.ite (pkO0 e3).isSome (qPk1 e3 fun z4 z5 z6 z7 z8 z9 z10 z11 z12 z13 z14 z15 z16 z17 z18 z19 z20=>.ite (decide (z2>0)) (.must (AX [.i .i64] (AI [.i .i64] (AR ((inF (Av e1 0 0))))) z2.toNat) (.defE ⟨[[.u],[.i 1]],[(qPk3 z4 z5 z6 z7 z8 z9 z10 z11 z12 z13 z14 z15 z16 z17 z18 z19 z20),.lst z2.toNat (AH [.i .i64] (AI [.i .i64] (AR ((inF (Av e1 0 0)))))),.lst 1 (AR ([(pkO0 e3).getD 0])),.tok]⟩ fun e21=>.must (inB (Ax (e21.ln 1) (e21.rw 1))) (.must (r3 (e21.ai 1 0)) (.must (d5 (hdN (e21.rw 2 0)).I) (.ite (pkO1 e21).isSome (qPk1 e21 fun z22 z23 z24 z25 z26 z27 z28 z29 z30 z31 z32 z33 z34 z35 z36 z37 z38=>.ite (decide (z2>0)) (.must (AX [.i .i64] (AI [.i .i64] (AR ((inF (Av e1 0 0))))) z2.toNat) (.defE ⟨[[.u],[.i 2]],[(qPk3 z22 z23 z24 z25 z26 z27 z28 z29 z30 z31 z32 z33 z34 z35 z36 z37 z38),.lst z2.toNat (AH [.i .i64] (AI [.i .i64] (AR ((inF (Av e1 0 0)))))),.lst 2 (AH [.i .i64] (AI [.i .i64] (AR ([(hdN (e21.rw 2 0)).I,(pkO1
 e21).getD 0])))),.tok]⟩ fun e39=>.must (inB (Ax (e39.ln 1) (e39.rw 1))) (.must (r3 (e39.ai 1 0)) (.must (d5 (hdN (e39.rw 2 0)).I) (.must (d5 (hdN (e39.rw 2 1)).I) (.ite (pkO2 e39).isSome (qPk1 e39 fun z40 z41 z42 z43 z44 z45 z46 z47 z48 z49 z50 z51 z52 z53 z54 z55 z56=>.leaf ⟨[[.u]],[.lst 3 (AH [.i .i64] (AI [.i .i64] (AR ([(hdN (e39.rw 2 0)).I,(hdN (e39.rw 2 1)).I,(pkO2 e39).getD 0])))),.tok]⟩) (qPk2 e39))))))) (.fail "the result is not of its template")) (qPk8 e21 z2 e1)))))) (.fail "the result is not of its template")) (qPk1 e3 fun z126 z127 z128 z129 z130 z131 z132 z133 z134 z135 z136 z137 z138 z139 z140 z141 z142=>.ite (decide (z2>0)) (.must (AX [.i .i64] (AI [.i .i64] (AR ((inF (Av e1 0 0))))) z2.toNat) (.defE ⟨[[.u],[.i 1]],[(qPk3 z126 z127 z128 z129 z130 z131 z132 z133 z134 z135 z136 z137 z138 z139 z140 z141 z142),.lst z2.toNat (AH [.i .i64] (AI [.i .i64] (AR ((inF (Av e1 0 0))))))]⟩ fun e143=>.must (inB (Ax (e143.ln 1) (e143.rw 1))) (.must (r3 (e143.ai 1 0)) (.ite (pkO0 e143).isSome (qPk7 e143 z2 e1) (qPk9 e143 z2 e1))))) (.fail "the result is not of its template")))))) (.fail "the result is not of its template"))):=by kernel_rfl
noncomputable def stepP (g:Int) (w h:Nat→Int) (l:List Int) (r:Int) (p:List Int):List Int:=bif (pickF g r w h l p).isSome then p++[(pickF g r w h l p).getD 0] else p
noncomputable def BD (g:Int) (w h:Nat→Int) (l:List Int):List Int:=bif decide ((l.length:Int)>0) then stepP g w h l 2 (stepP g w h l 1 (stepP g w h l 0 [])) else []
theorem lstI_nums (l:List Int):Ax (l.length:Int).toNat (AH [.i .i64] (AI [.i .i64] (AR l)))=l:=by
  exact (congrArg (fun f:Nat→Int=>(List.range l.length).map f) (funext fun i=>rfl)).trans (lstI_rowI l)
theorem inB_inF (w:Nat→Int) (h:((inF w).length:Int)>0):inB (inF w)=true:=by
  revert h
  unfold inF
  cases decide (w 0>0) <;> cases decide (w 1>0) <;> cases decide (w 2>0) <;> cases decide (w 3>0) <;> cases decide (w 4>0) <;> intro h <;> first | rfl | (exact absurd h (by decide))
theorem AU {R:Type} {b:Bool} {t e:Ah R} {Q:R→Prop} (h:b=true) (h1:t.Holds Q):(Ah.ite b t e).Holds Q:=AG (fun _=>h1) (fun h2=>by rw [h] at h2; cases h2)
theorem Ab {R:Type} {b:Bool} {t e:Ah R} {Q:R→Prop} (h:b=false) (h1:e.Holds Q):(Ah.ite b t e).Holds Q:=AG (fun h2=>by rw [h] at h2; cases h2) (fun _=>h1)
theorem pick_d5 {g r:Int} {w h:Nat→Int} {l p:List Int} (hc:(pickF g r w h l p).isSome=true) (hl:inB l=true):d5 ((pickF g r w h l p).getD 0)=true:=by
  cases ho:pickF g r w h l p with
  | none=>rw [ho] at hc; cases hc
  | some o=>exact (pickF_some ho hl).1
set_option maxHeartbeats 4000000 in
theorem ck0_std (ep:Int) (u:Nat→Bool) (w h:Nat→Int) (g:Int) (p:List Int) (hm:mIs ep w h=true) (hg:decide (g≥4)=false) (hL:BD g (c5 w) (c5 h) (Ax ((inF w).length:Int).toNat (AH [.i .i64] (AI [.i .i64] (AR (inF w)))))=p) (hlen:p.length=0):BI Tryz.prog 183 ckT (ckX ep u w h g) ck0R ⟨[[.u]],[]⟩:=by
  refine Aj pjTab Ay rfl (AL (ck0_t ep u w h g) ?_)
  refine AK (Ab ((congrArg Bool.not hm).trans rfl) (Ab hg (AK (AB ?_))))
  cases hpos:decide (((inF w).length:Int)>0) with
  | false =>
    refine Ab hpos ?_
    have hp:p=[]:=by
      rw [← hL,BD,lstI_nums,hpos]; rfl
    subst hp
    refine AE ?_
    (repeat' (first | exact trivial | exact rfl | exact TS.eqv_refl _ _ | exact AY _ _ | exact AQ | exact fun _ _=>AJ _ _ | exact fun i _=>AF rfl _ i | apply And.intro))
  | true =>
    have hin:inB (Ax ((inF w).length:Int).toNat (AH [.i .i64] (AI [.i .i64] (AR (inF w)))))=true:=by rw [lstI_nums]; exact inB_inF w (of_decide_eq_true hpos)
    have hpos2:decide (((Ax ((inF w).length:Int).toNat (AH [.i .i64] (AI [.i .i64] (AR (inF w))))).length:Int)>0)=true:=by rw [lstI_nums]; exact hpos
    refine AU hpos (AA (AN _ _ _) (AK (AA hin (AA rfl ?_))))
    cases e0:(pickF g 0 (c5 w) (c5 h) (Ax ((inF w).length:Int).toNat (AH [.i .i64] (AI [.i .i64] (AR (inF w))))) []).isSome with
    | true =>
      refine AU e0 ?_
      repeat' with_reducible (first | refine AB ?_ | refine AM ?_)
      refine AU hpos (AA (AN _ _ _) (AK (AA hin (AA rfl ?_))))
      refine AA (pick_d5 e0 hin) ?_
      cases e1:(pickF g 1 (c5 w) (c5 h) (Ax ((inF w).length:Int).toNat (AH [.i .i64] (AI [.i .i64] (AR (inF w))))) [(pickF g 0 (c5 w) (c5 h) (Ax ((inF w).length:Int).toNat (AH [.i .i64] (AI [.i .i64] (AR (inF w))))) []).getD 0]).isSome with
      | true =>
        refine AU e1 ?_
        repeat' with_reducible (first | refine AB ?_ | refine AM ?_)
        refine AU hpos (AA (AN _ _ _) (AK (AA hin (AA rfl ?_))))
        refine AA (pick_d5 e0 hin) ?_
        refine AA (pick_d5 e1 hin) ?_
        cases e2:(pickF g 2 (c5 w) (c5 h) (Ax ((inF w).length:Int).toNat (AH [.i .i64] (AI [.i .i64] (AR (inF w))))) [(pickF g 0 (c5 w) (c5 h) (Ax ((inF w).length:Int).toNat (AH [.i .i64] (AI [.i .i64] (AR (inF w))))) []).getD 0,(pickF g 1 (c5 w) (c5 h) (Ax ((inF w).length:Int).toNat (AH [.i .i64] (AI [.i .i64] (AR (inF w))))) [(pickF g 0 (c5 w) (c5 h) (Ax ((inF w).length:Int).toNat (AH [.i .i64] (AI [.i .i64] (AR (inF w))))) []).getD 0]).getD 0]).isSome with
        | true =>
          refine AU e2 ?_
          repeat' with_reducible (first | refine AB ?_ | refine AM ?_)
          simp only [BD,stepP,hpos2,cond_true,cond_false,List.nil_append,List.cons_append,e0,e1,e2] at hL
          exact absurd (congrArg List.length hL) (by simp [hlen])
        | false =>
          refine Ab e2 ?_
          repeat' with_reducible (first | refine AB ?_ | refine AM ?_)
          simp only [BD,stepP,hpos2,cond_true,cond_false,List.nil_append,List.cons_append,e0,e1,e2] at hL
          exact absurd (congrArg List.length hL) (by simp [hlen])
      | false =>
        refine Ab e1 ?_
        repeat' with_reducible (first | refine AB ?_ | refine AM ?_)
        refine AU hpos (AA (AN _ _ _) (AK (AA hin (AA rfl ?_))))
        refine AA (pick_d5 e0 hin) ?_
        cases e2:(pickF g 2 (c5 w) (c5 h) (Ax ((inF w).length:Int).toNat (AH [.i .i64] (AI [.i .i64] (AR (inF w))))) [(pickF g 0 (c5 w) (c5 h) (Ax ((inF w).length:Int).toNat (AH [.i .i64] (AI [.i .i64] (AR (inF w))))) []).getD 0]).isSome with
        | true =>
          refine AU e2 ?_
          repeat' with_reducible (first | refine AB ?_ | refine AM ?_)
          simp only [BD,stepP,hpos2,cond_true,cond_false,List.nil_append,List.cons_append,e0,e1,e2] at hL
          exact absurd (congrArg List.length hL) (by simp [hlen])
        | false =>
          refine Ab e2 ?_
          repeat' with_reducible (first | refine AB ?_ | refine AM ?_)
          simp only [BD,stepP,hpos2,cond_true,cond_false,List.nil_append,List.cons_append,e0,e1,e2] at hL
          exact absurd (congrArg List.length hL) (by simp [hlen])
    | false =>
      refine Ab e0 ?_
      repeat' with_reducible (first | refine AB ?_ | refine AM ?_)
      refine AU hpos (AA (AN _ _ _) (AK (AA hin (AA rfl ?_))))
      cases e1:(pickF g 1 (c5 w) (c5 h) (Ax ((inF w).length:Int).toNat (AH [.i .i64] (AI [.i .i64] (AR (inF w))))) []).isSome with
      | true =>
        refine AU e1 ?_
        repeat' with_reducible (first | refine AB ?_ | refine AM ?_)
        refine AU hpos (AA (AN _ _ _) (AK (AA hin (AA rfl ?_))))
        refine AA (pick_d5 e1 hin) ?_
        cases e2:(pickF g 2 (c5 w) (c5 h) (Ax ((inF w).length:Int).toNat (AH [.i .i64] (AI [.i .i64] (AR (inF w))))) [(pickF g 1 (c5 w) (c5 h) (Ax ((inF w).length:Int).toNat (AH [.i .i64] (AI [.i .i64] (AR (inF w))))) []).getD 0]).isSome with
        | true =>
          refine AU e2 ?_
          repeat' with_reducible (first | refine AB ?_ | refine AM ?_)
          simp only [BD,stepP,hpos2,cond_true,cond_false,List.nil_append,List.cons_append,e0,e1,e2] at hL
          exact absurd (congrArg List.length hL) (by simp [hlen])
        | false =>
          refine Ab e2 ?_
          repeat' with_reducible (first | refine AB ?_ | refine AM ?_)
          simp only [BD,stepP,hpos2,cond_true,cond_false,List.nil_append,List.cons_append,e0,e1,e2] at hL
          exact absurd (congrArg List.length hL) (by simp [hlen])
      | false =>
        refine Ab e1 ?_
        repeat' with_reducible (first | refine AB ?_ | refine AM ?_)
        refine AU hpos (AA (AN _ _ _) (AK (AA hin (AA rfl ?_))))
        cases e2:(pickF g 2 (c5 w) (c5 h) (Ax ((inF w).length:Int).toNat (AH [.i .i64] (AI [.i .i64] (AR (inF w))))) []).isSome with
        | true =>
          refine AU e2 ?_
          repeat' with_reducible (first | refine AB ?_ | refine AM ?_)
          simp only [BD,stepP,hpos2,cond_true,cond_false,List.nil_append,List.cons_append,e0,e1,e2] at hL
          exact absurd (congrArg List.length hL) (by simp [hlen])
        | false =>
          refine Ab e2 ?_
          repeat' with_reducible (first | refine AB ?_ | refine AM ?_)
          simp only [BD,stepP,hpos2,cond_true,cond_false,List.nil_append,List.cons_append,e0,e1,e2] at hL
          subst hL
          refine AE ?_
          (repeat' (first | exact trivial | exact rfl | exact TS.eqv_refl _ _ | exact AY _ _ | exact AQ | exact fun _ _=>AJ _ _ | exact fun i _=>AF rfl _ i | apply And.intro))
set_option maxHeartbeats 4000000 in
theorem ck1_std (ep:Int) (u:Nat→Bool) (w h:Nat→Int) (g:Int) (p:List Int) (hm:mIs ep w h=true) (hg:decide (g≥4)=false) (hL:BD g (c5 w) (c5 h) (Ax ((inF w).length:Int).toNat (AH [.i .i64] (AI [.i .i64] (AR (inF w)))))=p) (hlen:p.length=1):BI Tryz.prog 183 ckT (ckX ep u w h g) ck1R ⟨[[.u]],[.lst 1 (AR p),.tok]⟩:=by
  refine Aj pjTab Ay rfl (AL (ck1_t ep u w h g) ?_)
  refine AK (Ab ((congrArg Bool.not hm).trans rfl) (Ab hg (AK (AB ?_))))
  cases hpos:decide (((inF w).length:Int)>0) with
  | false =>
    refine Ab hpos ?_
    have hp:p=[]:=by
      rw [← hL,BD,lstI_nums,hpos]; rfl
    subst hp
    cases hlen
  | true =>
    have hin:inB (Ax ((inF w).length:Int).toNat (AH [.i .i64] (AI [.i .i64] (AR (inF w)))))=true:=by rw [lstI_nums]; exact inB_inF w (of_decide_eq_true hpos)
    have hpos2:decide (((Ax ((inF w).length:Int).toNat (AH [.i .i64] (AI [.i .i64] (AR (inF w))))).length:Int)>0)=true:=by rw [lstI_nums]; exact hpos
    refine AU hpos (AA (AN _ _ _) (AK (AA hin (AA rfl ?_))))
    cases e0:(pickF g 0 (c5 w) (c5 h) (Ax ((inF w).length:Int).toNat (AH [.i .i64] (AI [.i .i64] (AR (inF w))))) []).isSome with
    | true =>
      refine AU e0 ?_
      repeat' with_reducible (first | refine AB ?_ | refine AM ?_)
      refine AU hpos (AA (AN _ _ _) (AK (AA hin (AA rfl ?_))))
      refine AA (pick_d5 e0 hin) ?_
      cases e1:(pickF g 1 (c5 w) (c5 h) (Ax ((inF w).length:Int).toNat (AH [.i .i64] (AI [.i .i64] (AR (inF w))))) [(pickF g 0 (c5 w) (c5 h) (Ax ((inF w).length:Int).toNat (AH [.i .i64] (AI [.i .i64] (AR (inF w))))) []).getD 0]).isSome with
      | true =>
        refine AU e1 ?_
        repeat' with_reducible (first | refine AB ?_ | refine AM ?_)
        refine AU hpos (AA (AN _ _ _) (AK (AA hin (AA rfl ?_))))
        refine AA (pick_d5 e0 hin) ?_
        refine AA (pick_d5 e1 hin) ?_
        cases e2:(pickF g 2 (c5 w) (c5 h) (Ax ((inF w).length:Int).toNat (AH [.i .i64] (AI [.i .i64] (AR (inF w))))) [(pickF g 0 (c5 w) (c5 h) (Ax ((inF w).length:Int).toNat (AH [.i .i64] (AI [.i .i64] (AR (inF w))))) []).getD 0,(pickF g 1 (c5 w) (c5 h) (Ax ((inF w).length:Int).toNat (AH [.i .i64] (AI [.i .i64] (AR (inF w))))) [(pickF g 0 (c5 w) (c5 h) (Ax ((inF w).length:Int).toNat (AH [.i .i64] (AI [.i .i64] (AR (inF w))))) []).getD 0]).getD 0]).isSome with
        | true =>
          refine AU e2 ?_
          repeat' with_reducible (first | refine AB ?_ | refine AM ?_)
          simp only [BD,stepP,hpos2,cond_true,cond_false,List.nil_append,List.cons_append,e0,e1,e2] at hL
          exact absurd (congrArg List.length hL) (by simp [hlen])
        | false =>
          refine Ab e2 ?_
          repeat' with_reducible (first | refine AB ?_ | refine AM ?_)
          simp only [BD,stepP,hpos2,cond_true,cond_false,List.nil_append,List.cons_append,e0,e1,e2] at hL
          exact absurd (congrArg List.length hL) (by simp [hlen])
      | false =>
        refine Ab e1 ?_
        repeat' with_reducible (first | refine AB ?_ | refine AM ?_)
        refine AU hpos (AA (AN _ _ _) (AK (AA hin (AA rfl ?_))))
        refine AA (pick_d5 e0 hin) ?_
        cases e2:(pickF g 2 (c5 w) (c5 h) (Ax ((inF w).length:Int).toNat (AH [.i .i64] (AI [.i .i64] (AR (inF w))))) [(pickF g 0 (c5 w) (c5 h) (Ax ((inF w).length:Int).toNat (AH [.i .i64] (AI [.i .i64] (AR (inF w))))) []).getD 0]).isSome with
        | true =>
          refine AU e2 ?_
          repeat' with_reducible (first | refine AB ?_ | refine AM ?_)
          simp only [BD,stepP,hpos2,cond_true,cond_false,List.nil_append,List.cons_append,e0,e1,e2] at hL
          exact absurd (congrArg List.length hL) (by simp [hlen])
        | false =>
          refine Ab e2 ?_
          repeat' with_reducible (first | refine AB ?_ | refine AM ?_)
          simp only [BD,stepP,hpos2,cond_true,cond_false,List.nil_append,List.cons_append,e0,e1,e2] at hL
          subst hL
          refine AE ?_
          (repeat' (first | exact trivial | exact rfl | exact TS.eqv_refl _ _ | exact AY _ _ | exact AQ | exact fun _ _=>AJ _ _ | exact fun i _=>AF rfl _ i | apply And.intro))
    | false =>
      refine Ab e0 ?_
      repeat' with_reducible (first | refine AB ?_ | refine AM ?_)
      refine AU hpos (AA (AN _ _ _) (AK (AA hin (AA rfl ?_))))
      cases e1:(pickF g 1 (c5 w) (c5 h) (Ax ((inF w).length:Int).toNat (AH [.i .i64] (AI [.i .i64] (AR (inF w))))) []).isSome with
      | true =>
        refine AU e1 ?_
        repeat' with_reducible (first | refine AB ?_ | refine AM ?_)
        refine AU hpos (AA (AN _ _ _) (AK (AA hin (AA rfl ?_))))
        refine AA (pick_d5 e1 hin) ?_
        cases e2:(pickF g 2 (c5 w) (c5 h) (Ax ((inF w).length:Int).toNat (AH [.i .i64] (AI [.i .i64] (AR (inF w))))) [(pickF g 1 (c5 w) (c5 h) (Ax ((inF w).length:Int).toNat (AH [.i .i64] (AI [.i .i64] (AR (inF w))))) []).getD 0]).isSome with
        | true =>
          refine AU e2 ?_
          repeat' with_reducible (first | refine AB ?_ | refine AM ?_)
          simp only [BD,stepP,hpos2,cond_true,cond_false,List.nil_append,List.cons_append,e0,e1,e2] at hL
          exact absurd (congrArg List.length hL) (by simp [hlen])
        | false =>
          refine Ab e2 ?_
          repeat' with_reducible (first | refine AB ?_ | refine AM ?_)
          simp only [BD,stepP,hpos2,cond_true,cond_false,List.nil_append,List.cons_append,e0,e1,e2] at hL
          subst hL
          refine AE ?_
          (repeat' (first | exact trivial | exact rfl | exact TS.eqv_refl _ _ | exact AY _ _ | exact AQ | exact fun _ _=>AJ _ _ | exact fun i _=>AF rfl _ i | apply And.intro))
      | false =>
        refine Ab e1 ?_
        repeat' with_reducible (first | refine AB ?_ | refine AM ?_)
        refine AU hpos (AA (AN _ _ _) (AK (AA hin (AA rfl ?_))))
        cases e2:(pickF g 2 (c5 w) (c5 h) (Ax ((inF w).length:Int).toNat (AH [.i .i64] (AI [.i .i64] (AR (inF w))))) []).isSome with
        | true =>
          refine AU e2 ?_
          repeat' with_reducible (first | refine AB ?_ | refine AM ?_)
          simp only [BD,stepP,hpos2,cond_true,cond_false,List.nil_append,List.cons_append,e0,e1,e2] at hL
          subst hL
          refine AE ?_
          (repeat' (first | exact trivial | exact rfl | exact TS.eqv_refl _ _ | exact AY _ _ | exact AQ | exact fun _ _=>AJ _ _ | exact fun i _=>AF rfl _ i | apply And.intro))
        | false =>
          refine Ab e2 ?_
          repeat' with_reducible (first | refine AB ?_ | refine AM ?_)
          simp only [BD,stepP,hpos2,cond_true,cond_false,List.nil_append,List.cons_append,e0,e1,e2] at hL
          exact absurd (congrArg List.length hL) (by simp [hlen])
set_option maxHeartbeats 4000000 in
theorem ck2_std (ep:Int) (u:Nat→Bool) (w h:Nat→Int) (g:Int) (p:List Int) (hm:mIs ep w h=true) (hg:decide (g≥4)=false) (hL:BD g (c5 w) (c5 h) (Ax ((inF w).length:Int).toNat (AH [.i .i64] (AI [.i .i64] (AR (inF w)))))=p) (hlen:p.length=2):BI Tryz.prog 183 ckT (ckX ep u w h g) ck2R ⟨[[.u]],[.lst 2 (AR p),.tok]⟩:=by
  refine Aj pjTab Ay rfl (AL (ck2_t ep u w h g) ?_)
  refine AK (Ab ((congrArg Bool.not hm).trans rfl) (Ab hg (AK (AB ?_))))
  cases hpos:decide (((inF w).length:Int)>0) with
  | false =>
    refine Ab hpos ?_
    have hp:p=[]:=by
      rw [← hL,BD,lstI_nums,hpos]; rfl
    subst hp
    cases hlen
  | true =>
    have hin:inB (Ax ((inF w).length:Int).toNat (AH [.i .i64] (AI [.i .i64] (AR (inF w)))))=true:=by rw [lstI_nums]; exact inB_inF w (of_decide_eq_true hpos)
    have hpos2:decide (((Ax ((inF w).length:Int).toNat (AH [.i .i64] (AI [.i .i64] (AR (inF w))))).length:Int)>0)=true:=by rw [lstI_nums]; exact hpos
    refine AU hpos (AA (AN _ _ _) (AK (AA hin (AA rfl ?_))))
    cases e0:(pickF g 0 (c5 w) (c5 h) (Ax ((inF w).length:Int).toNat (AH [.i .i64] (AI [.i .i64] (AR (inF w))))) []).isSome with
    | true =>
      refine AU e0 ?_
      repeat' with_reducible (first | refine AB ?_ | refine AM ?_)
      refine AU hpos (AA (AN _ _ _) (AK (AA hin (AA rfl ?_))))
      refine AA (pick_d5 e0 hin) ?_
      cases e1:(pickF g 1 (c5 w) (c5 h) (Ax ((inF w).length:Int).toNat (AH [.i .i64] (AI [.i .i64] (AR (inF w))))) [(pickF g 0 (c5 w) (c5 h) (Ax ((inF w).length:Int).toNat (AH [.i .i64] (AI [.i .i64] (AR (inF w))))) []).getD 0]).isSome with
      | true =>
        refine AU e1 ?_
        repeat' with_reducible (first | refine AB ?_ | refine AM ?_)
        refine AU hpos (AA (AN _ _ _) (AK (AA hin (AA rfl ?_))))
        refine AA (pick_d5 e0 hin) ?_
        refine AA (pick_d5 e1 hin) ?_
        cases e2:(pickF g 2 (c5 w) (c5 h) (Ax ((inF w).length:Int).toNat (AH [.i .i64] (AI [.i .i64] (AR (inF w))))) [(pickF g 0 (c5 w) (c5 h) (Ax ((inF w).length:Int).toNat (AH [.i .i64] (AI [.i .i64] (AR (inF w))))) []).getD 0,(pickF g 1 (c5 w) (c5 h) (Ax ((inF w).length:Int).toNat (AH [.i .i64] (AI [.i .i64] (AR (inF w))))) [(pickF g 0 (c5 w) (c5 h) (Ax ((inF w).length:Int).toNat (AH [.i .i64] (AI [.i .i64] (AR (inF w))))) []).getD 0]).getD 0]).isSome with
        | true =>
          refine AU e2 ?_
          repeat' with_reducible (first | refine AB ?_ | refine AM ?_)
          simp only [BD,stepP,hpos2,cond_true,cond_false,List.nil_append,List.cons_append,e0,e1,e2] at hL
          exact absurd (congrArg List.length hL) (by simp [hlen])
        | false =>
          refine Ab e2 ?_
          repeat' with_reducible (first | refine AB ?_ | refine AM ?_)
          simp only [BD,stepP,hpos2,cond_true,cond_false,List.nil_append,List.cons_append,e0,e1,e2] at hL
          subst hL
          refine AE ?_
          (repeat' (first | exact trivial | exact rfl | exact TS.eqv_refl _ _ | exact AY _ _ | exact AQ | exact fun _ _=>AJ _ _ | exact fun i _=>AF rfl _ i | apply And.intro))
      | false =>
        refine Ab e1 ?_
        repeat' with_reducible (first | refine AB ?_ | refine AM ?_)
        refine AU hpos (AA (AN _ _ _) (AK (AA hin (AA rfl ?_))))
        refine AA (pick_d5 e0 hin) ?_
        cases e2:(pickF g 2 (c5 w) (c5 h) (Ax ((inF w).length:Int).toNat (AH [.i .i64] (AI [.i .i64] (AR (inF w))))) [(pickF g 0 (c5 w) (c5 h) (Ax ((inF w).length:Int).toNat (AH [.i .i64] (AI [.i .i64] (AR (inF w))))) []).getD 0]).isSome with
        | true =>
          refine AU e2 ?_
          repeat' with_reducible (first | refine AB ?_ | refine AM ?_)
          simp only [BD,stepP,hpos2,cond_true,cond_false,List.nil_append,List.cons_append,e0,e1,e2] at hL
          subst hL
          refine AE ?_
          (repeat' (first | exact trivial | exact rfl | exact TS.eqv_refl _ _ | exact AY _ _ | exact AQ | exact fun _ _=>AJ _ _ | exact fun i _=>AF rfl _ i | apply And.intro))
        | false =>
          refine Ab e2 ?_
          repeat' with_reducible (first | refine AB ?_ | refine AM ?_)
          simp only [BD,stepP,hpos2,cond_true,cond_false,List.nil_append,List.cons_append,e0,e1,e2] at hL
          exact absurd (congrArg List.length hL) (by simp [hlen])
    | false =>
      refine Ab e0 ?_
      repeat' with_reducible (first | refine AB ?_ | refine AM ?_)
      refine AU hpos (AA (AN _ _ _) (AK (AA hin (AA rfl ?_))))
      cases e1:(pickF g 1 (c5 w) (c5 h) (Ax ((inF w).length:Int).toNat (AH [.i .i64] (AI [.i .i64] (AR (inF w))))) []).isSome with
      | true =>
        refine AU e1 ?_
        repeat' with_reducible (first | refine AB ?_ | refine AM ?_)
        refine AU hpos (AA (AN _ _ _) (AK (AA hin (AA rfl ?_))))
        refine AA (pick_d5 e1 hin) ?_
        cases e2:(pickF g 2 (c5 w) (c5 h) (Ax ((inF w).length:Int).toNat (AH [.i .i64] (AI [.i .i64] (AR (inF w))))) [(pickF g 1 (c5 w) (c5 h) (Ax ((inF w).length:Int).toNat (AH [.i .i64] (AI [.i .i64] (AR (inF w))))) []).getD 0]).isSome with
        | true =>
          refine AU e2 ?_
          repeat' with_reducible (first | refine AB ?_ | refine AM ?_)
          simp only [BD,stepP,hpos2,cond_true,cond_false,List.nil_append,List.cons_append,e0,e1,e2] at hL
          subst hL
          refine AE ?_
          (repeat' (first | exact trivial | exact rfl | exact TS.eqv_refl _ _ | exact AY _ _ | exact AQ | exact fun _ _=>AJ _ _ | exact fun i _=>AF rfl _ i | apply And.intro))
        | false =>
          refine Ab e2 ?_
          repeat' with_reducible (first | refine AB ?_ | refine AM ?_)
          simp only [BD,stepP,hpos2,cond_true,cond_false,List.nil_append,List.cons_append,e0,e1,e2] at hL
          exact absurd (congrArg List.length hL) (by simp [hlen])
      | false =>
        refine Ab e1 ?_
        repeat' with_reducible (first | refine AB ?_ | refine AM ?_)
        refine AU hpos (AA (AN _ _ _) (AK (AA hin (AA rfl ?_))))
        cases e2:(pickF g 2 (c5 w) (c5 h) (Ax ((inF w).length:Int).toNat (AH [.i .i64] (AI [.i .i64] (AR (inF w))))) []).isSome with
        | true =>
          refine AU e2 ?_
          repeat' with_reducible (first | refine AB ?_ | refine AM ?_)
          simp only [BD,stepP,hpos2,cond_true,cond_false,List.nil_append,List.cons_append,e0,e1,e2] at hL
          exact absurd (congrArg List.length hL) (by simp [hlen])
        | false =>
          refine Ab e2 ?_
          repeat' with_reducible (first | refine AB ?_ | refine AM ?_)
          simp only [BD,stepP,hpos2,cond_true,cond_false,List.nil_append,List.cons_append,e0,e1,e2] at hL
          exact absurd (congrArg List.length hL) (by simp [hlen])
set_option maxHeartbeats 4000000 in
theorem ck3_std (ep:Int) (u:Nat→Bool) (w h:Nat→Int) (g:Int) (p:List Int) (hm:mIs ep w h=true) (hg:decide (g≥4)=false) (hL:BD g (c5 w) (c5 h) (Ax ((inF w).length:Int).toNat (AH [.i .i64] (AI [.i .i64] (AR (inF w)))))=p) (hlen:p.length=3):BI Tryz.prog 183 ckT (ckX ep u w h g) ck3R ⟨[[.u]],[.lst 3 (AR p),.tok]⟩:=by
  refine Aj pjTab Ay rfl (AL (ck3_t ep u w h g) ?_)
  refine AK (Ab ((congrArg Bool.not hm).trans rfl) (Ab hg (AK (AB ?_))))
  cases hpos:decide (((inF w).length:Int)>0) with
  | false =>
    refine Ab hpos ?_
    have hp:p=[]:=by
      rw [← hL,BD,lstI_nums,hpos]; rfl
    subst hp
    cases hlen
  | true =>
    have hin:inB (Ax ((inF w).length:Int).toNat (AH [.i .i64] (AI [.i .i64] (AR (inF w)))))=true:=by rw [lstI_nums]; exact inB_inF w (of_decide_eq_true hpos)
    have hpos2:decide (((Ax ((inF w).length:Int).toNat (AH [.i .i64] (AI [.i .i64] (AR (inF w))))).length:Int)>0)=true:=by rw [lstI_nums]; exact hpos
    refine AU hpos (AA (AN _ _ _) (AK (AA hin (AA rfl ?_))))
    cases e0:(pickF g 0 (c5 w) (c5 h) (Ax ((inF w).length:Int).toNat (AH [.i .i64] (AI [.i .i64] (AR (inF w))))) []).isSome with
    | true =>
      refine AU e0 ?_
      repeat' with_reducible (first | refine AB ?_ | refine AM ?_)
      refine AU hpos (AA (AN _ _ _) (AK (AA hin (AA rfl ?_))))
      refine AA (pick_d5 e0 hin) ?_
      cases e1:(pickF g 1 (c5 w) (c5 h) (Ax ((inF w).length:Int).toNat (AH [.i .i64] (AI [.i .i64] (AR (inF w))))) [(pickF g 0 (c5 w) (c5 h) (Ax ((inF w).length:Int).toNat (AH [.i .i64] (AI [.i .i64] (AR (inF w))))) []).getD 0]).isSome with
      | true =>
        refine AU e1 ?_
        repeat' with_reducible (first | refine AB ?_ | refine AM ?_)
        refine AU hpos (AA (AN _ _ _) (AK (AA hin (AA rfl ?_))))
        refine AA (pick_d5 e0 hin) ?_
        refine AA (pick_d5 e1 hin) ?_
        cases e2:(pickF g 2 (c5 w) (c5 h) (Ax ((inF w).length:Int).toNat (AH [.i .i64] (AI [.i .i64] (AR (inF w))))) [(pickF g 0 (c5 w) (c5 h) (Ax ((inF w).length:Int).toNat (AH [.i .i64] (AI [.i .i64] (AR (inF w))))) []).getD 0,(pickF g 1 (c5 w) (c5 h) (Ax ((inF w).length:Int).toNat (AH [.i .i64] (AI [.i .i64] (AR (inF w))))) [(pickF g 0 (c5 w) (c5 h) (Ax ((inF w).length:Int).toNat (AH [.i .i64] (AI [.i .i64] (AR (inF w))))) []).getD 0]).getD 0]).isSome with
        | true =>
          refine AU e2 ?_
          repeat' with_reducible (first | refine AB ?_ | refine AM ?_)
          simp only [BD,stepP,hpos2,cond_true,cond_false,List.nil_append,List.cons_append,e0,e1,e2] at hL
          subst hL
          refine AE ?_
          (repeat' (first | exact trivial | exact rfl | exact TS.eqv_refl _ _ | exact AY _ _ | exact AQ | exact fun _ _=>AJ _ _ | exact fun i _=>AF rfl _ i | apply And.intro))
        | false =>
          refine Ab e2 ?_
          repeat' with_reducible (first | refine AB ?_ | refine AM ?_)
          simp only [BD,stepP,hpos2,cond_true,cond_false,List.nil_append,List.cons_append,e0,e1,e2] at hL
          exact absurd (congrArg List.length hL) (by simp [hlen])
      | false =>
        refine Ab e1 ?_
        repeat' with_reducible (first | refine AB ?_ | refine AM ?_)
        refine AU hpos (AA (AN _ _ _) (AK (AA hin (AA rfl ?_))))
        refine AA (pick_d5 e0 hin) ?_
        cases e2:(pickF g 2 (c5 w) (c5 h) (Ax ((inF w).length:Int).toNat (AH [.i .i64] (AI [.i .i64] (AR (inF w))))) [(pickF g 0 (c5 w) (c5 h) (Ax ((inF w).length:Int).toNat (AH [.i .i64] (AI [.i .i64] (AR (inF w))))) []).getD 0]).isSome with
        | true =>
          refine AU e2 ?_
          repeat' with_reducible (first | refine AB ?_ | refine AM ?_)
          simp only [BD,stepP,hpos2,cond_true,cond_false,List.nil_append,List.cons_append,e0,e1,e2] at hL
          exact absurd (congrArg List.length hL) (by simp [hlen])
        | false =>
          refine Ab e2 ?_
          repeat' with_reducible (first | refine AB ?_ | refine AM ?_)
          simp only [BD,stepP,hpos2,cond_true,cond_false,List.nil_append,List.cons_append,e0,e1,e2] at hL
          exact absurd (congrArg List.length hL) (by simp [hlen])
    | false =>
      refine Ab e0 ?_
      repeat' with_reducible (first | refine AB ?_ | refine AM ?_)
      refine AU hpos (AA (AN _ _ _) (AK (AA hin (AA rfl ?_))))
      cases e1:(pickF g 1 (c5 w) (c5 h) (Ax ((inF w).length:Int).toNat (AH [.i .i64] (AI [.i .i64] (AR (inF w))))) []).isSome with
      | true =>
        refine AU e1 ?_
        repeat' with_reducible (first | refine AB ?_ | refine AM ?_)
        refine AU hpos (AA (AN _ _ _) (AK (AA hin (AA rfl ?_))))
        refine AA (pick_d5 e1 hin) ?_
        cases e2:(pickF g 2 (c5 w) (c5 h) (Ax ((inF w).length:Int).toNat (AH [.i .i64] (AI [.i .i64] (AR (inF w))))) [(pickF g 1 (c5 w) (c5 h) (Ax ((inF w).length:Int).toNat (AH [.i .i64] (AI [.i .i64] (AR (inF w))))) []).getD 0]).isSome with
        | true =>
          refine AU e2 ?_
          repeat' with_reducible (first | refine AB ?_ | refine AM ?_)
          simp only [BD,stepP,hpos2,cond_true,cond_false,List.nil_append,List.cons_append,e0,e1,e2] at hL
          exact absurd (congrArg List.length hL) (by simp [hlen])
        | false =>
          refine Ab e2 ?_
          repeat' with_reducible (first | refine AB ?_ | refine AM ?_)
          simp only [BD,stepP,hpos2,cond_true,cond_false,List.nil_append,List.cons_append,e0,e1,e2] at hL
          exact absurd (congrArg List.length hL) (by simp [hlen])
      | false =>
        refine Ab e1 ?_
        repeat' with_reducible (first | refine AB ?_ | refine AM ?_)
        refine AU hpos (AA (AN _ _ _) (AK (AA hin (AA rfl ?_))))
        cases e2:(pickF g 2 (c5 w) (c5 h) (Ax ((inF w).length:Int).toNat (AH [.i .i64] (AI [.i .i64] (AR (inF w))))) []).isSome with
        | true =>
          refine AU e2 ?_
          repeat' with_reducible (first | refine AB ?_ | refine AM ?_)
          simp only [BD,stepP,hpos2,cond_true,cond_false,List.nil_append,List.cons_append,e0,e1,e2] at hL
          exact absurd (congrArg List.length hL) (by simp [hlen])
        | false =>
          refine Ab e2 ?_
          repeat' with_reducible (first | refine AB ?_ | refine AM ?_)
          simp only [BD,stepP,hpos2,cond_true,cond_false,List.nil_append,List.cons_append,e0,e1,e2] at hL
          exact absurd (congrArg List.length hL) (by simp [hlen])
end Go.Proofs.YtddmgdclmkgpeaaGreat
set_option linter.unusedSimpArgs false
set_option linter.unusedVariables false
namespace Go.Proofs.YtddmgdclmkgpeaaGreat
open Go.Eng Go.RowKit Go.ChangeShapes Go.WideShapes
set_option maxRecDepth 100000
noncomputable def pkV (e:EN):List Int:=BD (e.ai 1 0) (c5 (Av e 0 0)) (c5 (BF e 0 0)) (inF (Av e 0 0))
noncomputable def pkN (e:EN) (n:Nat):Bool:=decide ((pkV e).length=n)
noncomputable def ckY (e:EN) (n:Nat):EN:=⟨[[.u]],[.lst n (AR (pkV e)),.tok]⟩
noncomputable def cPick (e:EN):Ah (TS×EN):=.must (mIs (e.ai 0 0) (Av e 0 0) (BF e 0 0)) (.must (!(decide (e.ai 1 0≥4))) (.ite (pkN e 0) (.leaf (ck0R,⟨[[.u]],[]⟩)) (.ite (pkN e 1) (.leaf (ck1R,ckY e 1)) (.ite (pkN e 2) (.leaf (ck2R,ckY e 2)) (.leaf (ck3R,ckY e 3))))))
theorem stepP_len {g r:Int} {w h:Nat→Int} {l p:List Int} : (stepP g w h l r p).length≤p.length+1:=by
  unfold stepP
  cases (pickF g r w h l p).isSome <;> simp
theorem pickL_len {g:Int} {w h:Nat→Int} {l:List Int} : (BD g w h l).length≤3:=by
  unfold BD
  cases decide ((l.length:Int)>0) with
  | false=>simp
  | true =>
    have h0:(stepP g w h l 0 []).length≤0+1:=stepP_len
    have h1:(stepP g w h l 1 (stepP g w h l 0 [])).length≤(stepP g w h l 0 []).length+1:=stepP_len
    have h2:(stepP g w h l 2 (stepP g w h l 1 (stepP g w h l 0 []))).length≤(stepP g w h l 1 (stepP g w h l 0 [])).length+1:=stepP_len
    show (stepP g w h l 2 _).length≤3
    omega
theorem stepP_d5 {g r:Int} {w h:Nat→Int} {l p:List Int} (hl:inB l=true) (hp:∀ o,o∈p→d5 o=true):∀ o,o∈stepP g w h l r p→d5 o=true:=by
  intro o ho
  unfold stepP at ho
  cases hc:(pickF g r w h l p).isSome with
  | false=>rw [hc] at ho; exact hp o ho
  | true =>
    rw [hc] at ho
    simp only [cond_true,List.mem_append,List.mem_singleton] at ho
    rcases ho with ho | rfl
    · exact hp o ho
    · exact pick_d5 hc hl
theorem pickL_d5 {g:Int} {w h:Nat→Int} {v:Nat→Int} {i:Nat} (hi:i<(BD g w h (inF v)).length):d5 ((BD g w h (inF v)).getD i 0)=true:=by
  have:∀ o,o∈BD g w h (inF v)→d5 o=true:=by
    intro o ho
    unfold BD at ho
    cases hc:decide (((inF v).length:Int)>0) with
    | false=>rw [hc] at ho; cases ho
    | true =>
      rw [hc] at ho
      have hb:=inB_inF v (of_decide_eq_true hc)
      exact stepP_d5 hb (stepP_d5 hb (stepP_d5 hb (fun o h=>by cases h))) o ho
  refine this _ ?_
  rw [List.getD,List.getElem?_eq_getElem hi]
  exact List.getElem_mem hi
theorem cPick_ok:Ak Tryz.prog 183 (AW ckT cPick):=BN fun e r h=>by
  obtain ⟨hm,h⟩:=Ar h
  obtain ⟨hg,h⟩:=Ar h
  have hg:decide (e.ai 1 0≥4)=false:=by simpa using hg
  have pre:ckT.eqv e (ckX (e.ai 0 0) (Ag e 0 0) (Av e 0 0) (BF e 0 0) (e.ai 1 0)):=by
    (repeat' (first | exact trivial | exact rfl | exact TS.eqv_refl _ _ | exact AY _ _ | exact AQ | exact fun _ _=>AJ _ _ | exact fun i _=>AF rfl _ i | apply And.intro))
  have hl:BD (e.ai 1 0) (c5 (Av e 0 0)) (c5 (BF e 0 0)) (Ax ((inF (Av e 0 0)).length:Int).toNat (AH [.i .i64] (AI [.i .i64] (AR (inF (Av e 0 0))))))=pkV e:=by rw [lstI_nums]; rfl
  have h3:(pkV e).length≤3:=pickL_len
  cases c0:pkN e 0 with
  | true =>
    rw [c0] at h
    cases h
    exact BI.pre pre (ck0_std _ _ _ _ _ (pkV e) hm hg hl (of_decide_eq_true c0))
  | false =>
    rw [c0] at h
    have n0:(pkV e).length≠0:=of_decide_eq_false c0
    cases c1:pkN e 1 with
    | true =>
      rw [c1] at h
      cases h
      exact BI.pre pre (ck1_std _ _ _ _ _ (pkV e) hm hg hl (of_decide_eq_true c1))
    | false =>
      rw [c1] at h
      have n1:(pkV e).length≠1:=of_decide_eq_false c1
      cases c2:pkN e 2 with
      | true =>
        rw [c2] at h
        cases h
        exact BI.pre pre (ck2_std _ _ _ _ _ (pkV e) hm hg hl (of_decide_eq_true c2))
      | false =>
        rw [c2] at h
        have n2:(pkV e).length≠2:=of_decide_eq_false c2
        cases h
        exact BI.pre pre (ck3_std _ _ _ _ _ (pkV e) hm hg hl (by omega))
noncomputable def pmSm:List (FuncId×Summ):=[(183,AW ckT cPick)]++pjSm
noncomputable def pmT:Tab:=smTab (tabOf pmSm)
noncomputable def actL (u:Nat→Bool) (p:List Int):List Int:=p.filter fun o=>c5B u o.toNat
theorem pmSm_ok:AllOk Tryz.prog pmSm:=⟨cPick_ok,pjSm_ok⟩
theorem pmTab:TabAll Tryz.prog pmT:=tab_ok pmSm_ok
noncomputable abbrev qPm1 {R:Type} (e:EN) (k:Int→Bool→Int→Int→Bool→Int→Int→Bool→Int→Int→Bool→Int→Int→Bool→Int→Int→Ah R):Ah R:=.defI (e.bi 0 0) fun a0=>.defB (e.bb 0 1) fun a1=>.defI (e.bi 0 2) fun a2=>.defI (e.bi 0 3) fun a3=>.defB (e.bb 0 4) fun a4=>.defI (e.bi 0 5) fun a5=>.defI (e.bi 0 6) fun a6=>.defB (e.bb 0 7) fun a7=>.defI (e.bi 0 8) fun a8=>.defI (e.bi 0 9) fun a9=>.defB (e.bb 0 10) fun a10=>.defI (e.bi 0 11) fun a11=>.defI (e.bi 0 12) fun a12=>.defB (e.bb 0 13) fun a13=>.defI (e.bi 0 14) fun a14=>.defI (e.bi 0 15) fun a15=>k a0 a1 a2 a3 a4 a5 a6 a7 a8 a9 a10 a11 a12 a13 a14 a15
noncomputable abbrev qPm2 (v0:Int) (v1:Int) (v2:Bool) (v3:Int) (v4:Int) (v5:Bool) (v6:Int) (v7:Int) (v8:Bool) (v9:Int) (v10:Int) (v11:Bool) (v12:Int) (v13:Int) (v14:Bool) (v15:Int) (v16:Int):EN:=⟨[[.i v0],[.u]],[.box [.i v1,.b v2,.i v3,.i v4,.b v5,.i v6,.i v7,.b v8,.i v9,.i v10,.b v11,.i v12,.i v13,.b v14,.i v15,.i v16]]⟩
noncomputable abbrev qPm3 (v0:Int) (v1:Int) (v2:Nat→Bool) (v3:Nat→Int) (v4:Nat→Int):EN:=⟨[[.i v0],[.u]],[.box [.i v1,.b (v2 0),.i (v3 0),.i (v4 0),.b (v2 1),.i (v3 1),.i (v4 1),.b (v2 2),.i (v3 2),.i (v4 2),.b (v2 3),.i (v3 3),.i (v4 3),.b (v2 4),.i (v3 4),.i (v4 4)]]⟩
theorem at_t (ep:Int) (u:Nat→Bool) (w h:Nat→Int) (g:Int):BR Tryz.prog (Am Tryz.prog pmT 300) 137 (ckT.vals (ckX ep u w h g)) (ckT.heap (ckX ep u w h g)) 0 (outV 0 intsR) =

  .defE ⟨[[.i ep,.b (u 0),.i (w 0),.i (h 0),.b (u 1),.i (w 1),.i (h 1),.b (u 2),.i (w 2),.i (h 2),.b (u 3),.i (w 3),.i (h 3),.b (u 4),.i (w 4),.i (h 4)],[.i g]],[]⟩ fun e0=>.must (mIs (e0.ai 0 0) (Av e0 0 0) (BF e0 0 0)) (.must (!decide (e0.ai 1 0≥4)) (.ite (pkN e0 0) (.leaf ⟨[[.u]],[.lst 0 fun (x:Nat)=>[],.tok]⟩) (.ite (pkN e0 1) (.defI ((pkV e0).getD 0 0) fun z1=>.defE (qPm3 z1 ep u w h) fun e2=>.must (d5 (e2.ai 0 0)) (qPm1 e2 fun z3 z4 z5 z6 z7 z8 z9 z10 z11 z12 z13 z14 z15 z16 z17 z18=>.ite (!c5B (fun (i:Nat)=>e2.bb 0 (1+3 * i)) (e2.ai 0 0).toNat) (.leaf ⟨[[.u]],[.lst 0 (AH [.i .i64] (Aw (.lit 0) fun (j:Nat)=>Bool.rec [.int .i64 (.sym ((pkV e0).getD j 0))] [.int .i64 (.lit 0)] (Nat.ble 0 j&&j.blt 1))),.tok]⟩) (.leaf ⟨[[.u]],[.lst 1 (AR ((pkV e0))),.tok]⟩))) (.ite (pkN e0 2) (.defI ((pkV e0).getD 0 0) fun z19=>.defE (qPm3 z19 ep u w h) fun e20=>.must (d5 (e20.ai 0 0)) (qPm1 e20 fun z21 z22 z23 z24 z25 z26 z27 z28 z29 z30 z31 z32 z33 z34 z35 z36=>.ite (!c5B (fun (i:Nat)=>e20.bb 0 (1+3 * i)) (e20.ai 0 0).toNat) (.defI ((pkV e0).getD 1 0) fun z37=>.defE (qPm2 z37 z21 z22 z23 z24 z25 z26 z27 z28 z29 z30 z31 z32 z33 z34 z35 z36) fun e38=>.must (d5 (e38.ai 0 0)) (qPm1 e38 fun z39 z40 z41 z42 z43 z44 z45 z46 z47 z48 z49 z50 z51 z52 z53 z54=>.ite (!!c5B (fun (i:Nat)=>e38.bb 0 (1+3 * i)) (e38.ai 0 0).toNat) (.leaf ⟨[[.u]],[.lst 1 (AH [.i .i64] (Aw (.lit 0) fun (j:Nat)=>Bool.rec
 (Bool.rec [.int .i64 (.sym ((pkV e0).getD j 0))] [.int .i64 (.sym z37)] (j.beq 0)) [.int .i64 (.lit 0)] (Nat.ble 1 j&&j.blt 2))),.tok]⟩) (.leaf ⟨[[.u]],[.lst 0 (AH [.i .i64] (Aw (.lit 0) fun (j:Nat)=>Bool.rec [.int .i64 (.sym ((pkV e0).getD j 0))] [.int .i64 (.lit 0)] (Nat.ble 0 j&&j.blt 2))),.tok]⟩))) (.defI ((pkV e0).getD 1 0) fun z55=>.defE (qPm2 z55 z21 z22 z23 z24 z25 z26 z27 z28 z29 z30 z31 z32 z33 z34 z35 z36) fun e56=>.must (d5 (e56.ai 0 0)) (qPm1 e56 fun z57 z58 z59 z60 z61 z62 z63 z64 z65 z66 z67 z68 z69 z70 z71 z72=>.ite (!c5B (fun (i:Nat)=>e56.bb 0 (1+3 * i)) (e56.ai 0 0).toNat) (.leaf ⟨[[.u]],[.lst 1 (AH [.i .i64] (Aw (.lit 0) fun (j:Nat)=>Bool.rec [.int .i64 (.sym ((pkV e0).getD j 0))] [.int .i64 (.lit 0)] (Nat.ble 1 j&&j.blt 2))),.tok]⟩) (.leaf ⟨[[.u]],[.lst 2 (AR ((pkV e0))),.tok]⟩))))) (.defI ((pkV e0).getD 0 0) fun z73=>.defE (qPm3 z73 ep u w h) fun e74=>.must (d5 (e74.ai 0 0)) (qPm1 e74 fun z75 z76 z77 z78 z79 z80 z81 z82 z83 z84 z85 z86 z87 z88 z89 z90=>.ite (!c5B (fun (i:Nat)=>e74.bb 0 (1+3 * i)) (e74.ai 0 0).toNat) (.defI ((pkV e0).getD 1 0) fun z91=>.defE (qPm2 z91 z75 z76 z77 z78 z79 z80 z81 z82 z83 z84 z85 z86 z87 z88 z89 z90) fun e92=>.must (d5 (e92.ai 0 0)) (qPm1 e92 fun z93 z94 z95 z96 z97 z98 z99 z100 z101 z102 z103 z104 z105 z106 z107 z108=>.ite (!!c5B (fun (i:Nat)=>e92.bb 0 (1+3 * i)) (e92.ai 0 0).toNat) (.defI ((pkV e0).getD 2 0) fun z109=>.defE (qPm2 z109 z93
 z94 z95 z96 z97 z98 z99 z100 z101 z102 z103 z104 z105 z106 z107 z108) fun e110=>.must (d5 (e110.ai 0 0)) (qPm1 e110 fun z111 z112 z113 z114 z115 z116 z117 z118 z119 z120 z121 z122 z123 z124 z125 z126=>.ite (!!c5B (fun (i:Nat)=>e110.bb 0 (1+3 * i)) (e110.ai 0 0).toNat) (.leaf ⟨[[.u]],[.lst 2 (AH [.i .i64] (Aw (.lit 0) fun (j:Nat)=>Bool.rec (Bool.rec (Bool.rec [.int .i64 (.sym ((pkV e0).getD j 0))] [.int .i64 (.sym z91)] (j.beq 0)) (.int .i64 (.sym z109)::List.rec (motive:=fun (x:List AV)=>Nat.below (motive:=fun (x:Nat)=>List AV→List AV) (Nat.succ 0)→List AV) (fun (x:Nat.below (motive:=fun (x:Nat)=>List AV→List AV) (Nat.succ 0))=>[]) (fun (head:AV) (tail:List AV) (tail_ih:Nat.below (motive:=fun (x:Nat)=>List AV→List AV) (Nat.succ 0)→List AV) (x:Nat.below (motive:=fun (x:Nat)=>List AV→List AV) (Nat.succ 0))=>x.1 tail) (Bool.rec [.int .i64 (.sym ((pkV e0).getD j 0))] [.int .i64 (.sym z91)] (j.beq 0)) (Nat.rec ⟨List.drop._f 0 PUnit.unit,PUnit.unit⟩ (fun (n:Nat) (n_ih:(fun (x:Nat)=>List AV→List AV) n ×' Nat.below (motive:=fun (x:Nat)=>List AV→List AV) n)=>⟨List.drop._f n.succ n_ih,n_ih⟩) 0)) (j.beq 1)) [.int .i64 (.lit 0)] (Nat.ble 2 j&&j.blt 3))),.tok]⟩) (.leaf ⟨[[.u]],[.lst 1 (AH [.i .i64] (Aw (.lit 0) fun (j:Nat)=>Bool.rec (Bool.rec [.int .i64 (.sym ((pkV e0).getD j 0))] [.int .i64 (.sym z91)] (j.beq 0)) [.int .i64 (.lit 0)] (Nat.ble 1 j&&j.blt 3))),
 .tok]⟩))) (.defI ((pkV e0).getD 2 0) fun z127=>.defE (qPm2 z127 z93 z94 z95 z96 z97 z98 z99 z100 z101 z102 z103 z104 z105 z106 z107 z108) fun e128=>.must (d5 (e128.ai 0 0)) (qPm1 e128 fun z129 z130 z131 z132 z133 z134 z135 z136 z137 z138 z139 z140 z141 z142 z143 z144=>.ite (!!c5B (fun (i:Nat)=>e128.bb 0 (1+3 * i)) (e128.ai 0 0).toNat) (.leaf ⟨[[.u]],[.lst 1 (AH [.i .i64] (Aw (.lit 0) fun (j:Nat)=>Bool.rec (Bool.rec [.int .i64 (.sym ((pkV e0).getD j 0))] [.int .i64 (.sym z127)] (j.beq 0)) [.int .i64 (.lit 0)] (Nat.ble 1 j&&j.blt 3))),.tok]⟩) (.leaf ⟨[[.u]],[.lst 0 (AH [.i .i64] (Aw (.lit 0) fun (j:Nat)=>Bool.rec [.int .i64 (.sym ((pkV e0).getD j 0))] [.int .i64 (.lit 0)] (Nat.ble 0 j&&j.blt 3))),.tok]⟩))))) (.defI ((pkV e0).getD 1 0) fun z145=>.defE (qPm2 z145 z75 z76 z77 z78 z79 z80 z81 z82 z83 z84 z85 z86 z87 z88 z89 z90) fun e146=>.must (d5 (e146.ai 0 0)) (qPm1 e146 fun z147 z148 z149 z150 z151 z152 z153 z154 z155 z156 z157 z158 z159 z160 z161 z162=>.ite (!c5B (fun (i:Nat)=>e146.bb 0 (1+3 * i)) (e146.ai 0 0).toNat) (.defI ((pkV e0).getD 2 0) fun z163=>.defE (qPm2 z163 z147 z148 z149 z150 z151 z152 z153 z154 z155 z156 z157 z158 z159 z160 z161 z162) fun e164=>.must (d5 (e164.ai 0 0)) (qPm1 e164 fun z165 z166 z167 z168 z169 z170 z171 z172 z173 z174 z175 z176 z177 z178 z179 z180=>.ite (!!c5B (fun (i:Nat)=>e164.bb 0 (1+3 * i)) (e164.ai 0 0).toNat) (.leaf ⟨[[.u]],[.lst 2 (AH [.i .i64] (Aw (.lit
 0) fun (j:Nat)=>Bool.rec (Bool.rec [.int .i64 (.sym ((pkV e0).getD j 0))] [.int .i64 (.sym z163)] (j.beq 1)) [.int .i64 (.lit 0)] (Nat.ble 2 j&&j.blt 3))),.tok]⟩) (.leaf ⟨[[.u]],[.lst 1 (AH [.i .i64] (Aw (.lit 0) fun (j:Nat)=>Bool.rec [.int .i64 (.sym ((pkV e0).getD j 0))] [.int .i64 (.lit 0)] (Nat.ble 1 j&&j.blt 3))),.tok]⟩))) (.defI ((pkV e0).getD 2 0) fun z181=>.defE (qPm2 z181 z147 z148 z149 z150 z151 z152 z153 z154 z155 z156 z157 z158 z159 z160 z161 z162) fun e182=>.must (d5 (e182.ai 0 0)) (qPm1 e182 fun z183 z184 z185 z186 z187 z188 z189 z190 z191 z192 z193 z194 z195 z196 z197 z198=>.ite (!c5B (fun (i:Nat)=>e182.bb 0 (1+3 * i)) (e182.ai 0 0).toNat) (.leaf ⟨[[.u]],[.lst 2 (AH [.i .i64] (Aw (.lit 0) fun (j:Nat)=>Bool.rec [.int .i64 (.sym ((pkV e0).getD j 0))] [.int .i64 (.lit 0)] (Nat.ble 2 j&&j.blt 3))),.tok]⟩) (.leaf ⟨[[.u]],[.lst 3 (AR ((pkV e0))),.tok]⟩))))))))))):=by kernel_rfl
theorem act1_0 {u:Nat→Bool} {Q:List Int} (hn:Q.length=1) (h0:c5B u (Q.getD 0 0).toNat=false):actL u Q=[]:=by
  match Q,hn with
  | [a],_ =>
    simp only [List.getD_cons_zero,List.getD_cons_succ] at h0 ⊢
    simp only [actL,List.filter_cons,List.filter_nil,h0,if_true,if_false,Bool.false_eq_true]
theorem act1_1 {u:Nat→Bool} {Q:List Int} (hn:Q.length=1) (h0:c5B u (Q.getD 0 0).toNat=true):actL u Q=[Q.getD 0 0]:=by
  match Q,hn with
  | [a],_ =>
    simp only [List.getD_cons_zero,List.getD_cons_succ] at h0 ⊢
    simp only [actL,List.filter_cons,List.filter_nil,h0,if_true,if_false,Bool.false_eq_true]
theorem act2_00 {u:Nat→Bool} {Q:List Int} (hn:Q.length=2) (h0:c5B u (Q.getD 0 0).toNat=false) (h1:c5B u (Q.getD 1 0).toNat=false):actL u Q=[]:=by
  match Q,hn with
  | [a,b],_ =>
    simp only [List.getD_cons_zero,List.getD_cons_succ] at h0 h1 ⊢
    simp only [actL,List.filter_cons,List.filter_nil,h0,h1,if_true,if_false,Bool.false_eq_true]
theorem act2_01 {u:Nat→Bool} {Q:List Int} (hn:Q.length=2) (h0:c5B u (Q.getD 0 0).toNat=false) (h1:c5B u (Q.getD 1 0).toNat=true):actL u Q=[Q.getD 1 0]:=by
  match Q,hn with
  | [a,b],_ =>
    simp only [List.getD_cons_zero,List.getD_cons_succ] at h0 h1 ⊢
    simp only [actL,List.filter_cons,List.filter_nil,h0,h1,if_true,if_false,Bool.false_eq_true]
theorem act2_10 {u:Nat→Bool} {Q:List Int} (hn:Q.length=2) (h0:c5B u (Q.getD 0 0).toNat=true) (h1:c5B u (Q.getD 1 0).toNat=false):actL u Q=[Q.getD 0 0]:=by
  match Q,hn with
  | [a,b],_ =>
    simp only [List.getD_cons_zero,List.getD_cons_succ] at h0 h1 ⊢
    simp only [actL,List.filter_cons,List.filter_nil,h0,h1,if_true,if_false,Bool.false_eq_true]
theorem act2_11 {u:Nat→Bool} {Q:List Int} (hn:Q.length=2) (h0:c5B u (Q.getD 0 0).toNat=true) (h1:c5B u (Q.getD 1 0).toNat=true):actL u Q=[Q.getD 0 0,Q.getD 1 0]:=by
  match Q,hn with
  | [a,b],_ =>
    simp only [List.getD_cons_zero,List.getD_cons_succ] at h0 h1 ⊢
    simp only [actL,List.filter_cons,List.filter_nil,h0,h1,if_true,if_false,Bool.false_eq_true]
theorem act3_000 {u:Nat→Bool} {Q:List Int} (hn:Q.length=3) (h0:c5B u (Q.getD 0 0).toNat=false) (h1:c5B u (Q.getD 1 0).toNat=false) (h2:c5B u (Q.getD 2 0).toNat=false):actL u Q=[]:=by
  match Q,hn with
  | [a,b,c],_ =>
    simp only [List.getD_cons_zero,List.getD_cons_succ] at h0 h1 h2 ⊢
    simp only [actL,List.filter_cons,List.filter_nil,h0,h1,h2,if_true,if_false,Bool.false_eq_true]
theorem act3_001 {u:Nat→Bool} {Q:List Int} (hn:Q.length=3) (h0:c5B u (Q.getD 0 0).toNat=false) (h1:c5B u (Q.getD 1 0).toNat=false) (h2:c5B u (Q.getD 2 0).toNat=true):actL u Q=[Q.getD 2 0]:=by
  match Q,hn with
  | [a,b,c],_ =>
    simp only [List.getD_cons_zero,List.getD_cons_succ] at h0 h1 h2 ⊢
    simp only [actL,List.filter_cons,List.filter_nil,h0,h1,h2,if_true,if_false,Bool.false_eq_true]
theorem act3_010 {u:Nat→Bool} {Q:List Int} (hn:Q.length=3) (h0:c5B u (Q.getD 0 0).toNat=false) (h1:c5B u (Q.getD 1 0).toNat=true) (h2:c5B u (Q.getD 2 0).toNat=false):actL u Q=[Q.getD 1 0]:=by
  match Q,hn with
  | [a,b,c],_ =>
    simp only [List.getD_cons_zero,List.getD_cons_succ] at h0 h1 h2 ⊢
    simp only [actL,List.filter_cons,List.filter_nil,h0,h1,h2,if_true,if_false,Bool.false_eq_true]
theorem act3_011 {u:Nat→Bool} {Q:List Int} (hn:Q.length=3) (h0:c5B u (Q.getD 0 0).toNat=false) (h1:c5B u (Q.getD 1 0).toNat=true) (h2:c5B u (Q.getD 2 0).toNat=true):actL u Q=[Q.getD 1 0,Q.getD 2 0]:=by
  match Q,hn with
  | [a,b,c],_ =>
    simp only [List.getD_cons_zero,List.getD_cons_succ] at h0 h1 h2 ⊢
    simp only [actL,List.filter_cons,List.filter_nil,h0,h1,h2,if_true,if_false,Bool.false_eq_true]
theorem act3_100 {u:Nat→Bool} {Q:List Int} (hn:Q.length=3) (h0:c5B u (Q.getD 0 0).toNat=true) (h1:c5B u (Q.getD 1 0).toNat=false) (h2:c5B u (Q.getD 2 0).toNat=false):actL u Q=[Q.getD 0 0]:=by
  match Q,hn with
  | [a,b,c],_ =>
    simp only [List.getD_cons_zero,List.getD_cons_succ] at h0 h1 h2 ⊢
    simp only [actL,List.filter_cons,List.filter_nil,h0,h1,h2,if_true,if_false,Bool.false_eq_true]
theorem act3_101 {u:Nat→Bool} {Q:List Int} (hn:Q.length=3) (h0:c5B u (Q.getD 0 0).toNat=true) (h1:c5B u (Q.getD 1 0).toNat=false) (h2:c5B u (Q.getD 2 0).toNat=true):actL u Q=[Q.getD 0 0,Q.getD 2 0]:=by
  match Q,hn with
  | [a,b,c],_ =>
    simp only [List.getD_cons_zero,List.getD_cons_succ] at h0 h1 h2 ⊢
    simp only [actL,List.filter_cons,List.filter_nil,h0,h1,h2,if_true,if_false,Bool.false_eq_true]
theorem act3_110 {u:Nat→Bool} {Q:List Int} (hn:Q.length=3) (h0:c5B u (Q.getD 0 0).toNat=true) (h1:c5B u (Q.getD 1 0).toNat=true) (h2:c5B u (Q.getD 2 0).toNat=false):actL u Q=[Q.getD 0 0,Q.getD 1 0]:=by
  match Q,hn with
  | [a,b,c],_ =>
    simp only [List.getD_cons_zero,List.getD_cons_succ] at h0 h1 h2 ⊢
    simp only [actL,List.filter_cons,List.filter_nil,h0,h1,h2,if_true,if_false,Bool.false_eq_true]
theorem act3_111 {u:Nat→Bool} {Q:List Int} (hn:Q.length=3) (h0:c5B u (Q.getD 0 0).toNat=true) (h1:c5B u (Q.getD 1 0).toNat=true) (h2:c5B u (Q.getD 2 0).toNat=true):actL u Q=[Q.getD 0 0,Q.getD 1 0,Q.getD 2 0]:=by
  match Q,hn with
  | [a,b,c],_ =>
    simp only [List.getD_cons_zero,List.getD_cons_succ] at h0 h1 h2 ⊢
    simp only [actL,List.filter_cons,List.filter_nil,h0,h1,h2,if_true,if_false,Bool.false_eq_true]
set_option maxHeartbeats 4000000 in
theorem at0_std (ep:Int) (u:Nat→Bool) (w h:Nat→Int) (g:Int) (hm:mIs ep w h=true) (hg:(!(decide (g≥4)))=true) (hn:(BD g (c5 w) (c5 h) (inF w)).length=0):BI Tryz.prog 137 ckT (ckX ep u w h g) intsR ⟨[[.u]],[.lst (actL u (BD g (c5 w) (c5 h) (inF w))).length (AR (actL u (BD g (c5 w) (c5 h) (inF w)))),.tok]⟩:=by
  refine Aj pmTab Ay rfl (AL (at_t ep u w h g) ?_)
  refine AK (AA hm (AA hg (AU (by show decide ((BD g (c5 w) (c5 h) (inF w)).length=0)=true; rw [hn]; rfl) ?_)))
  rw [show actL u (BD g (c5 w) (c5 h) (inF w))=[] by rw [List.eq_nil_of_length_eq_zero hn]; rfl]
  refine AE ?_
  (repeat' (first | exact trivial | exact rfl | exact TS.eqv_refl _ _ | exact AY _ _ | exact AQ | exact fun _ _=>AJ _ _ | exact fun i _=>AF rfl _ i | apply And.intro))
set_option maxHeartbeats 4000000 in
theorem at1_std (ep:Int) (u:Nat→Bool) (w h:Nat→Int) (g:Int) (hm:mIs ep w h=true) (hg:(!(decide (g≥4)))=true) (hn:(BD g (c5 w) (c5 h) (inF w)).length=1):BI Tryz.prog 137 ckT (ckX ep u w h g) intsR ⟨[[.u]],[.lst (actL u (BD g (c5 w) (c5 h) (inF w))).length (AR (actL u (BD g (c5 w) (c5 h) (inF w)))),.tok]⟩:=by
  refine Aj pmTab Ay rfl (AL (at_t ep u w h g) ?_)
  refine AK (AA hm (AA hg (Ab (by show decide ((BD g (c5 w) (c5 h) (inF w)).length=0)=false; rw [hn]; rfl) (AU (by show decide ((BD g (c5 w) (c5 h) (inF w)).length=1)=true; rw [hn]; rfl) ?_))))
  repeat' with_reducible (first | refine AB ?_ | refine AM ?_)
  refine AK (AA (pickL_d5 (show 0<(BD g (c5 w) (c5 h) (inF w)).length by omega)) ?_)
  repeat' with_reducible (first | refine AB ?_ | refine AM ?_)
  cases u0:c5B u ((BD g (c5 w) (c5 h) (inF w)).getD 0 0).toNat with
  | true =>
    refine Ab (congrArg Bool.not u0) ?_
    repeat' with_reducible (first | refine AB ?_ | refine AM ?_)
    rw [act1_1 hn u0]
    refine AE ⟨⟨trivial,trivial⟩,⟨rfl,rowsL _ _ ?_⟩,trivial,trivial⟩
    (repeat' (first | exact trivial | exact rfl | exact TS.eqv_refl _ _ | exact AY _ _ | exact AQ | exact fun _ _=>AJ _ _ | exact fun i _=>AF rfl _ i | apply And.intro))
  | false =>
    refine AU (congrArg Bool.not u0) ?_
    repeat' with_reducible (first | refine AB ?_ | refine AM ?_)
    rw [act1_0 hn u0]
    refine AE ⟨⟨trivial,trivial⟩,⟨rfl,rowsL _ _ ?_⟩,trivial,trivial⟩
    (repeat' (first | exact trivial | exact rfl | exact TS.eqv_refl _ _ | exact AY _ _ | exact AQ | exact fun _ _=>AJ _ _ | exact fun i _=>AF rfl _ i | apply And.intro))
set_option maxHeartbeats 4000000 in
theorem at2_std (ep:Int) (u:Nat→Bool) (w h:Nat→Int) (g:Int) (hm:mIs ep w h=true) (hg:(!(decide (g≥4)))=true) (hn:(BD g (c5 w) (c5 h) (inF w)).length=2):BI Tryz.prog 137 ckT (ckX ep u w h g) intsR ⟨[[.u]],[.lst (actL u (BD g (c5 w) (c5 h) (inF w))).length (AR (actL u (BD g (c5 w) (c5 h) (inF w)))),.tok]⟩:=by
  refine Aj pmTab Ay rfl (AL (at_t ep u w h g) ?_)
  refine AK (AA hm (AA hg (Ab (by show decide ((BD g (c5 w) (c5 h) (inF w)).length=0)=false; rw [hn]; rfl) (Ab (by show decide ((BD g (c5 w) (c5 h) (inF w)).length=1)=false; rw [hn]; rfl) (AU (by show decide ((BD g (c5 w) (c5 h) (inF w)).length=2)=true; rw [hn]; rfl) ?_)))))
  repeat' with_reducible (first | refine AB ?_ | refine AM ?_)
  refine AK (AA (pickL_d5 (show 0<(BD g (c5 w) (c5 h) (inF w)).length by omega)) ?_)
  repeat' with_reducible (first | refine AB ?_ | refine AM ?_)
  cases u0:c5B u ((BD g (c5 w) (c5 h) (inF w)).getD 0 0).toNat with
  | true =>
    refine Ab (congrArg Bool.not u0) ?_
    repeat' with_reducible (first | refine AB ?_ | refine AM ?_)
    repeat' with_reducible (first | refine AB ?_ | refine AM ?_)
    refine AK (AA (pickL_d5 (show 1<(BD g (c5 w) (c5 h) (inF w)).length by omega)) ?_)
    repeat' with_reducible (first | refine AB ?_ | refine AM ?_)
    cases u1:c5B u ((BD g (c5 w) (c5 h) (inF w)).getD 1 0).toNat with
    | true =>
      refine Ab (congrArg Bool.not u1) ?_
      repeat' with_reducible (first | refine AB ?_ | refine AM ?_)
      rw [act2_11 hn u0 u1]
      refine AE ⟨⟨trivial,trivial⟩,⟨rfl,rowsL _ _ ?_⟩,trivial,trivial⟩
      (repeat' (first | exact trivial | exact rfl | exact TS.eqv_refl _ _ | exact AY _ _ | exact AQ | exact fun _ _=>AJ _ _ | exact fun i _=>AF rfl _ i | apply And.intro))
    | false =>
      refine AU (congrArg Bool.not u1) ?_
      repeat' with_reducible (first | refine AB ?_ | refine AM ?_)
      rw [act2_10 hn u0 u1]
      refine AE ⟨⟨trivial,trivial⟩,⟨rfl,rowsL _ _ ?_⟩,trivial,trivial⟩
      (repeat' (first | exact trivial | exact rfl | exact TS.eqv_refl _ _ | exact AY _ _ | exact AQ | exact fun _ _=>AJ _ _ | exact fun i _=>AF rfl _ i | apply And.intro))
  | false =>
    refine AU (congrArg Bool.not u0) ?_
    repeat' with_reducible (first | refine AB ?_ | refine AM ?_)
    repeat' with_reducible (first | refine AB ?_ | refine AM ?_)
    refine AK (AA (pickL_d5 (show 1<(BD g (c5 w) (c5 h) (inF w)).length by omega)) ?_)
    repeat' with_reducible (first | refine AB ?_ | refine AM ?_)
    cases u1:c5B u ((BD g (c5 w) (c5 h) (inF w)).getD 1 0).toNat with
    | true =>
      refine AU (congrArg (fun b=>!!b) u1) ?_
      repeat' with_reducible (first | refine AB ?_ | refine AM ?_)
      rw [act2_01 hn u0 u1]
      refine AE ⟨⟨trivial,trivial⟩,⟨rfl,rowsL _ _ ?_⟩,trivial,trivial⟩
      (repeat' (first | exact trivial | exact rfl | exact TS.eqv_refl _ _ | exact AY _ _ | exact AQ | exact fun _ _=>AJ _ _ | exact fun i _=>AF rfl _ i | apply And.intro))
    | false =>
      refine Ab (congrArg (fun b=>!!b) u1) ?_
      repeat' with_reducible (first | refine AB ?_ | refine AM ?_)
      rw [act2_00 hn u0 u1]
      refine AE ⟨⟨trivial,trivial⟩,⟨rfl,rowsL _ _ ?_⟩,trivial,trivial⟩
      (repeat' (first | exact trivial | exact rfl | exact TS.eqv_refl _ _ | exact AY _ _ | exact AQ | exact fun _ _=>AJ _ _ | exact fun i _=>AF rfl _ i | apply And.intro))
set_option maxHeartbeats 4000000 in
theorem at3_std (ep:Int) (u:Nat→Bool) (w h:Nat→Int) (g:Int) (hm:mIs ep w h=true) (hg:(!(decide (g≥4)))=true) (hn:(BD g (c5 w) (c5 h) (inF w)).length=3):BI Tryz.prog 137 ckT (ckX ep u w h g) intsR ⟨[[.u]],[.lst (actL u (BD g (c5 w) (c5 h) (inF w))).length (AR (actL u (BD g (c5 w) (c5 h) (inF w)))),.tok]⟩:=by
  refine Aj pmTab Ay rfl (AL (at_t ep u w h g) ?_)
  refine AK (AA hm (AA hg (Ab (by show decide ((BD g (c5 w) (c5 h) (inF w)).length=0)=false; rw [hn]; rfl) (Ab (by show decide ((BD g (c5 w) (c5 h) (inF w)).length=1)=false; rw [hn]; rfl) (Ab (by show decide ((BD g (c5 w) (c5 h) (inF w)).length=2)=false; rw [hn]; rfl) ?_)))))
  repeat' with_reducible (first | refine AB ?_ | refine AM ?_)
  refine AK (AA (pickL_d5 (show 0<(BD g (c5 w) (c5 h) (inF w)).length by omega)) ?_)
  repeat' with_reducible (first | refine AB ?_ | refine AM ?_)
  cases u0:c5B u ((BD g (c5 w) (c5 h) (inF w)).getD 0 0).toNat with
  | true =>
    refine Ab (congrArg Bool.not u0) ?_
    repeat' with_reducible (first | refine AB ?_ | refine AM ?_)
    repeat' with_reducible (first | refine AB ?_ | refine AM ?_)
    refine AK (AA (pickL_d5 (show 1<(BD g (c5 w) (c5 h) (inF w)).length by omega)) ?_)
    repeat' with_reducible (first | refine AB ?_ | refine AM ?_)
    cases u1:c5B u ((BD g (c5 w) (c5 h) (inF w)).getD 1 0).toNat with
    | true =>
      refine Ab (congrArg Bool.not u1) ?_
      repeat' with_reducible (first | refine AB ?_ | refine AM ?_)
      repeat' with_reducible (first | refine AB ?_ | refine AM ?_)
      refine AK (AA (pickL_d5 (show 2<(BD g (c5 w) (c5 h) (inF w)).length by omega)) ?_)
      repeat' with_reducible (first | refine AB ?_ | refine AM ?_)
      cases u2:c5B u ((BD g (c5 w) (c5 h) (inF w)).getD 2 0).toNat with
      | true =>
        refine Ab (congrArg Bool.not u2) ?_
        repeat' with_reducible (first | refine AB ?_ | refine AM ?_)
        rw [act3_111 hn u0 u1 u2]
        refine AE ⟨⟨trivial,trivial⟩,⟨rfl,rowsL _ _ ?_⟩,trivial,trivial⟩
        (repeat' (first | exact trivial | exact rfl | exact TS.eqv_refl _ _ | exact AY _ _ | exact AQ | exact fun _ _=>AJ _ _ | exact fun i _=>AF rfl _ i | apply And.intro))
      | false =>
        refine AU (congrArg Bool.not u2) ?_
        repeat' with_reducible (first | refine AB ?_ | refine AM ?_)
        rw [act3_110 hn u0 u1 u2]
        refine AE ⟨⟨trivial,trivial⟩,⟨rfl,rowsL _ _ ?_⟩,trivial,trivial⟩
        (repeat' (first | exact trivial | exact rfl | exact TS.eqv_refl _ _ | exact AY _ _ | exact AQ | exact fun _ _=>AJ _ _ | exact fun i _=>AF rfl _ i | apply And.intro))
    | false =>
      refine AU (congrArg Bool.not u1) ?_
      repeat' with_reducible (first | refine AB ?_ | refine AM ?_)
      repeat' with_reducible (first | refine AB ?_ | refine AM ?_)
      refine AK (AA (pickL_d5 (show 2<(BD g (c5 w) (c5 h) (inF w)).length by omega)) ?_)
      repeat' with_reducible (first | refine AB ?_ | refine AM ?_)
      cases u2:c5B u ((BD g (c5 w) (c5 h) (inF w)).getD 2 0).toNat with
      | true =>
        refine AU (congrArg (fun b=>!!b) u2) ?_
        repeat' with_reducible (first | refine AB ?_ | refine AM ?_)
        rw [act3_101 hn u0 u1 u2]
        refine AE ⟨⟨trivial,trivial⟩,⟨rfl,rowsL _ _ ?_⟩,trivial,trivial⟩
        (repeat' (first | exact trivial | exact rfl | exact TS.eqv_refl _ _ | exact AY _ _ | exact AQ | exact fun _ _=>AJ _ _ | exact fun i _=>AF rfl _ i | apply And.intro))
      | false =>
        refine Ab (congrArg (fun b=>!!b) u2) ?_
        repeat' with_reducible (first | refine AB ?_ | refine AM ?_)
        rw [act3_100 hn u0 u1 u2]
        refine AE ⟨⟨trivial,trivial⟩,⟨rfl,rowsL _ _ ?_⟩,trivial,trivial⟩
        (repeat' (first | exact trivial | exact rfl | exact TS.eqv_refl _ _ | exact AY _ _ | exact AQ | exact fun _ _=>AJ _ _ | exact fun i _=>AF rfl _ i | apply And.intro))
  | false =>
    refine AU (congrArg Bool.not u0) ?_
    repeat' with_reducible (first | refine AB ?_ | refine AM ?_)
    repeat' with_reducible (first | refine AB ?_ | refine AM ?_)
    refine AK (AA (pickL_d5 (show 1<(BD g (c5 w) (c5 h) (inF w)).length by omega)) ?_)
    repeat' with_reducible (first | refine AB ?_ | refine AM ?_)
    cases u1:c5B u ((BD g (c5 w) (c5 h) (inF w)).getD 1 0).toNat with
    | true =>
      refine AU (congrArg (fun b=>!!b) u1) ?_
      repeat' with_reducible (first | refine AB ?_ | refine AM ?_)
      repeat' with_reducible (first | refine AB ?_ | refine AM ?_)
      refine AK (AA (pickL_d5 (show 2<(BD g (c5 w) (c5 h) (inF w)).length by omega)) ?_)
      repeat' with_reducible (first | refine AB ?_ | refine AM ?_)
      cases u2:c5B u ((BD g (c5 w) (c5 h) (inF w)).getD 2 0).toNat with
      | true =>
        refine AU (congrArg (fun b=>!!b) u2) ?_
        repeat' with_reducible (first | refine AB ?_ | refine AM ?_)
        rw [act3_011 hn u0 u1 u2]
        refine AE ⟨⟨trivial,trivial⟩,⟨rfl,rowsL _ _ ?_⟩,trivial,trivial⟩
        (repeat' (first | exact trivial | exact rfl | exact TS.eqv_refl _ _ | exact AY _ _ | exact AQ | exact fun _ _=>AJ _ _ | exact fun i _=>AF rfl _ i | apply And.intro))
      | false =>
        refine Ab (congrArg (fun b=>!!b) u2) ?_
        repeat' with_reducible (first | refine AB ?_ | refine AM ?_)
        rw [act3_010 hn u0 u1 u2]
        refine AE ⟨⟨trivial,trivial⟩,⟨rfl,rowsL _ _ ?_⟩,trivial,trivial⟩
        (repeat' (first | exact trivial | exact rfl | exact TS.eqv_refl _ _ | exact AY _ _ | exact AQ | exact fun _ _=>AJ _ _ | exact fun i _=>AF rfl _ i | apply And.intro))
    | false =>
      refine Ab (congrArg (fun b=>!!b) u1) ?_
      repeat' with_reducible (first | refine AB ?_ | refine AM ?_)
      repeat' with_reducible (first | refine AB ?_ | refine AM ?_)
      refine AK (AA (pickL_d5 (show 2<(BD g (c5 w) (c5 h) (inF w)).length by omega)) ?_)
      repeat' with_reducible (first | refine AB ?_ | refine AM ?_)
      cases u2:c5B u ((BD g (c5 w) (c5 h) (inF w)).getD 2 0).toNat with
      | true =>
        refine AU (congrArg (fun b=>!!b) u2) ?_
        repeat' with_reducible (first | refine AB ?_ | refine AM ?_)
        rw [act3_001 hn u0 u1 u2]
        refine AE ⟨⟨trivial,trivial⟩,⟨rfl,rowsL _ _ ?_⟩,trivial,trivial⟩
        (repeat' (first | exact trivial | exact rfl | exact TS.eqv_refl _ _ | exact AY _ _ | exact AQ | exact fun _ _=>AJ _ _ | exact fun i _=>AF rfl _ i | apply And.intro))
      | false =>
        refine Ab (congrArg (fun b=>!!b) u2) ?_
        repeat' with_reducible (first | refine AB ?_ | refine AM ?_)
        rw [act3_000 hn u0 u1 u2]
        refine AE ⟨⟨trivial,trivial⟩,⟨rfl,rowsL _ _ ?_⟩,trivial,trivial⟩
        (repeat' (first | exact trivial | exact rfl | exact TS.eqv_refl _ _ | exact AY _ _ | exact AQ | exact fun _ _=>AJ _ _ | exact fun i _=>AF rfl _ i | apply And.intro))
noncomputable def actM (ep:Int) (u:Nat→Bool) (w h:Nat→Int) (g:Int):List Int:=actL u (BD g (c5 w) (c5 h) (inF w))
noncomputable def cAct (e:EN):Ah (TS×EN):=.must (mIs (e.ai 0 0) (Av e 0 0) (BF e 0 0)) (.must (!(decide (e.ai 1 0≥4))) (.leaf (intsR,⟨[[.u]],[.lst (actM (e.ai 0 0) (Ag e 0 0) (Av e 0 0) (BF e 0 0) (e.ai 1 0)).length (AR (actM (e.ai 0 0) (Ag e 0 0) (Av e 0 0) (BF e 0 0) (e.ai 1 0))),.tok]⟩)))
theorem cAct_ok:Ak Tryz.prog 137 (AW ckT cAct):=BN fun e r h=>by
  obtain ⟨hm,h⟩:=Ar h
  obtain ⟨hg,h⟩:=Ar h
  cases h
  have pre:ckT.eqv e (ckX (e.ai 0 0) (Ag e 0 0) (Av e 0 0) (BF e 0 0) (e.ai 1 0)):=by
    (repeat' (first | exact trivial | exact rfl | exact TS.eqv_refl _ _ | exact AY _ _ | exact AQ | exact fun _ _=>AJ _ _ | exact fun i _=>AF rfl _ i | apply And.intro))
  have h3:(BD (e.ai 1 0) (c5 (Av e 0 0)) (c5 (BF e 0 0)) (inF (Av e 0 0))).length≤3:=pickL_len
  have h4:(BD (e.ai 1 0) (c5 (Av e 0 0)) (c5 (BF e 0 0)) (inF (Av e 0 0))).length=0∨(BD (e.ai 1 0) (c5 (Av e 0 0)) (c5 (BF e 0 0)) (inF (Av e 0 0))).length=1∨(BD (e.ai 1 0) (c5 (Av e 0 0)) (c5 (BF e 0 0)) (inF (Av e 0 0))).length=2∨(BD (e.ai 1 0) (c5 (Av e 0 0)) (c5 (BF e 0 0)) (inF (Av e 0 0))).length=3:=by omega
  rcases h4 with h4 | h4 | h4 | h4
  · exact BI.pre pre (at0_std _ _ _ _ _ hm hg h4)
  · exact BI.pre pre (at1_std _ _ _ _ _ hm hg h4)
  · exact BI.pre pre (at2_std _ _ _ _ _ hm hg h4)
  · exact BI.pre pre (at3_std _ _ _ _ _ hm hg h4)
end Go.Proofs.YtddmgdclmkgpeaaGreat
set_option linter.unusedSimpArgs false
set_option linter.unusedVariables false
namespace Go.Proofs.YtddmgdclmkgpeaaGreat
open Go.Eng Go.RowKit Go.ChangeShapes Go.WideShapes
set_option maxRecDepth 100000
def eqP:List (Nat×TO):=[(0,.lst none [.i .i64] none),(1,.lst none [.i .i64] none)]
def eqT:TS:=⟨[],[.one (.sl 0),.one (.sl 1)],eqP,2⟩
def eqL:TS:=⟨[0,1,12,13],[.one (.sl 0),.one (.sl 1),.one (.i .i64),.one (.i .i64)],eqP,2⟩
def eqE:TS:=⟨[],[],[],2⟩
def eqR:TS:=⟨[4],[.one .b],[],2⟩
def eqFrom (l k:List Int) (i:Nat):Bool:=decide (l.drop i=k.drop i)
def eqI (l k:List Int):Bool:=decide (l=k)
noncomputable def bodyEq:Code:=Tryz.f138.body.getD .skip
noncomputable def xEq:Code:=lp ((flat bodyEq).getD 4 .skip)
theorem bodyEq_eq:Tryz.f138.body=some bodyEq:=by kernel_rfl
theorem inEq:BT Tryz.prog 138 Tryz.f138.ntmps bodyEq:=within_body Tryz.func138 bodyEq_eq
theorem lpEq:(flat bodyEq).drop 4=[.block 0 (.loop xEq)]++(flat bodyEq).drop 5:=by kernel_rfl
theorem inEqx:BT Tryz.prog 138 Tryz.f138.ntmps xEq:=by
  have h:(flat bodyEq)[4]? = some (.block 0 (.loop xEq)):=by kernel_rfl
  exact within_loop (within_block (within_at inEq 4 h))
theorem Eq_pre (l k:List Int) (τ0:Tm):Am Tryz.prog noTab 300 138 Tryz.f138.ntmps (Eng.ofL ((flat bodyEq).take 4)) (argTm 0 (eqT.vals ⟨[[],[]],[.lst l.length (AR l),.lst k.length (AR k)]⟩)++τ0) (eqT.heap ⟨[[],[]],[.lst l.length (AR l),.lst k.length (AR k)]⟩) 2 (outX 2 ⟨some eqL,[],some eqR⟩) =
  .ite ((l.length:Int) != (k.length:Int)) (.leaf (.ret,⟨[[.b false]],[]⟩)) (.must (AX [.i .i64] (AI [.i .i64] (AR l)) l.length) (.must (AX [.i .i64] (AI [.i .i64] (AR k)) k.length) (.leaf (.normal,
  ⟨[[.u],[.u],[.i (l.length:Int)],[.i 0]],[.lst l.length (AR l),.lst k.length (AR k)]⟩)))):=by kernel_rfl
theorem Eq_x (l k:List Int) (n i:Int) (τ0:Tm):Am Tryz.prog noTab 300 138 Tryz.f138.ntmps xEq (eqL.tm ⟨[[],[],[.i n],[.i i]],[.lst l.length (AR l),.lst k.length (AR k)]⟩++τ0) (eqL.heap ⟨[[],[],[.i n],[.i i]],[.lst l.length (AR l),.lst k.length (AR k)]⟩) 2 (outX 2 ⟨some eqL,[(0,eqE)],some eqR⟩) =
  .ite (decide (i<n)) (.must (decide (0≤i∧i<(l.length:Int))) (.must (decide (0≤i∧i<(l.length:Int))) (.defI (l.getD i.toNat 0) fun z0=>.must (decide (0≤i∧i<(k.length:Int))) (.must (decide (0≤i
  ∧ i<(k.length:Int))) (.defI (k.getD i.toNat 0) fun z1=>.ite (z0 != z1) (.leaf (.ret,⟨[[.b false]],[]⟩)) (.defI (IntKind.i64.wrap (i+1)) fun z2=>.must (AX [.i .i64] (AI [.i .i64] (AR l)) l.length)
  (.must (AX [.i .i64] (AI [.i .i64] (AR k)) k.length) (.leaf (.normal,⟨[[.u],[.u],[.i n],[.i z2]],[.lst l.length (AR l),.lst k.length (AR k)]⟩))))))))) (.leaf (.exit 0,⟨[],[]⟩)):=by kernel_rfl
theorem Eq_tail  (τ0:Tm):Am Tryz.prog noTab 300 138 Tryz.f138.ntmps (Eng.ofL ((flat bodyEq).drop 5)) (eqE.tm ⟨[],[]⟩++τ0) (eqE.heap ⟨[],[]⟩) 2 (outX 2 ⟨none,[],some eqR⟩) =
  .leaf (.ret,⟨[[.b true]],[]⟩):=by kernel_rfl
theorem drop_cons (l:List Int) {i:Nat} (h:i<l.length):l.drop i=l.getD i 0::l.drop (i+1):=by
  rw [List.drop_eq_getElem_cons h,List.getD,List.getElem?_eq_getElem h]
  rfl
def eqQ (l k:List Int):Ex→EN→Prop
  | .exit _,_=>eqI l k=true
  | .ret,e=>e.ab 0 0=eqI l k
  | .normal,_=>True
theorem eq_loop (l k:List Int) (hl:(l.length:Int)<1000000) (hk:l.length=k.length):HT Tryz.prog Tryz.f138.ntmps 2 (.loop xEq) 2 (eqL.tm ⟨[[],[],[.i (l.length:Int)],[.i 0]],[.lst l.length (AR l),.lst k.length (AR k)]⟩) (eqL.heap ⟨[[],[],[.i (l.length:Int)],[.i 0]],[.lst l.length (AR l),.lst k.length (AR k)]⟩) (QX ⟨none,[(0,eqE)],some eqR⟩ (eqQ l k)):=by
  refine HT.loopX (Ao _) Ay (n:=300) inEqx eqL _ _ (fun i:Nat=>⟨[[],[],[.i (l.length:Int)],[.i (i:Int)]],[.lst l.length (AR l),.lst k.length (AR k)]⟩) (fun i=>i≤l.length∧eqI l k=eqFrom l k i) (fun i=>l.length - i) (fun _=>eqQ l k) (by decide) ?_ 0 ⟨Nat.zero_le _,rfl⟩
  intro i hi τ0
  obtain ⟨hi,hq⟩:=hi
  refine AL (Eq_x l k (l.length:Int) (i:Int) τ0) ?_
  have e1:IntKind.i64.wrap ((i:Int)+1)=((i+1:Nat):Int):=IntWalk.i64_in _ (by omega)
  refine AG (fun h=>?_) (fun h=>AE ?_)
  · have h:=of_decide_eq_true h
    have hm:decide ((0:Int)≤(i:Int)∧(i:Int)<(l.length:Int))=true:=decide_eq_true (by omega)
    have hm2:decide ((0:Int)≤(i:Int)∧(i:Int)<(k.length:Int))=true:=decide_eq_true (by omega)
    have d1:=drop_cons l (i:=i) (by omega)
    have d2:=drop_cons k (i:=i) (by omega)
    refine AA hm (AA hm (AB (AA hm2 (AA hm2 (AB (AG (fun hc=>AE ?_) (fun hc=>?_)))))))
    · have hc:l.getD i 0≠k.getD i 0:=bne_iff_ne.1 hc
      show false=eqI l k
      rw [hq,eqFrom,d1,d2]
      exact (decide_eq_false fun h=>hc (List.cons.inj h).1).symm
    · have hc : l.getD i 0 = k.getD i 0 := by
        have hc:(l.getD i 0 != k.getD i 0)=false:=hc
        simpa using hc
      refine AB (AA (AN _ _ _) (AA (AN _ _ _) (AE ⟨i+1,⟨by omega,?_⟩,by omega,?_,fun _ _ h=>h⟩)))
      · rw [hq,eqFrom,eqFrom,d1,d2,hc]
        simp
      · rw [e1]
        (repeat' (first | exact trivial | exact rfl | exact TS.eqv_refl _ _ | exact AY _ _ | exact AQ | exact fun _ _=>AJ _ _ | exact fun i _=>AF rfl _ i | apply And.intro))
  · have h:=of_decide_eq_false h
    have e:i=l.length:=by omega
    subst e
    show eqI l k=true
    rw [hq,eqFrom,List.drop_length,hk,List.drop_length]
    rfl
theorem eq_std (l k:List Int) (hl:(l.length:Int)<1000000):BI Tryz.prog 138 eqT ⟨[[],[]],[.lst l.length (AR l),.lst k.length (AR k)]⟩ eqR ⟨[[.b (eqI l k)]],[]⟩:=by
  by_cases hk:l.length=k.length
  · refine stdX_loop (Ao _) Ay (n := 300) Tryz.func138 bodyEq_eq 4 (L := eqL) (E := eqE) (RL := eqQ l k) rfl rfl (by kernel_rfl) rfl rfl lpEq (by decide) (by decide) (by decide)
      (fun τ0=>AL (Eq_pre l k τ0) (AG (fun h=>absurd (by rw [hk]) (bne_iff_ne.1 h)) (fun _=>AA (AN _ _ _) (AA (AN _ _ _) (AE (.inl ⟨rfl,?_⟩)))))) (eq_loop l k hl hk) (fun en he=>⟨⟨[],[]⟩,?_,fun τ0=>AL (Eq_tail τ0) (AE fun _=>⟨⟨he.symm,trivial⟩,trivial⟩)⟩) (fun en he=>⟨⟨he,trivial⟩,trivial⟩)
    · exact clP
    · exact clP
  · have he:eqI l k=false:=decide_eq_false fun h=>hk (congrArg List.length h)
    have hne:((l.length:Int) != (k.length:Int))=true:=bne_iff_ne.2 fun h=>hk (by exact_mod_cast h)
    refine stdX_loop (Ao _) Ay (n:=300) Tryz.func138 bodyEq_eq 4 (L:=eqL) (E:=eqE) (RL:=eqQ [0] [1]) (en0:=⟨[[],[],[.i 1],[.i 0]],[.lst 1 (AR [0]),.lst 1 (AR [1])]⟩) rfl rfl (by kernel_rfl) rfl rfl lpEq (by decide) (by decide) (by decide)
      (fun τ0=>AL (Eq_pre l k τ0) (AG (fun h=>AE (.inr ⟨rfl,?_⟩)) (fun h=>by rw [hne] at h; cases h))) (eq_loop [0] [1] (by decide) rfl) (fun en h=>absurd (show eqI [0] [1]=true from h) (by decide)) (fun en h=>⟨⟨(show en.ab 0 0=eqI [0] [1] from h).trans he.symm,trivial⟩,trivial⟩)
    · rw [he]
      (repeat' (first | exact trivial | exact rfl | exact TS.eqv_refl _ _ | exact AY _ _ | exact AQ | exact fun _ _=>AJ _ _ | exact fun i _=>AF rfl _ i | apply And.intro))
def cEq (e:EN):Ah (TS×EN):=.must (decide ((e.ln 0:Int)<1000000)) (.leaf (eqR,⟨[[.b (eqI (Ax (e.ln 0) (e.rw 0)) (Ax (e.ln 1) (e.rw 1)))]],[]⟩))
theorem cEq_ok:Ak Tryz.prog 138 (AW eqT cEq):=BN fun e r h=>by
  obtain ⟨hl,h⟩:=Ar h
  cases h
  have hl:=of_decide_eq_true hl
  have e1:(Ax (e.ln 0) (e.rw 0)).length=e.ln 0:=As _ _
  have e2:(Ax (e.ln 1) (e.rw 1)).length=e.ln 1:=As _ _
  refine BI.pre (x':=⟨[[],[]],[.lst (Ax (e.ln 0) (e.rw 0)).length (AR (Ax (e.ln 0) (e.rw 0))),.lst (Ax (e.ln 1) (e.rw 1)).length (AR (Ax (e.ln 1) (e.rw 1)))]⟩) ⟨⟨trivial,trivial,trivial⟩,⟨e1.symm,fun i hi=>rowI_eqv ?_⟩,⟨e2.symm,fun i hi=>rowI_eqv ?_⟩,trivial⟩ (eq_std _ _ (by rw [e1]; exact hl))
  · have hi:(i:Int)<((Ax (e.ln 0) (e.rw 0)).length:Int):=hi
    rw [e1] at hi
    exact_mod_cast hi
  · have hi:(i:Int)<((Ax (e.ln 1) (e.rw 1)).length:Int):=hi
    rw [e2] at hi
    exact_mod_cast hi
end Go.Proofs.YtddmgdclmkgpeaaGreat
set_option linter.unusedSimpArgs false
set_option linter.unusedVariables false
namespace Go.Eng
def Inc.eqb (a b:Inc):Bool:=(a.kind==b.kind)&&((a.osd==b.osd)&&(a.n==b.n))
def Inc.zero:Inc:=⟨0,0,0⟩
def Bal.zero:Bal:=⟨0,0⟩
def Bal.eqb (a b:Bal):Bool:=(a.n==b.n)&&(a.who==b.who)
def Bal.less (a b:Bal):Bool:=decide (a.n<b.n)||((a.n==b.n)&&decide (a.who<b.who))
def Bal.ok (b:Bal):Bool:=decide (b.n>0)&&decide (b.who<3)
def incOk (x:Inc):Bool :=
  match x.kind==1||x.kind==2 with
  | true=>decide (x.osd<5)&&(x.n==0)
  | false=>match x.kind==3 with
    | true=>decide (x.osd<5)&&(decide (x.n≥0)&&decide (x.n≤16))
    | false=>(x.kind==4)&&((x.osd==0)&&(x.n==0))
def upAt (o:Int) (u:Bool):List Inc→Bool
  | []=>u
  | x::l=>upAt o (match x.osd==o&&x.kind==1 with
    | true=>true
    | false=>match x.osd==o&&x.kind==2 with
      | true=>false
      | false=>u) l
def wAt (o:Int) (w:Int):List Inc→Int
  | []=>w
  | x::l=>wAt o (match x.osd==o&&x.kind==3 with
    | true=>x.n
    | false=>w) l
def Al.last (s:Al):Int:=(s.incs.length:Int)+1
def Al.slot (s:Al):Int:=s.last+1
def Al.changes (s:Al) (x:Inc):Bool :=
  incOk x&&(!(s.last==60) &&
    match x.kind==1 with
    | true=>!(upAt x.osd true s.incs)
    | false=>match x.kind==2 with
      | true=>upAt x.osd true s.incs
      | false=>match x.kind==3 with
        | true=>!(wAt x.osd 8 s.incs==x.n)
        | false=>false)
structure MMsg where
  kind:Int
  frm:Int
  to:Int
  epoch:Int
  b:Bal
  acc:Bal
  has:Bool
  inc:Inc
  n:Int
def MMsg.mk0 (kind epoch:Int):MMsg:=⟨kind,0,0,epoch,.zero,.zero,false,.zero,0⟩
def Al.others (s:Al) (x:MMsg):List MMsg :=
  ([0,1,2].filter fun i=>!(i==s.id)).map fun i=>{ x with frm:=s.id,to:=i }
def Al.osds (s:Al) (x:MMsg):List MMsg:=[10,11,12,13,14].map fun i=>{ x with frm:=s.id,to:=i }
def BA.new (x:Inc):BA:=⟨x,.zero,.zero,.zero,.zero,[],[],false,false,.zero,false,false⟩
def nextN (n:Int):Int:=match decide (n<4294967295) with
  | true=>n+1
  | false=>n
def maxI (a b:Int):Int:=match decide (b>a) with
  | true=>b
  | false=>a
def BA.start (p:BA) (who:Int) (over:Bal):BA :=
  ⟨p.want,.zero,.zero,⟨nextN (maxI p.b.n over.n),who⟩,.zero,[],[],false,false,p.decided,false,p.ever⟩
def hearB (l:List Int) (b pb:Bal) (frm:Int):Bool:=decide (pb.n>0)&&(b.eqb pb&&(decide (frm<3) && !(l.contains frm)))
def BA.promise (p:BA) (frm:Int) (b acc:Bal) (x:Inc) (has:Bool):BA×Bool :=
  match !p.valued&&hearB p.hp b p.b frm with
  | false=>(p,false)
  | true =>
    let q:BA:=match has&&(!p.has||p.acc.less acc) with
      | true=>{ p with hp:=p.hp++[frm],has:=true,acc:=acc,best:=x }
      | false=>{ p with hp:=p.hp++[frm] }
    match q.hp.length==2 with
    | false=>(q,false)
    | true=>({ q with valued:=true,value:=match q.has with | true=>q.best | false=>q.want },true)
def BA.accepted (p:BA) (frm:Int) (b:Bal):BA×Bool :=
  match p.valued&&(!p.done&&hearB p.ha b p.b frm) with
  | false=>(p,false)
  | true =>
    let q:BA:={ p with ha:=p.ha++[frm] }
    match q.ha.length==2 with
    | false=>(q,false)
    | true=>({ q with done:=true,ever:=true,decided:=q.value },true)
def Al.prepareOk (s:Al) (b:Bal):Bool:=b.ok && !(b.less s.prom)
def Al.acceptOk (s:Al) (b:Bal) (x:Inc):Bool:=(b.ok&&incOk x) && !(b.less s.prom)
def Al.hasAcc (s:Al):Bool:=!(s.acc.eqb .zero)
def Al.starts (s:Al) (p:BA):Al×List MMsg :=
  let over:=match s.prom.less s.over with
    | true=>s.over
    | false=>s.prom
  let q:=p.start s.id over
  let out:=s.others { MMsg.mk0 1 s.slot with b:=q.b }
  match s.prepareOk q.b with
  | true=>({ s with ticks:=0,prom:=q.b,prop:=some (q.promise s.id q.b s.acc s.ainc s.hasAcc).1 },out)
  | false=>({ s with ticks:=0,prop:=some q },out)
def Al.wanted (s:Al):List Inc:=s.wishes.dropWhile fun x=>!(s.changes x)
def Al.begins (s:Al):Al×List MMsg :=
  match s.wanted,s.prop with
  | [],_=>({ s with wishes:=[] },[])
  | w::ws,some _=>({ s with wishes:=w::ws },[])
  | w::ws,none=>({ s with wishes:=w::ws }).starts (BA.new w)
def clearRep (r:Nat→Bool) (about:Int) (i:Nat):Bool:=match decide (about=(i / 5:Nat)) with
  | true=>false
  | false=>r i
def Al.learns (s:Al) (x:Inc):Al×List MMsg :=
  match incOk x && !(s.last==60) with
  | false=>(s,[])
  | true =>
    let ws:=match s.wishes with
      | []=>[]
      | w::ws=>match w.eqb x with
        | true=>ws
        | false=>w::ws
    ({ s with incs:=s.incs++[x],prom:=.zero,acc:=.zero,ainc:=.zero,prop:=none,over:=.zero,ticks:=0,wishes:=ws,rep:=clearRep s.rep x.osd }).begins
def Al.wishB (s:Al) (x:Inc):Bool:=(incOk x&&decide ((s.wishes.length:Int)<5))&&decide (s.last<60)
def Al.wish (s:Al) (x:Inc):(Al×List MMsg)×Bool :=
  match s.wishB x with
  | false=>((s,[]),false)
  | true=>(({ s with wishes:=s.wishes++[x] }).begins,true)
def Al.back (s:Al) (x y:MMsg):MMsg:={ y with frm:=s.id,to:=x.frm }
def Al.incAt (s:Al) (e:Int):Inc:=s.incs.getD (e - 2).toNat .zero
def Al.asked (s:Al) (x:MMsg):Al×List MMsg :=
  match decide (x.epoch<s.slot) with
  | true=>(s,[s.back x { MMsg.mk0 5 x.epoch with inc:=match decide (x.epoch≥2) with | true=>s.incAt x.epoch | false=>.zero }])
  | false=>match decide (x.epoch>s.slot) with
    | true=>(s,[s.back x (MMsg.mk0 6 s.slot)])
    | false=>match x.kind==1 with
      | true=>match s.prepareOk x.b with
        | true=>({ s with prom:=x.b },[s.back x { MMsg.mk0 2 x.epoch with b:=x.b,acc:=s.acc,inc:=s.ainc,has:=s.hasAcc }])
        | false=>(s,[s.back x { MMsg.mk0 18 x.epoch with b:=s.prom }])
      | false=>match s.acceptOk x.b x.inc with
        | true=>({ s with prom:=x.b,acc:=x.b,ainc:=x.inc },[s.back x { MMsg.mk0 4 x.epoch with b:=x.b }])
        | false=>(s,[s.back x { MMsg.mk0 18 x.epoch with b:=s.prom }])
def Al.promised (s:Al) (x:MMsg):Al×List MMsg :=
  match x.epoch==s.slot,s.prop with
  | true,some p =>
    let r:=p.promise x.frm x.b x.acc x.inc x.has
    match r.2 with
    | false=>({ s with prop:=some r.1 },[])
    | true =>
      let out:=s.others { MMsg.mk0 3 x.epoch with b:=x.b,inc:=r.1.value }
      match s.acceptOk x.b r.1.value with
      | true=>({ s with prom:=x.b,acc:=x.b,ainc:=r.1.value,prop:=some (r.1.accepted s.id x.b).1 },out)
      | false=>({ s with prop:=some r.1 },out)
  | _,_=>(s,[])
def Al.accepted (s:Al) (x:MMsg):Al×List MMsg :=
  match x.epoch==s.slot,s.prop with
  | true,some p =>
    let r:=p.accepted x.frm x.b
    match r.2 with
    | false=>({ s with prop:=some r.1 },[])
    | true =>
      let y:MMsg:={ MMsg.mk0 5 x.epoch with inc:=r.1.decided }
      let t:=({ s with prop:=some r.1 }).learns r.1.decided
      (t.1,s.others y++(s.osds y++t.2))
  | _,_=>(s,[])
def Al.refused (s:Al) (x:MMsg):Al×List MMsg :=
  match x.epoch==s.slot&&(s.prop.isSome&&s.over.less x.b) with
  | true=>({ s with over:=x.b },[])
  | false=>(s,[])
def Al.learned (s:Al) (x:MMsg):Al×List MMsg :=
  match x.epoch==s.slot with
  | true=>s.learns x.inc
  | false=>match decide (x.epoch>s.slot) with
    | true=>(s,[s.back x (MMsg.mk0 6 s.slot)])
    | false=>(s,[])
def Al.tellsN (s:Al) (x:MMsg) (e:Int):Nat→List MMsg
  | 0=>[]
  | n+1=>match decide (e≤s.last) with
    | true=>s.back x { MMsg.mk0 5 e with inc:=s.incAt e } :: s.tellsN x (e+1) n
    | false=>[]
def Al.tells (s:Al) (x:MMsg):Al×List MMsg:=(s,s.tellsN x (maxI x.epoch 2) 5)
def addRep (r:Nat→Bool) (frm about:Int) (i:Nat):Bool:=match decide (about * 5+frm=(i:Int)) with
  | true=>true
  | false=>r i
def countRep (r:Nat→Bool) (about:Int):Nat→Nat
  | 0=>0
  | n+1=>countRep r about n+(match r (about.toNat * 5+n) with | true=>1 | false=>0)
def repAdd (r:Nat→Bool) (frm about:Int):(Nat→Bool)×Bool :=
  match decide (countRep (addRep r frm about) about 5<2) with
  | true=>(addRep r frm about,false)
  | false=>(clearRep (addRep r frm about) about,true)
def Al.wants (s:Al) (x:Inc):Bool:=s.wishes.any fun w=>w.eqb x
def Al.wishR (s:Al) (x:Inc):Al×List MMsg:=match s.wants x with
  | true=>(s,[])
  | false=>(s.wish x).1
def Al.reported (s:Al) (x:MMsg):Al×List MMsg :=
  let f:=x.frm - 10
  let up:=upAt x.n true s.incs
  match f==x.n with
  | true=>match up with
    | true=>(s,[])
    | false=>s.wishR ⟨1,x.n,0⟩
  | false=>match up with
    | false=>(s,[])
    | true =>
      let r:=repAdd s.rep f x.n
      match r.2 with
      | false=>({ s with rep:=r.1 },[])
      | true=>({ s with rep:=r.1 }).wishR ⟨2,x.n,0⟩
def Al.does (s:Al) (x:MMsg):Al×List MMsg :=
  match x.kind==1||x.kind==3 with
  | true=>s.asked x
  | false=>match x.kind==2 with
    | true=>s.promised x
    | false=>match x.kind==4 with
      | true=>s.accepted x
      | false=>match x.kind==18 with
        | true=>s.refused x
        | false=>match x.kind==5 with
          | true=>s.learned x
          | false=>match x.kind==6 with
            | true=>s.tells x
            | false=>match x.kind==17 with
              | true=>s.reported x
              | false=>(s,[])
def Al.step (s:Al) (is:Bool) (x:MMsg):Al×List MMsg :=
  match is&&x.to==s.id with
  | true=>s.does x
  | false=>(s,[])
def Al.new (id:Int):Al:=⟨match decide (2<id) with | true=>2 | false=>id,[],.zero,.zero,.zero,[],none,0,.zero,fun _=>false⟩
def Al.idle (s:Al):Bool:=!s.prop.isSome&&(s.wishes.length==0)
def Al.again (s:Al):Al:={ Al.new s.id with incs:=s.incs,prom:=s.prom,acc:=s.acc,ainc:=s.ainc }
end Go.Eng
set_option linter.unusedSimpArgs false
set_option linter.unusedVariables false
namespace Go.Proofs.YtddmgdclmkgpeaaGreat
open Go.Eng Go.RowKit Go.ChangeShapes Go.WideShapes
set_option maxRecDepth 100000
def BB:List TV:=[.i .u8,.i .u8,.i .i64]
def incT:TS:=⟨[],[.agg BB],[],0⟩
def incN (k o n:Int):List Num:=[.i k,.i o,.i n]
def apT:TS:=⟨[],[.agg rMap,.agg BB],[],0⟩
def apR:TS:=⟨[],[.agg rMap,.one (.i .i64)],[],0⟩
def mapR:TS:=⟨[],[.agg rMap],[],0⟩
def incF (k o n:Int):Bool:=bif k==1||k==2 then decide (o<5)&&(n==0) else bif k==3 then decide (o<5)&&(decide (n≥0)&&decide (n≤16)) else (k==4)&&((o==0)&&(n==0))
def apU (k o:Int) (u:Nat→Bool) (i:Nat):Bool:=bif o==(i:Int) then (bif k==1 then true else bif k==2 then false else u i) else u i
def apW (k o n:Int) (w:Nat→Int) (i:Nat):Int:=bif o==(i:Int) then (bif k==1 then w i else bif k==2 then w i else bif k==3 then n else w i) else w i
def apOk (ep:Int) (w h:Nat→Int) (k o n:Int):Bool:=mIs ep w h&&(incF k o n && !(ep==60))
def nilT:TS:=⟨[],[],[],0⟩
noncomputable abbrev qPo1 (v0:Int) (v1:Nat→Bool) (v2:Nat→Int) (v3:Nat→Int):Ah (EN):=.leaf ⟨[[.i v0,.b (v1 0),.i (v2 0),.i (v3 0),.b (v1 1),.i (v2 1),.i (v3 1),.b (v1 2),.i (v2 2),.i (v3 2),.b (v1 3),.i (v2 3),.i (v3 3),.b (v1 4),.i (v2 4),.i (v3 4)],[.i 0]],[]⟩
noncomputable abbrev qPo2:Ah (EN):=.leaf ⟨[[.i 0,.b false,.i 0,.i 0,.b false,.i 0,.i 0,.b false,.i 0,.i 0,.b false,.i 0,.i 0,.b false,.i 0,.i 0],[.i 40]],[]⟩
theorem ii_t (k o n:Int):BR Tryz.prog (Am Tryz.prog noTab 300) 47 (incT.vals ⟨[incN k o n],[]⟩) (incT.heap ⟨[incN k o n],[]⟩) 0 (outV 0 boolR) =

  .ite (k==1) (.ite (decide (o<5)) (.leaf ⟨[[.b (k==k&&(o==o&&n==0))]],[]⟩) (.leaf ⟨[[.b false]],[]⟩)) (.ite (k==2) (.ite (decide (o<5)) (.leaf ⟨[[.b (k==k&&(o==o&&n==0))]],[]⟩) (.leaf ⟨[[.b false]],[]⟩)) (.ite (k==3) (.ite (decide (o<5)) (.ite (decide (n≥0)) (.leaf ⟨[[.b (decide (n≤16))]],[]⟩) (.leaf ⟨[[.b false]],[]⟩)) (.leaf ⟨[[.b false]],[]⟩)) (.leaf ⟨[[.b (k==4&&(o==0&&n==0))]],[]⟩))):=by kernel_rfl
theorem fst_t  : BR Tryz.prog (Am Tryz.prog noTab 300) 82 (nilT.vals ⟨[],[]⟩) (nilT.heap ⟨[],[]⟩) 0 (outV 0 mapR) =

  .leaf ⟨[[.i 1,.b true,.i 8,.i 0,.b true,.i 8,.i 1,.b true,.i 8,.i 2,.b true,.i 8,.i 3,.b true,.i 8,.i 0]],[]⟩:=by kernel_rfl
def cInc (e:EN):Ah (TS×EN):=.leaf (boolR,⟨[[.b (incF (e.ai 0 0) (e.ai 0 1) (e.ai 0 2))]],[]⟩)
def cFst (_:EN):Ah (TS×EN):=.leaf (mapR,⟨[[.i 1,.b true,.i 8,.i 0,.b true,.i 8,.i 1,.b true,.i 8,.i 2,.b true,.i 8,.i 3,.b true,.i 8,.i 0]],[]⟩)
noncomputable def poSm0:List (FuncId×Summ):=[(164,AW mapT cIs),(47,AW incT cInc)]
noncomputable def poT0:Tab:=smTab (tabOf poSm0)
theorem inc_std (k o n:Int):BI Tryz.prog 47 incT ⟨[incN k o n],[]⟩ boolR ⟨[[.b (incF k o n)]],[]⟩:=by
  refine Aj (Ao _) Ay rfl (AL (ii_t k o n) ?_)
  repeat' with_reducible (refine AG (fun _=>?_) (fun _=>?_))
  all_goals refine AE ⟨⟨?_,trivial⟩,trivial⟩
  all_goals show _=incF k o n
  all_goals (simp only [incF, *,cond_true,cond_false,Bool.true_and,Bool.and_true,Bool.false_and,Bool.and_false,Bool.true_or,Bool.or_true,Bool.false_or,Bool.or_false,beq_self_eq_true]; try rfl)
theorem cInc_ok:Ak Tryz.prog 47 (AW incT cInc):=BN fun e r h=>by
  cases h
  refine BI.pre (x':=⟨[incN (e.ai 0 0) (e.ai 0 1) (e.ai 0 2)],[]⟩) ?_ (inc_std _ _ _)
  (repeat' (first | exact trivial | exact rfl | exact TS.eqv_refl _ _ | exact AY _ _ | exact AQ | exact fun _ _=>AJ _ _ | exact fun i _=>AF rfl _ i | apply And.intro))
theorem cFst_ok:Ak Tryz.prog 82 (AW nilT cFst):=BN fun e r h=>by
  cases h
  refine BI.pre (x':=⟨[],[]⟩) ?_ (Aj (Ao _) Ay rfl (AL fst_t (AE ?_)))
  · exact clP
  · exact clP
theorem poSm0_ok:AllOk Tryz.prog poSm0:=⟨cIs_ok,cInc_ok,trivial⟩
theorem poTab0:TabAll Tryz.prog poT0:=tab_ok poSm0_ok
theorem ap_t (ep:Int) (u:Nat→Bool) (w h:Nat→Int) (k o n:Int):BR Tryz.prog (Am Tryz.prog poT0 300) 102 (apT.vals ⟨[mapN ep u w h,incN k o n],[]⟩) (apT.heap ⟨[mapN ep u w h,incN k o n],[]⟩) 0 (outV 0 apR) =

  .defE ⟨[[.i ep,.b (u 0),.i (w 0),.i (h 0),.b (u 1),.i (w 1),.i (h 1),.b (u 2),.i (w 2),.i (h 2),.b (u 3),.i (w 3),.i (h 3),.b (u 4),.i (w 4),.i (h 4)]],[]⟩ fun e0=>.ite (!mIs (e0.ai 0 0) (Av e0 0 0) (BF e0 0 0)) qPo2 (.defE ⟨[[.i k,.i o,.i n]],[]⟩ fun e1=>.ite (!incF (e1.ai 0 0) (e1.ai 0 1) (e1.ai 0 2)) qPo2 (.ite (ep==60) qPo2 (.defI (IntKind.u32.wrap (ep+1)) fun z2=>.ite (decide (o=0)) (.ite (k==1) (.leaf ⟨[[.i z2,.b true,.i (w 0),.i (h 0),.b (u 1),.i (w 1),.i (h 1),.b (u 2),.i (w 2),.i (h 2),.b (u 3),.i (w 3),.i (h 3),.b (u 4),.i (w 4),.i (h 4)],[.i 0]],[]⟩) (.ite (k==2) (.leaf ⟨[[.i z2,.b false,.i (w 0),.i (h 0),.b (u 1),.i (w 1),.i (h 1),.b (u 2),.i (w 2),.i (h 2),.b (u 3),.i (w 3),.i (h 3),.b (u 4),.i (w 4),.i (h 4)],[.i 0]],[]⟩) (.ite (k==3) (.leaf ⟨[[.i z2,.b (u 0),.i n,.i (h 0),.b (u 1),.i (w 1),.i (h 1),.b (u 2),.i (w 2),.i (h 2),.b (u 3),.i (w 3),.i (h 3),.b (u 4),.i (w 4),.i (h 4)],[.i 0]],[]⟩) (qPo1 z2 u w h)))) (.ite (decide (o=1)) (.ite (k==1) (.leaf ⟨[[.i z2,.b (u 0),.i (w 0),.i (h 0),.b true,.i (w 1),.i (h 1),.b (u 2),.i (w 2),.i (h 2),.b (u 3),.i (w 3),.i (h 3),.b (u 4),.i (w 4),.i (h 4)],[.i 0]],[]⟩) (.ite (k==2) (.leaf ⟨[[.i z2,.b (u 0),.i (w 0),.i (h 0),.b false,.i (w 1),.i (h 1),.b (u 2),.i (w 2),.i (h 2),.b (u 3),.i (w 3),.i (h 3),.b (u 4),.i (w 4),.i (h 4)],[.i 0]],[]⟩) (.ite (k==3) (.leaf ⟨[[.i z2,.b (u 0),.i (w 0),
 .i (h 0),.b (u 1),.i n,.i (h 1),.b (u 2),.i (w 2),.i (h 2),.b (u 3),.i (w 3),.i (h 3),.b (u 4),.i (w 4),.i (h 4)],[.i 0]],[]⟩) (qPo1 z2 u w h)))) (.ite (decide (o=2)) (.ite (k==1) (.leaf ⟨[[.i z2,.b (u 0),.i (w 0),.i (h 0),.b (u 1),.i (w 1),.i (h 1),.b true,.i (w 2),.i (h 2),.b (u 3),.i (w 3),.i (h 3),.b (u 4),.i (w 4),.i (h 4)],[.i 0]],[]⟩) (.ite (k==2) (.leaf ⟨[[.i z2,.b (u 0),.i (w 0),.i (h 0),.b (u 1),.i (w 1),.i (h 1),.b false,.i (w 2),.i (h 2),.b (u 3),.i (w 3),.i (h 3),.b (u 4),.i (w 4),.i (h 4)],[.i 0]],[]⟩) (.ite (k==3) (.leaf ⟨[[.i z2,.b (u 0),.i (w 0),.i (h 0),.b (u 1),.i (w 1),.i (h 1),.b (u 2),.i n,.i (h 2),.b (u 3),.i (w 3),.i (h 3),.b (u 4),.i (w 4),.i (h 4)],[.i 0]],[]⟩) (qPo1 z2 u w h)))) (.ite (decide (o=3)) (.ite (k==1) (.leaf ⟨[[.i z2,.b (u 0),.i (w 0),.i (h 0),.b (u 1),.i (w 1),.i (h 1),.b (u 2),.i (w 2),.i (h 2),.b true,.i (w 3),.i (h 3),.b (u 4),.i (w 4),.i (h 4)],[.i 0]],[]⟩) (.ite (k==2) (.leaf ⟨[[.i z2,.b (u 0),.i (w 0),.i (h 0),.b (u 1),.i (w 1),.i (h 1),.b (u 2),.i (w 2),.i (h 2),.b false,.i (w 3),.i (h 3),.b (u 4),.i (w 4),.i (h 4)],[.i 0]],[]⟩) (.ite (k==3) (.leaf ⟨[[.i z2,.b (u 0),.i (w 0),.i (h 0),.b (u 1),.i (w 1),.i (h 1),.b (u 2),.i (w 2),.i (h 2),.b (u 3),.i n,.i (h 3),.b (u 4),.i (w 4),.i (h 4)],[.i 0]],[]⟩) (qPo1 z2 u w h)))) (.ite (decide (o=4)) (.ite (k==1) (.leaf ⟨[[.i z2,.b (u 0),.i (w 0),.i (h 0),
 .b (u 1),.i (w 1),.i (h 1),.b (u 2),.i (w 2),.i (h 2),.b (u 3),.i (w 3),.i (h 3),.b true,.i (w 4),.i (h 4)],[.i 0]],[]⟩) (.ite (k==2) (.leaf ⟨[[.i z2,.b (u 0),.i (w 0),.i (h 0),.b (u 1),.i (w 1),.i (h 1),.b (u 2),.i (w 2),.i (h 2),.b (u 3),.i (w 3),.i (h 3),.b false,.i (w 4),.i (h 4)],[.i 0]],[]⟩) (.ite (k==3) (.leaf ⟨[[.i z2,.b (u 0),.i (w 0),.i (h 0),.b (u 1),.i (w 1),.i (h 1),.b (u 2),.i (w 2),.i (h 2),.b (u 3),.i (w 3),.i (h 3),.b (u 4),.i n,.i (h 4)],[.i 0]],[]⟩) (qPo1 z2 u w h)))) (.must false (.fail "index"))))))))):=by kernel_rfl
theorem incF_eq (k o n:Int):incF k o n=incOk ⟨k,o,n⟩:=by
  unfold incF incOk
  dsimp only
  cases (k==1||k==2) <;> cases (k==3) <;> rfl
theorem incF_lt {k o n:Int} (h:incF k o n=true):o<5:=by
  unfold incF at h
  cases h1:(k==1||k==2) with
  | true=>rw [h1] at h; simp only [cond_true,Bool.and_eq_true,decide_eq_true_eq] at h; exact h.1
  | false =>
    rw [h1] at h
    cases h2:(k==3) with
    | true=>rw [h2] at h; simp only [cond_true,cond_false,Bool.and_eq_true,decide_eq_true_eq] at h; exact h.1
    | false=>rw [h2] at h; simp only [cond_false,Bool.and_eq_true,beq_iff_eq] at h; omega
theorem mIs_ep {ep:Int} {w h:Nat→Int} (hm:mIs ep w h=true):1≤ep∧ep≤60:=by
  unfold mIs at hm
  simp only [Bool.and_eq_true,decide_eq_true_eq] at hm
  exact ⟨hm.2.1,hm.2.2⟩
def apErr:EN:=⟨[[.i 0,.b false,.i 0,.i 0,.b false,.i 0,.i 0,.b false,.i 0,.i 0,.b false,.i 0,.i 0,.b false,.i 0,.i 0],[.i 40]],[]⟩
set_option maxHeartbeats 4000000 in
theorem ap_ok (ep:Int) (u:Nat→Bool) (w h:Nat→Int) (k o n:Int) (hc:apOk ep w h k o n=true) (ho:0≤o):BI Tryz.prog 102 apT ⟨[mapN ep u w h,incN k o n],[]⟩ apR ⟨[mapN (ep+1) (apU k o u) (apW k o n w) h,[.i 0]],[]⟩:=by
  simp only [apOk,Bool.and_eq_true] at hc
  obtain ⟨hm,hi,h60⟩:=hc
  have h5:=incF_lt hi
  have hep:=mIs_ep hm
  have e1:IntKind.u32.wrap (ep+1)=ep+1:=IntWalk.u32_in _ (by omega)
  refine Aj poTab0 Ay rfl (AL (ap_t ep u w h k o n) ?_)
  refine AK (Ab ((congrArg Bool.not hm).trans rfl) (AK (Ab ((congrArg Bool.not hi).trans rfl) (Ab (by simpa using h60) (AB ?_)))))
  rw [e1]
  have hj:o=0∨o=1∨o=2∨o=3∨o=4:=by omega
  rcases hj with rfl | rfl | rfl | rfl | rfl
  all_goals repeat first | refine AU (decide_eq_true rfl) ?_ | refine Ab (decide_eq_false (by decide)) ?_
  all_goals repeat' with_reducible (refine AG (fun _=>?_) (fun _=>?_))
  all_goals refine AE ?_
  all_goals simp only [mapN,apU,apW, *,cond_true,cond_false,Bool.true_and,Bool.and_true,Bool.false_and,Bool.and_false,Bool.true_or,Bool.or_true,Bool.false_or,Bool.or_false]
  all_goals (repeat' (first | exact trivial | exact rfl | exact TS.eqv_refl _ _ | exact AY _ _ | exact AQ | exact fun _ _=>AJ _ _ | exact fun i _=>AF rfl _ i | apply And.intro))
theorem ap_err (ep:Int) (u:Nat→Bool) (w h:Nat→Int) (k o n:Int) (hc:apOk ep w h k o n=false):BI Tryz.prog 102 apT ⟨[mapN ep u w h,incN k o n],[]⟩ apR apErr:=by
  refine Aj poTab0 Ay rfl (AL (ap_t ep u w h k o n) ?_)
  refine AK (AG (fun _=>AE ?_) (fun hm=>AK (AG (fun _=>AE ?_) (fun hi=>AG (fun _=>AE ?_) (fun h60=>?_)))))
  · exact clP
  · exact clP
  · exact clP
  · exfalso
    have hm:(!mIs ep w h)=false:=hm
    have hi:(!incF k o n)=false:=hi
    simp only [Bool.not_eq_false'] at hm hi
    rw [apOk,hm,hi,h60] at hc
    cases hc
def cAp (e:EN):Ah (TS×EN):=.must (decide (0≤e.ai 1 1)) (.ite (apOk (e.ai 0 0) (Av e 0 0) (BF e 0 0) (e.ai 1 0) (e.ai 1 1) (e.ai 1 2)) (.leaf (apR,⟨[mapN (e.ai 0 0+1) (apU (e.ai 1 0) (e.ai 1 1) (Ag e 0 0)) (apW (e.ai 1 0) (e.ai 1 1) (e.ai 1 2) (Av e 0 0)) (BF e 0 0),[.i 0]],[]⟩)) (.leaf (apR,apErr)))
theorem cAp_ok:Ak Tryz.prog 102 (AW apT cAp):=BN fun e r h=>by
  obtain ⟨ho,h⟩:=Ar h
  have pre:apT.eqv e ⟨[mapN (e.ai 0 0) (Ag e 0 0) (Av e 0 0) (BF e 0 0),incN (e.ai 1 0) (e.ai 1 1) (e.ai 1 2)],[]⟩:=by
    (repeat' (first | exact trivial | exact rfl | exact TS.eqv_refl _ _ | exact AY _ _ | exact AQ | exact fun _ _=>AJ _ _ | exact fun i _=>AF rfl _ i | apply And.intro))
  cases hc:apOk (e.ai 0 0) (Av e 0 0) (BF e 0 0) (e.ai 1 0) (e.ai 1 1) (e.ai 1 2) with
  | true =>
    rw [hc] at h
    cases h
    exact BI.pre pre (ap_ok _ _ _ _ _ _ _ hc (of_decide_eq_true ho))
  | false =>
    rw [hc] at h
    cases h
    exact BI.pre pre (ap_err _ _ _ _ _ _ _ hc)
end Go.Proofs.YtddmgdclmkgpeaaGreat
set_option linter.unusedSimpArgs false
set_option linter.unusedVariables false
namespace Go.Eng
open Go.RowKit
section
variable {P:Program} {T:Tab}
def NoRo (lk:Look):Prop:=∀ k len sz rows,lk k≠some (.lst len sz rows none)
structure LeafOwn (m r0 rp:Nat) (R:Dat→Nat→List Nat→World→Prop) (d:Dat) (v:AV) (o:AV×Aq):Prop where
  root:∃ x,AO o.2 r0=some x
  noro:NoRo (AO o.2)
  pack:∀ mm blk fp w,Pack mm r0 o.2 blk fp w→R d blk fp w
  val:∀ E1 E2:Env,E2.blk rp=E1.blk r0→(∀ k,k<m→E2.blk k=E1.blk k∧E2.hdr k=E1.hdr k)→den E1 o.1=den E2 v
theorem look_map {H:Aq} : ∀ (ks:List Nat) (k:Nat) (x:Ai),AO (ks.map fun k=>(k,hget k H)) k=some x→k∈ks∧AO H k=some x
  | [],_,_,hx=>by cases hx
  | a::ks,k,x,hx=>by
    rw [List.map_cons,look_cons] at hx
    split at hx
    · rename_i e; subst e; exact ⟨List.mem_cons_self,hx⟩
    · exact ⟨List.mem_cons_of_mem _ (look_map ks k x hx).1,(look_map ks k x hx).2⟩
def Ah.cut {R:Type} : Ah R→List (Option Bool)→Ah R
  | .ite b t _,some true::ds=>.must b (t.cut ds)
  | .ite b _ e,some false::ds=>.must (!b) (e.cut ds)
  | .ite b t e,none::ds=>.ite b (t.cut ds) (e.cut ds)
  | .ite b t e,[]=>.ite b t e
  | .must b t,ds=>.must b (t.cut ds)
  | .defI x k,ds=>.defI x fun z=>(k z).cut ds
  | .defB x k,ds=>.defB x fun z=>(k z).cut ds
  | .defE x k,ds=>.defE x fun z=>(k z).cut ds
  | .leaf r,_=>.leaf r
  | .fail s,_=>.fail s
theorem cut_sel {R:Type} {r:R} : ∀ (t:Ah R) (ds:List (Option Bool)),(t.cut ds).sel=some r→t.sel=some r
  | .leaf _,ds,h=>by cases ds <;> exact h
  | .fail _,ds,h=>by cases ds <;> exact h
  | .must b t,ds,h=>by
    have h:(Ah.must b (t.cut ds)).sel=some r:=by cases ds <;> exact h
    cases b
    · cases h
    · exact cut_sel t ds h
  | .defI x k,ds,h=>cut_sel (k x) ds (by cases ds <;> exact h)
  | .defB x k,ds,h=>cut_sel (k x) ds (by cases ds <;> exact h)
  | .defE x k,ds,h=>cut_sel (k x) ds (by cases ds <;> exact h)
  | .ite b t e,[],h=>h
  | .ite b t e,none::ds,h=>by
    cases b
    · exact cut_sel e ds h
    · exact cut_sel t ds h
  | .ite b t e,some true::ds,h=>by
    cases b
    · cases h
    · exact cut_sel t ds h
  | .ite b t e,some false::ds,h=>by
    cases b
    · exact cut_sel e ds h
    · cases h
theorem BG {R:Type} {t:Ah R} {Q:R→Prop} (ds:List (Option Bool)) (h:(t.cut ds).Holds Q):t.Holds Q:=by
  obtain ⟨r,h1,h2⟩:=h
  exact ⟨r,cut_sel t ds h1,h2⟩
def candK:Aq→List Nat
  | []=>[]
  | (k,some (.lst _ sz _ (some g)))::H=>match Nat.ble sz 2 with
    | true=>k::g::candK H
    | false=>candK H
  | (k,some (.mp _ _ _))::H=>k::candK H
  | _::H=>candK H
def rootK (r:Nat) (H:Aq):List Nat:=r::candK H
def outK (kf:Aq→List Nat) (v:AV) (h:Aq) (key:Nat):Ah (AV×Aq):=outC (kf h) v h key
theorem StdN.leafOwn (hT : TabAll P T) (hm : P.follows .mixedOrders = true) {n : Nat} {f : FuncId} {m r0 rp : Nat} {h : List (Nat × Ai)} {args} {kf : Aq → List Nat} {v : AV} {t : Nat} {R : Dat → Nat → List Nat → World → Prop} {d : Dat}
    (hargs:(keysL args).all (Nat.blt · m)=true) (hrp:(rp=r0∧rp<m)∨rp=m)
    (H:(BR P (Am P T n) f args (Ad h) m (outK kf)).Holds (LeafOwn m r0 rp R d v)):StdN P f m h args (m+2) [(rp,.own t R d (m+1)),(m+1,.tok)] v:=by
  intro E w hU
  obtain ⟨o,h1,hL⟩:=H
  rw [callW_nat (runD:=codeD P T n) (fun f nt c τ h key K=>codeT_sel n f nt c τ h key K)] at h1
  obtain ⟨⟨v0,H0,key'⟩,hc,h1⟩:=BC h1
  dsimp only [outK,outC] at h1
  generalize kf H0=ks at h1
  split at h1
  · rename_i hkey
    rw [forceV_eq,forceH_eq] at h1
    cases h1
    obtain ⟨hge,W,hW,_⟩:=call_grows hT n f args _ m v0 H0 key' hc
    have:=call_sound hT hm n f args _ m v0 H0 key' W hc hW (· < m) E _ w _ hU rfl (fun k h1 _ h2=>by omega) (fun E' hE=>by rw [denL_cl hE args (Az hargs)])
    refine this.mono ?_
    rintro e w' ⟨val,E1,rfl,g1,g2,g3⟩
    rw [← lookOf_append,← hW] at g2 g3
    have hsub:∀ k x,AO (ks.map fun k=>(k,hget k H0)) k=some x→AO H0 k=some x:=fun k x hx=>(look_map ks k x hx).2
    have hU1:RelU (· < key') E1 (AO H0) w':=g2.move (Ae.refl _ _) fun k hk=>by rcases hk with hk | hk <;> omega
    let hp:Aq:=ks.map fun k=>(k,hget k H0)
    let fps:List Nat:=ks.flatMap fun k=>match AO hp k with
      | some x=>match ownsB x with
        | true=>E1.fp k
        | false=>[]
      | none=>[]
    have inKs:∀ k x,AO hp k=some x→k∈ks:=fun k x hx=>(look_map ks k x hx).1
    have memF:∀ b,b∈fps↔∃ k x,AO hp k=some x∧owns E1 k x b:=by
      intro b
      simp only [fps,List.mem_flatMap]
      constructor
      · rintro ⟨k,hk,hb⟩
        cases hx:AO hp k with
        | none=>rw [hx] at hb; cases hb
        | some x =>
          rw [hx] at hb
          simp only at hb
          cases ho:ownsB x with
          | true=>rw [ho] at hb; exact ⟨k,x,hx,owns_iff.2 ⟨ho,hb⟩⟩
          | false=>rw [ho] at hb; cases hb
      · rintro ⟨k,x,hx,hb⟩
        obtain ⟨h1,h2⟩:=owns_iff.1 hb
        refine ⟨k,inKs k x hx,?_⟩
        rw [hx]
        simp only [h1]
        exact h2
    obtain ⟨x0,hx0⟩:=hL.root
    have hr0:r0<key':=hU1.dom r0 x0 (hsub _ _ hx0)
    let E2:Env:=⟨fun k=>if k=m then E1.blk r0 else E1.blk k,E1.hdr,fun k=>if k=m+1 then fps else E1.fp k⟩
    have b2:E2.blk rp=E1.blk r0:=by
      rcases hrp with ⟨rfl,h2⟩ | rfl
      · show (if rp=m then E1.blk rp else E1.blk rp)=_
        split <;> rfl
      · show (if rp=rp then E1.blk r0 else E1.blk rp)=_
        rw [if_pos rfl]
    have ag:∀ k,k<m→E2.blk k=E1.blk k∧E2.hdr k=E1.hdr k∧E2.fp k=E1.fp k:=fun k hk=>⟨if_neg (by omega),rfl,if_neg (by omega)⟩
    have f2:E2.fp (m+1)=fps:=if_pos rfl
    have hrp1:rp≠m+1:=by rcases hrp with ⟨_,h2⟩ | rfl <;> omega
    have lkN:∀ k,AO (Ad [(rp,.own t R d (m+1)),(m+1,.tok)]) k=if rp=k then some (.own t R d (m+1)) else if m+1=k then some .tok else none:=by
      intro k
      show AO ((rp,some (.own t R d (m+1)))::(m+1,some .tok)::[]) k=_
      rw [look_cons,look_cons]
      rfl
    refine ⟨E2,?_,fun k hk=>?_,⟨fun k o ho=>?_,fun k o g ho hog=>?_,fun E' hE=>⟨fun k o ho=>?_,fun k o k' o' b ho ho' hne hb hb'=>?_,fun k len sz rows a k' o' ho hc ha ho' hb=>?_⟩⟩,?_⟩
    · rw [g1 E1 (Ae.refl _ _)]
      exact congrArg _ (hL.val E1 E2 b2 fun k hk=>⟨(ag k hk).1,(ag k hk).2.1⟩)
    · have h1:=g3.agree k hk
      have h2:=ag k hk
      exact ⟨h2.1.trans h1.1,h2.2.1.trans h1.2.1,h2.2.2.trans h1.2.2⟩
    · rw [lkN] at ho
      split at ho
      · rename_i e; subst e; rcases hrp with ⟨_,h2⟩ | rfl <;> omega
      · split at ho
        · rename_i e; subst e; omega
        · cases ho
    · rw [lkN] at ho
      split at ho
      · cases ho; cases hog; omega
      · split at ho
        · cases ho; cases hog
        · cases ho
    · have e2:E'.fp (m+1)=fps:=(hE (m+1) (by omega)).2.2.trans f2
      rw [lkN] at ho
      split at ho
      · rename_i e
        subst e
        cases ho
        intro _ w2 hsz hw
        have hlt:rp<m+2:=by rcases hrp with ⟨_,h2⟩ | h2 <;> omega
        have e1:E'.blk rp=E1.blk r0:=(hE rp hlt).1.trans b2
        rw [e1,e2]
        rw [e2] at hw
        exact hL.pack key' _ _ _ (Pack.keep (w:=w') ⟨E1,hU1.sub hsub,rfl,fun k o b ho hb=>(memF b).2 ⟨k,o,ho,hb⟩,hL.noro⟩ hsz hw)
      · split at ho
        · rename_i e
          subst e
          cases ho
          intro b hb
          rw [e2] at hb
          obtain ⟨k,x,hx,hb⟩:=(memF b).1 hb
          exact (hU1.here.obj k x (hsub _ _ hx)).lt hb
        · cases ho
    · rw [lkN] at ho ho'
      split at ho
      · cases ho; exact hb
      · split at ho
        · cases ho
          split at ho'
          · cases ho'; exact hb'
          · rename_i e1 e2 e3
            by_cases e4:m+1=k'
            · exact absurd (e2.symm.trans e4) hne
            · rw [if_neg e4] at ho'; cases ho'
        · cases ho
    · rw [lkN] at ho
      split at ho
      · cases ho
      · split at ho <;> cases ho
    · refine g3.wext.trans ⟨rfl,rfl,rfl,Nat.le_refl _,fun _ _ _=>rfl,fun k o b ho hb=>?_,fun k len sz rows a ho hc ha=>?_⟩
      · rw [lkN] at ho
        split at ho
        · cases ho; exact hb.elim
        · split at ho
          · rename_i e
            subst e
            cases ho
            have hb:b∈E2.fp (m+1):=hb
            rw [f2] at hb
            obtain ⟨k,x,hx,hb⟩:=(memF b).1 hb
            exact .inl ⟨k,x,hsub _ _ hx,hb⟩
          · cases ho
      · rw [lkN] at ho
        split at ho
        · cases ho
        · split at ho <;> cases ho
  · cases h1
theorem relU_rows {A : Nat → Prop} {E : Env} {lk lk' : Look} {w : World} (hU : RelU A E lk w)
    (same:∀ k,lk' k=lk k∨∃ len len' sz rows rows' g,lk k=some (.lst len sz rows (some g))∧lk' k=some (.lst len' sz rows' (some g))∧len'.v=len.v ∧
      ∀ E',Ae A E E'→∀ i:Nat,(i:Int)<len.v→(rows' i).length=(rows i).length∧Ap (rows' i)=true∧BM E' (rows' i)=BM E' (rows i)):RelU A E lk' w:=by
  have back : ∀ k o, lk' k = some o → (lk k = some o) ∨ ∃ len len' sz rows rows' g, lk k = some (.lst len sz rows (some g)) ∧ o = .lst len' sz rows' (some g) ∧ len'.v = len.v ∧
      ∀ E',Ae A E E'→∀ i:Nat,(i:Int)<len.v→(rows' i).length=(rows i).length∧Ap (rows' i)=true∧BM E' (rows' i)=BM E' (rows i):=by
    intro k o ho
    rcases same k with h | ⟨len,len',sz,rows,rows',g,h1,h2,h4,h3⟩
    · exact .inl (h ▸ ho)
    · rw [h2] at ho; cases ho; exact .inr ⟨len,len',sz,rows,rows',g,h1,rfl,h4,h3⟩
  have tok:∀ g,lk' g=some .tok→lk g=some .tok:=fun g hg=>by
    rcases back g _ hg with h | ⟨_,_,_,_,_,_,_,e,_⟩
    · exact h
    · cases e
  have own:∀ E' k o b,lk' k=some o→owns E' k o b→lk k=some o:=fun E' k o b ho hb=>by
    rcases back k o ho with h | ⟨_,_,_,_,_,_,_,e,_⟩
    · exact h
    · subst e; exact hb.elim
  refine ⟨fun k o ho=>?_,fun k o g ho hog=>?_,fun E' hE=>⟨fun k o ho=>?_,fun k o k' o' b ho ho' hne hb hb'=>?_,fun k len sz rows a k' o' ho hc ha ho' hb=>?_⟩⟩
  · rcases back k o ho with h | ⟨_,_,_,_,_,_,h,_,_⟩ <;> exact hU.dom k _ h
  · rcases back k o ho with h | ⟨_,_,_,_,_,_,h,e,_⟩
    · exact hU.grp k o g h hog
    · subst e; exact hU.grp k _ g h hog
  · rcases back k o ho with h | ⟨len,len',sz,rows,rows',g,h,e,hl,hr⟩
    · exact objRel_keep ((hU.rel E' hE).obj k o h) (Nat.le_refl _) (fun _ _=>rfl) (fun _ _ _ _ _ _ _=>rfl) (fun g _ ht=>⟨tok g ht,fun _ _=>rfl⟩)
    · subst e
      obtain ⟨a1,a2,a3⟩:=(hU.rel E' hE).obj k _ h
      refine ⟨a1.trans hl.symm,a2,fun hp=>?_⟩
      obtain ⟨B,off,e,hB,h4⟩:=a3 hp
      refine ⟨B,off,e,hB,fun ht=>?_⟩
      obtain ⟨c1,C,ty,c2,c3,c4⟩:=h4 (tok g ht)
      refine ⟨c1,C,ty,c2,c3,fun i hi=>?_⟩
      obtain ⟨d1,d2,d3⟩:=c4 i hi
      obtain ⟨q1,q2,q3⟩:=hr E' hE i (by omega)
      refine ⟨q1.trans d1,q2,fun j hj=>(d3 j hj).trans ?_⟩
      rw [← denL_get,← denL_get,q3]
  · exact (hU.rel E' hE).apart k o k' o' b (own E' k o b ho hb) (own E' k' o' b ho' hb') hne hb hb'
  · have h1 : lk k = some (.lst len sz rows none) := by
      rcases back k _ ho with h | ⟨_,_,_,_,_,_,_,e,_⟩
      · exact h
      · cases e
    exact (hU.rel E' hE).ro k len sz rows a k' o' h1 hc ha (own E' k' o' _ ho' hb) hb
def mpB (b':SI):Option Ai→Option Ai
  | some (.mp _ n vs)=>some (.mp b' n vs)
  | x=>x
theorem relU_base {A : Nat → Prop} {E : Env} {lk lk' : Look} {w : World} (hU : RelU A E lk w) {k0 : Nat} {b b' n : SI} {vs : Nat → AV} (h0 : lk k0 = some (.mp b n vs)) (hb : b'.v = b.v ∨ n.v = 0)
    (same:∀ k,lk' k=if k0=k then some (.mp b' n vs) else lk k):RelU A E lk' w:=by
  have back:∀ k o,lk' k=some o→(k0≠k∧lk k=some o)∨(k0=k∧o = .mp b' n vs):=by
    intro k o ho
    rw [same] at ho
    split at ho
    · rename_i e; cases ho; exact .inr ⟨e,rfl⟩
    · rename_i e; exact .inl ⟨e,ho⟩
  have tok:∀ g,lk' g=some .tok→lk g=some .tok:=fun g hg=>by
    rcases back g _ hg with ⟨_,h⟩ | ⟨_,e⟩
    · exact h
    · cases e
  have own:∀ E' k o b,lk' k=some o→owns E' k o b→∃ o2,lk k=some o2∧owns E' k o2 b:=fun E' k o b ho hb=>by
    rcases back k o ho with ⟨_,h⟩ | ⟨e1,e⟩
    · exact ⟨o,h,hb⟩
    · subst e; subst e1; exact ⟨_,h0,hb⟩
  refine ⟨fun k o ho=>?_,fun k o g ho hog=>?_,fun E' hE=>⟨fun k o ho=>?_,fun k o k' o' b ho ho' hne hb hb'=>?_,fun k len sz rows a k' o' ho hc ha ho' hb=>?_⟩⟩
  · rcases back k o ho with ⟨_,h⟩ | ⟨rfl,_⟩
    · exact hU.dom k _ h
    · exact hU.dom _ _ h0
  · rcases back k o ho with ⟨_,h⟩ | ⟨_,e⟩
    · exact hU.grp k o g h hog
    · subst e; cases hog
  · rcases back k o ho with ⟨_,h⟩ | ⟨e1,e⟩
    · exact objRel_keep ((hU.rel E' hE).obj k o h) (Nat.le_refl _) (fun _ _=>rfl) (fun _ _ _ _ _ _ _=>rfl) (fun g _ ht=>⟨tok g ht,fun _ _=>rfl⟩)
    · subst e; subst e1
      obtain ⟨a1,es,clock,a2,a3,a4⟩:=(hU.rel E' hE).obj k0 _ h0
      refine ⟨a1,es,clock,a2,a3,?_⟩
      rcases hb with hb | hb
      · rw [hb]; exact a4
      · intro i e he
        exfalso
        have hi:i<es.size:=by
          rcases Nat.lt_or_ge i es.size with h | h
          · exact h
          · rw [Array.getElem?_eq_none h] at he; cases he
        omega
  · obtain ⟨o2,q1,q2⟩:=own E' k o b ho hb
    obtain ⟨o3,q3,q4⟩:=own E' k' o' b ho' hb'
    exact (hU.rel E' hE).apart k o2 k' o3 b q1 q3 hne q2 q4
  · have h1 : lk k = some (.lst len sz rows none) := by
      rcases back k _ ho with ⟨_,h⟩ | ⟨_,e⟩
      · exact h
      · cases e
    obtain ⟨o2,q1,q2⟩:=own E' k' o' _ ho' hb
    exact (hU.rel E' hE).ro k len sz rows a k' o2 h1 hc ha q1 q2
end
end Go.Eng
set_option linter.unusedSimpArgs false
set_option linter.unusedVariables false
namespace Go.Eng
open Go.RowKit
def mapA (incs:List Inc) (i:Nat):AV:=.agg [.int .u32 (.sym ((i:Int)+1)),
  .bool (.sym (upAt 0 true (incs.take i))),.int .i64 (.sym (wAt 0 8 (incs.take i))),.int .u8 (.sym 0),
  .bool (.sym (upAt 1 true (incs.take i))),.int .i64 (.sym (wAt 1 8 (incs.take i))),.int .u8 (.sym 1),
  .bool (.sym (upAt 2 true (incs.take i))),.int .i64 (.sym (wAt 2 8 (incs.take i))),.int .u8 (.sym 2),
  .bool (.sym (upAt 3 true (incs.take i))),.int .i64 (.sym (wAt 3 8 (incs.take i))),.int .u8 (.sym 3),
  .bool (.sym (upAt 4 true (incs.take i))),.int .i64 (.sym (wAt 4 8 (incs.take i))),.int .u8 (.sym 0)]
def incA (incs:List Inc) (i:Nat):AV:=.agg [.int .u8 (.sym (incs.getD i .zero).kind),.int .u8 (.sym (incs.getD i .zero).osd),.int .i64 (.sym (incs.getD i .zero).n)]
def SlC (lk:Look) (y:AV):Prop:=∃ k,lk k≠none∧(y = .sl k∨∃ b hd,y = .slIf b k hd)
structure HistAt (incs:List Inc) (L:List Nat) (lk:Look):Prop where
  len:L.length=19
  dist:distB L=true
  box:∃ x:SI,x.v=(incs.length:Int)+1∧lk (lkN L 0)=some (.box [.mref (lkN L 1),.mref (lkN L 2),.int .u32 x,.sl (lkN L 3),.sl (lkN L 4),.sl (lkN L 5),.sl (lkN L 6)])
  maps:∃ b n vs,lk (lkN L 1)=some (.mp b n vs)∧b.v=1∧n.v=(incs.length:Int)+1∧∀ i:Nat,(i:Int)<n.v→∀ E,den E (vs i)=den E (mapA incs i)
  ics:∃ b n vs,lk (lkN L 2)=some (.mp b n vs)∧(b.v=2∨n.v=0)∧n.v=(incs.length:Int)∧∀ i:Nat,(i:Int)<n.v→∀ E,den E (vs i)=den E (incA incs i)
  lists:∀ i,i<4→∃ len rows,lk (lkN L (3+i))=some (.lst len 2 rows (some (lkN L (7+i))))∧lk (lkN L (7+i))=some .tok∧1≤len.v∧len.v≤(incs.length:Int)+1 ∧
    (∀ j:Nat,(j:Int)<len.v→∃ x y,rows j=[.int .u32 x,y]∧SlC lk y)∧∃ x y,rows (len.v.toNat - 1)=[.int .u32 x,y]∧∀ E,den E y=den E (.sl (lkN L (11+i)))
  acts:∀ i,i<4→∃ al ar,lk (lkN L (11+i))=some (.lst al 1 ar (some (lkN L (15+i))))∧lk (lkN L (15+i))=some .tok∧0≤al.v∧al.v≤3∧∀ j:Nat,(j:Int)<al.v→∃ z:SI,ar j=[.int .i64 z]
structure HJ where
  len:Nat→Int
  since:Nat→Nat→Int
  hdr:Nat→Nat→Option Addr×Nat×Nat
  al:Nat→Int
  act:Nat→Nat→Int
def HJ.ok (incs:List Inc) (j:HJ):Prop:=∀ i,i<4→1≤j.len i∧j.len i≤(incs.length:Int)+1∧0≤j.al i∧j.al i≤3
def ivRow (j:HJ) (i:Nat) (t:Nat):List AV:=[.int .u32 (.sym (j.since i t)),.slIf (decide ((t:Int)=j.len i - 1)) (11+i) (j.hdr i t)]
def acRow (j:HJ) (i:Nat) (t:Nat):List AV:=[.int .i64 (.sym (j.act i t))]
def histObjs (incs:List Inc) (j:HJ):List (Nat×Ai):=[
  (0,.box [.mref 1,.mref 2,.int .u32 (.sym ((incs.length:Int)+1)),.sl 3,.sl 4,.sl 5,.sl 6]),
  (1,.mp (.lit 1) (.sym ((incs.length:Int)+1)) (mapA incs)),(2,.mp (.lit 2) (.sym (incs.length:Int)) (incA incs)),
  (3,.lst (.sym (j.len 0)) 2 (ivRow j 0) (some 7)),(4,.lst (.sym (j.len 1)) 2 (ivRow j 1) (some 8)),(5,.lst (.sym (j.len 2)) 2 (ivRow j 2) (some 9)),(6,.lst (.sym (j.len 3)) 2 (ivRow j 3) (some 10)),
  (7,.tok),(8,.tok),(9,.tok),(10,.tok),
  (11,.lst (.sym (j.al 0)) 1 (acRow j 0) (some 15)),(12,.lst (.sym (j.al 1)) 1 (acRow j 1) (some 16)),(13,.lst (.sym (j.al 2)) 1 (acRow j 2) (some 17)),(14,.lst (.sym (j.al 3)) 1 (acRow j 3) (some 18)),
  (15,.tok),(16,.tok),(17,.tok),(18,.tok)]
def vInt:Value→Int
  | .int _ n=>n
  | _=>0
def vHdr:Value→Option Addr×Nat×Nat
  | .slice a n c=>(a,n,c)
  | _=>(none,0,0)
def lenOf:Option Ai→Int
  | some (.lst n _ _ _)=>n.v
  | _=>0
def rowOf:Option Ai→Nat→List AV
  | some (.lst _ _ r _)=>r
  | _=>fun _=>[]
def hjOf (E:Env) (L:List Nat) (lk:Look):HJ where
  len i:=lenOf (lk (lkN L (3+i)))
  since i t:=vInt (den E ((rowOf (lk (lkN L (3+i))) t).getD 0 .nils))
  hdr i t:=vHdr (den E ((rowOf (lk (lkN L (3+i))) t).getD 1 .nils))
  al i:=lenOf (lk (lkN L (11+i)))
  act i t:=vInt (den E ((rowOf (lk (lkN L (11+i))) t).getD 0 .nils))
theorem slC_den {A:Nat→Prop} {E E':Env} {lk:Look} {w:World} (hU:RelU A E lk w) (hE:Ae A E E') {y:AV} (h:SlC lk y):den E' y=den E y∧∃ hd:Option Addr×Nat×Nat,den E y = .slice hd.1 hd.2.1 hd.2.2:=by
  obtain ⟨k,hk,hy⟩:=h
  have hA:A k:=by
    cases hl:lk k with
    | none=>exact absurd hl hk
    | some o=>exact hU.dom k o hl
  have e:=(hE k hA).2.1
  rcases hy with rfl | ⟨b,hd,rfl⟩
  · exact ⟨by simp only [den,e],⟨E.hdr k,rfl⟩⟩
  · cases b
    · exact ⟨rfl,⟨hd,rfl⟩⟩
    · exact ⟨by simp only [den,e],⟨E.hdr k,rfl⟩⟩
theorem list_at {incs : List Inc} {L : List Nat} {lk : Look} (H : HistAt incs L lk) {E : Env} (i : Nat) (hi : i < 4) : ∃ len rows, lk (lkN L (3 + i)) = some (.lst len 2 rows (some (lkN L (7 + i)))) ∧ len.v = (hjOf E L lk).len i ∧ rowOf (lk (lkN L (3 + i))) = rows ∧ 1 ≤ len.v ∧ len.v ≤ (incs.length : Int) + 1 ∧
    (∀ j:Nat,(j:Int)<len.v→∃ x y,rows j=[.int .u32 x,y]∧SlC lk y)∧∃ x y,rows (len.v.toNat - 1)=[.int .u32 x,y]∧∀ E,den E y=den E (.sl (lkN L (11+i))):=by
  obtain ⟨len,rows,h1,_,h3,h4,h5,h6⟩:=H.lists i hi
  exact ⟨len,rows,h1,by simp only [hjOf,h1,lenOf],by rw [h1]; rfl,h3,h4,h5,h6⟩
def newRows (j:HJ) (L:List Nat) (i:Nat) (t:Nat):List AV:=[.int .u32 (.sym (j.since i t)),.slIf (decide ((t:Int)=j.len i - 1)) (lkN L (11+i)) (j.hdr i t)]
theorem rows_same {incs : List Inc} {L : List Nat} {lk : Look} (H : HistAt incs L lk) {A : Nat → Prop} {E E' : Env} {w : World} (hU : RelU A E lk w) (hE : Ae A E E') {i : Nat} (hi : i < 4) {len : SI} {rows : Nat → List AV} {g : Option Nat} (hl : lk (lkN L (3 + i)) = some (.lst len 2 rows g)) {t : Nat} (ht : (t : Int) < len.v) :
    (newRows (hjOf E L lk) L i t).length=(rows t).length∧Ap (newRows (hjOf E L lk) L i t)=true∧BM E' (newRows (hjOf E L lk) L i t)=BM E' (rows t):=by
  obtain ⟨len2,rows2,h1,h2,h3,h4,h5,h6,x1,y1,h7,h8⟩:=list_at H (E:=E) i hi
  rw [hl] at h1
  cases h1
  obtain ⟨x,y,e,hs⟩:=h6 t ht
  obtain ⟨e1,hd,e2⟩:=slC_den hU hE hs
  have hsince:(hjOf E L lk).since i t=x.v:=by
    show vInt (den E ((rowOf (lk (lkN L (3+i))) t).getD 0 .nils))=_
    rw [h3,e]; rfl
  have hhdr:(hjOf E L lk).hdr i t=hd:=by
    show vHdr (den E ((rowOf (lk (lkN L (3+i))) t).getD 1 .nils))=_
    rw [h3,e]
    show vHdr (den E y)=hd
    rw [e2]; rfl
  refine ⟨by rw [e]; rfl,rfl,?_⟩
  rw [e]
  show [Value.int .u32 ((hjOf E L lk).since i t),den E' (.slIf _ _ _)]=[Value.int .u32 x.v,den E' y]
  rw [hsince,hhdr,← h2]
  by_cases hlast:(t:Int)=len.v - 1
  · rw [decide_eq_true hlast]
    have:t=len.v.toNat - 1:=by omega
    rw [← this,e] at h7
    cases h7
    rw [h8 E']
    rfl
  · rw [decide_eq_false hlast,e1,e2]
    rfl
def retold (j:HJ) (L:List Nat) (lk:Look) (h:Aq):Aq :=
  (lkN L 3,some (.lst (.sym (j.len 0)) 2 (newRows j L 0) (some (lkN L 7))))::(lkN L 4,some (.lst (.sym (j.len 1)) 2 (newRows j L 1) (some (lkN L 8)))) ::
  (lkN L 5,some (.lst (.sym (j.len 2)) 2 (newRows j L 2) (some (lkN L 9))))::(lkN L 6,some (.lst (.sym (j.len 3)) 2 (newRows j L 3) (some (lkN L 10))))::(lkN L 2,mpB (.lit 2) (lk (lkN L 2)))::h
theorem look_retold {j : HJ} {L : List Nat} {lk : Look} {h : Aq} (k : Nat) : AO (retold j L lk h) k =
    if lkN L 3=k then some (.lst (.sym (j.len 0)) 2 (newRows j L 0) (some (lkN L 7))) else if lkN L 4=k then some (.lst (.sym (j.len 1)) 2 (newRows j L 1) (some (lkN L 8)))
    else if lkN L 5=k then some (.lst (.sym (j.len 2)) 2 (newRows j L 2) (some (lkN L 9))) else if lkN L 6=k then some (.lst (.sym (j.len 3)) 2 (newRows j L 3) (some (lkN L 10))) else if lkN L 2=k then mpB (.lit 2) (lk (lkN L 2)) else AO h k:=by
  unfold retold
  rw [look_cons,look_cons,look_cons,look_cons,look_cons]
theorem distB_lk {L:List Nat} (h:distB L=true):∀ {a b:Nat},a<L.length→b<L.length→lkN L a=lkN L b→a=b:=by
  induction L with
  | nil=>intro a b ha; cases ha
  | cons x L ih =>
    simp only [distB] at h
    split at h
    · cases h
    · rename_i hx
      have out:∀ c,c<L.length→lkN L c≠x:=by
        intro c hc e
        have:memK x L=true:=memK_iff.2 (by rw [← e]; unfold lkN; rw [List.getD,List.getElem?_eq_getElem hc]; exact List.getElem_mem hc)
        rw [this] at hx
        cases hx
      intro a b ha hb e
      match a,b with
      | 0,0=>rfl
      | 0,b+1=>exact absurd e.symm (out b (by simpa using hb))
      | a+1,0=>exact absurd e (out a (by simpa using ha))
      | a+1,b+1=>exact congrArg (· + 1) (ih h (by simpa using ha) (by simpa using hb) e)
theorem retold_relU {incs:List Inc} {L:List Nat} {h:Aq} (H:HistAt incs L (AO h)) {A:Nat→Prop} {E:Env} {w:World} (hU:RelU A E (AO h) w):RelU A E (AO (retold (hjOf E L (AO h)) L (AO h) h)) w:=by
  obtain ⟨b,n,vs,hb,hb2,_,_⟩:=H.ics
  have hU2:RelU A E (fun k=>if lkN L 2=k then mpB (.lit 2) (AO h (lkN L 2)) else AO h k) w:=relU_base hU (k0:=lkN L 2) (b':=.lit 2) hb (hb2.imp_left fun e=>e.symm) fun k=>by
    show (if lkN L 2=k then mpB (.lit 2) (AO h (lkN L 2)) else AO h k)=_
    rw [hb]; rfl
  have ne2:∀ i,i<4→lkN L 2≠lkN L (3+i):=fun i hi e=>by
    have:=distB_lk H.dist (by rw [H.len]; decide) (by rw [H.len]; omega) e
    omega
  refine relU_rows hU2 fun k=>?_
  rw [look_retold]
  have one : ∀ i, i < 4 → lkN L (3 + i) = k → ∃ len len' sz rows rows' g, (if lkN L 2 = k then mpB (.lit 2) (AO h (lkN L 2)) else AO h k) = some (.lst len sz rows (some g)) ∧ (some (Ai.lst (.sym ((hjOf E L (AO h)).len i)) 2 (newRows (hjOf E L (AO h)) L i) (some (lkN L (7 + i)))) = some (.lst len' sz rows' (some g))) ∧ len'.v = len.v ∧
      ∀ E',Ae A E E'→∀ t:Nat,(t:Int)<len.v→(rows' t).length=(rows t).length∧Ap (rows' t)=true∧BM E' (rows' t)=BM E' (rows t):=by
    intro i hi hk
    subst hk
    obtain ⟨len,rows,h1,h2,_⟩:=list_at H (E:=E) i hi
    exact ⟨len,_,2,rows,_,_,(if_neg (ne2 i hi)).trans h1,rfl,h2.symm,fun E' hE t ht=>rows_same H hU hE hi h1 ht⟩
  split
  · rename_i e; exact .inr (one 0 (by decide) e)
  · split
    · rename_i e; exact .inr (one 1 (by decide) e)
    · split
      · rename_i e; exact .inr (one 2 (by decide) e)
      · split
        · rename_i e; exact .inr (one 3 (by decide) e)
        · exact .inl rfl
theorem hist_reset {incs:List Inc} {L:List Nat} {h:Aq} (H:HistAt incs L (AO h)) (E:Env):ResetH noNil (· < 19) (lkN L) (retold (hjOf E L (AO h)) L (AO h) h) (Ad (histObjs incs (hjOf E L (AO h)))):=by
  have inj:∀ {a b:Nat},a<19→b<19→lkN L a=lkN L b→a=b:=fun ha hb e=>distB_lk H.dist (by rw [H.len]; exact ha) (by rw [H.len]; exact hb) e
  have far:∀ a,a<19→a≠2→a≠3→a≠4→a≠5→a≠6→AO (retold (hjOf E L (AO h)) L (AO h) h) (lkN L a)=AO h (lkN L a):=by
    intro a ha h2 h3 h4 h5 h6
    rw [look_retold,if_neg (fun e=>h3 (inj (by decide) ha e).symm),if_neg (fun e=>h4 (inj (by decide) ha e).symm),if_neg (fun e=>h5 (inj (by decide) ha e).symm),if_neg (fun e=>h6 (inj (by decide) ha e).symm),if_neg (fun e=>h2 (inj (by decide) ha e).symm)]
  have two:AO (retold (hjOf E L (AO h)) L (AO h) h) (lkN L 2)=mpB (.lit 2) (AO h (lkN L 2)):=by
    rw [look_retold,if_neg (fun e=>absurd (inj (by decide) (by decide) e) (by decide)),if_neg (fun e=>absurd (inj (by decide) (by decide) e) (by decide)),if_neg (fun e=>absurd (inj (by decide) (by decide) e) (by decide)),if_neg (fun e=>absurd (inj (by decide) (by decide) e) (by decide)),if_pos rfl]
  have lists:∀ i,i<4→AO (retold (hjOf E L (AO h)) L (AO h) h) (lkN L (3+i))=some (.lst (.sym ((hjOf E L (AO h)).len i)) 2 (newRows (hjOf E L (AO h)) L i) (some (lkN L (7+i)))):=by
    intro i hi
    rw [look_retold]
    match i,hi with
    | 0,_=>rw [if_pos rfl]
    | 1,_=>rw [if_neg (fun e=>absurd (inj (by decide) (by decide) e) (by decide)),if_pos rfl]
    | 2,_=>rw [if_neg (fun e=>absurd (inj (by decide) (by decide) e) (by decide)),if_neg (fun e=>absurd (inj (by decide) (by decide) e) (by decide)),if_pos rfl]
    | 3,_=>rw [if_neg (fun e=>absurd (inj (by decide) (by decide) e) (by decide)),if_neg (fun e=>absurd (inj (by decide) (by decide) e) (by decide)),if_neg (fun e=>absurd (inj (by decide) (by decide) e) (by decide)),if_pos rfl]
  have lst1:∀ i,i<4→∃ o',AO (retold (hjOf E L (AO h)) L (AO h) h) (lkN L (3+i))=some o'∧SameO noNil (lkN L) (· < 19) o' (.lst (.sym ((hjOf E L (AO h)).len i)) 2 (ivRow (hjOf E L (AO h)) i) (some (7+i))):=by
    intro i hi
    refine ⟨_,lists i hi,rfl,rfl,rfl,fun x e=>⟨by cases e; omega,rfl⟩,fun t _=>⟨rfl,rfl,fun E _=>rfl,fun k hk=>?_⟩⟩
    simp only [ivRow,keysL,keysOf,List.nil_append,List.append_nil,List.mem_singleton] at hk
    omega
  have tok1:∀ i,i<4→∃ o',AO (retold (hjOf E L (AO h)) L (AO h) h) (lkN L (7+i))=some o'∧SameO noNil (lkN L) (· < 19) o' .tok:=by
    intro i hi
    obtain ⟨_,_,_,h2,_⟩:=H.lists i hi
    exact ⟨.tok,(far _ (by omega) (by omega) (by omega) (by omega) (by omega) (by omega)).trans h2,trivial⟩
  have tok2:∀ i,i<4→∃ o',AO (retold (hjOf E L (AO h)) L (AO h) h) (lkN L (15+i))=some o'∧SameO noNil (lkN L) (· < 19) o' .tok:=by
    intro i hi
    obtain ⟨_,_,_,h2,_⟩:=H.acts i hi
    exact ⟨.tok,(far _ (by omega) (by omega) (by omega) (by omega) (by omega) (by omega)).trans h2,trivial⟩
  have act1:∀ i,i<4→∃ o',AO (retold (hjOf E L (AO h)) L (AO h) h) (lkN L (11+i))=some o'∧SameO noNil (lkN L) (· < 19) o' (.lst (.sym ((hjOf E L (AO h)).al i)) 1 (acRow (hjOf E L (AO h)) i) (some (15+i))):=by
    intro i hi
    obtain ⟨al,ar,h1,_,h3,h4,h5⟩:=H.acts i hi
    have el:(hjOf E L (AO h)).al i=al.v:=by
      show lenOf (AO h (lkN L (11+i)))=_
      rw [h1]; rfl
    refine ⟨_,(far _ (by omega) (by omega) (by omega) (by omega) (by omega) (by omega)).trans h1,el.symm,rfl,rfl,fun x e=>⟨by cases e; omega,rfl⟩,fun t ht=>?_⟩
    have ht:(t:Int)<(hjOf E L (AO h)).al i:=ht
    obtain ⟨z,hz⟩:=h5 t (by omega)
    have ea:(hjOf E L (AO h)).act i t=z.v:=by
      show vInt (den E ((rowOf (AO h (lkN L (11+i))) t).getD 0 .nils))=_
      rw [h1]
      show vInt (den E ((ar t).getD 0 .nils))=_
      rw [hz]; rfl
    rw [hz]
    refine ⟨rfl,rfl,fun E2 _=>?_,fun k hk=>by cases hk⟩
    show [Value.int .i64 z.v]=[Value.int .i64 ((hjOf E L (AO h)).act i t)]
    rw [ea]
  refine ⟨fun k o hk=>?_,fun k k' o o' hk hk' e=>?_⟩
  · have hm:=BS hk
    have go:∀ {k0:Nat} {o0:Ai},k0<19→(∃ o',AO (retold (hjOf E L (AO h)) L (AO h) h) (lkN L k0)=some o'∧SameO noNil (lkN L) (· < 19) o' o0)→(k0<19)∧((∃ o',hget (lkN L k0) (retold (hjOf E L (AO h)) L (AO h) h)=some o'∧SameO noNil (lkN L) (· < 19) o' o0)∨(noNil (lkN L k0)=true∧NilO (· < 19) o0)):=fun h1 h2=>⟨h1,.inl h2⟩
    simp only [histObjs,List.mem_cons,Prod.mk.injEq,List.not_mem_nil,or_false] at hm
    rcases hm with ⟨rfl,rfl⟩ | ⟨rfl,rfl⟩ | ⟨rfl,rfl⟩ | ⟨rfl,rfl⟩ | ⟨rfl,rfl⟩ | ⟨rfl,rfl⟩ | ⟨rfl,rfl⟩ | ⟨rfl,rfl⟩ | ⟨rfl,rfl⟩ | ⟨rfl,rfl⟩ | ⟨rfl,rfl⟩ | ⟨rfl,rfl⟩ | ⟨rfl,rfl⟩ | ⟨rfl,rfl⟩ | ⟨rfl,rfl⟩ | ⟨rfl,rfl⟩ | ⟨rfl,rfl⟩ | ⟨rfl,rfl⟩ | ⟨rfl,rfl⟩
    · obtain ⟨x,hx,hb⟩:=H.box
      refine go (by decide) ⟨_,(far 0 (by decide) (by decide) (by decide) (by decide) (by decide) (by decide)).trans hb,rfl,fun E2 _=>?_,fun k hk=>?_⟩
      · show [_,_,Value.int .u32 x.v,_,_,_,_]=[_,_,Value.int .u32 ((incs.length:Int)+1),_,_,_,_]
        rw [hx]; rfl
      · simp only [keysL,keysOf,List.nil_append,List.cons_append,List.mem_cons,List.not_mem_nil,or_false] at hk
        omega
    · obtain ⟨b,n,vs,hb,h1,h2,h3⟩:=H.maps
      exact go (by decide) ⟨_,(far 1 (by decide) (by decide) (by decide) (by decide) (by decide) (by decide)).trans hb,h1,h2,fun t ht=>⟨fun E2 _=>h3 t (by rw [h2]; exact ht) E2,fun k hk=>by cases hk⟩⟩
    · obtain ⟨b,n,vs,hb,h1,h2,h3⟩:=H.ics
      exact go (by decide) ⟨.mp (.lit 2) n vs,two.trans (by rw [hb]; rfl),rfl,h2,fun t ht=>⟨fun E2 _=>h3 t (by rw [h2]; exact ht) E2,fun k hk=>by cases hk⟩⟩
    · exact go (by decide) (lst1 0 (by decide))
    · exact go (by decide) (lst1 1 (by decide))
    · exact go (by decide) (lst1 2 (by decide))
    · exact go (by decide) (lst1 3 (by decide))
    · exact go (by decide) (tok1 0 (by decide))
    · exact go (by decide) (tok1 1 (by decide))
    · exact go (by decide) (tok1 2 (by decide))
    · exact go (by decide) (tok1 3 (by decide))
    · exact go (by decide) (act1 0 (by decide))
    · exact go (by decide) (act1 1 (by decide))
    · exact go (by decide) (act1 2 (by decide))
    · exact go (by decide) (act1 3 (by decide))
    · exact go (by decide) (tok2 0 (by decide))
    · exact go (by decide) (tok2 1 (by decide))
    · exact go (by decide) (tok2 2 (by decide))
    · exact go (by decide) (tok2 3 (by decide))
  · have lt : ∀ {k : Nat} {o : Ai}, hget k (Ad (histObjs incs (hjOf E L (AO h)))) = some o → k < 19 := by
      intro k o hk
      have hm:=BS hk
      simp only [histObjs,List.mem_cons,Prod.mk.injEq,List.not_mem_nil,or_false] at hm
      omega
    exact inj (lt hk) (lt hk') e
theorem hist_reveal {incs:List Inc} {m r:Nat} {h:Aq} {blk:Nat} {fp:List Nat} {w:World} {L:List Nat} (hp:Pack m r h blk fp w) (hr:lkN L 0=r) (H:HistAt incs L (AO h)):∃ j:HJ,j.ok incs∧Pack 19 0 (Ad (histObjs incs j)) blk fp w:=by
  obtain ⟨E,hU,hb,hf,hn⟩:=hp
  have hR:=hist_reset H E
  refine ⟨hjOf E L (AO h),fun i hi=>?_,E.via (lkN L),hR.relU (noNil_ok E) (retold_relU H hU).here,?_,fun k o b ho hb=>?_,fun k len sz rows hk=>?_⟩
  · obtain ⟨len,rows,_,h2,_,h3,h4,_⟩:=list_at H (E:=E) i hi
    obtain ⟨al,ar,h5,_,h6,h7,_⟩:=H.acts i hi
    have el:(hjOf E L (AO h)).al i=al.v:=by
      show lenOf (AO h (lkN L (11+i)))=_
      rw [h5]; rfl
    rw [← h2,el]
    exact ⟨h3,h4,h6,h7⟩
  · show E.blk (lkN L 0)=blk
    rw [hr]; exact hb
  · obtain ⟨_,⟨o',q,s⟩ | ⟨z,_⟩⟩:=hR.obj k o ho
    · have hb:=s.owns hb
      have q:AO (retold (hjOf E L (AO h)) L (AO h) h) (lkN L k)=some o':=q
      rw [look_retold] at q
      split at q
      · cases q; exact hb.elim
      · split at q
        · cases q; exact hb.elim
        · split at q
          · cases q; exact hb.elim
          · split at q
            · cases q; exact hb.elim
            · split at q
              · rename_i e
                obtain ⟨b2,n,vs,hm,_⟩:=H.ics
                rw [hm] at q
                cases q
                exact hf _ (.mp b2 n vs) _ (e ▸ hm) hb
              · exact hf _ _ _ q hb
    · cases z
  · have hm:=BS hk
    simp only [histObjs,List.mem_cons,Prod.mk.injEq,List.not_mem_nil,or_false,Ai.lst.injEq,reduceCtorEq,and_false,false_or] at hm
theorem canon_at {incs:List Inc} {j:HJ} (hj:j.ok incs):HistAt incs (List.range 19) (AO (Ad (histObjs incs j))) where
  len:=rfl
  dist:=rfl
  box:=⟨.sym ((incs.length:Int)+1),rfl,rfl⟩
  maps:=⟨.lit 1,.sym ((incs.length:Int)+1),mapA incs,rfl,rfl,rfl,fun _ _ _=>rfl⟩
  ics:=⟨.lit 2,.sym (incs.length:Int),incA incs,rfl,.inl rfl,rfl,fun _ _ _=>rfl⟩
  lists i hi:=by
    obtain ⟨h1,h2,_,_⟩:=hj i hi
    have e:decide (((((j.len i).toNat - 1:Nat)):Int)=j.len i - 1)=true:=decide_eq_true (by omega)
    match i,hi with
    | 0,_=>exact ⟨.sym (j.len 0),ivRow j 0,rfl,rfl,h1,h2,fun t _=>⟨_,_,rfl,11,(by intro h; cases h),.inr ⟨_,_,rfl⟩⟩,_,_,rfl,fun E=>by show den E (.slIf _ _ _)=_; erw [e]; rfl⟩
    | 1,_=>exact ⟨.sym (j.len 1),ivRow j 1,rfl,rfl,h1,h2,fun t _=>⟨_,_,rfl,12,(by intro h; cases h),.inr ⟨_,_,rfl⟩⟩,_,_,rfl,fun E=>by show den E (.slIf _ _ _)=_; erw [e]; rfl⟩
    | 2,_=>exact ⟨.sym (j.len 2),ivRow j 2,rfl,rfl,h1,h2,fun t _=>⟨_,_,rfl,13,(by intro h; cases h),.inr ⟨_,_,rfl⟩⟩,_,_,rfl,fun E=>by show den E (.slIf _ _ _)=_; erw [e]; rfl⟩
    | 3,_=>exact ⟨.sym (j.len 3),ivRow j 3,rfl,rfl,h1,h2,fun t _=>⟨_,_,rfl,14,(by intro h; cases h),.inr ⟨_,_,rfl⟩⟩,_,_,rfl,fun E=>by show den E (.slIf _ _ _)=_; erw [e]; rfl⟩
  acts i hi:=by
    obtain ⟨_,_,h3,h4⟩:=hj i hi
    match i,hi with
    | 0,_=>exact ⟨.sym (j.al 0),acRow j 0,rfl,rfl,h3,h4,fun t _=>⟨_,rfl⟩⟩
    | 1,_=>exact ⟨.sym (j.al 1),acRow j 1,rfl,rfl,h3,h4,fun t _=>⟨_,rfl⟩⟩
    | 2,_=>exact ⟨.sym (j.al 2),acRow j 2,rfl,rfl,h3,h4,fun t _=>⟨_,rfl⟩⟩
    | 3,_=>exact ⟨.sym (j.al 3),acRow j 3,rfl,rfl,h3,h4,fun t _=>⟨_,rfl⟩⟩
theorem canon_noro (incs:List Inc) (j:HJ):NoRo (AO (Ad (histObjs incs j))):=fun k len sz rows hk=>by
  have hm:=BS hk
  simp only [histObjs,List.mem_cons,Prod.mk.injEq,List.not_mem_nil,or_false,Ai.lst.injEq,reduceCtorEq,and_false,false_or] at hm
def HGood (incs:List Inc):Prop:=incs.length≤59∧∀ x,x∈incs→incOk x=true∧0≤x.osd
def Af (d:Dat) (blk:Nat) (fp:List Nat) (w:World):Prop:=HGood d.incs∧∃ m r h L,Pack m r h blk fp w∧lkN L 0=r∧HistAt d.incs L (AO h)
def HJs (incs:List Inc):Type:={j:HJ // j.ok incs∧HGood incs}
theorem histR_reveal {d:Dat} {blk:Nat} {fp:List Nat} {w:World} (h:Af d blk fp w):∃ j:HJs d.incs,Pack 19 0 (Ad (histObjs d.incs j.1)) blk fp w:=by
  obtain ⟨hg,m,r,h,L,hp,hr,H⟩:=h
  obtain ⟨j,hj,hp⟩:=hist_reveal hp hr H
  exact ⟨⟨j,hj,hg⟩,hp⟩
section
variable {P:Program} {T:Tab}
theorem hist_callK (hT : TabAll P T) (hm : P.follows .mixedOrders = true) {n : Nat} {f : FuncId} {args argsi} {kf : Aq → List Nat} {v : AV} {t : Nat} {d d' : Dat} (hargs : (keysL argsi).all (Nat.blt · 19) = true)
    (ha:∀ E E':Env,E'.blk 0=E.blk 0→BM E' argsi=BM E args) (hv:∀ E E':Env,E'.blk 0=E.blk 0→den E' v=den E v)
    (H:∀ j:HJs d.incs,(BR P (Am P T n) f argsi (Ad (histObjs d.incs j.1)) 19 (outK kf)).Holds fun o=>HGood d'.incs∧(∀ E1 E2:Env,E2.blk 0=E1.blk 0→den E1 o.1=den E2 v)∧NoRo (AO o.2)∧∃ L,lkN L 0=0∧HistAt d'.incs L (AO o.2)) :
    StdN P f 2 [(0,.own t Af d 1),(1,.tok)] args 21 [(0,.own t Af d' 20),(20,.tok)] v:=by
  refine StdN.reveal (n:=0) (q:=19) (Ls:=[]) (argsi:=argsi) (fun j:HJs d.incs=>histObjs d.incs j.1) (by decide) (fun blk fp w h=>histR_reveal h) (fun i o h=>by cases h) (fun E E' h _=>ha E E' h) ?_ (by decide) (fun E E' h _=>hv E E' h) fun j=>?_
  · intro p hp
    simp only [List.mem_cons,List.not_mem_nil,or_false] at hp
    rcases hp with rfl | rfl
    · exact ⟨.inl rfl,by decide⟩
    · exact (by decide:19+0≤20)
  · rw [List.append_nil]
    refine StdN.leafOwn hT hm (m:=19) (r0:=0) (rp:=0) (n:=n) (kf:=kf) hargs (.inl ⟨rfl,by decide⟩) ?_
    obtain ⟨o,h1,hg,h2,h3,L,hL,hA⟩:=H j
    refine ⟨o,h1,?_,h3,fun mm blk fp w hp=>⟨hg,mm,0,o.2,L,hp,hL,hA⟩,fun E1 E2 hb _=>h2 E1 E2 hb⟩
    obtain ⟨x,_,hx⟩:=hA.box
    rw [hL] at hx
    exact ⟨_,hx⟩
theorem hist_call (hT : TabAll P T) (hm : P.follows .mixedOrders = true) {n : Nat} {f : FuncId} {args argsi ks} {v : AV} {t : Nat} {d d' : Dat} (hargs : (keysL argsi).all (Nat.blt · 19) = true)
    (ha:∀ E E':Env,E'.blk 0=E.blk 0→BM E' argsi=BM E args) (hv:∀ E E':Env,E'.blk 0=E.blk 0→den E' v=den E v)
    (H:∀ j:HJs d.incs,(BR P (Am P T n) f argsi (Ad (histObjs d.incs j.1)) 19 (outC ks)).Holds fun o=>HGood d'.incs∧(∀ E1 E2:Env,E2.blk 0=E1.blk 0→den E1 o.1=den E2 v)∧NoRo (AO o.2)∧∃ L,lkN L 0=0∧HistAt d'.incs L (AO o.2)) :
    StdN P f 2 [(0,.own t Af d 1),(1,.tok)] args 21 [(0,.own t Af d' 20),(20,.tok)] v :=
  hist_callK hT hm (n:=n) (kf:=fun _=>ks) hargs ha hv H
end
end Go.Eng
