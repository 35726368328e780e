/- Texts of this claim, laid together (part 10).
   Conditions: none. -/
import Derived.Test.YtddmgdclmkgpeaaRows
import Derived.Test.YtddmgdclmkgpeaaZvi
set_option linter.unusedSimpArgs false
set_option linter.unusedVariables false
set_option linter.unusedSimpArgs false
set_option linter.unusedVariables false
namespace Go.Proofs.Ytddmgdclmkgpeaa
open Go.Eng Go.RowKit Go.ChangeShapes Go.WideShapes
set_option maxRecDepth 100000
theorem cHiI_ok:Ak Try.prog 25 (rdSumm 5 HistI u32A icN icV):=rdSumm_ok (fun _ _ _=>rfl) fun d rest a h blk fp w hr E=>by
  unfold u32A at h
  split at h
  · rename_i e
    cases h
    obtain ⟨fp',_,hr⟩:=hr
    obtain ⟨C,ty,E1,h1,_,h2,_,_,es,cl,h3,h4,h5⟩:=hist_cells hr
    refine (inc_walk blk (E1.blk 2) w e.v (bif hasI d.incs e.v then incK d.incs e.v else 0) (bif hasI d.incs e.v then incO d.incs e.v else 0) (bif hasI d.incs e.v then incZ d.incs e.v else 0) (hasI d.incs e.v) (cell_of ((alloc_get (lt_of_get h1)).trans h1) h2) ?_).mono ?_
    · rw [lookup_run (P:=Try.prog) (t:=76) (E:=E1) (k:=2) (base:=.lit 2) (len:=.sym (d.incs.length:Int)) (vals:=incA d.incs) (z:=.agg [.int .u8 (.lit 0),.int .u8 (.lit 0),.int .i64 (.lit 0)]) rfl rfl rfl ((alloc_get (lt_of_get h3)).trans h3) h4 h5 e true]
      congr 1
      have hv:(subL e (.lit 2)).v=e.v - 2:=by cases e <;> rfl
      by_cases hc:2≤e.v∧e.v<2+(d.incs.length:Int)
      · have hh:hasI d.incs e.v=true:=by unfold hasI; rw [decide_eq_true hc.1,decide_eq_true hc.2]; rfl
        rw [if_pos (show (SI.lit 2).v≤e.v∧e.v<(SI.lit 2).v+(SI.sym (d.incs.length:Int)).v from hc),hh]
        unfold atMap
        rw [hv]
        rfl
      · have hh : hasI d.incs e.v = false := by
          cases hq:hasI d.incs e.v with
          | false=>rfl
          | true =>
            unfold hasI at hq
            simp only [Bool.and_eq_true,decide_eq_true_eq] at hq
            exact absurd hq hc
        rw [if_neg (show ¬ ((SI.lit 2).v≤e.v∧e.v<(SI.lit 2).v+(SI.sym (d.incs.length:Int)).v) from hc),hh]
        rfl
    · rintro e w' ⟨rfl,hb⟩
      exact ⟨rfl,hb⟩
  · cases h
set_option maxHeartbeats 1000000 in
theorem cHmI_ok:Ak Try.prog 54 (rdSumm 5 HistI u32A mpN mpV):=rdSumm_ok (fun _ _ _=>rfl) fun d rest a h blk fp w hr E=>by
  unfold u32A at h
  split at h
  · rename_i e
    cases h
    obtain ⟨fp',_,hr⟩:=hr
    obtain ⟨C,ty,E1,h1,h2,_,_,⟨es,cl,h3,h4,h5⟩,_⟩:=hist_cells hr
    refine (map_walk blk (E1.blk 1) w e.v (bif hasM d.incs e.v then e.v else 0) (bif hasM d.incs e.v then upM d.incs e.v 0 else false) (bif hasM d.incs e.v then wM d.incs e.v 0 else 0) (bif hasM d.incs e.v then hM 0 else 0) (bif hasM d.incs e.v then upM d.incs e.v 1 else false) (bif hasM d.incs e.v then wM d.incs e.v 1 else 0) (bif hasM d.incs e.v then hM 1 else 0) (bif hasM d.incs e.v then upM d.incs e.v 2 else false) (bif hasM d.incs e.v then wM d.incs e.v 2 else 0) (bif hasM d.incs e.v then hM 2 else 0) (bif hasM d.incs e.v then upM d.incs e.v 3 else false) (bif hasM d.incs e.v then wM d.incs e.v 3 else 0) (bif hasM d.incs e.v then hM 3 else 0) (bif hasM d.incs e.v then upM d.incs e.v 4 else false) (bif hasM d.incs e.v then wM d.incs e.v 4 else 0) (bif hasM d.incs e.v then hM 4 else 0) (hasM d.incs e.v) (cell_of ((alloc_get (lt_of_get h1)).trans h1) h2) ?_).mono ?_
    · rw [lookup_run (P:=Try.prog) (t:=75) (E:=E1) (k:=1) (base:=.lit 1) (len:=.sym ((d.incs.length:Int)+1)) (vals:=mapA d.incs) (z:=.agg [.int .u32 (.lit 0),.bool (.lit false),.int .i64 (.lit 0),.int .u8 (.lit 0),.bool (.lit false),.int .i64 (.lit 0),.int .u8 (.lit 0),.bool (.lit false),.int .i64 (.lit 0),.int .u8 (.lit 0),.bool (.lit false),.int .i64 (.lit 0),.int .u8 (.lit 0),.bool (.lit false),.int .i64 (.lit 0),.int .u8 (.lit 0)]) rfl rfl rfl ((alloc_get (lt_of_get h3)).trans h3) h4 h5 e true]
      congr 1
      have hv:(subL e (.lit 1)).v=e.v - 1:=by cases e <;> rfl
      by_cases hc:1≤e.v∧e.v<1+((d.incs.length:Int)+1)
      · have hh:hasM d.incs e.v=true:=by unfold hasM; rw [decide_eq_true hc.1,decide_eq_true hc.2]; rfl
        have hz:(((e.v - 1).toNat:Int)+1)=e.v:=by omega
        rw [if_pos (show (SI.lit 1).v≤e.v∧e.v<(SI.lit 1).v+(SI.sym ((d.incs.length:Int)+1)).v from hc),hh]
        unfold atMap
        rw [hv]
        unfold mapA
        rw [hz]
        rfl
      · have hh : hasM d.incs e.v = false := by
          cases hq:hasM d.incs e.v with
          | false=>rfl
          | true =>
            unfold hasM at hq
            simp only [Bool.and_eq_true,decide_eq_true_eq] at hq
            exact absurd hq hc
        rw [if_neg (show ¬ ((SI.lit 1).v≤e.v∧e.v<(SI.lit 1).v+(SI.sym ((d.incs.length:Int)+1)).v) from hc),hh]
        rfl
    · rintro e w' ⟨rfl,hb⟩
      exact ⟨rfl,hb⟩
  · cases h
theorem mon_cells {d : Dat} {blk : Nat} {fp : List Nat} {w : World} (h : MonR d blk fp w) : ∃ C ty, ∃ E : Env, ∃ AC tya pr, w.heap[blk]? = some (.cells C ty (0, 0)) ∧ C[1]? = some (.pointer (some ⟨E.blk 1, 0, none⟩)) ∧ C[2]? = some (.pointer (some ⟨E.blk 3, 0, none⟩)) ∧ C[3]? = some (.slice (E.hdr 4).1 (E.hdr 4).2.1 (E.hdr 4).2.2) ∧ (((E.hdr 4).2.1 : Nat) : Int) = d.wishes.length ∧
    C[4]? = some (.pointer pr)∧pr.isNone=d.prop.isNone∧w.heap[E.blk 3]? = some (.cells AC tya (0,0))∧AC[0]? = some (.int .u32 d.prom.n)∧AC[1]? = some (.int .u8 d.prom.who) ∧
    ∀ w':World,w.heap.size≤w'.heap.size→(∀ b,b∈fp→w'.heap[b]? = w.heap[b]?)→HistI d (E.blk 1) fp w':=by
  obtain ⟨_,⟨hp,hd,E,hU,hb,hf,_⟩ | ⟨p,hp,hd,E,hU,hb,hf,_⟩⟩:=h
  · obtain ⟨_,_,ty,h0⟩:=hU.here.obj 0 _ rfl
    obtain ⟨_,_,tya,h3⟩:=hU.here.obj 3 _ rfl
    have h4:=hU.here.obj 4 _ rfl
    have h1:=hU.here.obj 1 _ rfl
    rw [hb] at h0
    refine ⟨_,ty,E,_,tya,none,h0,rfl,rfl,rfl,h4.1,rfl,by rw [hp]; rfl,h3,rfl,rfl,fun w' hs ha=>?_⟩
    exact ⟨E.fp 2,fun b hb2=>hf 2 .tok b rfl hb2,h1 rfl w' hs fun b hb2=>ha b (hf 2 .tok b rfl hb2)⟩
  · obtain ⟨_,_,ty,h0⟩:=hU.here.obj 0 _ rfl
    obtain ⟨_,_,tya,h3⟩:=hU.here.obj 3 _ rfl
    have h4:=hU.here.obj 4 _ rfl
    have h1:=hU.here.obj 1 _ rfl
    rw [hb] at h0
    refine ⟨_,ty,E,_,tya,some ⟨E.blk 7,0,none⟩,h0,rfl,rfl,rfl,h4.1,rfl,by rw [hp]; rfl,h3,rfl,rfl,fun w' hs ha=>?_⟩
    exact ⟨E.fp 2,fun b hb2=>hf 2 .tok b rfl hb2,h1 rfl w' hs fun b hb2=>ha b (hf 2 .tok b rfl hb2)⟩
theorem cIdI_ok:Ak Try.prog 7 (rdSumm 2 MonR noA idN idV):=rdSumm_ok (fun _ _ _=>rfl) fun d rest a h blk fp w hr E=>by
  unfold noA at h
  split at h
  · cases h
    obtain ⟨C,ty,E1,AC,tya,pr,h1,_,_,h2,h3,h4,h5,_⟩:=mon_cells hr
    refine (idle_walk blk w pr _ _ _ (cell_of h1 h4) (cell_of h1 h2)).mono ?_
    rintro e w' ⟨rfl,rfl⟩
    refine ⟨?_,Below.refl _ _⟩
    show Ending.returned (Value.bool _)=Ending.returned (Value.bool d.idle)
    congr 2
    rw [h3,h5]
    unfold Aj.idle
    have e1:d.prop.isNone = !d.prop.isSome:=by cases d.prop <;> rfl
    have e2:((d.wishes.length:Int)==0)=(d.wishes.length==0):=by rw [Bool.eq_iff_iff]; simp
    rw [e1,e2]
  · cases h
theorem cPrI_ok:Ak Try.prog 12 (rdSumm 2 MonR noA prmN prmV):=rdSumm_ok (fun _ _ _=>rfl) fun d rest a h blk fp w hr E=>by
  unfold noA at h
  split at h
  · cases h
    obtain ⟨C,ty,E1,AC,tya,pr,h1,_,h2,_,_,_,_,h3,h4,h5,_⟩:=mon_cells hr
    have hb:=lt_of_get h1
    have hA:=lt_of_get h3
    have sz:∀ (w:World) (o:Obj),w.heap.size≤(w.alloc o).heap.size:=fun w o=>by
      show w.heap.size≤(w.heap.push o).size
      rw [Array.size_push]
      omega
    refine (prom_walk blk (E1.blk 3) w d.prom.n d.prom.who (cell_of ((alloc_get hb).trans h1) h2) (cell_of ((alloc_get (Nat.lt_of_lt_of_le hA (sz _ _))).trans ((alloc_get hA).trans h3)) h4) (cell_of ((alloc_get (Nat.lt_of_lt_of_le hA (sz _ _))).trans ((alloc_get hA).trans h3)) h5)).mono ?_
    rintro e w' ⟨rfl,hw⟩
    exact ⟨rfl,hw⟩
  · cases h
theorem hsSumm_ok:Ak Try.prog 8 hsSumm:=by
  have go:∀ args h key r,(hsSumm.run args h key).sel=some r→∃ k g d,args=[.ptr k 0]∧hget k h=some (.own 2 MonR d g)∧hget g h=some .tok∧r=(.ptr key 0,[k,g],[(key,some (.own 5 HistI d g))],key+1):=by
    intro args h key r e
    simp only [hsSumm] at e
    split at e
    · rename_i k
      split at e
      · rename_i t' R' d g hg
        split at e
        · rename_i ht hto
          obtain ⟨hs,e⟩:=As e
          cases e
          have h1:=Nat.eq_of_beq_eq_true ht
          subst h1
          have h2:=sameR_iff.1 hs
          subst h2
          exact ⟨k,g,d,rfl,hg,hto,rfl⟩
        · cases e
      · cases e
    · cases e
  refine ⟨fun args h key v R0 W key' e=>?_,fun args h key r e=>?_⟩
  · obtain ⟨k,g,d,rfl,h1,h2,h3⟩:=go _ _ _ _ e
    cases h3
    intro A E lk w vals hU hC hfr hvals
    have hk1:lk k=some (.own 2 MonR d g):=(hC k (by simp)).trans h1
    have hg1:lk g=some .tok:=(hC g (by simp)).trans h2
    have hr:=(hU.here.obj k _ hk1) hg1 w (Nat.le_refl _) (fun _ _=>rfl)
    have hv0:=hvals E (Ae.refl A E)
    subst hv0
    obtain ⟨C,ty,E1,AC,tya,pr,c1,c2,_,_,_,_,_,_,_,_,c3⟩:=mon_cells hr
    have hkey:¬ A key:=hfr key (Nat.le_refl _) (Nat.lt_succ_self _)
    have hgA:A g:=hU.dom g _ hg1
    have hgk:g≠key:=fun e=>hkey (e ▸ hgA)
    refine (history_walk (E.blk k) w _ (cell_of c1 c2)).mono ?_
    rintro e w' ⟨rfl,rfl⟩
    have lkey:∀ j,hupd lk [(key,some (.own 5 HistI d g))] j=if key=j then some (.own 5 HistI d g) else lk j:=fun j=>by
      simp only [hupd,wget]
      by_cases hj:key=j
      · subst hj; simp
      · rw [beq_ne hj,if_neg hj]
    have ag:=Env.put_agree (A:=A) E hkey (E1.blk 1) (none,0,0) []
    have st:=RelU.step (A':=rng A key (key+1)) (E1:=E.put key (E1.blk 1) (none,0,0) []) (lk':=hupd lk [(key,some (.own 5 HistI d g))]) (w':=w') (fun j=>key=j) hU (fun _ h=>.inl h) ag rfl rfl rfl (Nat.le_refl _)
      (fun j o hj hn=>by rw [lkey,if_neg hn] at hj; exact hj)
      (fun j o _ hn=>.inr ⟨by omega,by omega⟩)
      (fun j o g' hj ho hn=>by
        rw [lkey,if_pos hn] at hj
        cases hj
        cases ho
        exact .inl hgA)
      (fun E' hE j o hj hn=>by
        rw [lkey,if_pos hn] at hj
        cases hj
        subst hn
        intro ht w2 hs ha
        have e1:E'.blk key=E1.blk 1:=by
          rw [(hE key (.inr ⟨Nat.le_refl _,Nat.lt_succ_self _⟩)).1]
          simp [Env.put]
        have e2:E'.fp g=E.fp g:=(hE g (.inl hgA)).2.2.trans (ag g hgA).2.2
        rw [e1,e2]
        exact c3 w2 hs fun b hb=>ha b (by rw [e2]; exact hb))
      (fun E' hE j o b hj hn hb=>by
        rw [lkey,if_pos hn] at hj
        cases hj
        exact hb.elim)
      (fun E' hE j o j' o' b _ _ hn hn' hne _ _=>absurd (hn.symm.trans hn') hne)
      (fun _ _ _=>rfl)
      (fun j o g' hj ho hn=>by
        subst hn
        exact absurd (hU.grp j o key hj ho) hkey)
      (fun E' hE j len sz rows a hj hn=>by
        rw [lkey,if_pos hn] at hj
        cases hj)
      (fun j hn hA=>absurd (hn ▸ hA) hkey)
    refine ⟨_,E.put key (E1.blk 1) (none,0,0) [],rfl,fun E' hE=>?_,st.1,st.2⟩
    show Value.pointer _=Value.pointer _
    rw [(hE key (.inr ⟨Nat.le_refl _,Nat.lt_succ_self _⟩)).1]
    simp [Env.put]
  · obtain ⟨k,g,d,rfl,h1,h2,rfl⟩:=go _ _ _ _ e
    refine ⟨Nat.le_succ _,fun j o hm=>?_⟩
    have hm:(j,o)=(key,some (.own 5 HistI d g)):=by simpa using hm
    cases hm
    refine ⟨.inr ⟨Nat.le_refl _,Nat.lt_succ_self _⟩,fun x g' hx hg'=>?_⟩
    cases hx
    cases hg'
    refine .inr fun hn=>?_
    have hn:hget g h=none:=hn
    rw [h2] at hn
    cases hn
end Go.Proofs.Ytddmgdclmkgpeaa
set_option linter.unusedSimpArgs false
set_option linter.unusedVariables false
namespace Go.Proofs.Ytddmgdclmkgpeaa
open Go.Eng Go.RowKit Go.ChangeShapes Go.WideShapes
set_option maxRecDepth 100000
def lsH:List (Nat×TO):=[(0,.ob 2 MonR 40),(40,.tok),(41,.lst none msgR (some 42)),(42,.tok)]
def lsO (r:Aj×List MMsg):List ON:=[.own r.1,.tok,.lst r.2.length (rowM r.2),.tok]
def lsN (r:Aj×List MMsg):EN:=⟨[],[.own r.1,.lst r.2.length (rowM r.2)]⟩
def wuR:TS:=⟨[],[.one (.sl 41),.one (.i .i64)],lsH,43⟩
def wuN (e:EN):EN:=⟨[[.i (bif (e.dt 0).wishB (incOf e 1) then 0 else 210)]],(lsN ((e.dt 0).wish (incOf e 1)).1).o⟩
def cWu (e:EN):Ah (TS×EN):=.must (decide (0≤e.ai 1 1)) (.defE (wuN e) fun r=>.leaf (wuR,⟨[[.u],[.i (r.ai 0 0)]],[.own (r.dt 0),.tok,.lst (r.ln 1) (r.rw 1),.tok]⟩))
theorem StdN.retell {f : FuncId} {m m' m2 : Nat} {h h' h2 : List (Nat × Ag)} {args : List AV} {v v2 : AV} (φ : Nat → Nat) (H : StdN Try.prog f m h args m' h' v) (hm : m ≤ m') (hlt : m' ≤ nilK) (hid : ∀ k, k < m → φ k = k) (hkv : (keysOf v).all (Nat.blt · m') = true)
    (hR:ResetH isNil (· < m2) φ (Aa h') (Aa h2)) (hv:SameV isNil v (ren φ v2)):StdN Try.prog f m h args m2 h2 v2:=by
  intro E w hU
  refine (H E w hU).mono ?_
  rintro e w' ⟨E1,rfl,hag,hU1,hx⟩
  have hA:=nilExt_agree (E:=E1) (A:=(· < m')) (fun k hk=>Nat.lt_of_lt_of_le hk hlt)
  have hz:=nilExt_ok E1
  refine ⟨(nilExt E1).via φ,?_,fun k hk=>?_,hR.relU hz (hU1.rel _ hA),(hx.trans (wext_agree hU1 hA)).trans (hR.wext _ hz w')⟩
  · rw [← den_ren,← hv _ hz,den_cl hA v (Ax hkv)]
  · have h1:=hag k hk
    have h2:=hA k (Nat.lt_of_lt_of_le hk hm)
    simp only [Env.via,hid k hk]
    exact ⟨h2.1.trans h1.1,h2.2.1.trans h1.2.1,h2.2.2.trans h1.2.2⟩
def phi (k:Nat) (j:Nat):Nat:=match Nat.beq j 41 with
  | true=>k
  | false=>match Nat.beq j 42 with
    | true=>k+1
    | false=>j
theorem resetLs {k : Nat} {d : Dat} {n : Nat} {r : Nat → List Num} {h : List (Nat × Ag)} (hd : distB [0, 40, k, k + 1] = true) (h0 : AK (Aa h) 0 = some (.own 2 MonR d 40)) (h1 : AK (Aa h) 40 = some .tok)
    (h2:(∃ len rows,AK (Aa h) k=some (.lst len 131 rows (some (k+1)))∧len.v=(n:Int)∧(∀ i,rows i=AH msgR r i)∧AK (Aa h) (k+1)=some .tok∧isNil (k+1)=false)∨(n=0∧isNil k=true∧isNil (k+1)=true)) :
    ResetH isNil (· < 43) (phi k) (Aa h) (Aa (instH lsH [.own d,.tok,.lst n r,.tok])):=by
  refine ⟨fun j o hj=>?_,fun j j' o o' hj hj' e=>?_⟩
  · have hj:=BP hj
    rcases List.mem_cons.1 hj with e | hj
    · cases e
      exact ⟨by decide,.inl ⟨_,h0,rfl,rfl,rfl,rfl,(by decide:(40:Nat)<43),rfl⟩⟩
    · rcases List.mem_cons.1 hj with e | hj
      · cases e
        exact ⟨by decide,.inl ⟨_,h1,trivial⟩⟩
      · rcases List.mem_cons.1 hj with e | hj
        · cases e
          refine ⟨by decide,?_⟩
          rcases h2 with ⟨len,rows,g1,g2,g3,g4,g5⟩ | ⟨g1,g2,g3⟩
          · refine .inl ⟨_,g1,g2,rfl,rfl,fun x hx=>(by cases hx; exact ⟨(by decide:(42:Nat)<43),g5⟩),fun i _=>?_⟩
            rw [g3]
            exact ⟨rfl,rfl,fun _ _=>rfl,Ax rfl⟩
          · refine .inr ⟨g2,?_,fun x hx=>(by cases hx; exact (by decide:(42:Nat)<43))⟩
            show ((n:Nat):Int)=0
            rw [g1]
            rfl
        · have e:=List.mem_singleton.1 hj
          cases e
          refine ⟨by decide,?_⟩
          rcases h2 with ⟨len,rows,g1,g2,g3,g4,g5⟩ | ⟨g1,g2,g3⟩
          · exact .inl ⟨_,g4,trivial⟩
          · exact .inr ⟨g3,trivial⟩
  · have d0:distB ((instH lsH [.own d,.tok,.lst n r,.tok]).map fun p=>phi k p.1)=true:=hd
    exact congrArg (·.1) (distB_inj d0 (j,o) (BP hj) (j',o') (BP hj') e)
theorem phi_id (k:Nat):∀ j,j<2→phi k j=j:=fun j hj=>by
  match j,hj with
  | 0,_=>rfl
  | 1,_=>rfl
theorem ls_nil {f : FuncId} {l : List (Nat × Ag)} {args : List AV} {d : Dat} {v v2 : AV} (hkv : (keysOf v).all (Nat.blt · 41) = true) (hv : SameV isNil v (ren (phi (nilK + 41)) v2)) (H : StdN Try.prog f 2 l args 41 [(0, .own 2 MonR d 40), (40, .tok)] v) :
    StdN Try.prog f 2 l args 43 (instH lsH (lsO (d,[]))) v2 :=
  StdN.retell (phi (nilK+41)) H (by decide) (by decide) (phi_id _) hkv (resetLs (n:=0) rfl rfl rfl (.inr ⟨rfl,rfl,rfl⟩)) hv
theorem ls_go {f : FuncId} {l : List (Nat × Ag)} {args : List AV} {r : Aj × List MMsg} {len : SI} {k : Nat} {v v2 : AV} (hd : distB [0, 40, k, k + 1] = true) (hl : len.v = (r.2.length : Int)) (hk : isNil (k + 1) = false) (hkv : (keysOf v).all (Nat.blt · 41) = true) (hv : SameV isNil v (ren (phi k) v2))
    (h0:∀ o1 o2,AK (Aa [(0,.own 2 MonR r.1 40),(40,.tok),(k,o1),(k+1,o2)]) 0=some (.own 2 MonR r.1 40)∧AK (Aa [(0,.own 2 MonR r.1 40),(40,.tok),(k,o1),(k+1,o2)]) 40=some .tok∧AK (Aa [(0,.own 2 MonR r.1 40),(40,.tok),(k,o1),(k+1,o2)]) k=some o1∧AK (Aa [(0,.own 2 MonR r.1 40),(40,.tok),(k,o1),(k+1,o2)]) (k+1)=some o2)
    (H:StdN Try.prog f 2 l args 41 [(0,.own 2 MonR r.1 40),(40,.tok),(k,.lst len 131 (AH msgR (rowM r.2)) (some (k+1))),(k+1,.tok)] v) :
    StdN Try.prog f 2 l args 43 (instH lsH (lsO r)) v2:=by
  obtain ⟨g0,g1,g2,g3⟩:=h0 (.lst len 131 (AH msgR (rowM r.2)) (some (k+1))) .tok
  exact StdN.retell (phi k) H (by decide) (by decide) (phi_id _) hkv (resetLs hd g0 g1 (.inl ⟨_,_,g2,hl,fun _=>rfl,g3,hk⟩)) hv
def wishW (d:Dat) (x:Inc):Aj:=({ d with wishes:=d.wishes++[x] } : Aj)
theorem others_len {s:Aj} (h:0≤s.id∧s.id<3) (x:MMsg):(s.others x).length=2:=by
  have h3:s.id=0∨s.id=1∨s.id=2:=by omega
  unfold Aj.others
  rcases h3 with h | h | h <;> rw [h] <;> rfl
theorem starts_len {s:Aj} (h:0≤s.id∧s.id<3) (p:BA):(s.starts p).2.length=2:=by
  unfold Aj.starts
  dsimp only
  split
  all_goals exact others_len (s:=s) h _
theorem begins_len {s:Aj} (h:0≤s.id∧s.id<3) (hp:s.prop=none) (hb:bgE s=false):s.begins.2.length=2:=by
  cases hd:dropW s s.wishes with
  | nil=>unfold bgE at hb; rw [hd] at hb; cases hb
  | cons x l=>rw [begins_cons hp hd]; exact starts_len (s:={ s with wishes:=x::l }) h _
theorem nil_same (x:AV) (hx:ren (phi (nilK+41)) x=x):SameV isNil (.tup [.nils,x]) (ren (phi (nilK+41)) (.tup [.sl 41,x])):=fun E hz=>by
  have e:ren (phi (nilK+41)) (.tup [.sl 41,x]) = .tup [.sl (nilK+41),x]:=by
    show AV.tup [.sl (nilK+41),ren _ x]=_
    rw [hx]
  rw [e]
  show Value.tuple #[.slice none 0 0,den E x]=Value.tuple #[.slice (E.hdr (nilK+41)).1 (E.hdr (nilK+41)).2.1 (E.hdr (nilK+41)).2.2,den E x]
  rw [(hz (nilK+41) rfl).1]
theorem wu_std (d:Dat) (x:Inc) (hx:0≤x.osd) (hg:MGood d):StdN Try.prog 6 2 [(0,.own 2 MonR d 1),(1,.tok)] (woT.vals ⟨[[],incNm x],[.own d,.tok]⟩) 43 (instH lsH (lsO (d.wish x).1)) (.tup [.sl 41,.int .i64 (.sym (bif d.wishB x then 0 else 210))]):=by
  obtain ⟨h1,h2,h3,h4,h5,h6,h7⟩:=hg
  have hg:MGood d:=⟨h1,h2,h3,h4,h5,h6,h7⟩
  have hgw:=mgood_begins (mgood_wish hg (x:=x) hx)
  have av:∀ E E':Env,E'.blk 0=E.blk 0→BJ E' (woT.vals ⟨[[],incNm x],[.own d,.tok]⟩)=BJ E (woT.vals ⟨[[],incNm x],[.own d,.tok]⟩):=fun E E' h=>by
    show [Value.pointer _,_]=[Value.pointer _,_]
    rw [h]
    rfl
  cases hb:d.wishB x with
  | false =>
    have hw:d.wish x=((d,[]),false):=by unfold Aj.wish; rw [hb]
    rw [hw]
    cases hp:d.prop with
    | none=>exact ls_nil (d:=d) rfl (nil_same _ rfl) (mon_own0 (rest:=[]) (v:=resV (woR.vals ⟨[[.u],[.i 210]],[]⟩)) (fun hd=>instH beH0 (mn0 hd d)) hp av (fun _ _ _ _=>rfl) (by decide:10≤40) (fun _ h=>by cases h) (fun _=>rfl) (by decide) rfl (fun _ h=>by cases h) (fun _=>noRo_list rfl) (fun _ _ _ _ q=>⟨hg,.inl ⟨hp,_,pk_post0 q⟩⟩) fun hd=>by rw [List.append_nil]; exact wi0_no hd d x hb)
    | some p=>exact ls_nil (d:=d) rfl (nil_same _ rfl) (mon_own1 (rest:=[]) (v:=resV (woR.vals ⟨[[.u],[.i 210]],[]⟩)) (fun hd=>instH beH1 (mn1 hd d p)) hp av (fun _ _ _ _=>rfl) (by decide:19≤40) (fun _ h=>by cases h) (fun _=>rfl) (by decide) rfl (fun _ h=>by cases h) (fun _=>noRo_list rfl) (by decide) (fun _ _ _ _ q=>⟨hg,.inr ⟨p,hp,_,pk_post1 q⟩⟩) fun hd=>by rw [List.append_nil]; exact wi1_no hd d p x hb)
  | true =>
    have hw:(d.wish x).1=(wishW d x).begins:=by unfold Aj.wish; rw [hb]; rfl
    rw [hw]
    cases hp:d.prop with
    | some p =>
      have hn:(wishW d x).begins=((wishW d x).begins.1,[]):=by rw [begins_some (s:=wishW d x) hp]
      rw [hn]
      obtain ⟨q1,q2⟩:=begins_propP (s:=wishW d x) hp
      exact ls_nil (d:=(wishW d x).begins.1) rfl (nil_same _ rfl) (mon_own1 (d':=(wishW d x).begins.1) (rest:=[]) (v:=resV (woR.vals ⟨[[.u],[.i 0]],[]⟩)) (fun hd=>instH beH1 (mn1 hd (wishW d x).begins.1 (propD (wishW d x).begins.1))) hp av (fun _ _ _ _=>rfl) (by decide:19≤40) (fun _ h=>by cases h) (fun _=>rfl) (by decide) rfl (fun _ h=>by cases h) (fun _=>noRo_list rfl) (by decide) (fun _ _ _ _ q=>⟨hgw,.inr ⟨_,by rw [q2]; exact q1,_,pk_post1 q⟩⟩) fun hd=>by rw [List.append_nil]; exact wi1_N hd d p x hb h1 h4 h5 h2 hx h3 hp)
    | none =>
      cases hbg:bgE (wishW d x) with
      | true =>
        have hn:(wishW d x).begins=((wishW d x).begins.1,[]):=by rw [begins_nil (by unfold bgE at hbg; exact List.isEmpty_iff.1 hbg)]
        rw [hn]
        exact ls_nil (d:=(wishW d x).begins.1) rfl (nil_same _ rfl) (mon_own0 (d':=(wishW d x).begins.1) (rest:=[]) (v:=resV (woR.vals ⟨[[.u],[.i 0]],[]⟩)) (fun hd=>instH beH0 (mn0 hd (wishW d x).begins.1)) hp av (fun _ _ _ _=>rfl) (by decide:10≤40) (fun _ h=>by cases h) (fun _=>rfl) (by decide) rfl (fun _ h=>by cases h) (fun _=>noRo_list rfl) (fun _ _ _ _ q=>⟨hgw,.inl ⟨begins_prop hp hbg,_,pk_post0 q⟩⟩) fun hd=>by rw [List.append_nil]; exact wi0_N hd d x hb h1 h4 h5 h2 hx h3 hp hbg)
      | false =>
        have hl:=begins_len (s:=wishW d x) h1 hp hbg
        refine ls_go (r:=(wishW d x).begins) (k:=15) (len:=.lit 2) (v:=resV (woN.vals ⟨[[.u],[.i 0]],[]⟩)) rfl (by rw [hl]; rfl) rfl rfl (fun _ _=>rfl) (fun _ _=>⟨rfl,rfl,rfl,rfl⟩) (mon_own0 (d':=(wishW d x).begins.1) (rest:=[(15,.lst (.lit 2) 131 (AH msgR (rowM (wishW d x).begins.2)) (some 16)),(16,.tok)]) (v:=resV (woN.vals ⟨[[.u],[.i 0]],[]⟩)) (fun hd=>instH nwH (mn1 hd (wishW d x).begins.1 (propD (wishW d x).begins.1))) hp av
          (fun _ _ _ h=>by show Value.tuple _=Value.tuple _; exact congrArg (fun x:Value=>Value.tuple #[x,_]) (by show Value.slice _ _ _=Value.slice _ _ _; rw [(h 15 (by decide) (by decide)).2])) (by decide:17≤40)
          (List.forall_mem_cons.2 ⟨⟨by decide,by decide,fun i=>⟨rfl,rfl⟩⟩,List.forall_mem_cons.2 ⟨(by decide:7≤16),fun _ h=>by cases h⟩⟩) (fun _=>rfl) (show 0 ∉ [15,16] by decide) rfl (List.forall_mem_cons.2 ⟨fun g e=>(by cases e; exact (show 16∈[15,16] by decide)),List.forall_mem_cons.2 ⟨fun g e=>(by cases e),fun _ h=>by cases h⟩⟩) (fun _=>noRo_list rfl) (fun _ _ _ _ q=>⟨hgw,.inr ⟨_,begins_propS hp hbg,_,pk_new1 q⟩⟩) fun hd=>wi0_C hd d x hb h1 h4 h5 h2 hx h3 hp hbg)
theorem cWu_ok:Ak Try.prog 6 (Ab woT cWu):=ctr_ok fun e r h=>by
  obtain ⟨hm,h⟩:=As h
  cases h
  refine BO.pre (x':=⟨[[],incNm (incOf e 1)],[.own (e.dt 0),.tok]⟩) clP (std_mgood (k:=0) (g:=1) rfl rfl fun hg=>?_)
  exact wu_std (e.dt 0) (incOf e 1) (of_decide_eq_true hm) hg
end Go.Proofs.Ytddmgdclmkgpeaa
set_option linter.unusedSimpArgs false
set_option linter.unusedVariables false
namespace Go.Proofs.Ytddmgdclmkgpeaa
open Go.Eng Go.RowKit Go.ChangeShapes Go.WideShapes
set_option maxRecDepth 100000
def byH:List (Nat×TO):=[(0,.ob 2 MonR 40),(40,.tok),(41,.lst none [.i .u8] (some 42)),(42,.tok)]
def byO (d:Dat) (l:List Int):List ON:=[.own d,.tok,.lst l.length (AQ l),.tok]
def bwR:TS:=⟨[],[.one (.sl 41)],byH,43⟩
def cSw (e:EN):Ah (TS×EN):=.defE (svN e) fun r=>.leaf (bwR,⟨[[.u]],[.own (e.dt 0),.tok,.lst (r.ln 0) (r.rw 0),.tok]⟩)
def lwR:TS:=⟨[],[.one (.ptr 1 0),.one (.i .i64)],[(1,.ob 2 MonR 40),(40,.tok)],41⟩
def mnwN (e:EN):EN:=⟨[],[.own (Aj.new (e.ai 0 0))]⟩
def cMw2 (e:EN):Ah (TS×EN):=.must (decide (0≤e.ai 0 0)) (.defE (mnwN e) fun r=>.leaf (noR,⟨[[.u]],[.own (r.dt 0),.tok]⟩))
open Classical in
noncomputable def loadB (l:List Int):Bool:=decide (∃ s,MOk s∧l=saveL s)
noncomputable def lwN (e:EN):EN:=⟨[[.b (loadB (Aw (e.ln 0) (e.rw 0)))]],[.own (loadS (Aw (e.ln 0) (e.rw 0)))]⟩
noncomputable def cLw (e:EN):Ah (TS×EN):=.defE (lwN e) fun r=>.must (r.ab 0 0) (.leaf (lwR,⟨[[.u],[.i 0]],[.own (r.dt 0),.tok]⟩))
theorem resetBy {k : Nat} {d : Dat} {n : Nat} {r : Nat → List Num} {h : List (Nat × Ag)} (hd : distB [0, 40, k, k + 1] = true) (h0 : AK (Aa h) 0 = some (.own 2 MonR d 40)) (h1 : AK (Aa h) 40 = some .tok)
    (h2:(∃ len rows,AK (Aa h) k=some (.lst len 1 rows (some (k+1)))∧len.v=(n:Int)∧(∀ i,rows i=AH [.i .u8] r i)∧AK (Aa h) (k+1)=some .tok∧isNil (k+1)=false)∨(n=0∧isNil k=true∧isNil (k+1)=true)) :
    ResetH isNil (· < 43) (phi k) (Aa h) (Aa (instH byH [.own d,.tok,.lst n r,.tok])):=by
  refine ⟨fun j o hj=>?_,fun j j' o o' hj hj' e=>?_⟩
  · have hj:=BP hj
    rcases List.mem_cons.1 hj with e | hj
    · cases e
      exact ⟨by decide,.inl ⟨_,h0,rfl,rfl,rfl,rfl,(by decide:(40:Nat)<43),rfl⟩⟩
    · rcases List.mem_cons.1 hj with e | hj
      · cases e
        exact ⟨by decide,.inl ⟨_,h1,trivial⟩⟩
      · rcases List.mem_cons.1 hj with e | hj
        · cases e
          refine ⟨by decide,?_⟩
          rcases h2 with ⟨len,rows,g1,g2,g3,g4,g5⟩ | ⟨g1,g2,g3⟩
          · refine .inl ⟨_,g1,g2,rfl,rfl,fun x hx=>(by cases hx; exact ⟨(by decide:(42:Nat)<43),g5⟩),fun i _=>?_⟩
            rw [g3]
            exact ⟨rfl,rfl,fun _ _=>rfl,Ax rfl⟩
          · refine .inr ⟨g2,?_,fun x hx=>(by cases hx; exact (by decide:(42:Nat)<43))⟩
            show ((n:Nat):Int)=0
            rw [g1]
            rfl
        · have e:=List.mem_singleton.1 hj
          cases e
          refine ⟨by decide,?_⟩
          rcases h2 with ⟨len,rows,g1,g2,g3,g4,g5⟩ | ⟨g1,g2,g3⟩
          · exact .inl ⟨_,g4,trivial⟩
          · exact .inr ⟨g3,trivial⟩
  · have d0:distB ((instH byH [.own d,.tok,.lst n r,.tok]).map fun p=>phi k p.1)=true:=hd
    exact congrArg (·.1) (distB_inj d0 (j,o) (BP hj) (j',o') (BP hj') e)
theorem by_go {f : FuncId} {l : List (Nat × Ag)} {args : List AV} {d : Dat} {b : List Int} {k : Nat} {v v2 : AV} (hd : distB [0, 40, k, k + 1] = true) (hk : isNil (k + 1) = false) (hkv : (keysOf v).all (Nat.blt · 41) = true) (hv : SameV isNil v (ren (phi k) v2))
    (h0:∀ o1 o2,AK (Aa [(0,.own 2 MonR d 40),(40,.tok),(k,o1),(k+1,o2)]) 0=some (.own 2 MonR d 40)∧AK (Aa [(0,.own 2 MonR d 40),(40,.tok),(k,o1),(k+1,o2)]) 40=some .tok∧AK (Aa [(0,.own 2 MonR d 40),(40,.tok),(k,o1),(k+1,o2)]) k=some o1∧AK (Aa [(0,.own 2 MonR d 40),(40,.tok),(k,o1),(k+1,o2)]) (k+1)=some o2)
    (H:StdN Try.prog f 2 l args 41 [(0,.own 2 MonR d 40),(40,.tok),(k,.lst (.sym (b.length:Int)) 1 (AH [.i .u8] (AQ b)) (some (k+1))),(k+1,.tok)] v) :
    StdN Try.prog f 2 l args 43 (instH byH (byO d b)) v2:=by
  obtain ⟨g0,g1,g2,g3⟩:=h0 (.lst (.sym (b.length:Int)) 1 (AH [.i .u8] (AQ b)) (some (k+1))) .tok
  exact StdN.retell (phi k) H (by decide) (by decide) (phi_id _) hkv (resetBy hd g0 g1 (.inl ⟨_,_,g2,rfl,fun _=>rfl,g3,hk⟩)) hv
theorem sw_std (d:Dat) (hg:MGood d):StdN Try.prog 11 2 [(0,.own 2 MonR d 1),(1,.tok)] (ioT.vals ⟨[[]],[.own d,.tok]⟩) 43 (instH byH (byO d (saveL d))) (.sl 41):=by
  have av:∀ E E':Env,E'.blk 0=E.blk 0→BJ E' (ioT.vals ⟨[[]],[.own d,.tok]⟩)=BJ E (ioT.vals ⟨[[]],[.own d,.tok]⟩):=fun E E' h=>by
    show [Value.pointer _]=[Value.pointer _]
    rw [h]
  cases hp:d.prop with
  | none =>
    refine by_go (k:=10) (v:=.sl 10) rfl rfl rfl (fun _ _=>rfl) (fun _ _=>⟨rfl,rfl,rfl,rfl⟩) ?_
    exact mon_own0 (rest:=[(10,.lst (.sym ((saveL d).length:Int)) 1 (AH [.i .u8] (AQ (saveL d))) (some 11)),(11,.tok)]) (v:=resV (soR0.vals ⟨[[.u]],[]⟩)) (fun hd=>instH beH0 (mn0 hd d)) hp av
      (fun _ _ _ h=>by show Value.slice _ _ _=Value.slice _ _ _; rw [(h 10 (by decide) (by decide)).2]) (by decide:12≤40)
      (List.forall_mem_cons.2 ⟨⟨by decide,by decide,fun i=>⟨rfl,rfl⟩⟩,List.forall_mem_cons.2 ⟨(by decide:7≤11),fun _ h=>by cases h⟩⟩) (fun _=>rfl) (show 0 ∉ [10,11] by decide) rfl (List.forall_mem_cons.2 ⟨fun g e=>(by cases e; exact (show 11∈[10,11] by decide)),List.forall_mem_cons.2 ⟨fun g e=>(by cases e),fun _ h=>by cases h⟩⟩) (fun _=>noRo_list rfl) (fun _ _ _ _ q=>⟨hg,.inl ⟨hp,_,pk_post0 q⟩⟩) fun hd=>std_good (k:=1) (g:=2) rfl rfl fun hgi=>sv_std0 hd d hgi
  | some p =>
    refine by_go (k:=19) (v:=.sl 19) rfl rfl rfl (fun _ _=>rfl) (fun _ _=>⟨rfl,rfl,rfl,rfl⟩) ?_
    exact mon_own1 (rest:=[(19,.lst (.sym ((saveL d).length:Int)) 1 (AH [.i .u8] (AQ (saveL d))) (some 20)),(20,.tok)]) (v:=resV (soR1.vals ⟨[[.u]],[]⟩)) (fun hd=>instH beH1 (mn1 hd d p)) hp av
      (fun _ _ _ h=>by show Value.slice _ _ _=Value.slice _ _ _; rw [(h 19 (by decide) (by decide)).2]) (by decide:21≤40)
      (List.forall_mem_cons.2 ⟨⟨by decide,by decide,fun i=>⟨rfl,rfl⟩⟩,List.forall_mem_cons.2 ⟨(by decide:12≤20),fun _ h=>by cases h⟩⟩) (fun _=>rfl) (show 0 ∉ [19,20] by decide) rfl (List.forall_mem_cons.2 ⟨fun g e=>(by cases e; exact (show 20∈[19,20] by decide)),List.forall_mem_cons.2 ⟨fun g e=>(by cases e),fun _ h=>by cases h⟩⟩) (fun _=>noRo_list rfl) (by decide) (fun _ _ _ _ q=>⟨hg,.inr ⟨p,hp,_,pk_post1 q⟩⟩) fun hd=>std_good (k:=1) (g:=2) rfl rfl fun hgi=>sv_std1 hd d p hgi
theorem cSw_ok:Ak Try.prog 11 (Ab ioT cSw):=ctr_ok fun e r h=>by
  cases h
  refine BO.pre (x':=⟨[[]],[.own (e.dt 0),.tok]⟩) clP (std_mgood (k:=0) (g:=1) rfl rfl fun hg=>?_)
  exact sw_std (e.dt 0) hg
theorem cMw2_ok:Ak Try.prog 5 (Ab mwT cMw2):=ctr_ok fun e r h=>by
  obtain ⟨hm,h⟩:=As h
  have hx:=of_decide_eq_true hm
  cases h
  refine BO.pre (x':=⟨[[.i (e.ai 0 0)]],[]⟩) clP ?_
  have H:=StdN.wide (m2:=40) (by decide:7≤40) (mw_std (e.ai 0 0))
  exact StdN.conceal (hp:=instH mp0 (mn0 default (Aj.new (e.ai 0 0)))) (rest:=[]) (by rw [List.append_nil]; exact H) (by decide) rfl (by decide) (fun h=>by cases h) rfl (fun _ h=>by cases h) (noRo_list rfl) (fun _ _ _ q=>⟨mgood_new hx,.inl ⟨rfl,_,pk_same0 q⟩⟩)
theorem loadB_iff {l:List Int} : loadB l=true↔∃ s,MOk s∧l=saveL s:=by
  unfold loadB
  exact @decide_eq_true_iff _ (Classical.propDecidable _)
theorem loadB_save {s:Aj} (h:MOk s):loadB (saveL s)=true:=loadB_iff.2 ⟨s,h,rfl⟩
theorem cLw_ok:Ak Try.prog 10 (Ab ldT cLw):=ctr_ok fun e r h=>by
  have h:(Ah.must (loadB (Aw (e.ln 0) (e.rw 0))) (.leaf (lwR,(⟨[[.u],[.i 0]],[.own (loadS (Aw (e.ln 0) (e.rw 0))),.tok]⟩:EN)))).sel=some r:=h
  obtain ⟨hm,h⟩:=As h
  cases h
  obtain ⟨s,hs,hl⟩:=loadB_iff.1 hm
  have hn:e.ln 0=(saveL s).length:=by rw [← hl,Ar]
  have hr:∀ i:Nat,(i:Int)<((saveL s).length:Int)→eqvL [.i .u8] (e.rw 0 i) (AQ (saveL s) i):=fun i hi=>by
    rw [← hl]
    exact rowI_eqv (by omega)
  refine BO.pre (t:=ldT) (x':=⟨[[]],[.lst (saveL s).length (AQ (saveL s))]⟩) ⟨⟨trivial,trivial⟩,⟨hn,hr⟩,trivial⟩ ?_
  rw [hl,loadS_save hs]
  have H:=lo_std s hs
  exact StdN.retell id H (by decide) (by decide) (fun _ _=>rfl) rfl ⟨fun j o hj=>by
    have hj:=BP hj
    rcases List.mem_cons.1 hj with e | hj
    · cases e
      exact ⟨(by decide:(1:Nat)<41),.inl ⟨_,rfl,rfl,rfl,rfl,rfl,(by decide:(40:Nat)<41),rfl⟩⟩
    · cases List.mem_singleton.1 hj
      exact ⟨(by decide:(40:Nat)<41),.inl ⟨_,rfl,trivial⟩⟩,fun _ _ _ _ _ _ e=>e⟩ (fun _ _=>rfl)
end Go.Proofs.Ytddmgdclmkgpeaa
set_option linter.unusedSimpArgs false
set_option linter.unusedVariables false
namespace Go.Proofs.Ytddmgdclmkgpeaa
open Go.Eng Go.RowKit Go.ChangeShapes Go.WideShapes
set_option maxRecDepth 100000
noncomputable def laSm:List (FuncId×Summ):=[(5,Ab mwT cMw2),(6,Ab woT cWu),(11,Ab ioT cSw),(10,Ab ldT cLw),(12,rdSumm 2 MonR noA prmN prmV),(7,rdSumm 2 MonR noA idN idV),(8,hsSumm),(9,rdSumm 5 HistI noA laN laV),(25,rdSumm 5 HistI u32A icN icV),(54,rdSumm 5 HistI u32A mpN mpV)]
noncomputable def laTb:Tab:=smTab (tabOf laSm)
theorem laSm_ok:AllOk Try.prog laSm:=⟨cMw2_ok,cWu_ok,cSw_ok,cLw_ok,cPrI_ok,cIdI_ok,hsSumm_ok,cLaI_ok,cHiI_ok,cHmI_ok,trivial⟩
theorem laTab:TabAll Try.prog laTb:=tab_ok laSm_ok
theorem kn_t  : callW Try.prog (Am Try.prog laTb 300) 4 [] [] 0 (outV 0 boolR) =
  .defE ⟨[[.i 0]],[]⟩ fun e0=>.must (decide (0≤e0.ai 0 0)) (.defE (mnwN e0) fun e1=>.must (BH MonR MonR) (.defE ⟨[[.u],[.i 2,.i 2,.i 0]],[.own (e1.dt 0),.tok]⟩ fun e2=>.must (decide (0≤e2.ai 1 1)) (.defE
  (wuN e2) fun e3=>.defI (e3.ai 0 0) fun z4=>.defI ((e3.ln 1):Int) fun z5=>.must (BH MonR MonR) (.defE ⟨[[.u],[.i 0,.i 0,.i 0]],[.own (e3.dt 0),.tok]⟩ fun e6=>.must (decide (0≤e6.ai 1 1)) (.defE (wuN
  e6) fun e7=>.defI (e7.ai 0 0) fun z8=>.defI ((e7.ln 1):Int) fun z9=>.must (BH MonR MonR) (.defE ⟨[[.u]],[.own (e7.dt 0),.tok]⟩ fun e10=>.defE (svN e10) fun e11=>.defI ((e11.ln 0):Int) fun z12=>.must
  (AW [.i .u8] ((AH [.i .u8] (e11.rw 0))) z12.toNat) (.defE ⟨[[.u]],[.lst z12.toNat (AG [.i .u8] (AH [.i .u8] (e11.rw 0)))]⟩ fun e13=>.defE (lwN e13) fun e14=>.must (e14.ab 0 0) (.defI 0 fun z15=>.ite
  (z4==0) (.ite (z5==2) (.must (decide ((0:Int)≤0∧(0:Int)<z5)) (.must (decide ((0:Int)≤0∧(0:Int)<z5)) (.defI (hdN (e3.rw 1 0)).I fun z16=>.ite (z16==1) (.must (decide ((0:Int)≤1∧(1:Int)
  < z5)) (.must (decide ((0:Int)≤1∧(1:Int)<z5)) (.defI (hdN (tlN (tlN (e3.rw 1 1)))).I fun z17=>.ite (z17==2) (.ite (z8==210) (.ite (z15==0) (.must (BH MonR MonR) (.defE ⟨[],[.own (e14.dt 0)]⟩ fun e18
  => .defE (prmN e18) fun e19=>.defI (e19.ai 0 0) fun z20=>.defI (e19.ai 0 1) fun z21=>.must (BH MonR MonR) (.defE ⟨[],[.own (e10.dt 0)]⟩ fun e22=>.defE (prmN e22) fun e23=>.defI (e23.ai 0 0) fun z24=>.defI
  (e23.ai 0 1) fun z25=>.ite (z20==z24&&z21==z25) (.must (BH MonR MonR) (.defE ⟨[],[.own (e10.dt 0)]⟩ fun e26=>.defE (idN e26) fun e27=>.ite (!e27.ab 0 0) (.must (BH MonR MonR) (.defE ⟨[],[.own (e14.dt
  0)]⟩ fun e28=>.defE (idN e28) fun e29=>.leaf ⟨[[.b (e29.ab 0 0)]],[]⟩)) (.leaf ⟨[[.b false]],[]⟩))) (.leaf ⟨[[.b false]],[]⟩)))) (.leaf ⟨[[.b false]],[]⟩)) (.leaf ⟨[[.b false]],[]⟩)) (.leaf ⟨[[.b false]],
  []⟩)))) (.leaf ⟨[[.b false]],[]⟩)))) (.leaf ⟨[[.b false]],[]⟩)) (.leaf ⟨[[.b false]],[]⟩))))))))):=by kernel_rfl
theorem starts_incs (s:Aj) (p:BA):(s.starts p).1.incs=s.incs∧(s.starts p).1.id=s.id:=by
  unfold Aj.starts
  dsimp only
  split
  all_goals exact ⟨rfl,rfl⟩
theorem begins_incs (s:Aj):s.begins.1.incs=s.incs∧s.begins.1.id=s.id:=by
  unfold Aj.begins
  split
  · exact ⟨rfl,rfl⟩
  · exact ⟨rfl,rfl⟩
  · rename_i w ws _ _
    exact starts_incs { s with wishes:=w::ws } _
theorem mok_begins {s:Aj} (h:MOk s):MOk s.begins.1:=⟨mgood_begins h.1,by rw [(begins_incs s).1]; exact h.2⟩
theorem mok_wish {s:Aj} (h:MOk s) {x:Inc} (hx:0≤x.osd):MOk (s.wish x).1.1:=by
  unfold Aj.wish
  split
  · exact h
  · exact mok_begins (s:={ s with wishes:=s.wishes++[x] }) ⟨mgood_wish h.1 hx,h.2⟩
theorem mok_new {n:Int} (h:0≤n):MOk (Aj.new n):=⟨mgood_new h,(by decide:(0:Nat)≤59),fun x hx=>by cases hx⟩
theorem lst_rt {k:IntKind} (l:List Int):Aw l.length (AG [.i k] (AH [.i k] (AQ l)))=l:=lstI_rows rfl fun i _=>(AF (row:=[.i k]) rfl (AQ l) i).1
theorem lw_save {d:Aj} (hs:MOk d) {n:Int} {r:Nat→List Num} (hn:n=((saveL d).length:Int)) (hr:r=AG [.i .u8] (AH [.i .u8] (AQ (saveL d)))):lwN ⟨[[.u]],[.lst n.toNat r]⟩=⟨[[.b true]],[.own d.again]⟩:=by
  subst hn hr
  have e:Aw (EN.ln ⟨[[.u]],[.lst (((saveL d).length:Nat):Int).toNat (AG [.i .u8] (AH [.i .u8] (AQ (saveL d))))]⟩ 0) (EN.rw ⟨[[.u]],[.lst (((saveL d).length:Nat):Int).toNat (AG [.i .u8] (AH [.i .u8] (AQ (saveL d))))]⟩ 0)=saveL d:=lst_rt (k:=.u8) (saveL d)
  unfold lwN
  rw [e,loadB_save hs,loadS_save hs]
def kn1:Aj:=((Aj.new 0).wish ⟨2,2,0⟩).1.1
def kn2:Aj:=(kn1.wish ⟨0,0,0⟩).1.1
theorem kn_ok:MOk kn2:=mok_wish (mok_wish (mok_new (Int.le_refl 0)) (by decide)) (by decide)
theorem kn_std:BO Try.prog 4 nilT ⟨[],[]⟩ boolR ⟨[[.b true]],[]⟩:=by
  refine Aq laTab BE rfl (AN kn_t ?_)
  refine AJ (AA rfl (AJ (AA (AS _) (AJ (AA rfl (AJ (AB (AB (AA (AS _) (AJ (AA rfl (AJ (AB (AB (AA (AS _) (AJ (AJ (AB (AA (AP _ _ _) (AJ (Ao fun e14 h14=>?_)))))))))))))))))))))
  have h14:=h14.trans (lw_save (d:=kn2) kn_ok rfl rfl)
  subst h14
  repeat' first
    | refine AJ ?_
    | refine AB ?_
    | refine AA (AS _) ?_
    | refine AA (by kernel_rfl) ?_
    | refine AU (by kernel_rfl) ?_
  refine AE ⟨⟨?_,trivial⟩,trivial⟩
  show Num.B _=_
  kernel_rfl
def cKn (_:EN):Ah (TS×EN):=.leaf (boolR,⟨[[.b true]],[]⟩)
theorem cKn_ok:Ak Try.prog 4 (ctrSumm0 nilT cKn):=ctr0_ok fun e r h=>by
  cases h
  exact BO.pre (x':=⟨[],[]⟩) ⟨trivial,trivial⟩ kn_std
end Go.Proofs.Ytddmgdclmkgpeaa
set_option linter.unusedSimpArgs false
set_option linter.unusedVariables false
namespace Go.Proofs.Ytddmgdclmkgpeaa
open Go.Eng Go.RowKit Go.ChangeShapes Go.WideShapes
set_option maxRecDepth 100000
noncomputable def lvSm:List (FuncId×Summ):=(4,ctrSumm0 nilT cKn)::laSm
noncomputable def lvTb:Tab:=smTab (tabOf lvSm)
theorem lvSm_ok:AllOk Try.prog lvSm:=⟨cKn_ok,laSm_ok⟩
theorem lvTab:TabAll Try.prog lvTb:=tab_ok lvSm_ok
noncomputable abbrev qLv1 (v0:EN):Ah (AV):=.must (decide (0≤v0.ai 1 1)) (.defE (wuN v0) fun e14=>.defI (e14.ai 0 0) fun z15=>.defI ((e14.ln 1):Int) fun z16=>.ite (z15==0) (.ite (z16==0) (.must (BH MonR MonR) (.defE ⟨[],[.own (e14.dt 0)]⟩ fun e17=>.defE (idN e17) fun e18=>.ite (e18.ab 0 0) (.must (BH MonR MonR) (.defE ⟨[],[.own (e14.dt 0)]⟩ fun e19=>.must (BH HistI HistI) (.defE ⟨[],[.own (e19.dt 0)]⟩ fun e20=>.defE (laN e20) fun e21=>.defI (e21.ai 0 0) fun z22=>.leaf (.bool (.sym (z22==1)))))) (.leaf (.bool (.lit false))))) (.leaf (.bool (.lit false)))) (.leaf (.bool (.lit false))))
theorem vo_t (who osd:Int) (none:Bool):runV Try.prog lvTb 300 3 [.int .u8 (.sym who),.int .u8 (.sym osd),.bool (.sym none)] =

  .ite false (.leaf (.bool (.lit false))) (.defE ⟨[[.i who]],[]⟩ fun e0=>.must (decide (0≤e0.ai 0 0)) (.defE (mnwN e0) fun e1=>.defI (osd.tmod 5) fun z2=>.ite none (.must (BH MonR MonR) (.defE ⟨[[.u],[.i 4,.i 0,.i 0]],[.own (e1.dt 0),.tok]⟩ fun e3=>qLv1 e3)) (.must (BH MonR MonR) (.defE ⟨[[.u],[.i 1,.i z2,.i 0]],[.own (e1.dt 0),.tok]⟩ fun e13=>qLv1 e13)))):=by kernel_rfl
theorem wuN_of {d:Aj} {x:Inc} {r:Aj×List MMsg} {b:Bool} (h:d.wish x=(r,b)) (hb:d.wishB x=b):wuN ⟨[[.u],incNm x],[.own d,.tok]⟩=⟨[[.i (bif b then 0 else 210)]],[.own r.1,.lst r.2.length (rowM r.2)]⟩:=by
  have e:wuN ⟨[[.u],incNm x],[.own d,.tok]⟩=⟨[[.i (bif d.wishB x then 0 else 210)]],[.own (d.wish x).1.1,.lst (d.wish x).1.2.length (rowM (d.wish x).1.2)]⟩:=rfl
  rw [e,h,hb]
theorem void_wish (w:Int) {x:Inc} (hx:incOk x=true) (hc:(Aj.new w).changes x=false):(Aj.new w).wish x=((Aj.new w,[]),true)∧(Aj.new w).wishB x=true:=by
  have hb:(Aj.new w).wishB x=true:=by
    unfold Aj.wishB
    rw [hx]
    rfl
  have hd:dropW (wishW (Aj.new w) x) (wishW (Aj.new w) x).wishes=[]:=by
    show List.dropWhile (fun y=>!((wishW (Aj.new w) x).changes y)) [x]=[]
    have hc:(wishW (Aj.new w) x).changes x=false:=hc
    rw [List.dropWhile_cons,hc]
    rfl
  refine ⟨?_,hb⟩
  have e:(Aj.new w).wish x=((wishW (Aj.new w) x).begins,true):=by
    unfold Aj.wish
    rw [hb]
    rfl
  rw [e,begins_nil hd]
  rfl
theorem vo_end (who : Int) (hw : 0 ≤ who) {x : Inc} (hx : incOk x = true) (ho : 0 ≤ x.osd) (hc : (Aj.new who).changes x = false) {K : EN → Ah AV} (hK : (K ⟨[[.i 0]], [.own (Aj.new who), .lst 0 (rowM [])]⟩).Holds GoodV) :
    (Ah.must (BH MonR MonR) (.defE ⟨[[.u],incNm x],[.own ((mnwN ⟨[[.i who]],[]⟩).dt 0),.tok]⟩ fun e3=>.must (decide (0≤e3.ai 1 1)) (.defE (wuN e3) K))).Holds GoodV:=by
  obtain ⟨h1,h2⟩:=void_wish who hx hc
  refine AA (AS _) (AJ (AA (decide_eq_true ho) (Ao fun e h=>?_)))
  have h:=h.trans (wuN_of h1 h2)
  subst h
  exact hK
theorem vo_good (who osd:Int) (none:Bool) (hw:0≤who) (ho:0≤osd):(runV Try.prog lvTb 300 3 [.int .u8 (.sym who),.int .u8 (.sym osd),.bool (.sym none)]).Holds GoodV:=by
  refine AN (vo_t who osd none) (AZ rfl (AJ (AA (decide_eq_true hw) (AJ (Ac fun z2 h2=>AM (fun _=>?_) (fun _=>?_))))))
  · refine vo_end who hw (x:=⟨4,0,0⟩) rfl (Int.le_refl 0) rfl ?_
    refine AB (AB (AU rfl (AU rfl (AA (AS _) (AJ (AJ (AU rfl (AA (AS _) (AJ (AA (AS _) (AJ (AJ (AB (good_sym rfl))))))))))))))
  · have hz : 0 ≤ z2 ∧ z2 < 5 := by
      rw [h2]
      exact tmod_in 5 ho (by decide)
    have hi:incOk ⟨1,z2,0⟩=true:=by
      show (decide (z2<5)&&true)=true
      rw [decide_eq_true hz.2]
      rfl
    refine vo_end who hw (x:=⟨1,z2,0⟩) hi hz.1 (by show (incOk ⟨1,z2,0⟩&&_)=false; rw [hi]; rfl) ?_
    refine AB (AB (AU rfl (AU rfl (AA (AS _) (AJ (AJ (AU rfl (AA (AS _) (AJ (AA (AS _) (AJ (AJ (AB (good_sym rfl))))))))))))))
set_option maxRecDepth 100000 in
theorem vo_lifted (os : Os) (started : os.Started) (H : Type) (enc : TypeId × Value → H) :
    ReturnsInHanded {} Try.checked os 3 .any (Rows.monVoidSpec.pre6 enc Try.prog Try.f3 Rows.monVoidRow.domain false) (Rows.monVoidSpec.post enc Try.prog Try.f3 false true false false):=by
  refine law_lifted (C:=Try.checked) Try.own started (by kernel_rfl) Try.func3
    (ChangeSpec.witness6 (enc:=enc) (C:=Try.checked) false ⟨#[],#[.int .u8 0,.int .u8 0,.bool false],[]⟩ 8 (by kernel_rfl) (by kernel_rfl) (by kernel_rfl) (by kernel_rfl))
    Try.laidOut ?_ (B:=4) (by kernel_rfl) (by kernel_rfl) rfl ?_ ?_
  · intro t ht
    rw [Try.params3] at ht
    have:t=5∨t=4:=by
      simp at ht
      first | exact ht | omega | (rcases ht with h | h | h <;> simp [h]) | grind
    rcases this with rfl | rfl <;> exact ⟨by kernel_rfl,of_decide_eq_true (by kernel_rfl)⟩
  · intro ds h
    rw [Try.params3] at h
    match ds,h with
    | [d1,d2,d3],_=>rfl
  · intro W base args ds p hval hA hlt
    rw [Try.params3] at hA hval
    obtain ⟨v0,v1,v2,d0,d1,d2,p0,p1,p2,rfl,rfl,rfl,h0,h1,h2⟩:=trodAll_three hA
    obtain ⟨who,rfl,_,_,w1⟩:=open_int Try.underlying5 (hval 0 5 v0 rfl rfl) h0
    obtain ⟨osd,rfl,_,_,w2⟩:=open_int Try.underlying5 (hval 1 5 v1 rfl rfl) h1
    obtain ⟨b,rfl,_,_⟩:=open_bool Try.underlying4 (hval 2 4 v2 rfl rfl) h2
    exact law_c lvTab BE (vo_good who osd b (wf_u8 w1).1 (wf_u8 w2).1) W fun E=>rfl
theorem monVoid_holds:Rows.MonVoidSaid :=
  OpenClaim.holds_of_wide 3 Try.f3 rfl rfl rfl rfl rfl rfl rfl ⟨rfl,rfl,rfl,rfl,rfl⟩ rfl rfl rfl rfl rfl (by kernel_rfl) Try.func3 (by kernel_rfl)
    (of_decide_eq_true (by kernel_rfl)) (by unfold Func.isWrapper; rw [if_neg (by decide +kernel)]; exact ⟨rfl,rfl⟩)
    (fun os started H enc _=>vo_lifted os started H enc)
end Go.Proofs.Ytddmgdclmkgpeaa
