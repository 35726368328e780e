/- Texts of this claim, laid together (part 10).
   Conditions: none. -/
import Derived.Test.YtddmgdclmkgpeaaGreatRows
import Derived.Test.YtddmgdclmkgpeaaGreatZki
set_option linter.unusedSimpArgs false
set_option linter.unusedVariables false
set_option linter.unusedSimpArgs false
set_option linter.unusedVariables false
namespace Go.Proofs.YtddmgdclmkgpeaaGreat
open Go.Eng Go.RowKit Go.ChangeShapes Go.WideShapes
set_option maxRecDepth 100000
theorem cHiI_ok:Ak Tryz.prog 22 (rdSumm 5 HistI u32A icN icV):=rdSumm_ok (fun _ _ _=>rfl) fun d rest a h blk fp w hr E=>by
  unfold u32A at h
  split at h
  · rename_i e
    cases h
    obtain ⟨fp',_,hr⟩:=hr
    obtain ⟨C,ty,E1,h1,_,h2,_,_,es,cl,h3,h4,h5⟩:=hist_cells hr
    refine (inc_walk blk (E1.blk 2) w e.v (bif hasI d.incs e.v then incK d.incs e.v else 0) (bif hasI d.incs e.v then incO d.incs e.v else 0) (bif hasI d.incs e.v then incZ d.incs e.v else 0) (hasI d.incs e.v) (cell_of ((alloc_get (lt_of_get h1)).trans h1) h2) ?_).mono ?_
    · rw [lookup_run (P:=Tryz.prog) (t:=136) (E:=E1) (k:=2) (base:=.lit 2) (len:=.sym (d.incs.length:Int)) (vals:=incA d.incs) (z:=.agg [.int .u8 (.lit 0),.int .u8 (.lit 0),.int .i64 (.lit 0)]) rfl rfl rfl ((alloc_get (lt_of_get h3)).trans h3) h4 h5 e true]
      congr 1
      have hv:(subL e (.lit 2)).v=e.v - 2:=by cases e <;> rfl
      by_cases hc:2≤e.v∧e.v<2+(d.incs.length:Int)
      · have hh:hasI d.incs e.v=true:=by unfold hasI; rw [decide_eq_true hc.1,decide_eq_true hc.2]; rfl
        rw [if_pos (show (SI.lit 2).v≤e.v∧e.v<(SI.lit 2).v+(SI.sym (d.incs.length:Int)).v from hc),hh]
        unfold atMap
        rw [hv]
        rfl
      · have hh : hasI d.incs e.v = false := by
          cases hq:hasI d.incs e.v with
          | false=>rfl
          | true =>
            unfold hasI at hq
            simp only [Bool.and_eq_true,decide_eq_true_eq] at hq
            exact absurd hq hc
        rw [if_neg (show ¬ ((SI.lit 2).v≤e.v∧e.v<(SI.lit 2).v+(SI.sym (d.incs.length:Int)).v) from hc),hh]
        rfl
    · rintro e w' ⟨rfl,hb⟩
      exact ⟨rfl,hb⟩
  · cases h
set_option maxHeartbeats 1000000 in
theorem cHmI_ok:Ak Tryz.prog 26 (rdSumm 5 HistI u32A mpN mpV):=rdSumm_ok (fun _ _ _=>rfl) fun d rest a h blk fp w hr E=>by
  unfold u32A at h
  split at h
  · rename_i e
    cases h
    obtain ⟨fp',_,hr⟩:=hr
    obtain ⟨C,ty,E1,h1,h2,_,_,⟨es,cl,h3,h4,h5⟩,_⟩:=hist_cells hr
    refine (map_walk blk (E1.blk 1) w e.v (bif hasM d.incs e.v then e.v else 0) (bif hasM d.incs e.v then upM d.incs e.v 0 else false) (bif hasM d.incs e.v then wM d.incs e.v 0 else 0) (bif hasM d.incs e.v then hM 0 else 0) (bif hasM d.incs e.v then upM d.incs e.v 1 else false) (bif hasM d.incs e.v then wM d.incs e.v 1 else 0) (bif hasM d.incs e.v then hM 1 else 0) (bif hasM d.incs e.v then upM d.incs e.v 2 else false) (bif hasM d.incs e.v then wM d.incs e.v 2 else 0) (bif hasM d.incs e.v then hM 2 else 0) (bif hasM d.incs e.v then upM d.incs e.v 3 else false) (bif hasM d.incs e.v then wM d.incs e.v 3 else 0) (bif hasM d.incs e.v then hM 3 else 0) (bif hasM d.incs e.v then upM d.incs e.v 4 else false) (bif hasM d.incs e.v then wM d.incs e.v 4 else 0) (bif hasM d.incs e.v then hM 4 else 0) (hasM d.incs e.v) (cell_of ((alloc_get (lt_of_get h1)).trans h1) h2) ?_).mono ?_
    · rw [lookup_run (P:=Tryz.prog) (t:=135) (E:=E1) (k:=1) (base:=.lit 1) (len:=.sym ((d.incs.length:Int)+1)) (vals:=mapA d.incs) (z:=.agg [.int .u32 (.lit 0),.bool (.lit false),.int .i64 (.lit 0),.int .u8 (.lit 0),.bool (.lit false),.int .i64 (.lit 0),.int .u8 (.lit 0),.bool (.lit false),.int .i64 (.lit 0),.int .u8 (.lit 0),.bool (.lit false),.int .i64 (.lit 0),.int .u8 (.lit 0),.bool (.lit false),.int .i64 (.lit 0),.int .u8 (.lit 0)]) rfl rfl rfl ((alloc_get (lt_of_get h3)).trans h3) h4 h5 e true]
      congr 1
      have hv:(subL e (.lit 1)).v=e.v - 1:=by cases e <;> rfl
      by_cases hc:1≤e.v∧e.v<1+((d.incs.length:Int)+1)
      · have hh:hasM d.incs e.v=true:=by unfold hasM; rw [decide_eq_true hc.1,decide_eq_true hc.2]; rfl
        have hz:(((e.v - 1).toNat:Int)+1)=e.v:=by omega
        rw [if_pos (show (SI.lit 1).v≤e.v∧e.v<(SI.lit 1).v+(SI.sym ((d.incs.length:Int)+1)).v from hc),hh]
        unfold atMap
        rw [hv]
        unfold mapA
        rw [hz]
        rfl
      · have hh : hasM d.incs e.v = false := by
          cases hq:hasM d.incs e.v with
          | false=>rfl
          | true =>
            unfold hasM at hq
            simp only [Bool.and_eq_true,decide_eq_true_eq] at hq
            exact absurd hq hc
        rw [if_neg (show ¬ ((SI.lit 1).v≤e.v∧e.v<(SI.lit 1).v+(SI.sym ((d.incs.length:Int)+1)).v) from hc),hh]
        rfl
    · rintro e w' ⟨rfl,hb⟩
      exact ⟨rfl,hb⟩
  · cases h
theorem mon_cells {d : Dat} {blk : Nat} {fp : List Nat} {w : World} (h : MonR d blk fp w) : ∃ C ty, ∃ E : Env, ∃ AC tya pr, w.heap[blk]? = some (.cells C ty (0, 0)) ∧ C[1]? = some (.pointer (some ⟨E.blk 1, 0, none⟩)) ∧ C[2]? = some (.pointer (some ⟨E.blk 3, 0, none⟩)) ∧ C[3]? = some (.slice (E.hdr 4).1 (E.hdr 4).2.1 (E.hdr 4).2.2) ∧ (((E.hdr 4).2.1 : Nat) : Int) = d.wishes.length ∧
    C[4]? = some (.pointer pr)∧pr.isNone=d.prop.isNone∧w.heap[E.blk 3]? = some (.cells AC tya (0,0))∧AC[0]? = some (.int .u32 d.prom.n)∧AC[1]? = some (.int .u8 d.prom.who) ∧
    ∀ w':World,w.heap.size≤w'.heap.size→(∀ b,b∈fp→w'.heap[b]? = w.heap[b]?)→HistI d (E.blk 1) fp w':=by
  obtain ⟨_,⟨hp,hd,E,hU,hb,hf,_⟩ | ⟨p,hp,hd,E,hU,hb,hf,_⟩⟩:=h
  · obtain ⟨_,_,ty,h0⟩:=hU.here.obj 0 _ rfl
    obtain ⟨_,_,tya,h3⟩:=hU.here.obj 3 _ rfl
    have h4:=hU.here.obj 4 _ rfl
    have h1:=hU.here.obj 1 _ rfl
    rw [hb] at h0
    refine ⟨_,ty,E,_,tya,none,h0,rfl,rfl,rfl,h4.1,rfl,by rw [hp]; rfl,h3,rfl,rfl,fun w' hs ha=>?_⟩
    exact ⟨E.fp 2,fun b hb2=>hf 2 .tok b rfl hb2,h1 rfl w' hs fun b hb2=>ha b (hf 2 .tok b rfl hb2)⟩
  · obtain ⟨_,_,ty,h0⟩:=hU.here.obj 0 _ rfl
    obtain ⟨_,_,tya,h3⟩:=hU.here.obj 3 _ rfl
    have h4:=hU.here.obj 4 _ rfl
    have h1:=hU.here.obj 1 _ rfl
    rw [hb] at h0
    refine ⟨_,ty,E,_,tya,some ⟨E.blk 7,0,none⟩,h0,rfl,rfl,rfl,h4.1,rfl,by rw [hp]; rfl,h3,rfl,rfl,fun w' hs ha=>?_⟩
    exact ⟨E.fp 2,fun b hb2=>hf 2 .tok b rfl hb2,h1 rfl w' hs fun b hb2=>ha b (hf 2 .tok b rfl hb2)⟩
theorem cIdI_ok:Ak Tryz.prog 23 (rdSumm 2 MonR noA idN idV):=rdSumm_ok (fun _ _ _=>rfl) fun d rest a h blk fp w hr E=>by
  unfold noA at h
  split at h
  · cases h
    obtain ⟨C,ty,E1,AC,tya,pr,h1,_,_,h2,h3,h4,h5,_⟩:=mon_cells hr
    refine (idle_walk blk w pr _ _ _ (cell_of h1 h4) (cell_of h1 h2)).mono ?_
    rintro e w' ⟨rfl,rfl⟩
    refine ⟨?_,Below.refl _ _⟩
    show Ending.returned (Value.bool _)=Ending.returned (Value.bool d.idle)
    congr 2
    rw [h3,h5]
    unfold Al.idle
    have e1:d.prop.isNone = !d.prop.isSome:=by cases d.prop <;> rfl
    have e2:((d.wishes.length:Int)==0)=(d.wishes.length==0):=by rw [Bool.eq_iff_iff]; simp
    rw [e1,e2]
  · cases h
theorem cPrI_ok:Ak Tryz.prog 17 (rdSumm 2 MonR noA prmN prmV):=rdSumm_ok (fun _ _ _=>rfl) fun d rest a h blk fp w hr E=>by
  unfold noA at h
  split at h
  · cases h
    obtain ⟨C,ty,E1,AC,tya,pr,h1,_,h2,_,_,_,_,h3,h4,h5,_⟩:=mon_cells hr
    have hb:=lt_of_get h1
    have hA:=lt_of_get h3
    have sz:∀ (w:World) (o:Obj),w.heap.size≤(w.alloc o).heap.size:=fun w o=>by
      show w.heap.size≤(w.heap.push o).size
      rw [Array.size_push]
      omega
    refine (prom_walk blk (E1.blk 3) w d.prom.n d.prom.who (cell_of ((alloc_get hb).trans h1) h2) (cell_of ((alloc_get (Nat.lt_of_lt_of_le hA (sz _ _))).trans ((alloc_get hA).trans h3)) h4) (cell_of ((alloc_get (Nat.lt_of_lt_of_le hA (sz _ _))).trans ((alloc_get hA).trans h3)) h5)).mono ?_
    rintro e w' ⟨rfl,hw⟩
    exact ⟨rfl,hw⟩
  · cases h
theorem hsSumm_ok:Ak Tryz.prog 21 hsSumm:=by
  have go:∀ args h key r,(hsSumm.run args h key).sel=some r→∃ k g d,args=[.ptr k 0]∧hget k h=some (.own 2 MonR d g)∧hget g h=some .tok∧r=(.ptr key 0,[k,g],[(key,some (.own 5 HistI d g))],key+1):=by
    intro args h key r e
    simp only [hsSumm] at e
    split at e
    · rename_i k
      split at e
      · rename_i t' R' d g hg
        split at e
        · rename_i ht hto
          obtain ⟨hs,e⟩:=Ar e
          cases e
          have h1:=Nat.eq_of_beq_eq_true ht
          subst h1
          have h2:=sameR_iff.1 hs
          subst h2
          exact ⟨k,g,d,rfl,hg,hto,rfl⟩
        · cases e
      · cases e
    · cases e
  refine ⟨fun args h key v R0 W key' e=>?_,fun args h key r e=>?_⟩
  · obtain ⟨k,g,d,rfl,h1,h2,h3⟩:=go _ _ _ _ e
    cases h3
    intro A E lk w vals hU hC hfr hvals
    have hk1:lk k=some (.own 2 MonR d g):=(hC k (by simp)).trans h1
    have hg1:lk g=some .tok:=(hC g (by simp)).trans h2
    have hr:=(hU.here.obj k _ hk1) hg1 w (Nat.le_refl _) (fun _ _=>rfl)
    have hv0:=hvals E (Ae.refl A E)
    subst hv0
    obtain ⟨C,ty,E1,AC,tya,pr,c1,c2,_,_,_,_,_,_,_,_,c3⟩:=mon_cells hr
    have hkey:¬ A key:=hfr key (Nat.le_refl _) (Nat.lt_succ_self _)
    have hgA:A g:=hU.dom g _ hg1
    have hgk:g≠key:=fun e=>hkey (e ▸ hgA)
    refine (history_walk (E.blk k) w _ (cell_of c1 c2)).mono ?_
    rintro e w' ⟨rfl,rfl⟩
    have lkey:∀ j,hupd lk [(key,some (.own 5 HistI d g))] j=if key=j then some (.own 5 HistI d g) else lk j:=fun j=>by
      simp only [hupd,wget]
      by_cases hj:key=j
      · subst hj; simp
      · rw [beq_ne hj,if_neg hj]
    have ag:=Env.put_agree (A:=A) E hkey (E1.blk 1) (none,0,0) []
    have st:=RelU.step (A':=rng A key (key+1)) (E1:=E.put key (E1.blk 1) (none,0,0) []) (lk':=hupd lk [(key,some (.own 5 HistI d g))]) (w':=w') (fun j=>key=j) hU (fun _ h=>.inl h) ag rfl rfl rfl (Nat.le_refl _)
      (fun j o hj hn=>by rw [lkey,if_neg hn] at hj; exact hj)
      (fun j o _ hn=>.inr ⟨by omega,by omega⟩)
      (fun j o g' hj ho hn=>by
        rw [lkey,if_pos hn] at hj
        cases hj
        cases ho
        exact .inl hgA)
      (fun E' hE j o hj hn=>by
        rw [lkey,if_pos hn] at hj
        cases hj
        subst hn
        intro ht w2 hs ha
        have e1:E'.blk key=E1.blk 1:=by
          rw [(hE key (.inr ⟨Nat.le_refl _,Nat.lt_succ_self _⟩)).1]
          simp [Env.put]
        have e2:E'.fp g=E.fp g:=(hE g (.inl hgA)).2.2.trans (ag g hgA).2.2
        rw [e1,e2]
        exact c3 w2 hs fun b hb=>ha b (by rw [e2]; exact hb))
      (fun E' hE j o b hj hn hb=>by
        rw [lkey,if_pos hn] at hj
        cases hj
        exact hb.elim)
      (fun E' hE j o j' o' b _ _ hn hn' hne _ _=>absurd (hn.symm.trans hn') hne)
      (fun _ _ _=>rfl)
      (fun j o g' hj ho hn=>by
        subst hn
        exact absurd (hU.grp j o key hj ho) hkey)
      (fun E' hE j len sz rows a hj hn=>by
        rw [lkey,if_pos hn] at hj
        cases hj)
      (fun j hn hA=>absurd (hn ▸ hA) hkey)
    refine ⟨_,E.put key (E1.blk 1) (none,0,0) [],rfl,fun E' hE=>?_,st.1,st.2⟩
    show Value.pointer _=Value.pointer _
    rw [(hE key (.inr ⟨Nat.le_refl _,Nat.lt_succ_self _⟩)).1]
    simp [Env.put]
  · obtain ⟨k,g,d,rfl,h1,h2,rfl⟩:=go _ _ _ _ e
    refine ⟨Nat.le_succ _,fun j o hm=>?_⟩
    have hm:(j,o)=(key,some (.own 5 HistI d g)):=by simpa using hm
    cases hm
    refine ⟨.inr ⟨Nat.le_refl _,Nat.lt_succ_self _⟩,fun x g' hx hg'=>?_⟩
    cases hx
    cases hg'
    refine .inr fun hn=>?_
    have hn:hget g h=none:=hn
    rw [h2] at hn
    cases hn
end Go.Proofs.YtddmgdclmkgpeaaGreat
set_option linter.unusedSimpArgs false
set_option linter.unusedVariables false
namespace Go.Proofs.YtddmgdclmkgpeaaGreat
open Go.Eng Go.RowKit Go.ChangeShapes Go.WideShapes
set_option maxRecDepth 100000
def lsH:List (Nat×TO):=[(0,.ob 2 MonR 40),(40,.tok),(41,.lst none msgR (some 42)),(42,.tok)]
def lsO (r:Al×List MMsg):List ON:=[.own r.1,.tok,.lst r.2.length (rowM r.2),.tok]
def lsN (r:Al×List MMsg):EN:=⟨[],[.own r.1,.lst r.2.length (rowM r.2)]⟩
def lsR:TS:=⟨[],[.one (.sl 41)],lsH,43⟩
def wuR:TS:=⟨[],[.one (.sl 41),.one (.i .i64)],lsH,43⟩
def wuN (e:EN):EN:=⟨[[.i (bif (e.dt 0).wishB (incOf e 1) then 0 else 210)]],(lsN ((e.dt 0).wish (incOf e 1)).1).o⟩
def cWu (e:EN):Ah (TS×EN):=.must (decide (0≤e.ai 1 1)) (.defE (wuN e) fun r=>.leaf (wuR,⟨[[.u],[.i (r.ai 0 0)]],[.own (r.dt 0),.tok,.lst (r.ln 1) (r.rw 1),.tok]⟩))
theorem StdN.retell {f : FuncId} {m m' m2 : Nat} {h h' h2 : List (Nat × Ai)} {args : List AV} {v v2 : AV} (φ : Nat → Nat) (H : StdN Tryz.prog f m h args m' h' v) (hm : m ≤ m') (hlt : m' ≤ nilK) (hid : ∀ k, k < m → φ k = k) (hkv : (keysOf v).all (Nat.blt · m') = true)
    (hR:ResetH isNil (· < m2) φ (Ad h') (Ad h2)) (hv:SameV isNil v (ren φ v2)):StdN Tryz.prog f m h args m2 h2 v2:=by
  intro E w hU
  refine (H E w hU).mono ?_
  rintro e w' ⟨E1,rfl,hag,hU1,hx⟩
  have hA:=nilExt_agree (E:=E1) (A:=(· < m')) (fun k hk=>Nat.lt_of_lt_of_le hk hlt)
  have hz:=nilExt_ok E1
  refine ⟨(nilExt E1).via φ,?_,fun k hk=>?_,hR.relU hz (hU1.rel _ hA),(hx.trans (wext_agree hU1 hA)).trans (hR.wext _ hz w')⟩
  · rw [← den_ren,← hv _ hz,den_cl hA v (Az hkv)]
  · have h1:=hag k hk
    have h2:=hA k (Nat.lt_of_lt_of_le hk hm)
    simp only [Env.via,hid k hk]
    exact ⟨h2.1.trans h1.1,h2.2.1.trans h1.2.1,h2.2.2.trans h1.2.2⟩
def phi (k:Nat) (j:Nat):Nat:=match Nat.beq j 41 with
  | true=>k
  | false=>match Nat.beq j 42 with
    | true=>k+1
    | false=>j
theorem resetLs {k : Nat} {d : Dat} {n : Nat} {r : Nat → List Num} {h : List (Nat × Ai)} (hd : distB [0, 40, k, k + 1] = true) (h0 : AO (Ad h) 0 = some (.own 2 MonR d 40)) (h1 : AO (Ad h) 40 = some .tok)
    (h2:(∃ len rows,AO (Ad h) k=some (.lst len 131 rows (some (k+1)))∧len.v=(n:Int)∧(∀ i,rows i=AI msgR r i)∧AO (Ad h) (k+1)=some .tok∧isNil (k+1)=false)∨(n=0∧isNil k=true∧isNil (k+1)=true)) :
    ResetH isNil (· < 43) (phi k) (Ad h) (Ad (instH lsH [.own d,.tok,.lst n r,.tok])):=by
  refine ⟨fun j o hj=>?_,fun j j' o o' hj hj' e=>?_⟩
  · have hj:=BS hj
    rcases List.mem_cons.1 hj with e | hj
    · cases e
      exact ⟨by decide,.inl ⟨_,h0,rfl,rfl,rfl,rfl,(by decide:(40:Nat)<43),rfl⟩⟩
    · rcases List.mem_cons.1 hj with e | hj
      · cases e
        exact ⟨by decide,.inl ⟨_,h1,trivial⟩⟩
      · rcases List.mem_cons.1 hj with e | hj
        · cases e
          refine ⟨by decide,?_⟩
          rcases h2 with ⟨len,rows,g1,g2,g3,g4,g5⟩ | ⟨g1,g2,g3⟩
          · refine .inl ⟨_,g1,g2,rfl,rfl,fun x hx=>(by cases hx; exact ⟨(by decide:(42:Nat)<43),g5⟩),fun i _=>?_⟩
            rw [g3]
            exact ⟨rfl,rfl,fun _ _=>rfl,Az rfl⟩
          · refine .inr ⟨g2,?_,fun x hx=>(by cases hx; exact (by decide:(42:Nat)<43))⟩
            show ((n:Nat):Int)=0
            rw [g1]
            rfl
        · have e:=List.mem_singleton.1 hj
          cases e
          refine ⟨by decide,?_⟩
          rcases h2 with ⟨len,rows,g1,g2,g3,g4,g5⟩ | ⟨g1,g2,g3⟩
          · exact .inl ⟨_,g4,trivial⟩
          · exact .inr ⟨g3,trivial⟩
  · have d0:distB ((instH lsH [.own d,.tok,.lst n r,.tok]).map fun p=>phi k p.1)=true:=hd
    exact congrArg (·.1) (distB_inj d0 (j,o) (BS hj) (j',o') (BS hj') e)
theorem phi_id (k:Nat):∀ j,j<2→phi k j=j:=fun j hj=>by
  match j,hj with
  | 0,_=>rfl
  | 1,_=>rfl
theorem ls_nil {f : FuncId} {l : List (Nat × Ai)} {args : List AV} {d : Dat} {v v2 : AV} (hkv : (keysOf v).all (Nat.blt · 41) = true) (hv : SameV isNil v (ren (phi (nilK + 41)) v2)) (H : StdN Tryz.prog f 2 l args 41 [(0, .own 2 MonR d 40), (40, .tok)] v) :
    StdN Tryz.prog f 2 l args 43 (instH lsH (lsO (d,[]))) v2 :=
  StdN.retell (phi (nilK+41)) H (by decide) (by decide) (phi_id _) hkv (resetLs (n:=0) rfl rfl rfl (.inr ⟨rfl,rfl,rfl⟩)) hv
theorem ls_go {f : FuncId} {l : List (Nat × Ai)} {args : List AV} {r : Al × List MMsg} {len : SI} {k : Nat} {v v2 : AV} (hd : distB [0, 40, k, k + 1] = true) (hl : len.v = (r.2.length : Int)) (hk : isNil (k + 1) = false) (hkv : (keysOf v).all (Nat.blt · 41) = true) (hv : SameV isNil v (ren (phi k) v2))
    (h0:∀ o1 o2,AO (Ad [(0,.own 2 MonR r.1 40),(40,.tok),(k,o1),(k+1,o2)]) 0=some (.own 2 MonR r.1 40)∧AO (Ad [(0,.own 2 MonR r.1 40),(40,.tok),(k,o1),(k+1,o2)]) 40=some .tok∧AO (Ad [(0,.own 2 MonR r.1 40),(40,.tok),(k,o1),(k+1,o2)]) k=some o1∧AO (Ad [(0,.own 2 MonR r.1 40),(40,.tok),(k,o1),(k+1,o2)]) (k+1)=some o2)
    (H:StdN Tryz.prog f 2 l args 41 [(0,.own 2 MonR r.1 40),(40,.tok),(k,.lst len 131 (AI msgR (rowM r.2)) (some (k+1))),(k+1,.tok)] v) :
    StdN Tryz.prog f 2 l args 43 (instH lsH (lsO r)) v2:=by
  obtain ⟨g0,g1,g2,g3⟩:=h0 (.lst len 131 (AI msgR (rowM r.2)) (some (k+1))) .tok
  exact StdN.retell (phi k) H (by decide) (by decide) (phi_id _) hkv (resetLs hd g0 g1 (.inl ⟨_,_,g2,hl,fun _=>rfl,g3,hk⟩)) hv
def wishW (d:Dat) (x:Inc):Al:=({ d with wishes:=d.wishes++[x] } : Al)
theorem others_len {s:Al} (h:0≤s.id∧s.id<3) (x:MMsg):(s.others x).length=2:=by
  have h3:s.id=0∨s.id=1∨s.id=2:=by omega
  unfold Al.others
  rcases h3 with h | h | h <;> rw [h] <;> rfl
theorem starts_len {s:Al} (h:0≤s.id∧s.id<3) (p:BA):(s.starts p).2.length=2:=by
  unfold Al.starts
  dsimp only
  split
  all_goals exact others_len (s:=s) h _
theorem begins_len {s:Al} (h:0≤s.id∧s.id<3) (hp:s.prop=none) (hb:bgE s=false):s.begins.2.length=2:=by
  cases hd:dropW s s.wishes with
  | nil=>unfold bgE at hb; rw [hd] at hb; cases hb
  | cons x l=>rw [begins_cons hp hd]; exact starts_len (s:={ s with wishes:=x::l }) h _
theorem nil_same (x:AV) (hx:ren (phi (nilK+41)) x=x):SameV isNil (.tup [.nils,x]) (ren (phi (nilK+41)) (.tup [.sl 41,x])):=fun E hz=>by
  have e:ren (phi (nilK+41)) (.tup [.sl 41,x]) = .tup [.sl (nilK+41),x]:=by
    show AV.tup [.sl (nilK+41),ren _ x]=_
    rw [hx]
  rw [e]
  show Value.tuple #[.slice none 0 0,den E x]=Value.tuple #[.slice (E.hdr (nilK+41)).1 (E.hdr (nilK+41)).2.1 (E.hdr (nilK+41)).2.2,den E x]
  rw [(hz (nilK+41) rfl).1]
theorem wu_std (d:Dat) (x:Inc) (hx:0≤x.osd) (hg:MGood d):StdN Tryz.prog 19 2 [(0,.own 2 MonR d 1),(1,.tok)] (woT.vals ⟨[[],incNm x],[.own d,.tok]⟩) 43 (instH lsH (lsO (d.wish x).1)) (.tup [.sl 41,.int .i64 (.sym (bif d.wishB x then 0 else 210))]):=by
  obtain ⟨h1,h2,h3,h4,h5,h6,h7⟩:=hg
  have hg:MGood d:=⟨h1,h2,h3,h4,h5,h6,h7⟩
  have hgw:=mgood_begins (mgood_wish hg (x:=x) hx)
  have av:∀ E E':Env,E'.blk 0=E.blk 0→BM E' (woT.vals ⟨[[],incNm x],[.own d,.tok]⟩)=BM E (woT.vals ⟨[[],incNm x],[.own d,.tok]⟩):=fun E E' h=>by
    show [Value.pointer _,_]=[Value.pointer _,_]
    rw [h]
    rfl
  cases hb:d.wishB x with
  | false =>
    have hw:d.wish x=((d,[]),false):=by unfold Al.wish; rw [hb]
    rw [hw]
    cases hp:d.prop with
    | none=>exact ls_nil (d:=d) rfl (nil_same _ rfl) (mon_own0 (rest:=[]) (v:=resV (woR.vals ⟨[[.u],[.i 210]],[]⟩)) (fun hd=>instH beH0 (mn0 hd d)) hp av (fun _ _ _ _=>rfl) (by decide:10≤40) (fun _ h=>by cases h) (fun _=>rfl) (by decide) rfl (fun _ h=>by cases h) (fun _=>noRo_list rfl) (fun _ _ _ _ q=>⟨hg,.inl ⟨hp,_,pk_post0 q⟩⟩) fun hd=>by rw [List.append_nil]; exact wi0_no hd d x hb)
    | some p=>exact ls_nil (d:=d) rfl (nil_same _ rfl) (mon_own1 (rest:=[]) (v:=resV (woR.vals ⟨[[.u],[.i 210]],[]⟩)) (fun hd=>instH beH1 (mn1 hd d p)) hp av (fun _ _ _ _=>rfl) (by decide:19≤40) (fun _ h=>by cases h) (fun _=>rfl) (by decide) rfl (fun _ h=>by cases h) (fun _=>noRo_list rfl) (by decide) (fun _ _ _ _ q=>⟨hg,.inr ⟨p,hp,_,pk_post1 q⟩⟩) fun hd=>by rw [List.append_nil]; exact wi1_no hd d p x hb)
  | true =>
    have hw:(d.wish x).1=(wishW d x).begins:=by unfold Al.wish; rw [hb]; rfl
    rw [hw]
    cases hp:d.prop with
    | some p =>
      have hn:(wishW d x).begins=((wishW d x).begins.1,[]):=by rw [begins_some (s:=wishW d x) hp]
      rw [hn]
      obtain ⟨q1,q2⟩:=begins_propP (s:=wishW d x) hp
      exact ls_nil (d:=(wishW d x).begins.1) rfl (nil_same _ rfl) (mon_own1 (d':=(wishW d x).begins.1) (rest:=[]) (v:=resV (woR.vals ⟨[[.u],[.i 0]],[]⟩)) (fun hd=>instH beH1 (mn1 hd (wishW d x).begins.1 (propD (wishW d x).begins.1))) hp av (fun _ _ _ _=>rfl) (by decide:19≤40) (fun _ h=>by cases h) (fun _=>rfl) (by decide) rfl (fun _ h=>by cases h) (fun _=>noRo_list rfl) (by decide) (fun _ _ _ _ q=>⟨hgw,.inr ⟨_,by rw [q2]; exact q1,_,pk_post1 q⟩⟩) fun hd=>by rw [List.append_nil]; exact wi1_N hd d p x hb h1 h4 h5 h2 hx h3 hp)
    | none =>
      cases hbg:bgE (wishW d x) with
      | true =>
        have hn:(wishW d x).begins=((wishW d x).begins.1,[]):=by rw [begins_nil (by unfold bgE at hbg; exact List.isEmpty_iff.1 hbg)]
        rw [hn]
        exact ls_nil (d:=(wishW d x).begins.1) rfl (nil_same _ rfl) (mon_own0 (d':=(wishW d x).begins.1) (rest:=[]) (v:=resV (woR.vals ⟨[[.u],[.i 0]],[]⟩)) (fun hd=>instH beH0 (mn0 hd (wishW d x).begins.1)) hp av (fun _ _ _ _=>rfl) (by decide:10≤40) (fun _ h=>by cases h) (fun _=>rfl) (by decide) rfl (fun _ h=>by cases h) (fun _=>noRo_list rfl) (fun _ _ _ _ q=>⟨hgw,.inl ⟨begins_prop hp hbg,_,pk_post0 q⟩⟩) fun hd=>by rw [List.append_nil]; exact wi0_N hd d x hb h1 h4 h5 h2 hx h3 hp hbg)
      | false =>
        have hl:=begins_len (s:=wishW d x) h1 hp hbg
        refine ls_go (r:=(wishW d x).begins) (k:=15) (len:=.lit 2) (v:=resV (woN.vals ⟨[[.u],[.i 0]],[]⟩)) rfl (by rw [hl]; rfl) rfl rfl (fun _ _=>rfl) (fun _ _=>⟨rfl,rfl,rfl,rfl⟩) (mon_own0 (d':=(wishW d x).begins.1) (rest:=[(15,.lst (.lit 2) 131 (AI msgR (rowM (wishW d x).begins.2)) (some 16)),(16,.tok)]) (v:=resV (woN.vals ⟨[[.u],[.i 0]],[]⟩)) (fun hd=>instH nwH (mn1 hd (wishW d x).begins.1 (propD (wishW d x).begins.1))) hp av
          (fun _ _ _ h=>by show Value.tuple _=Value.tuple _; exact congrArg (fun x:Value=>Value.tuple #[x,_]) (by show Value.slice _ _ _=Value.slice _ _ _; rw [(h 15 (by decide) (by decide)).2])) (by decide:17≤40)
          (List.forall_mem_cons.2 ⟨⟨by decide,by decide,fun i=>⟨rfl,rfl⟩⟩,List.forall_mem_cons.2 ⟨(by decide:7≤16),fun _ h=>by cases h⟩⟩) (fun _=>rfl) (show 0 ∉ [15,16] by decide) rfl (List.forall_mem_cons.2 ⟨fun g e=>(by cases e; exact (show 16∈[15,16] by decide)),List.forall_mem_cons.2 ⟨fun g e=>(by cases e),fun _ h=>by cases h⟩⟩) (fun _=>noRo_list rfl) (fun _ _ _ _ q=>⟨hgw,.inr ⟨_,begins_propS hp hbg,_,pk_new1 q⟩⟩) fun hd=>wi0_C hd d x hb h1 h4 h5 h2 hx h3 hp hbg)
theorem cWu_ok:Ak Tryz.prog 19 (AW woT cWu):=BN fun e r h=>by
  obtain ⟨hm,h⟩:=Ar h
  cases h
  refine BI.pre (x':=⟨[[],incNm (incOf e 1)],[.own (e.dt 0),.tok]⟩) clP (std_mgood (k:=0) (g:=1) rfl rfl fun hg=>?_)
  exact wu_std (e.dt 0) (incOf e 1) (of_decide_eq_true hm) hg
end Go.Proofs.YtddmgdclmkgpeaaGreat
set_option linter.unusedSimpArgs false
set_option linter.unusedVariables false
namespace Go.Proofs.YtddmgdclmkgpeaaGreat
open Go.Eng Go.RowKit Go.ChangeShapes Go.WideShapes
set_option maxRecDepth 100000
def byH:List (Nat×TO):=[(0,.ob 2 MonR 40),(40,.tok),(41,.lst none [.i .u8] (some 42)),(42,.tok)]
def byO (d:Dat) (l:List Int):List ON:=[.own d,.tok,.lst l.length (AR l),.tok]
def bwR:TS:=⟨[],[.one (.sl 41)],byH,43⟩
def cSw (e:EN):Ah (TS×EN):=.defE (svN e) fun r=>.leaf (bwR,⟨[[.u]],[.own (e.dt 0),.tok,.lst (r.ln 0) (r.rw 0),.tok]⟩)
def lwR:TS:=⟨[],[.one (.ptr 1 0),.one (.i .i64)],[(1,.ob 2 MonR 40),(40,.tok)],41⟩
def mnwN (e:EN):EN:=⟨[],[.own (Al.new (e.ai 0 0))]⟩
def cMw2 (e:EN):Ah (TS×EN):=.must (decide (0≤e.ai 0 0)) (.defE (mnwN e) fun r=>.leaf (noR,⟨[[.u]],[.own (r.dt 0),.tok]⟩))
open Classical in
noncomputable def loadB (l:List Int):Bool:=decide (∃ s,MOk s∧l=saveL s)
noncomputable def lwN (e:EN):EN:=⟨[[.b (loadB (Ax (e.ln 0) (e.rw 0)))]],[.own (loadS (Ax (e.ln 0) (e.rw 0)))]⟩
noncomputable def cLw (e:EN):Ah (TS×EN):=.defE (lwN e) fun r=>.must (r.ab 0 0) (.leaf (lwR,⟨[[.u],[.i 0]],[.own (r.dt 0),.tok]⟩))
theorem resetBy {k : Nat} {d : Dat} {n : Nat} {r : Nat → List Num} {h : List (Nat × Ai)} (hd : distB [0, 40, k, k + 1] = true) (h0 : AO (Ad h) 0 = some (.own 2 MonR d 40)) (h1 : AO (Ad h) 40 = some .tok)
    (h2:(∃ len rows,AO (Ad h) k=some (.lst len 1 rows (some (k+1)))∧len.v=(n:Int)∧(∀ i,rows i=AI [.i .u8] r i)∧AO (Ad h) (k+1)=some .tok∧isNil (k+1)=false)∨(n=0∧isNil k=true∧isNil (k+1)=true)) :
    ResetH isNil (· < 43) (phi k) (Ad h) (Ad (instH byH [.own d,.tok,.lst n r,.tok])):=by
  refine ⟨fun j o hj=>?_,fun j j' o o' hj hj' e=>?_⟩
  · have hj:=BS hj
    rcases List.mem_cons.1 hj with e | hj
    · cases e
      exact ⟨by decide,.inl ⟨_,h0,rfl,rfl,rfl,rfl,(by decide:(40:Nat)<43),rfl⟩⟩
    · rcases List.mem_cons.1 hj with e | hj
      · cases e
        exact ⟨by decide,.inl ⟨_,h1,trivial⟩⟩
      · rcases List.mem_cons.1 hj with e | hj
        · cases e
          refine ⟨by decide,?_⟩
          rcases h2 with ⟨len,rows,g1,g2,g3,g4,g5⟩ | ⟨g1,g2,g3⟩
          · refine .inl ⟨_,g1,g2,rfl,rfl,fun x hx=>(by cases hx; exact ⟨(by decide:(42:Nat)<43),g5⟩),fun i _=>?_⟩
            rw [g3]
            exact ⟨rfl,rfl,fun _ _=>rfl,Az rfl⟩
          · refine .inr ⟨g2,?_,fun x hx=>(by cases hx; exact (by decide:(42:Nat)<43))⟩
            show ((n:Nat):Int)=0
            rw [g1]
            rfl
        · have e:=List.mem_singleton.1 hj
          cases e
          refine ⟨by decide,?_⟩
          rcases h2 with ⟨len,rows,g1,g2,g3,g4,g5⟩ | ⟨g1,g2,g3⟩
          · exact .inl ⟨_,g4,trivial⟩
          · exact .inr ⟨g3,trivial⟩
  · have d0:distB ((instH byH [.own d,.tok,.lst n r,.tok]).map fun p=>phi k p.1)=true:=hd
    exact congrArg (·.1) (distB_inj d0 (j,o) (BS hj) (j',o') (BS hj') e)
theorem by_go {f : FuncId} {l : List (Nat × Ai)} {args : List AV} {d : Dat} {b : List Int} {k : Nat} {v v2 : AV} (hd : distB [0, 40, k, k + 1] = true) (hk : isNil (k + 1) = false) (hkv : (keysOf v).all (Nat.blt · 41) = true) (hv : SameV isNil v (ren (phi k) v2))
    (h0:∀ o1 o2,AO (Ad [(0,.own 2 MonR d 40),(40,.tok),(k,o1),(k+1,o2)]) 0=some (.own 2 MonR d 40)∧AO (Ad [(0,.own 2 MonR d 40),(40,.tok),(k,o1),(k+1,o2)]) 40=some .tok∧AO (Ad [(0,.own 2 MonR d 40),(40,.tok),(k,o1),(k+1,o2)]) k=some o1∧AO (Ad [(0,.own 2 MonR d 40),(40,.tok),(k,o1),(k+1,o2)]) (k+1)=some o2)
    (H:StdN Tryz.prog f 2 l args 41 [(0,.own 2 MonR d 40),(40,.tok),(k,.lst (.sym (b.length:Int)) 1 (AI [.i .u8] (AR b)) (some (k+1))),(k+1,.tok)] v) :
    StdN Tryz.prog f 2 l args 43 (instH byH (byO d b)) v2:=by
  obtain ⟨g0,g1,g2,g3⟩:=h0 (.lst (.sym (b.length:Int)) 1 (AI [.i .u8] (AR b)) (some (k+1))) .tok
  exact StdN.retell (phi k) H (by decide) (by decide) (phi_id _) hkv (resetBy hd g0 g1 (.inl ⟨_,_,g2,rfl,fun _=>rfl,g3,hk⟩)) hv
theorem sw_std (d:Dat) (hg:MGood d):StdN Tryz.prog 16 2 [(0,.own 2 MonR d 1),(1,.tok)] (ioT.vals ⟨[[]],[.own d,.tok]⟩) 43 (instH byH (byO d (saveL d))) (.sl 41):=by
  have av:∀ E E':Env,E'.blk 0=E.blk 0→BM E' (ioT.vals ⟨[[]],[.own d,.tok]⟩)=BM E (ioT.vals ⟨[[]],[.own d,.tok]⟩):=fun E E' h=>by
    show [Value.pointer _]=[Value.pointer _]
    rw [h]
  cases hp:d.prop with
  | none =>
    refine by_go (k:=10) (v:=.sl 10) rfl rfl rfl (fun _ _=>rfl) (fun _ _=>⟨rfl,rfl,rfl,rfl⟩) ?_
    exact mon_own0 (rest:=[(10,.lst (.sym ((saveL d).length:Int)) 1 (AI [.i .u8] (AR (saveL d))) (some 11)),(11,.tok)]) (v:=resV (soR0.vals ⟨[[.u]],[]⟩)) (fun hd=>instH beH0 (mn0 hd d)) hp av
      (fun _ _ _ h=>by show Value.slice _ _ _=Value.slice _ _ _; rw [(h 10 (by decide) (by decide)).2]) (by decide:12≤40)
      (List.forall_mem_cons.2 ⟨⟨by decide,by decide,fun i=>⟨rfl,rfl⟩⟩,List.forall_mem_cons.2 ⟨(by decide:7≤11),fun _ h=>by cases h⟩⟩) (fun _=>rfl) (show 0 ∉ [10,11] by decide) rfl (List.forall_mem_cons.2 ⟨fun g e=>(by cases e; exact (show 11∈[10,11] by decide)),List.forall_mem_cons.2 ⟨fun g e=>(by cases e),fun _ h=>by cases h⟩⟩) (fun _=>noRo_list rfl) (fun _ _ _ _ q=>⟨hg,.inl ⟨hp,_,pk_post0 q⟩⟩) fun hd=>std_good (k:=1) (g:=2) rfl rfl fun hgi=>sv_std0 hd d hgi
  | some p =>
    refine by_go (k:=19) (v:=.sl 19) rfl rfl rfl (fun _ _=>rfl) (fun _ _=>⟨rfl,rfl,rfl,rfl⟩) ?_
    exact mon_own1 (rest:=[(19,.lst (.sym ((saveL d).length:Int)) 1 (AI [.i .u8] (AR (saveL d))) (some 20)),(20,.tok)]) (v:=resV (soR1.vals ⟨[[.u]],[]⟩)) (fun hd=>instH beH1 (mn1 hd d p)) hp av
      (fun _ _ _ h=>by show Value.slice _ _ _=Value.slice _ _ _; rw [(h 19 (by decide) (by decide)).2]) (by decide:21≤40)
      (List.forall_mem_cons.2 ⟨⟨by decide,by decide,fun i=>⟨rfl,rfl⟩⟩,List.forall_mem_cons.2 ⟨(by decide:12≤20),fun _ h=>by cases h⟩⟩) (fun _=>rfl) (show 0 ∉ [19,20] by decide) rfl (List.forall_mem_cons.2 ⟨fun g e=>(by cases e; exact (show 20∈[19,20] by decide)),List.forall_mem_cons.2 ⟨fun g e=>(by cases e),fun _ h=>by cases h⟩⟩) (fun _=>noRo_list rfl) (by decide) (fun _ _ _ _ q=>⟨hg,.inr ⟨p,hp,_,pk_post1 q⟩⟩) fun hd=>std_good (k:=1) (g:=2) rfl rfl fun hgi=>sv_std1 hd d p hgi
theorem cSw_ok:Ak Tryz.prog 16 (AW ioT cSw):=BN fun e r h=>by
  cases h
  refine BI.pre (x':=⟨[[]],[.own (e.dt 0),.tok]⟩) clP (std_mgood (k:=0) (g:=1) rfl rfl fun hg=>?_)
  exact sw_std (e.dt 0) hg
theorem cMw2_ok:Ak Tryz.prog 13 (AW mwT cMw2):=BN fun e r h=>by
  obtain ⟨hm,h⟩:=Ar h
  have hx:=of_decide_eq_true hm
  cases h
  refine BI.pre (x':=⟨[[.i (e.ai 0 0)]],[]⟩) clP ?_
  have H:=StdN.wide (m2:=40) (by decide:7≤40) (mw_std (e.ai 0 0))
  exact StdN.conceal (hp:=instH mp0 (mn0 default (Al.new (e.ai 0 0)))) (rest:=[]) (by rw [List.append_nil]; exact H) (by decide) rfl (by decide) (fun h=>by cases h) rfl (fun _ h=>by cases h) (noRo_list rfl) (fun _ _ _ q=>⟨mgood_new hx,.inl ⟨rfl,_,pk_same0 q⟩⟩)
theorem loadB_iff {l:List Int} : loadB l=true↔∃ s,MOk s∧l=saveL s:=by
  unfold loadB
  exact @decide_eq_true_iff _ (Classical.propDecidable _)
theorem loadB_save {s:Al} (h:MOk s):loadB (saveL s)=true:=loadB_iff.2 ⟨s,h,rfl⟩
theorem cLw_ok:Ak Tryz.prog 15 (AW ldT cLw):=BN fun e r h=>by
  have h:(Ah.must (loadB (Ax (e.ln 0) (e.rw 0))) (.leaf (lwR,(⟨[[.u],[.i 0]],[.own (loadS (Ax (e.ln 0) (e.rw 0))),.tok]⟩:EN)))).sel=some r:=h
  obtain ⟨hm,h⟩:=Ar h
  cases h
  obtain ⟨s,hs,hl⟩:=loadB_iff.1 hm
  have hn:e.ln 0=(saveL s).length:=by rw [← hl,As]
  have hr:∀ i:Nat,(i:Int)<((saveL s).length:Int)→eqvL [.i .u8] (e.rw 0 i) (AR (saveL s) i):=fun i hi=>by
    rw [← hl]
    exact rowI_eqv (by omega)
  refine BI.pre (t:=ldT) (x':=⟨[[]],[.lst (saveL s).length (AR (saveL s))]⟩) ⟨⟨trivial,trivial⟩,⟨hn,hr⟩,trivial⟩ ?_
  rw [hl,loadS_save hs]
  have H:=lo_std s hs
  exact StdN.retell id H (by decide) (by decide) (fun _ _=>rfl) rfl ⟨fun j o hj=>by
    have hj:=BS hj
    rcases List.mem_cons.1 hj with e | hj
    · cases e
      exact ⟨(by decide:(1:Nat)<41),.inl ⟨_,rfl,rfl,rfl,rfl,rfl,(by decide:(40:Nat)<41),rfl⟩⟩
    · cases List.mem_singleton.1 hj
      exact ⟨(by decide:(40:Nat)<41),.inl ⟨_,rfl,trivial⟩⟩,fun _ _ _ _ _ _ e=>e⟩ (fun _ _=>rfl)
end Go.Proofs.YtddmgdclmkgpeaaGreat
set_option linter.unusedSimpArgs false
set_option linter.unusedVariables false
namespace Go.Proofs.YtddmgdclmkgpeaaGreat
open Go.Eng Go.RowKit Go.ChangeShapes Go.WideShapes
set_option maxRecDepth 100000
noncomputable def waSm:List (FuncId×Summ):=[(24,AW laT cLa),(22,AW inT cHi),(26,AW inT cHm),(44,AW adT cAd),(47,AW incT cInc),(48,AW lsT cLs),(107,AW ppT cPp),(140,AW akT cPb),(108,AW rpT cPm),(143,AW rdT cPd),(109,AW oT1 cOth),(145,AW oT1 cOsd),(58,AW stT1 cSt),(57,orSumm (AW beT0 cBe0) (AW beT1 cBe1)),(42,AW isTR cIsR),(185,AW ofT clC),(148,AW wadT wadC)]
noncomputable def waTb:Tab:=smTab (tabOf waSm)
def st0T:TS:=⟨[],[.one (.ptr 0 0),.agg msgR],mp0,7⟩
def st0R:TS:=⟨[],[.one (.sl 10)],beH0++[(10,.lst none msgR (some 11)),(11,.tok)],12⟩
theorem waSm_ok:AllOk Tryz.prog waSm:=⟨cLa_ok,cHi_ok,cHm_ok,cAd_ok,cInc_ok,cLs_ok,cPp_ok,cPb_ok,cPm_ok,cPd_ok,cOth_ok,cOsd_ok,cSt_ok,orSumm_ok cBe0_ok cBe1_ok,cIsR_ok,c185_ok,c148_ok,trivial⟩
theorem waTab:TabAll Tryz.prog waTb:=tab_ok waSm_ok
abbrev repB (s:Al):ON:=.box [.b (s.rep 0),.b (s.rep 1),.b (s.rep 2),.b (s.rep 3),.b (s.rep 4),.b (s.rep 5),.b (s.rep 6),.b (s.rep 7),.b (s.rep 8),.b (s.rep 9),.b (s.rep 10),.b (s.rep 11),.b (s.rep 12),.b (s.rep 13),.b (s.rep 14),.b (s.rep 15),.b (s.rep 16),.b (s.rep 17),.b (s.rep 18),.b (s.rep 19),.b (s.rep 20),.b (s.rep 21),.b (s.rep 22),.b (s.rep 23),.b (s.rep 24)]
theorem slot_wrap {s:Al} (h:HGood s.incs):IntKind.u32.wrap (BK s.incs+1)=s.slot:=by
  have:=h.1
  unfold Al.slot Al.last BK
  exact IntWalk.u32_in _ (by omega)
theorem isM_kind {x:MMsg} (h:isM x=true):kindB x.kind=true:=by
  unfold isM at h
  unfold kindB
  cases h1:x.kind==1
  · cases h2:x.kind==2
    · cases h3:x.kind==3
      · cases h4:x.kind==4
        · cases h5:x.kind==5
          · cases h6:x.kind==6
            · cases h7:x.kind==17
              · cases h8:x.kind==18
                · rw [h1,h2,h3,h4,h5,h6,h7,h8] at h
                  cases h
                · rfl
              · rfl
            · rfl
          · rfl
        · rfl
      · rfl
    · rfl
  · rfl
theorem row1 {r:Nat→List Num} {y:MMsg} (h:eqvL msgR (r 0) (mRow y)):∀ i:Nat,(i:Int)<(1:Int)→eqvL msgR (r i) (rowM [y] i):=fun i hi=>by
  have:i=0:=by omega
  subst this
  exact h
end Go.Proofs.YtddmgdclmkgpeaaGreat
set_option linter.unusedSimpArgs false
set_option linter.unusedVariables false
namespace Go.Proofs.YtddmgdclmkgpeaaGreat
open Go.Eng Go.RowKit Go.ChangeShapes Go.WideShapes
set_option maxRecDepth 100000
end Go.Proofs.YtddmgdclmkgpeaaGreat
set_option linter.unusedSimpArgs false
set_option linter.unusedVariables false
namespace Go.Proofs.YtddmgdclmkgpeaaGreat
open Go.Eng Go.RowKit Go.ChangeShapes Go.WideShapes
set_option maxRecDepth 100000
theorem aC0_1 (hd:Dat) (s:Al) (x:MMsg):(BR Tryz.prog (Am Tryz.prog waTb 300) 14 (st0T.vals ⟨[[],mRow x],mn0 hd s⟩) (st0T.heap ⟨[[],mRow x],mn0 hd s⟩) 7 (outV 7 st0R)).cut [some true,some false,some false,some false,some false,some true,some true,some false] =
  .must (x.1==1) (.defE ⟨[[.i x.1,.i x.2,.i x.3,.i x.4,.i x.b.1,.i x.b.2,.i x.acc.1,.i x.acc.2,.b x.7,.i x.inc.1,.i x.inc.2,.i x.inc.3,.u,.u,.u,.u,.u,.u,.u,.u,.u,.u,.u,.u,.u,.u,.u,.u,.u,.u,
  .u,.u,.u,.u,.u,.u,.u,.u,.u,.u,.u,.u,.u,.u,.u,.u,.u,.u,.u,.u,.u,.u,.u,.u,.u,.u,.u,.u,.u,.u,.u,.u,.u,.u,.u,.u,.u,.u,.u,.u,.u,.u,.u,.u,.u,.u,.u,.u,.u,.u,.u,.u,.u,.u,.u,
  .u,.u,.u,.u,.u,.u,.u,.u,.u,.u,.u,.u,.u,.u,.u,.u,.u,.u,.u,.u,.u,.u,.u,.u,.u,.u,.u,.u,.u,.u,.u,.u,.u,.u,.u,.u,.u,.i x.9,.u,.u,.u,.u,.u,.u,.u,.u]],[]⟩ fun e0=>.must (kindB
  (e0.ai 0 0)) (.must (!!isM (BU e0 0)) (.must (!x.3 != s.1) (.must (BE Af Af) (.defE ⟨[[.u]],[.own (hdW hd s.2),.tok]⟩ fun e1=>.defI (BK (e1.dt 0).2) fun z2=>.defI (IntKind.u32.wrap (z2+1)) fun z3
  => .must (!decide (x.4<z3)) (.must (BE Af Af) (.defE ⟨[[.u]],[.own (e1.dt 0),.tok]⟩ fun e4=>.defI (BK (e4.dt 0).2) fun z5=>.defI (IntKind.u32.wrap (z5+1)) fun z6=>.must (!decide (x.4>z6)) (.must
  (x.1==1) (.defE ⟨[[.u],[.i x.b.1,.i x.b.2]],[.box [.i s.prom.1,.i s.prom.2,.i s.acc.1,.i s.acc.2,.i s.ainc.1,.i s.ainc.2,.i s.ainc.3]]⟩ fun e7=>.must (prepB ⟨e7.ai 1 0,e7.ai 1 1⟩ ⟨e7.bi 0 0,e7.bi 0 1⟩)
  (.defI (e7.bi 0 2) fun z8=>.defI (e7.bi 0 3) fun z9=>.defI (e7.bi 0 4) fun z10=>.defI (e7.bi 0 5) fun z11=>.defI (e7.bi 0 6) fun z12=>.defI 0 fun z13=>.defI (e7.ai 1 0) fun z14=>.defI (e7.ai 1 1) fun z15 =>
  .defI (e7.bi 0 2) fun z16=>.defI (e7.bi 0 3) fun z17=>.defI (e7.bi 0 4) fun z18=>.defI (e7.bi 0 5) fun z19=>.defI (e7.bi 0 6) fun z20=>.must (!z13 != 0) (.must (BE Af Af) (.must (AX BB (AI BB
  (rowJ s.wishes)) s.6.length) (.leaf ⟨[[.u]],[.box [.i s.1,.u,.u,.u,.u,.i s.8,.i s.over.1,.i s.over.2,.u],.own (e4.dt 0),.tok,.box [.i z14,.i z15,.i z16,.i z17,.i z18,.i z19,.i z20],.lst s.6.length
  (AH BB (AI BB (rowJ s.wishes))),.tok,repB s,.lst 1 (AH msgR (Aa 131 (mAV [.int .u8 (.lit 2),.int .u8 (.sym s.1),.int .u8 (.sym x.2),.int .u32 (.sym x.4),.int .u32 (.sym x.b.1),.int .u8 (.sym
  x.b.2),.int .u32 (.sym z8),.int .u8 (.sym z9),.bool (.sym !(e7.bi 0 2==0&&e7.bi 0 3==0)),.int .u8 (.sym z10),.int .u8 (.sym z11),.int .i64 (.sym z12)] (.int .u32 (.lit 0))))),.tok]⟩))))))))))))):=by kernel_rfl
theorem aD0_1 (hd:Dat) (s:Al) (x:MMsg):(BR Tryz.prog (Am Tryz.prog waTb 300) 14 (st0T.vals ⟨[[],mRow x],mn0 hd s⟩) (st0T.heap ⟨[[],mRow x],mn0 hd s⟩) 7 (outV 7 st0R)).cut [some true,some false,some false,some false,some false,some true,some false,some true] =
  .must (x.1==1) (.defE ⟨[[.i x.1,.i x.2,.i x.3,.i x.4,.i x.b.1,.i x.b.2,.i x.acc.1,.i x.acc.2,.b x.7,.i x.inc.1,.i x.inc.2,.i x.inc.3,.u,.u,.u,.u,.u,.u,.u,.u,.u,.u,.u,.u,.u,.u,.u,.u,.u,.u,
  .u,.u,.u,.u,.u,.u,.u,.u,.u,.u,.u,.u,.u,.u,.u,.u,.u,.u,.u,.u,.u,.u,.u,.u,.u,.u,.u,.u,.u,.u,.u,.u,.u,.u,.u,.u,.u,.u,.u,.u,.u,.u,.u,.u,.u,.u,.u,.u,.u,.u,.u,.u,.u,.u,.u,
  .u,.u,.u,.u,.u,.u,.u,.u,.u,.u,.u,.u,.u,.u,.u,.u,.u,.u,.u,.u,.u,.u,.u,.u,.u,.u,.u,.u,.u,.u,.u,.u,.u,.u,.u,.u,.u,.i x.9,.u,.u,.u,.u,.u,.u,.u,.u]],[]⟩ fun e0=>.must (kindB
  (e0.ai 0 0)) (.must (!!isM (BU e0 0)) (.must (!x.3 != s.1) (.must (BE Af Af) (.defE ⟨[[.u]],[.own (hdW hd s.2),.tok]⟩ fun e1=>.defI (BK (e1.dt 0).2) fun z2=>.defI (IntKind.u32.wrap (z2+1)) fun z3
  => .must (!decide (x.4<z3)) (.must (BE Af Af) (.defE ⟨[[.u]],[.own (e1.dt 0),.tok]⟩ fun e4=>.defI (BK (e4.dt 0).2) fun z5=>.defI (IntKind.u32.wrap (z5+1)) fun z6=>.must (!decide (x.4>z6)) (.must
  (x.1==1) (.defE ⟨[[.u],[.i x.b.1,.i x.b.2]],[.box [.i s.prom.1,.i s.prom.2,.i s.acc.1,.i s.acc.2,.i s.ainc.1,.i s.ainc.2,.i s.ainc.3]]⟩ fun e7=>.must (!prepB ⟨e7.ai 1 0,e7.ai 1 1⟩ ⟨e7.bi 0 0,e7.bi 0 1⟩)
  (.defI 0 fun z8=>.defI 0 fun z9=>.defI 0 fun z10=>.defI 0 fun z11=>.defI 0 fun z12=>.defI (ballE ⟨e7.ai 1 0,e7.ai 1 1⟩) fun z13=>.defI (e7.bi 0 0) fun z14=>.defI (e7.bi 0 1) fun z15=>.defI (e7.bi 0 2)
  fun z16=>.defI (e7.bi 0 3) fun z17=>.defI (e7.bi 0 4) fun z18=>.defI (e7.bi 0 5) fun z19=>.defI (e7.bi 0 6) fun z20=>.must (z13 != 0) (.must (BE Af Af) (.must (AX BB (AI BB (rowJ s.wishes))
  s.6.length) (.leaf ⟨[[.u]],[.box [.i s.1,.u,.u,.u,.u,.i s.8,.i s.over.1,.i s.over.2,.u],.own (e4.dt 0),.tok,.box [.i z14,.i z15,.i z16,.i z17,.i z18,.i z19,.i z20],.lst s.6.length (AH BB (AI
  BB (rowJ s.wishes))),.tok,repB s,.lst 1 (AH msgR (Aa 131 (mAV [.int .u8 (.lit 18),.int .u8 (.sym s.1),.int .u8 (.sym x.2),.int .u32 (.sym x.4),.int .u32 (.sym z14),.int .u8 (.sym z15),.int .u32 (.lit
  0),.int .u8 (.lit 0),.bool (.lit false),.int .u8 (.lit 0),.int .u8 (.lit 0),.int .i64 (.lit 0)] (.int .u32 (.lit 0))))),.tok]⟩))))))))))))):=by kernel_rfl
theorem aC0_3 (hd:Dat) (s:Al) (x:MMsg):(BR Tryz.prog (Am Tryz.prog waTb 300) 14 (st0T.vals ⟨[[],mRow x],mn0 hd s⟩) (st0T.heap ⟨[[],mRow x],mn0 hd s⟩) 7 (outV 7 st0R)).cut [some false,some true,some false,some false,some false,some false,some false,some true,some false] =
  .must (!x.1==1) (.must (x.1==3) (.defE ⟨[[.i x.1,.i x.2,.i x.3,.i x.4,.i x.b.1,.i x.b.2,.i x.acc.1,.i x.acc.2,.b x.7,.i x.inc.1,.i x.inc.2,.i x.inc.3,.u,.u,.u,.u,.u,.u,.u,.u,.u,.u,.u,.u,.u,
  .u,.u,.u,.u,.u,.u,.u,.u,.u,.u,.u,.u,.u,.u,.u,.u,.u,.u,.u,.u,.u,.u,.u,.u,.u,.u,.u,.u,.u,.u,.u,.u,.u,.u,.u,.u,.u,.u,.u,.u,.u,.u,.u,.u,.u,.u,.u,.u,.u,.u,.u,.u,.u,.u,.u,
  .u,.u,.u,.u,.u,.u,.u,.u,.u,.u,.u,.u,.u,.u,.u,.u,.u,.u,.u,.u,.u,.u,.u,.u,.u,.u,.u,.u,.u,.u,.u,.u,.u,.u,.u,.u,.u,.u,.u,.u,.u,.u,.i x.9,.u,.u,.u,.u,.u,.u,.u,.u]],[]⟩ fun e0
  => .must (kindB (e0.ai 0 0)) (.must (!!isM (BU e0 0)) (.must (!x.3 != s.1) (.must (BE Af Af) (.defE ⟨[[.u]],[.own (hdW hd s.2),.tok]⟩ fun e1=>.defI (BK (e1.dt 0).2) fun z2=>.defI (IntKind.u32.wrap
  (z2+1)) fun z3=>.must (!decide (x.4<z3)) (.must (BE Af Af) (.defE ⟨[[.u]],[.own (e1.dt 0),.tok]⟩ fun e4=>.defI (BK (e4.dt 0).2) fun z5=>.defI (IntKind.u32.wrap (z5+1)) fun z6=>.must (!decide
  (x.4>z6)) (.must (!x.1==1) (.defE ⟨[[.u],[.i x.b.1,.i x.b.2],[.i x.inc.1,.i x.inc.2,.i x.inc.3]],[.box [.i s.prom.1,.i s.prom.2,.i s.acc.1,.i s.acc.2,.i s.ainc.1,.i s.ainc.2,.i s.ainc.3]]⟩ fun e7=>.must
  ((bif e7.ai 2 0==1||e7.ai 2 0==2 then decide (e7.ai 2 1<5)&&e7.ai 2 2==0 else bif e7.ai 2 0==3 then decide (e7.ai 2 1<5)&&(decide (e7.ai 2 2≥0)&&decide (e7.ai 2 2≤16)) else e7.ai 2 0==4 &&
  (e7.ai 2 1==0&&e7.ai 2 2==0))&&prepB ⟨e7.ai 1 0,e7.ai 1 1⟩ ⟨e7.bi 0 0,e7.bi 0 1⟩) (.defI 0 fun z8=>.defI (e7.ai 1 0) fun z9=>.defI (e7.ai 1 1) fun z10=>.defI (e7.ai 1 0) fun z11=>.defI (e7.ai 1 1) fun
  z12=>.defI (e7.ai 2 0) fun z13=>.defI (e7.ai 2 1) fun z14=>.defI (e7.ai 2 2) fun z15=>.must (!z8 != 0) (.must (BE Af Af) (.must (AX BB (AI BB (rowJ s.wishes)) s.6.length) (.leaf ⟨[[.u]],[.box
  [.i s.1,.u,.u,.u,.u,.i s.8,.i s.over.1,.i s.over.2,.u],.own (e4.dt 0),.tok,.box [.i z9,.i z10,.i z11,.i z12,.i z13,.i z14,.i z15],.lst s.6.length (AH BB (AI BB (rowJ s.wishes))),.tok,repB
  s,.lst 1 (AH msgR (Aa 131 (mAV [.int .u8 (.lit 4),.int .u8 (.sym s.1),.int .u8 (.sym x.2),.int .u32 (.sym x.4),.int .u32 (.sym x.b.1),.int .u8 (.sym x.b.2),.int .u32 (.lit 0),.int .u8 (.lit 0),.bool
  (.lit false),.int .u8 (.lit 0),.int .u8 (.lit 0),.int .i64 (.lit 0)] (.int .u32 (.lit 0))))),.tok]⟩)))))))))))))):=by kernel_rfl
set_option maxHeartbeats 1000000 in
theorem sC0_1 (hd:Dat) (s:Al) (x:MMsg) (hk:x.kind=1) (hM:isM x=true) (hto:x.to=s.id) (hg:HGood s.incs) (hp:s.prop=none) (h:x.epoch=s.slot) (ho:s.prepareOk x.b=true):BI Tryz.prog 14 st0T ⟨[[],mRow x],mn0 hd s⟩ st0R ⟨[[.u]],mn0 hd (s.asked x).1++[.lst (s.asked x).2.length (rowM (s.asked x).2),.tok]⟩:=by
  have e:s.asked x=({ s with prom:=x.b },[s.back x { MMsg.mk0 2 x.epoch with b:=x.b,acc:=s.acc,inc:=s.ainc,has:=s.hasAcc }]):=by unfold Al.asked; rw [decide_eq_false (show ¬ x.epoch<s.slot by omega),decide_eq_false (show ¬ x.epoch>s.slot by omega),hk,ho] <;> rfl
  rw [e]
  refine Aj waTab Ay rfl (BG [some true,some false,some false,some false,some false,some true,some true,some false] (AL (aC0_1 hd s x) (AA (by rw [hk]; rfl) (AK (AA (by rw [← isM_kind hM]; rfl) (AA (by show (!!isM x)=true; rw [hM]; rfl) (AA (by show (!x.to != s.id)=true; rw [hto]; simp) ?_)))))))
  repeat' with_reducible (first | refine AB ?_ | refine AM ?_ | refine AK ?_ | refine AA (AS _) ?_ | refine AA (AN _ _ _) ?_ | refine AA (AZ rfl _ _) ?_)
  refine AA (by show (!decide (x.epoch<IntKind.u32.wrap (BK s.incs+1)))=true; rw [slot_wrap hg,decide_eq_false (by omega)]; rfl) ?_
  repeat' with_reducible (first | refine AB ?_ | refine AM ?_ | refine AK ?_ | refine AA (AS _) ?_ | refine AA (AN _ _ _) ?_ | refine AA (AZ rfl _ _) ?_)
  refine AA (by show (!decide (x.epoch>IntKind.u32.wrap (BK s.incs+1)))=true; rw [slot_wrap hg,decide_eq_false (by omega)]; rfl) (AA (by rw [hk]; rfl) ?_)
  repeat' with_reducible (first | refine AB ?_ | refine AM ?_ | refine AK ?_ | refine AA (AS _) ?_ | refine AA (AN _ _ _) ?_ | refine AA (AZ rfl _ _) ?_)
  refine AA (by have ho:s.prepareOk x.b=true:=ho; exact ho) ?_
  repeat' with_reducible (first | refine AB ?_ | refine AM ?_ | refine AK ?_ | refine AA (AS _) ?_ | refine AA (AN _ _ _) ?_ | refine AA (AZ rfl _ _) ?_)
  refine AA rfl ?_
  repeat' with_reducible (first | refine AB ?_ | refine AM ?_ | refine AK ?_ | refine AA (AS _) ?_ | refine AA (AN _ _ _) ?_ | refine AA (AZ rfl _ _) ?_)
  refine AE ?_
  refine ⟨⟨trivial,trivial⟩,?_,rfl,trivial,?_,⟨rfl,fun i _=>AF rfl _ i⟩,trivial,?_,⟨rfl,row1 (y:=s.back x { MMsg.mk0 2 x.epoch with b:=x.b,acc:=s.acc,inc:=s.ainc,has:=s.hasAcc }) clP⟩,trivial,trivial⟩
  · exact clP
  · exact clP
  · exact clP
set_option maxHeartbeats 1000000 in
theorem sD0_1 (hd:Dat) (s:Al) (x:MMsg) (hk:x.kind=1) (hM:isM x=true) (hto:x.to=s.id) (hg:HGood s.incs) (hp:s.prop=none) (h:x.epoch=s.slot) (ho:s.prepareOk x.b=false):BI Tryz.prog 14 st0T ⟨[[],mRow x],mn0 hd s⟩ st0R ⟨[[.u]],mn0 hd (s.asked x).1++[.lst (s.asked x).2.length (rowM (s.asked x).2),.tok]⟩:=by
  have e:s.asked x=(s,[s.back x { MMsg.mk0 18 x.epoch with b:=s.prom }]):=by unfold Al.asked; rw [decide_eq_false (show ¬ x.epoch<s.slot by omega),decide_eq_false (show ¬ x.epoch>s.slot by omega),hk,ho] <;> rfl
  rw [e]
  refine Aj waTab Ay rfl (BG [some true,some false,some false,some false,some false,some true,some false,some true] (AL (aD0_1 hd s x) (AA (by rw [hk]; rfl) (AK (AA (by rw [← isM_kind hM]; rfl) (AA (by show (!!isM x)=true; rw [hM]; rfl) (AA (by show (!x.to != s.id)=true; rw [hto]; simp) ?_)))))))
  repeat' with_reducible (first | refine AB ?_ | refine AM ?_ | refine AK ?_ | refine AA (AS _) ?_ | refine AA (AN _ _ _) ?_ | refine AA (AZ rfl _ _) ?_)
  refine AA (by show (!decide (x.epoch<IntKind.u32.wrap (BK s.incs+1)))=true; rw [slot_wrap hg,decide_eq_false (by omega)]; rfl) ?_
  repeat' with_reducible (first | refine AB ?_ | refine AM ?_ | refine AK ?_ | refine AA (AS _) ?_ | refine AA (AN _ _ _) ?_ | refine AA (AZ rfl _ _) ?_)
  refine AA (by show (!decide (x.epoch>IntKind.u32.wrap (BK s.incs+1)))=true; rw [slot_wrap hg,decide_eq_false (by omega)]; rfl) (AA (by rw [hk]; rfl) ?_)
  repeat' with_reducible (first | refine AB ?_ | refine AM ?_ | refine AK ?_ | refine AA (AS _) ?_ | refine AA (AN _ _ _) ?_ | refine AA (AZ rfl _ _) ?_)
  refine AA (by have ho:s.prepareOk x.b=false:=ho; show (!prepB x.b s.prom)=true; rw [show prepB x.b s.prom=false from ho]; rfl) ?_
  repeat' with_reducible (first | refine AB ?_ | refine AM ?_ | refine AK ?_ | refine AA (AS _) ?_ | refine AA (AN _ _ _) ?_ | refine AA (AZ rfl _ _) ?_)
  refine AA (ballE_ne _) ?_
  repeat' with_reducible (first | refine AB ?_ | refine AM ?_ | refine AK ?_ | refine AA (AS _) ?_ | refine AA (AN _ _ _) ?_ | refine AA (AZ rfl _ _) ?_)
  refine AE ?_
  refine ⟨⟨trivial,trivial⟩,?_,rfl,trivial,?_,⟨rfl,fun i _=>AF rfl _ i⟩,trivial,?_,⟨rfl,row1 (y:=s.back x { MMsg.mk0 18 x.epoch with b:=s.prom }) clP⟩,trivial,trivial⟩
  · exact clP
  · exact clP
  · exact clP
set_option maxHeartbeats 1000000 in
theorem sC0_3 (hd:Dat) (s:Al) (x:MMsg) (hk:x.kind=3) (hM:isM x=true) (hto:x.to=s.id) (hg:HGood s.incs) (hp:s.prop=none) (h:x.epoch=s.slot) (ho:s.acceptOk x.b x.inc=true):BI Tryz.prog 14 st0T ⟨[[],mRow x],mn0 hd s⟩ st0R ⟨[[.u]],mn0 hd (s.asked x).1++[.lst (s.asked x).2.length (rowM (s.asked x).2),.tok]⟩:=by
  have e:s.asked x=({ s with prom:=x.b,acc:=x.b,ainc:=x.inc },[s.back x { MMsg.mk0 4 x.epoch with b:=x.b }]):=by unfold Al.asked; rw [decide_eq_false (show ¬ x.epoch<s.slot by omega),decide_eq_false (show ¬ x.epoch>s.slot by omega),hk,ho] <;> rfl
  rw [e]
  refine Aj waTab Ay rfl (BG [some false,some true,some false,some false,some false,some false,some false,some true,some false] (AL (aC0_3 hd s x) (AA (by rw [hk]; rfl) (AA (by rw [hk]; rfl) (AK (AA (by rw [← isM_kind hM]; rfl) (AA (by show (!!isM x)=true; rw [hM]; rfl) (AA (by show (!x.to != s.id)=true; rw [hto]; simp) ?_))))))))
  repeat' with_reducible (first | refine AB ?_ | refine AM ?_ | refine AK ?_ | refine AA (AS _) ?_ | refine AA (AN _ _ _) ?_ | refine AA (AZ rfl _ _) ?_)
  refine AA (by show (!decide (x.epoch<IntKind.u32.wrap (BK s.incs+1)))=true; rw [slot_wrap hg,decide_eq_false (by omega)]; rfl) ?_
  repeat' with_reducible (first | refine AB ?_ | refine AM ?_ | refine AK ?_ | refine AA (AS _) ?_ | refine AA (AN _ _ _) ?_ | refine AA (AZ rfl _ _) ?_)
  refine AA (by show (!decide (x.epoch>IntKind.u32.wrap (BK s.incs+1)))=true; rw [slot_wrap hg,decide_eq_false (by omega)]; rfl) (AA (by rw [hk]; rfl) ?_)
  repeat' with_reducible (first | refine AB ?_ | refine AM ?_ | refine AK ?_ | refine AA (AS _) ?_ | refine AA (AN _ _ _) ?_ | refine AA (AZ rfl _ _) ?_)
  refine AA (by have ho:s.acceptOk x.b x.inc=true:=ho; unfold Al.acceptOk at ho; show (incOk x.inc&&prepB x.b s.prom)=true; unfold prepB; simp only [Bool.and_eq_true] at ho ⊢; exact ⟨ho.1.2,ho.1.1,ho.2⟩) ?_
  repeat' with_reducible (first | refine AB ?_ | refine AM ?_ | refine AK ?_ | refine AA (AS _) ?_ | refine AA (AN _ _ _) ?_ | refine AA (AZ rfl _ _) ?_)
  refine AA rfl ?_
  repeat' with_reducible (first | refine AB ?_ | refine AM ?_ | refine AK ?_ | refine AA (AS _) ?_ | refine AA (AN _ _ _) ?_ | refine AA (AZ rfl _ _) ?_)
  refine AE ?_
  refine ⟨⟨trivial,trivial⟩,?_,rfl,trivial,?_,⟨rfl,fun i _=>AF rfl _ i⟩,trivial,?_,⟨rfl,row1 (y:=s.back x { MMsg.mk0 4 x.epoch with b:=x.b }) clP⟩,trivial,trivial⟩
  · exact clP
  · exact clP
  · exact clP
end Go.Proofs.YtddmgdclmkgpeaaGreat
set_option linter.unusedSimpArgs false
set_option linter.unusedVariables false
namespace Go.Proofs.YtddmgdclmkgpeaaGreat
open Go.Eng Go.RowKit Go.ChangeShapes Go.WideShapes
set_option maxRecDepth 100000
noncomputable def laSm:List (FuncId×Summ):=[(13,AW mwT cMw2),(19,AW woT cWu),(16,AW ioT cSw),(15,AW ldT cLw),(17,rdSumm 2 MonR noA prmN prmV),(23,rdSumm 2 MonR noA idN idV),(21,hsSumm),(24,rdSumm 5 HistI noA laN laV),(22,rdSumm 5 HistI u32A icN icV),(26,rdSumm 5 HistI u32A mpN mpV)]
noncomputable def laTb:Tab:=smTab (tabOf laSm)
theorem laSm_ok:AllOk Tryz.prog laSm:=⟨cMw2_ok,cWu_ok,cSw_ok,cLw_ok,cPrI_ok,cIdI_ok,hsSumm_ok,cLaI_ok,cHiI_ok,cHmI_ok,trivial⟩
theorem laTab:TabAll Tryz.prog laTb:=tab_ok laSm_ok
theorem kn_t  : BR Tryz.prog (Am Tryz.prog laTb 300) 12 [] [] 0 (outV 0 boolR) =
  .defE ⟨[[.i 0]],[]⟩ fun e0=>.must (decide (0≤e0.ai 0 0)) (.defE (mnwN e0) fun e1=>.must (BE MonR MonR) (.defE ⟨[[.u],[.i 2,.i 2,.i 0]],[.own (e1.dt 0),.tok]⟩ fun e2=>.must (decide (0≤e2.ai 1 1)) (.defE
  (wuN e2) fun e3=>.defI (e3.ai 0 0) fun z4=>.defI ((e3.ln 1):Int) fun z5=>.must (BE MonR MonR) (.defE ⟨[[.u],[.i 0,.i 0,.i 0]],[.own (e3.dt 0),.tok]⟩ fun e6=>.must (decide (0≤e6.ai 1 1)) (.defE (wuN
  e6) fun e7=>.defI (e7.ai 0 0) fun z8=>.defI ((e7.ln 1):Int) fun z9=>.must (BE MonR MonR) (.defE ⟨[[.u]],[.own (e7.dt 0),.tok]⟩ fun e10=>.defE (svN e10) fun e11=>.defI ((e11.ln 0):Int) fun z12=>.must
  (AX [.i .u8] ((AI [.i .u8] (e11.rw 0))) z12.toNat) (.defE ⟨[[.u]],[.lst z12.toNat (AH [.i .u8] (AI [.i .u8] (e11.rw 0)))]⟩ fun e13=>.defE (lwN e13) fun e14=>.must (e14.ab 0 0) (.defI 0 fun z15=>.ite
  (z4==0) (.ite (z5==2) (.must (decide ((0:Int)≤0∧(0:Int)<z5)) (.must (decide ((0:Int)≤0∧(0:Int)<z5)) (.defI (hdN (e3.rw 1 0)).I fun z16=>.ite (z16==1) (.must (decide ((0:Int)≤1∧(1:Int)
  < z5)) (.must (decide ((0:Int)≤1∧(1:Int)<z5)) (.defI (hdN (tlN (tlN (e3.rw 1 1)))).I fun z17=>.ite (z17==2) (.ite (z8==210) (.ite (z15==0) (.must (BE MonR MonR) (.defE ⟨[],[.own (e14.dt 0)]⟩ fun e18
  => .defE (prmN e18) fun e19=>.defI (e19.ai 0 0) fun z20=>.defI (e19.ai 0 1) fun z21=>.must (BE MonR MonR) (.defE ⟨[],[.own (e10.dt 0)]⟩ fun e22=>.defE (prmN e22) fun e23=>.defI (e23.ai 0 0) fun z24=>.defI
  (e23.ai 0 1) fun z25=>.ite (z20==z24&&z21==z25) (.must (BE MonR MonR) (.defE ⟨[],[.own (e10.dt 0)]⟩ fun e26=>.defE (idN e26) fun e27=>.ite (!e27.ab 0 0) (.must (BE MonR MonR) (.defE ⟨[],[.own (e14.dt
  0)]⟩ fun e28=>.defE (idN e28) fun e29=>.leaf ⟨[[.b (e29.ab 0 0)]],[]⟩)) (.leaf ⟨[[.b false]],[]⟩))) (.leaf ⟨[[.b false]],[]⟩)))) (.leaf ⟨[[.b false]],[]⟩)) (.leaf ⟨[[.b false]],[]⟩)) (.leaf ⟨[[.b false]],
  []⟩)))) (.leaf ⟨[[.b false]],[]⟩)))) (.leaf ⟨[[.b false]],[]⟩)) (.leaf ⟨[[.b false]],[]⟩))))))))):=by kernel_rfl
theorem starts_incs (s:Al) (p:BA):(s.starts p).1.incs=s.incs∧(s.starts p).1.id=s.id:=by
  unfold Al.starts
  dsimp only
  split
  all_goals exact ⟨rfl,rfl⟩
theorem begins_incs (s:Al):s.begins.1.incs=s.incs∧s.begins.1.id=s.id:=by
  unfold Al.begins
  split
  · exact ⟨rfl,rfl⟩
  · exact ⟨rfl,rfl⟩
  · rename_i w ws _ _
    exact starts_incs { s with wishes:=w::ws } _
theorem mok_begins {s:Al} (h:MOk s):MOk s.begins.1:=⟨mgood_begins h.1,by rw [(begins_incs s).1]; exact h.2⟩
theorem mok_wish {s:Al} (h:MOk s) {x:Inc} (hx:0≤x.osd):MOk (s.wish x).1.1:=by
  unfold Al.wish
  split
  · exact h
  · exact mok_begins (s:={ s with wishes:=s.wishes++[x] }) ⟨mgood_wish h.1 hx,h.2⟩
theorem mok_new {n:Int} (h:0≤n):MOk (Al.new n):=⟨mgood_new h,(by decide:(0:Nat)≤59),fun x hx=>by cases hx⟩
theorem lst_rt {k:IntKind} (l:List Int):Ax l.length (AH [.i k] (AI [.i k] (AR l)))=l:=lstI_rows rfl fun i _=>(AF (row:=[.i k]) rfl (AR l) i).1
theorem lw_save {d:Al} (hs:MOk d) {n:Int} {r:Nat→List Num} (hn:n=((saveL d).length:Int)) (hr:r=AH [.i .u8] (AI [.i .u8] (AR (saveL d)))):lwN ⟨[[.u]],[.lst n.toNat r]⟩=⟨[[.b true]],[.own d.again]⟩:=by
  subst hn hr
  have e:Ax (EN.ln ⟨[[.u]],[.lst (((saveL d).length:Nat):Int).toNat (AH [.i .u8] (AI [.i .u8] (AR (saveL d))))]⟩ 0) (EN.rw ⟨[[.u]],[.lst (((saveL d).length:Nat):Int).toNat (AH [.i .u8] (AI [.i .u8] (AR (saveL d))))]⟩ 0)=saveL d:=lst_rt (k:=.u8) (saveL d)
  unfold lwN
  rw [e,loadB_save hs,loadS_save hs]
def kn1:Al:=((Al.new 0).wish ⟨2,2,0⟩).1.1
def kn2:Al:=(kn1.wish ⟨0,0,0⟩).1.1
theorem kn_ok:MOk kn2:=mok_wish (mok_wish (mok_new (Int.le_refl 0)) (by decide)) (by decide)
theorem kn_std:BI Tryz.prog 12 nilT ⟨[],[]⟩ boolR ⟨[[.b true]],[]⟩:=by
  refine Aj laTab Ay rfl (AL kn_t ?_)
  refine AK (AA rfl (AK (AA (AS _) (AK (AA rfl (AK (AB (AB (AA (AS _) (AK (AA rfl (AK (AB (AB (AA (AS _) (AK (AK (AB (AA (AN _ _ _) (AK (An fun e14 h14=>?_)))))))))))))))))))))
  have h14:=h14.trans (lw_save (d:=kn2) kn_ok rfl rfl)
  subst h14
  repeat' first
    | refine AK ?_
    | refine AB ?_
    | refine AA (AS _) ?_
    | refine AA (by kernel_rfl) ?_
    | refine AU (by kernel_rfl) ?_
  refine AE ⟨⟨?_,trivial⟩,trivial⟩
  show Num.B _=_
  kernel_rfl
def cKn (_:EN):Ah (TS×EN):=.leaf (boolR,⟨[[.b true]],[]⟩)
theorem cKn_ok:Ak Tryz.prog 12 (ctrSumm0 nilT cKn):=ctr0_ok fun e r h=>by
  cases h
  exact BI.pre (x':=⟨[],[]⟩) ⟨trivial,trivial⟩ kn_std
end Go.Proofs.YtddmgdclmkgpeaaGreat
set_option linter.unusedSimpArgs false
set_option linter.unusedVariables false
namespace Go.Proofs.YtddmgdclmkgpeaaGreat
open Go.Eng Go.RowKit Go.ChangeShapes Go.WideShapes
set_option maxRecDepth 100000
def MsgOk (x:MMsg):Prop:=(0≤x.b.n∧x.b.n<4294967296∧0≤x.b.who)∧0≤x.inc.osd∧0≤x.n∧kindB x.kind=true
def AllOkM (l:List MMsg):Prop:=∀ y,y∈l→MsgOk y
theorem allM_one {y:MMsg} (h:MsgOk y):AllOkM [y]:=fun z hz=>by
  have:z=y:=by simpa using hz
  rw [this]
  exact h
theorem ok_back {s:Al} {x y:MMsg} (h:MsgOk y):MsgOk (s.back x y):=h
theorem ok_mk {k e:Int} {b a:Bal} {i:Inc} {h:Bool} (hb:0≤b.n∧b.n<4294967296∧0≤b.who) (hi:0≤i.osd) (hk:kindB k=true):MsgOk { MMsg.mk0 k e with b:=b,acc:=a,has:=h,inc:=i }:=⟨hb,hi,Int.le_refl 0,hk⟩
theorem bz:0≤Bal.zero.n∧Bal.zero.n<4294967296∧0≤Bal.zero.who:=by decide
theorem iz:0≤Inc.zero.osd:=by decide
theorem balB_r {b:Bal} (h:BalB b):0≤b.n∧b.n<4294967296∧0≤b.who:=⟨h.1.1,h.1.2,h.2.1⟩
theorem incAt_osd {s:Al} (h:HGood s.incs) (e:Int):0≤(s.incAt e).osd:=by
  unfold Al.incAt
  by_cases hi:(e - 2).toNat<s.incs.length
  · have:=h.2 _ (List.getElem_mem hi)
    rw [List.getD,List.getElem?_eq_getElem hi]
    exact this.2
  · rw [List.getD,List.getElem?_eq_none (by omega)]
    exact iz
theorem mok_asked {s:Al} (h:MOk s) {x:MMsg} (hx:MsgOk x):MOk (s.asked x).1∧AllOkM (s.asked x).2:=by
  obtain ⟨⟨h1,h2,h3,h4,h5,h6,k1,k2,k3,k4⟩,hg⟩:=h
  have hs:MOk s:=⟨⟨h1,h2,h3,h4,h5,h6,k1,k2,k3,k4⟩,hg⟩
  unfold Al.asked
  split
  · refine ⟨hs,allM_one (ok_back (ok_mk (b:=.zero) (a:=.zero) (h:=false) bz ?_ rfl))⟩
    split
    · exact incAt_osd hg _
    · exact iz
  · split
    · exact ⟨hs,allM_one (ok_back (ok_mk (b:=.zero) (a:=.zero) (h:=false) (i:=.zero) bz iz rfl))⟩
    · split
      · split
        · rename_i ho
          have ho:prepB x.b s.prom=true:=ho
          unfold prepB Bal.ok at ho
          simp only [Bool.and_eq_true,Bool.not_eq_true',decide_eq_true_eq] at ho
          refine ⟨⟨⟨h1,h2,h3,h4,hx.1.1,h6,⟨⟨hx.1.1,hx.1.2.1⟩,hx.1.2.2,ho.1.2⟩,acc_up k2 ho.2,k3,k4⟩,hg⟩,allM_one (ok_back (ok_mk (b:=x.b) (a:=s.acc) (h:=s.hasAcc) (i:=s.ainc) hx.1 (acc_osd k2) rfl))⟩
        · exact ⟨hs,allM_one (ok_back (ok_mk (b:=s.prom) (a:=.zero) (h:=false) (i:=.zero) (balB_r k1) iz rfl))⟩
      · split
        · rename_i ho
          unfold Al.acceptOk Bal.ok at ho
          simp only [Bool.and_eq_true,Bool.not_eq_true',decide_eq_true_eq] at ho
          have hB:BalB x.b:=⟨⟨hx.1.1,hx.1.2.1⟩,hx.1.2.2,ho.1.1.2⟩
          refine ⟨⟨⟨h1,h2,h3,h4,hx.1.1,h6,hB,.inr ⟨ho.1.1.1,hB,ho.1.2,hx.2.1,?_⟩,k3,k4⟩,hg⟩,allM_one (ok_back (ok_mk (b:=x.b) (a:=.zero) (h:=false) (i:=.zero) hx.1 iz rfl))⟩
          unfold Bal.less
          simp
        · exact ⟨hs,allM_one (ok_back (ok_mk (b:=s.prom) (a:=.zero) (h:=false) (i:=.zero) (balB_r k1) iz rfl))⟩
theorem monR_ok {d:Dat} {blk:Nat} {fp:List Nat} {w:World} (h:MonR d blk fp w):MOk d:=by
  obtain ⟨_,_,_,_,_,_,_,_,_,_,_,_,_,_,_,_,c⟩:=mon_cells h
  obtain ⟨_,_,hr⟩:=c w (Nat.le_refl _) (fun _ _=>rfl)
  exact ⟨h.1,hr.1⟩
theorem std_mok {f : FuncId} {m m' : Nat} {h h' : List (Nat × Ai)} {args : List AV} {v : AV} {d : Dat} {k g t : Nat} (h1 : AO (Ad h) k = some (.own t MonR d g)) (h2 : AO (Ad h) g = some .tok)
    (H:MOk d→StdN Tryz.prog f m h args m' h' v):StdN Tryz.prog f m h args m' h' v:=fun E w hU=>by
  have:=hU.here.obj k _ h1
  exact H (monR_ok (this h2 w (Nat.le_refl _) (fun _ _=>rfl))) E w hU
theorem own00 {f : FuncId} {d d' : Dat} {out : List MMsg} {args : List AV} (hp : d.prop = none) (av : ∀ E E' : Env, E'.blk 0 = E.blk 0 → BM E' args = BM E args) (hg : MGood d') (hp2 : d'.prop = none) {ln : SI} (hln : ln.v = (out.length : Int))
    (H:∀ hd,StdN Tryz.prog f 7 (instH mp0 (mn0 hd d)) args 12 (instH beH0 (mn0 hd d')++[(10,.lst ln 131 (AI msgR (rowM out)) (some 11)),(11,.tok)]) (.sl 10)) :
    StdN Tryz.prog f 2 [(0,.own 2 MonR d 1),(1,.tok)] args 43 (instH lsH (lsO (d',out))) (.sl 41):=by
  refine ls_go (r:=(d',out)) (k:=10) (len:=ln) (v:=.sl 10) rfl hln rfl rfl (fun _ _=>rfl) (fun _ _=>⟨rfl,rfl,rfl,rfl⟩) ?_
  exact mon_own0 (d':=d') (rest:=[(10,.lst ln 131 (AI msgR (rowM out)) (some 11)),(11,.tok)]) (v:=.sl 10) (fun hd=>instH beH0 (mn0 hd d')) hp av
    (fun _ _ _ h=>by show Value.slice _ _ _=Value.slice _ _ _; rw [(h 10 (by decide) (by decide)).2]) (by decide:12≤40)
    (List.forall_mem_cons.2 ⟨⟨by decide,by decide,fun i=>⟨rfl,rfl⟩⟩,List.forall_mem_cons.2 ⟨(by decide:7≤11),fun _ h=>by cases h⟩⟩) (fun _=>rfl) (show 0 ∉ [10,11] by decide) rfl (List.forall_mem_cons.2 ⟨fun g e=>(by cases e; exact (show 11∈[10,11] by decide)),List.forall_mem_cons.2 ⟨fun g e=>(by cases e),fun _ h=>by cases h⟩⟩) (fun _=>noRo_list rfl) (fun _ _ _ _ q=>⟨hg,.inl ⟨hp2,_,pk_post0 q⟩⟩) H
def stpT:TS:=⟨[],[.one (.ptr 0 0),.agg msgR],moP,2⟩
def msgB (x:MMsg):Bool:=(decide (0≤x.b.n)&&(decide (x.b.n<4294967296)&&decide (0≤x.b.who)))&&(decide (0≤x.inc.osd)&&(decide (0≤x.n)&&kindB x.kind))
def skN (e:EN):EN:=⟨[[.b (msgB (BU e 1)&&((e.dt 0).prop.isNone&&(isM (BU e 1)&&((BU e 1).to==(e.dt 0).id&&((BU e 1).epoch==(e.dt 0).slot&&((BU e 1).kind==1||((BU e 1).kind==3&&(e.dt 0).acceptOk (BU e 1).b (BU e 1).inc)))))))]],(lsN ((e.dt 0).asked (BU e 1))).o⟩
def cSk (e:EN):Ah (TS×EN):=.defE (skN e) fun r=>.must (r.ab 0 0) (.leaf (lsR,⟨[[.u]],[.own (r.dt 0),.tok,.lst (r.ln 1) (r.rw 1),.tok]⟩))
theorem msgB_ok {x:MMsg} (h:msgB x=true):MsgOk x:=by
  unfold msgB at h
  simp only [Bool.and_eq_true,decide_eq_true_eq] at h
  exact ⟨h.1,h.2.1,h.2.2.1,h.2.2.2⟩
theorem av_stp (d:Dat) (x:MMsg):∀ E E':Env,E'.blk 0=E.blk 0→BM E' (stpT.vals ⟨[[],mRow x],[.own d,.tok]⟩)=BM E (stpT.vals ⟨[[],mRow x],[.own d,.tok]⟩):=fun E E' h=>by
  show [Value.pointer _,_]=[Value.pointer _,_]
  rw [h]
  rfl
theorem asked_prop (s:Al) (x:MMsg):(s.asked x).1.prop=s.prop:=by
  unfold Al.asked
  split
  · rfl
  · split
    · rfl
    · split <;> split <;> rfl
theorem cSk_ok:Ak Tryz.prog 14 (AW stpT cSk):=BN fun e r h=>by
  have h:(Ah.must ((skN e).ab 0 0) (.leaf (lsR,(⟨[[.u]],[.own ((skN e).dt 0),.tok,.lst ((skN e).ln 1) ((skN e).rw 1),.tok]⟩:EN)))).sel=some r:=h
  obtain ⟨hm,h⟩:=Ar h
  cases h
  have hm:(msgB (BU e 1)&&((e.dt 0).prop.isNone&&(isM (BU e 1)&&((BU e 1).to==(e.dt 0).id&&((BU e 1).epoch==(e.dt 0).slot&&((BU e 1).kind==1||((BU e 1).kind==3&&(e.dt 0).acceptOk (BU e 1).b (BU e 1).inc)))))))=true:=hm
  simp only [Bool.and_eq_true,Bool.or_eq_true,beq_iff_eq] at hm
  obtain ⟨hx,hp,hM,hto,hep,hk⟩:=hm
  have hp:(e.dt 0).prop=none:=by simpa using hp
  refine BI.pre (x':=⟨[[],mRow (BU e 1)],[.own (e.dt 0),.tok]⟩) clP (std_mok (k:=0) (g:=1) rfl rfl fun hok=>?_)
  have hok:MOk (e.dt 0):=hok
  refine own00 (d':=((e.dt 0).asked (BU e 1)).1) (out:=((e.dt 0).asked (BU e 1)).2) hp (av_stp (e.dt 0) (BU e 1)) (mok_asked hok (msgB_ok hx)).1.1 (by rw [asked_prop]; exact hp) (ln:=.sym (((e.dt 0).asked (BU e 1)).2.length:Int)) rfl (fun hd=>std_good (k:=1) (g:=2) rfl rfl fun hg=>?_)
  rcases hk with hk | ⟨hk,ho⟩
  · cases ho:(e.dt 0).prepareOk (BU e 1).b with
    | true=>exact sC0_1 hd (e.dt 0) (BU e 1) hk hM hto hg hp hep ho
    | false=>exact sD0_1 hd (e.dt 0) (BU e 1) hk hM hto hg hp hep ho
  · exact sC0_3 hd (e.dt 0) (BU e 1) hk hM hto hg hp hep ho
end Go.Proofs.YtddmgdclmkgpeaaGreat
set_option linter.unusedSimpArgs false
set_option linter.unusedVariables false
namespace Go.Proofs.YtddmgdclmkgpeaaGreat
open Go.Eng Go.RowKit Go.ChangeShapes Go.WideShapes
set_option maxRecDepth 100000
noncomputable def lkSm:List (FuncId×Summ):=(14,AW stpT cSk)::(12,ctrSumm0 nilT cKn)::laSm
noncomputable def lkTb:Tab:=smTab (tabOf lkSm)
theorem lkSm_ok:AllOk Tryz.prog lkSm:=⟨cSk_ok,cKn_ok,laSm_ok⟩
theorem lkTab:TabAll Tryz.prog lkTb:=tab_ok lkSm_ok
noncomputable abbrev qLk1 (v0:Int) (v1:EN):EN:=⟨[[.u],[.i 1,.i 2,.i 0,.i 2,.i v0,.i 2,.i 0,.i 0,.b false,.i 0,.i 0,.i 0,.u,.u,.u,.u,.u,.u,.u,.u,.u,.u,.u,.u,.u,.u,.u,.u,.u,.u,.u,.u,.u,.u,.u,.u,.u,.u,.u,.u,.u,.u,.u,.u,.u,.u,.u,.u,.u,.u,.u,.u,.u,.u,.u,.u,.u,.u,.u,.u,.u,.u,.u,.u,.u,.u,.u,.u,.u,.u,.u,.u,.u,.u,.u,.u,.u,.u,.u,.u,.u,.u,.u,.u,.u,.u,.u,.u,.u,.u,.u,.u,.u,.u,.u,.u,.u,.u,.u,.u,.u,.u,.u,.u,.u,.u,.u,.u,.u,.u,.u,.u,.u,.u,.u,.u,.u,.u,.u,.u,.u,.u,.i 0,.u,.u,.u,.u,.u,.u,.u,.u]],[.own (v1.dt 0),.tok]⟩
theorem ke_t (n x osd y:Int):runV Tryz.prog lkTb 300 3 [.int .u32 (.sym n),.agg [.int .u8 (.sym x),.int .u8 (.sym osd),.int .i64 (.sym y)]] =

  .ite false (.leaf (.bool (.lit false))) (.defI (n.tmod 1000) fun z0=>.defI (IntKind.u32.wrap (z0+2)) fun z1=>.defI (osd.tmod 5) fun z2=>.defE ⟨[[.i 0]],[]⟩ fun e3=>.must (decide (0≤e3.ai 0 0)) (.defE (mnwN e3) fun e4=>.must (BE MonR MonR) (.defE ⟨[[.u],[.i 3,.i 1,.i 0,.i 2,.i z1,.i 1,.i 0,.i 0,.b false,.i 3,.i z2,.i 4,.u,.u,.u,.u,.u,.u,.u,.u,.u,.u,.u,.u,.u,.u,.u,.u,.u,.u,.u,.u,.u,.u,.u,.u,.u,.u,.u,.u,.u,.u,.u,.u,.u,.u,.u,.u,.u,.u,.u,.u,.u,.u,.u,.u,.u,.u,.u,.u,.u,.u,.u,.u,.u,.u,.u,.u,.u,.u,.u,.u,.u,.u,.u,.u,.u,.u,.u,.u,.u,.u,.u,.u,.u,.u,.u,.u,.u,.u,.u,.u,.u,.u,.u,.u,.u,.u,.u,.u,.u,.u,.u,.u,.u,.u,.u,.u,.u,.u,.u,.u,.u,.u,.u,.u,.u,.u,.u,.u,.u,.u,.i 0,.u,.u,.u,.u,.u,.u,.u,.u]],[.own (e4.dt 0),.tok]⟩ fun e5=>.defE (skN e5) fun e6=>.must (e6.ab 0 0) (.defI ((e6.ln 1):Int) fun z7=>.must (BE MonR MonR) (.defE ⟨[[.u]],[.own (e6.dt 0),.tok]⟩ fun e8=>.defE (svN e8) fun e9=>.defI ((e9.ln 0):Int) fun z10=>.must (AX [.i .u8] ((AI [.i .u8] (e9.rw 0))) z10.toNat) (.defE ⟨[[.u]],[.lst z10.toNat (AH [.i .u8] (AI [.i .u8] (e9.rw 0)))]⟩ fun e11=>.defE (lwN e11) fun e12=>.must (e12.ab 0 0) (.defI 0 fun z13=>.ite (z13 != 0) (.leaf (.bool (.lit false))) (.ite (z7 != 1) (.leaf (.bool (.lit false))) (.must (decide ((0:Int)≤0∧(0:Int)<z7)) (.must (decide ((0:Int)≤0∧(0:Int)<z7)) (.defI (hdN
 (e6.rw 1 0)).I fun z14=>.ite (z14 != 4) (.leaf (.bool (.lit false))) (.must (BE MonR MonR) (.defE ⟨[],[.own (e12.dt 0)]⟩ fun e15=>.defE (prmN e15) fun e16=>.defI (e16.ai 0 0) fun z17=>.defI (e16.ai 0 1) fun z18=>.ite (!(z17==z1&&z18==1)) (.leaf (.bool (.lit false))) (.defI (IntKind.u32.wrap (z1 - 1)) fun z19=>.must (BE MonR MonR) (.defE (qLk1 z19 e12) fun e20=>.defE (skN e20) fun e21=>.must (e21.ab 0 0) (.defI ((e21.ln 1):Int) fun z22=>.defI (IntKind.u32.wrap (z1+1)) fun z23=>.must (BE MonR MonR) (.defE (qLk1 z23 e21) fun e24=>.defE (skN e24) fun e25=>.must (e25.ab 0 0) (.defI ((e25.ln 1):Int) fun z26=>.ite (z22==1) (.must (decide ((0:Int)≤0∧(0:Int)<z22)) (.must (decide ((0:Int)≤0∧(0:Int)<z22)) (.defI (hdN (e21.rw 1 0)).I fun z27=>.ite (z27==18) (.must (decide ((0:Int)≤0∧(0:Int)<z22)) (.must (decide ((0:Int)≤0∧(0:Int)<z22)) (.defI (hdN (tlN (tlN (tlN (tlN (e21.rw 1 0)))))).I fun z28=>.defI (hdN (tlN (tlN (tlN (tlN (tlN (e21.rw 1 0))))))).I fun z29=>.ite (z28==z1&&z29==1) (.ite (z26==1) (.must (decide ((0:Int)≤0∧(0:Int)<z26)) (.must (decide ((0:Int)≤0∧(0:Int)<z26)) (.defI (hdN (e25.rw 1 0)).I fun z30=>.ite (z30==2) (.must (decide ((0:Int)≤0∧(0:Int)<z26)) (.must (decide ((0:Int)≤0∧(0:Int)<z26)) (.ite (hdN (tlN (tlN (tlN (tlN (tlN (tlN (tlN (tlN (e25.rw 1 0)))))))))).B (.must (decide ((0:Int)≤0∧(0:Int)<z26)) (.must
 (decide ((0:Int)≤0∧(0:Int)<z26)) (.defI (hdN (tlN (tlN (tlN (tlN (tlN (tlN (e25.rw 1 0)))))))).I fun z31=>.defI (hdN (tlN (tlN (tlN (tlN (tlN (tlN (tlN (e25.rw 1 0))))))))).I fun z32=>.ite (z31==z1&&z32==1) (.must (decide ((0:Int)≤0∧(0:Int)<z26)) (.must (decide ((0:Int)≤0∧(0:Int)<z26)) (.defI (hdN (tlN (tlN (tlN (tlN (tlN (tlN (tlN (tlN (tlN (e25.rw 1 0))))))))))).I fun z33=>.defI (hdN (tlN (tlN (tlN (tlN (tlN (tlN (tlN (tlN (tlN (tlN (e25.rw 1 0)))))))))))).I fun z34=>.defI (hdN (tlN (tlN (tlN (tlN (tlN (tlN (tlN (tlN (tlN (tlN (tlN (e25.rw 1 0))))))))))))).I fun z35=>.leaf (.bool (.sym (z33==3&&(z34==z2&&z35==4))))))) (.leaf (.bool (.lit false)))))) (.leaf (.bool (.lit false)))))) (.leaf (.bool (.lit false)))))) (.leaf (.bool (.lit false)))) (.leaf (.bool (.lit false)))))) (.leaf (.bool (.lit false)))))) (.leaf (.bool (.lit false))))))))))))))))))))):=by kernel_rfl
def gB (s:Al) (x:MMsg):Bool:=msgB x&&(s.prop.isNone&&(isM x&&(x.to==s.id&&(x.epoch==s.slot&&(x.kind==1||(x.kind==3&&s.acceptOk x.b x.inc))))))
theorem sk_of {e:EN} (s:Al) (x:MMsg) (r:Al×List MMsg) (h1:e.dt 0=s) (h2:BU e 1=x) (h3:gB s x=true) (h4:s.asked x=r):skN e=⟨[[.b true]],(lsN r).o⟩:=by
  have h:skN e=⟨[[.b (gB (e.dt 0) (BU e 1))]],(lsN ((e.dt 0).asked (BU e 1))).o⟩:=rfl
  rw [h,h1,h2,h3,h4]
theorem ke_wrap {n:Int} (h:0≤n∧n<4294967296):IntKind.u32.wrap n=n:=IntWalk.u32_in _ (by omega)
def keM (z o:Int):MMsg:=⟨3,1,0,2,⟨z,1⟩,⟨0,0⟩,false,⟨3,o,4⟩,0⟩
def keP (y:Int):MMsg:=⟨1,2,0,2,⟨y,2⟩,⟨0,0⟩,false,⟨0,0,0⟩,0⟩
def keS (z o:Int):Al:={ Al.new 0 with prom:=⟨z,1⟩,acc:=⟨z,1⟩,ainc:=⟨3,o,4⟩ }
theorem ke_inc {o:Int} (ho:o<5):incOk ⟨3,o,4⟩=true:=by
  show (decide (o<5)&&(decide ((4:Int)≥0)&&decide ((4:Int)≤16)))=true
  rw [decide_eq_true ho]
  rfl
theorem ke_ok1 {z o:Int} (hz:2≤z) (ho:o<5):(Al.new 0).acceptOk ⟨z,1⟩ ⟨3,o,4⟩=true:=by
  show ((decide (z>0)&&true&&incOk ⟨3,o,4⟩) && !(decide (z<0)||((z==0)&&false)))=true
  rw [ke_inc ho,decide_eq_true (by omega),decide_eq_false (by omega),Bool.and_false]
  rfl
theorem ke_g1 {z o:Int} (hz:2≤z∧z≤1001) (ho:0≤o∧o<5):gB (Al.new 0) (keM z o)=true:=by
  have h3:=ke_inc ho.2
  have h4:=ke_ok1 hz.1 ho.2
  show (((decide (0≤z)&&(decide (z<4294967296)&&true))&&(decide (0≤o)&&true))&&(true&&((true&&(true&&(true&&(true&&(true&&(true&&(true&&(true&&(decide (z>0)&&(true&&(true&&incOk ⟨3,o,4⟩)))))))))))&&(true&&(true&&(false||(true&&(Al.new 0).acceptOk ⟨z,1⟩ ⟨3,o,4⟩)))))))=true
  rw [h3,h4,decide_eq_true (by omega),decide_eq_true (by omega),decide_eq_true (by omega),decide_eq_true (by omega)]
  rfl
theorem ke_s {y:Int} (hy:0<y∧y<4294967296) {q:Al} (h1:q.prop=none) (h2:q.id=0) (h3:q.incs=[]):gB q (keP y)=true:=by
  have e:gB q (keP y)=(((decide (0≤y)&&(decide (y<4294967296)&&true))&&true)&&(q.prop.isNone&&((true&&(true&&(true&&(true&&(true&&(true&&(true&&(true&&(true&&(decide (y>0)&&(true&&true)))))))))))&&((0==q.id)&&((2==(q.incs.length:Int)+1+1)&&true))))):=rfl
  rw [e,h1,h2,h3,decide_eq_true (by omega),decide_eq_true (by omega),decide_eq_true (by omega)]
  rfl
theorem ke_msg {z o:Int} (hz:2≤z∧z≤1001) (ho:0≤o∧o<5):MsgOk (keM z o):=⟨⟨by show 0≤z; omega,by show z<4294967296; omega,(by decide:(0:Int)≤1)⟩,ho.1,Int.le_refl 0,rfl⟩
theorem ke_a1 {z o:Int} (hz:2≤z∧z≤1001) (ho:0≤o∧o<5):(Al.new 0).asked (keM z o)=(keS z o,[⟨4,0,1,2,⟨z,1⟩,⟨0,0⟩,false,⟨0,0,0⟩,0⟩]):=by
  unfold Al.asked
  rw [show (Al.new 0).acceptOk (keM z o).b (keM z o).inc=true from ke_ok1 hz.1 ho.2]
  rfl
theorem ke_a2 (z o:Int):(keS z o).asked (keP (z - 1))=(keS z o,[⟨18,0,2,2,⟨z,1⟩,⟨0,0⟩,false,⟨0,0,0⟩,0⟩]):=by
  have h:(keS z o).prepareOk (keP (z - 1)).b=false:=by
    show ((decide (z - 1>0)&&true) && !(decide (z - 1<z)||((z - 1==z)&&false)))=false
    rw [decide_eq_true (show z - 1<z by omega),Bool.true_or]
    simp
  unfold Al.asked
  rw [h]
  rfl
theorem ke_a3 {z o:Int} (hz:2≤z):(keS z o).asked (keP (z+1))=({ keS z o with prom:=⟨z+1,2⟩ },[⟨2,0,2,2,⟨z+1,2⟩,⟨z,1⟩,true,⟨3,o,4⟩,0⟩]):=by
  have h:(keS z o).prepareOk (keP (z+1)).b=true:=by
    show ((decide (z+1>0)&&true) && !(decide (z+1<z)||((z+1==z)&&false)))=true
    rw [decide_eq_true (by omega),decide_eq_false (by omega),Bool.and_false]
    rfl
  have h2:(keS z o).hasAcc=true:=by
    show (!((z==0)&&false))=true
    rw [Bool.and_false]
    rfl
  unfold Al.asked
  rw [h,h2]
  rfl
theorem ke_good (n x osd y:Int) (hn:0≤n) (ho:0≤osd):(runV Tryz.prog lkTb 300 3 [.int .u32 (.sym n),.agg [.int .u8 (.sym x),.int .u8 (.sym osd),.int .i64 (.sym y)]]).Holds GoodV:=by
  refine AL (ke_t n x osd y) (Ab rfl (Ac fun z0 h0=>Ac fun z h1=>Ac fun o h2=>?_))
  have hz:2≤z∧z≤1001:=by
    have:=tmod_in 1000 hn (by decide)
    rw [h1,ke_wrap (by omega),h0]
    omega
  have ho:0≤o∧o<5:=by
    rw [h2]
    exact tmod_in 5 ho (by decide)
  clear h0 h1 h2
  refine AK (AA rfl (AK (AA (AS _) (AK (An fun e h=>?_)))))
  have h:=h.trans (sk_of (Al.new 0) (keM z o) _ rfl rfl (ke_g1 hz ho) (ke_a1 hz ho))
  subst h
  refine AA rfl (AB (AA (AS _) (AK (AK (AB (AA (AN _ _ _) (AK (An fun e h=>?_))))))))
  have hk:MOk (keS z o):=by
    have:=(mok_asked (mok_new (Int.le_refl 0)) (ke_msg hz ho)).1
    rw [ke_a1 hz ho] at this
    exact this
  have h:=h.trans (lw_save (d:=keS z o) hk rfl rfl)
  have ha:(keS z o).again=keS z o:=rfl
  rw [ha] at h
  subst h
  refine AA rfl (AB (Ab rfl (Ab rfl (AA rfl (AA rfl (AB (Ab rfl (AA (AS _) (AK (AK (AB (AB (Ab (by show (!(z==z&&(1:Int)==1))=false; simp) (Ac fun y1 hy1=>AA (AS _) (AK (An fun e h=>?_))))))))))))))))
  rw [ke_wrap (by omega)] at hy1
  subst hy1
  have h:=h.trans (sk_of (keS z o) (keP (z - 1)) _ rfl rfl (ke_s (y:=z - 1) (by omega) rfl rfl rfl) (ke_a2 z o))
  subst h
  refine AA rfl (AB (Ac fun y2 hy2=>AA (AS _) (AK (An fun e h=>?_))))
  rw [ke_wrap (by omega)] at hy2
  subst hy2
  have h:=h.trans (sk_of (keS z o) (keP (z+1)) _ rfl rfl (ke_s (y:=z+1) (by omega) rfl rfl rfl) (ke_a3 hz.1))
  subst h
  refine AA rfl (AB (AU rfl (AA rfl (AA rfl (AB (AU rfl (AA rfl (AA rfl (AB (AB (AU (by show (z==z&&(1:Int)==1)=true; simp) (AU rfl (AA rfl (AA rfl (AB (AU rfl (AA rfl (AA rfl (AU rfl (AA rfl (AA rfl (AB (AB (AU (by show (z==z&&(1:Int)==1)=true; simp) (AA rfl (AA rfl (AB (AB (AB (good_sym ?_))))))))))))))))))))))))))))))
  show ((3:Int)==3&&(o==o&&(4:Int)==4))=true
  simp
theorem pkInc:pkT Tryz.prog 8 24=some [.int .u8,.int .u8,.int .i64]:=by kernel_rfl
set_option maxRecDepth 100000 in
theorem ke_lifted (os : Os) (started : os.Started) (H : Type) (enc : TypeId × Value → H) :
    ReturnsInHanded {} Tryz.checked os 3 .any (Rows.monKeepsSpec.pre6 enc Tryz.prog Tryz.f3 Rows.monKeepsRow.domain false) (Rows.monKeepsSpec.post enc Tryz.prog Tryz.f3 false true false false):=by
  refine law_lifted (C:=Tryz.checked) Tryz.own started (by kernel_rfl) Tryz.func3
    (ChangeSpec.witness6 (enc:=enc) (C:=Tryz.checked) false ⟨#[],#[.int .u32 0,.agg #[.int .u8 0,.int .u8 0,.int .i64 0]],[]⟩ 8 (by kernel_rfl) (by kernel_rfl) (by kernel_rfl) (by kernel_rfl))
    Tryz.laidOut ?_ (B:=4) (by kernel_rfl) (by kernel_rfl) rfl ?_ ?_
  · intro t ht
    rw [Tryz.params3] at ht
    have:t=22∨t=24:=by
      simp at ht
      first | exact ht | omega | (rcases ht with h | h | h <;> simp [h]) | grind
    rcases this with rfl | rfl <;> exact ⟨by kernel_rfl,of_decide_eq_true (by kernel_rfl)⟩
  · intro ds h
    rw [Tryz.params3] at h
    match ds,h with
    | [d1,d2],_=>rfl
  · intro W base args ds p hval hA hlt
    rw [Tryz.params3] at hA hval
    obtain ⟨v0,v1,d0,d1,p0,p1,rfl,rfl,rfl,h0,h1⟩:=trodAll_two hA
    obtain ⟨n,rfl,_,_,wn⟩:=open_int Tryz.underlying22 (hval 0 22 v0 rfl rfl) h0
    obtain ⟨x,_,wx,hx⟩:=open_plain Tryz.underlying24 pkInc (hval 1 24 v1 rfl rfl) h1
    exact law_c lkTab Ay (ke_good n (x 0) (x 1) (x 2) (wf_u32 wn).1 (wf_u8 wx.2.1).1) W fun E=>by rw [hx E]; rfl
theorem monKeeps_holds:Rows.MonKeepsSaid :=
  OpenClaim.holds_of_wide 3 Tryz.f3 rfl rfl rfl rfl rfl rfl rfl ⟨rfl,rfl,rfl,rfl,rfl⟩ rfl rfl rfl rfl rfl (by kernel_rfl) Tryz.func3 (by kernel_rfl)
    (of_decide_eq_true (by kernel_rfl)) (by unfold Func.isWrapper; rw [if_neg (by decide +kernel)]; exact ⟨rfl,rfl⟩)
    (fun os started H enc _=>ke_lifted os started H enc)
end Go.Proofs.YtddmgdclmkgpeaaGreat
