/- Texts of this claim, laid together (part 9).
   Conditions: none. -/
import Derived.Tactics
import Derived.Tactics2
import Derived.Laws.Pointers
import Derived.Test.YtddmgdclmkgpeaaGreatZkh
set_option linter.unusedSimpArgs false
set_option linter.unusedVariables false
set_option linter.unusedSimpArgs false
set_option linter.unusedVariables false
namespace Go.Proofs.YtddmgdclmkgpeaaGreat
open Go.Eng Go.RowKit Go.ChangeShapes Go.WideShapes
set_option maxRecDepth 100000
theorem alloc_get {w:World} {o:Obj} {b:Nat} (h:b<w.heap.size):(w.alloc o).heap[b]? = w.heap[b]?:=by
  show (w.heap.push _)[b]? = _
  rw [Array.getElem?_push_lt h,Array.getElem?_eq_getElem h]
theorem alloc_below {w w':World} {o:Obj} {n:Nat} (h:Below n w w') (hn:n≤w'.heap.size):Below n w (w'.alloc o):=by
  refine ⟨h.os,h.tape,h.output,?_,fun k hk=>(alloc_get (Nat.lt_of_lt_of_le hk hn)).trans (h.block k hk)⟩
  show w.heap.size≤(w'.heap.push o).size
  have:=h.size
  rw [Array.size_push]
  omega
theorem last_walk (b : Nat) (w : World) (n : Int) (hc : w.cell? ⟨b, 2, none⟩ = some (.int .u32 n)) :
    Calls Tryz.prog 24 #[.pointer (some ⟨b,0,none⟩)] w fun e w'=>e = .returned (.int .u32 n)∧w'=w:=by
  go_enter Tryz.func24,Tryz.ntmps24
  go_wp2
  go_ret
  exact ⟨rfl,rfl⟩
theorem history_walk (b : Nat) (w : World) (v : Value) (hc : w.cell? ⟨b, 1, none⟩ = some v) :
    Calls Tryz.prog 21 #[.pointer (some ⟨b,0,none⟩)] w fun e w'=>e = .returned v∧w'=w:=by
  go_enter Tryz.func21,Tryz.ntmps21
  go_wp2
  go_ret
  exact ⟨rfl,rfl⟩
theorem inc_walk (b B : Nat) (w : World) (x : Int) (k o n : Int) (ok : Bool) (hc : (w.alloc (Obj.cells #[Value.int IntKind.u8 0, Value.int IntKind.u8 0, Value.int IntKind.i64 0] 24)).cell? ⟨b, 1, none⟩ = some (.map (some B)))
   (hl:(Instr.lookup 136 (.map (some B)) (.int .u32 x) true).run Tryz.prog (w.alloc (Obj.cells #[Value.int IntKind.u8 0,Value.int IntKind.u8 0,Value.int IntKind.i64 0] 24)) = .ok (.tuple #[.agg #[Value.int IntKind.u8 k,Value.int IntKind.u8 o,Value.int IntKind.i64 n],.bool ok]) (w.alloc (Obj.cells #[Value.int IntKind.u8 0,Value.int IntKind.u8 0,Value.int IntKind.i64 0] 24))) :
    Calls Tryz.prog 22 #[.pointer (some ⟨b,0,none⟩),.int .u32 x] w fun e w'=>e = .returned (.tuple #[.agg #[Value.int IntKind.u8 k,Value.int IntKind.u8 o,Value.int IntKind.i64 n],.bool ok])∧Below w.heap.size w w':=by
  go_enter Tryz.func22,Tryz.ntmps22
  go_wp2
  refine bodyPost_ret (v:=.tuple #[.agg #[Value.int IntKind.u8 k,Value.int IntKind.u8 o,Value.int IntKind.i64 n],.bool ok]) ?_ rfl ⟨rfl,alloc_below (alloc_below (Below.refl _ _) (Nat.le_refl _)) ?_⟩
  · simp [results,Tryz.results22,go_sem]
  · show w.heap.size≤(w.heap.push _).size
    rw [Array.size_push]
    omega
theorem map_walk (b B : Nat) (w : World) (x : Int) (e0 : Int) (u0 : Bool) (w0 h0 : Int) (u1 : Bool) (w1 h1 : Int) (u2 : Bool) (w2 h2 : Int) (u3 : Bool) (w3 h3 : Int) (u4 : Bool) (w4 h4 : Int) (ok : Bool) (hc : (w.alloc (Obj.cells #[.int .u32 0, .bool false, .int .i64 0, .int .u8 0, .bool false, .int .i64 0, .int .u8 0, .bool false, .int .i64 0, .int .u8 0, .bool false, .int .i64 0, .int .u8 0, .bool false, .int .i64 0, .int .u8 0] 79)).cell? ⟨b, 0, none⟩ = some (.map (some B)))
   (hl:(Instr.lookup 135 (.map (some B)) (.int .u32 x) true).run Tryz.prog (w.alloc (Obj.cells #[.int .u32 0,.bool false,.int .i64 0,.int .u8 0,.bool false,.int .i64 0,.int .u8 0,.bool false,.int .i64 0,.int .u8 0,.bool false,.int .i64 0,.int .u8 0,.bool false,.int .i64 0,.int .u8 0] 79)) = .ok (.tuple #[.agg #[.int .u32 e0,.bool u0,.int .i64 w0,.int .u8 h0,.bool u1,.int .i64 w1,.int .u8 h1,.bool u2,.int .i64 w2,.int .u8 h2,.bool u3,.int .i64 w3,.int .u8 h3,.bool u4,.int .i64 w4,.int .u8 h4],.bool ok]) (w.alloc (Obj.cells #[.int .u32 0,.bool false,.int .i64 0,.int .u8 0,.bool false,.int .i64 0,.int .u8 0,.bool false,.int .i64 0,.int .u8 0,.bool false,.int .i64 0,.int .u8 0,.bool false,.int .i64 0,.int .u8 0] 79))) :
    Calls Tryz.prog 26 #[.pointer (some ⟨b,0,none⟩),.int .u32 x] w fun e w'=>e = .returned (.tuple #[.agg #[.int .u32 e0,.bool u0,.int .i64 w0,.int .u8 h0,.bool u1,.int .i64 w1,.int .u8 h1,.bool u2,.int .i64 w2,.int .u8 h2,.bool u3,.int .i64 w3,.int .u8 h3,.bool u4,.int .i64 w4,.int .u8 h4],.bool ok])∧Below w.heap.size w w':=by
  go_enter Tryz.func26,Tryz.ntmps26
  go_wp2
  refine bodyPost_ret (v:=.tuple #[.agg #[.int .u32 e0,.bool u0,.int .i64 w0,.int .u8 h0,.bool u1,.int .i64 w1,.int .u8 h1,.bool u2,.int .i64 w2,.int .u8 h2,.bool u3,.int .i64 w3,.int .u8 h3,.bool u4,.int .i64 w4,.int .u8 h4],.bool ok]) ?_ rfl ⟨rfl,alloc_below (alloc_below (Below.refl _ _) (Nat.le_refl _)) ?_⟩
  · simp [results,Tryz.results26,go_sem]
  · show w.heap.size≤(w.heap.push _).size
    rw [Array.size_push]
    omega
theorem prom_walk (b A : Nat) (w : World) (n k : Int) (hc : (w.alloc (Obj.cells #[Value.int IntKind.u32 0, Value.int IntKind.u8 0] 29)).cell? ⟨b, 2, none⟩ = some (.pointer (some ⟨A, 0, none⟩))) (h0 : ((w.alloc (Obj.cells #[Value.int IntKind.u32 0, Value.int IntKind.u8 0] 29)).alloc (Obj.cells #[Value.int IntKind.u32 0, Value.int IntKind.u8 0] 29)).cell? ⟨A, 0, none⟩ = some (.int .u32 n)) (h1 : ((w.alloc (Obj.cells #[Value.int IntKind.u32 0, Value.int IntKind.u8 0] 29)).alloc (Obj.cells #[Value.int IntKind.u32 0, Value.int IntKind.u8 0] 29)).cell? ⟨A, 1, none⟩ = some (.int .u8 k)) :
    Calls Tryz.prog 17 #[.pointer (some ⟨b,0,none⟩)] w fun e w'=>e = .returned (.agg #[.int .u32 n,.int .u8 k])∧Below w.heap.size w w':=by
  go_enter Tryz.func17,Tryz.ntmps17
  go_wp2_with (go_at_call 54; go_in)
  refine bodyPost_ret (v:=.agg #[.int .u32 n,.int .u8 k]) ?_ rfl ?_
  · simp [results,Tryz.results54,go_sem]
  simp only []
  go_at_K
  go_wp2
  refine bodyPost_ret (v:=.agg #[.int .u32 n,.int .u8 k]) ?_ rfl ⟨rfl,alloc_below (alloc_below (Below.refl _ _) (Nat.le_refl _)) ?_⟩
  · simp [results,Tryz.results17,go_sem]
  · show w.heap.size≤(w.heap.push _).size
    rw [Array.size_push]
    omega
theorem idle_walk (b : Nat) (w : World) (pr : Option Addr) (a : Option Addr) (n c : Nat) (hc : w.cell? ⟨b, 4, none⟩ = some (.pointer pr)) (h0 : w.cell? ⟨b, 3, none⟩ = some (.slice a n c)) :
    Calls Tryz.prog 23 #[.pointer (some ⟨b,0,none⟩)] w fun e w'=>e = .returned (.bool (pr.isNone&&((n:Int)==0)))∧w'=w:=by
  go_enter Tryz.func23,Tryz.ntmps23
  cases pr
  all_goals go_wp2
  all_goals go_ret
  all_goals exact ⟨rfl,rfl⟩
def HistI (d:Dat) (blk:Nat) (fp:List Nat) (w:World):Prop:=∃ fp',(∀ b,b∈fp'→b∈fp)∧Af d blk fp' w
noncomputable def rdSumm (t:Nat) (R:Dat→Nat→List Nat→World→Prop) (A:List AV→Option (List (List Num))) (N:EN→EN) (V:EN→AV):Summ:=⟨fun args h key=>match args with
  | .ptr k 0::rest=>match hget k h with
    | some (.own t' R' d g)=>match Nat.beq t t',hget g h,A rest with
      | true,some .tok,some a=>.must (BE R R') (.defE ⟨a,[.own d]⟩ fun e=>.defE (N e) fun r=>.leaf (V r,[k,g],[],key))
      | _,_,_=>.fail "read: of what"
    | _=>.fail "read: no object"
  | _=>.fail "read: no pointer"⟩
noncomputable def hsSumm:Summ:=⟨fun args h key=>match args with
  | [.ptr k 0]=>match hget k h with
    | some (.own t' R' d g)=>match Nat.beq 2 t',hget g h with
      | true,some .tok=>.must (BE MonR R') (.defE ⟨[],[.own d]⟩ fun e=>.leaf (.ptr key 0,[k,g],[(key,some (.own 5 HistI (e.dt 0) g))],key+1))
      | _,_=>.fail "read: of what"
    | _=>.fail "read: no object"
  | _=>.fail "read: no pointer"⟩
def noA:List AV→Option (List (List Num))
  | []=>some []
  | _=>none
def u32A:List AV→Option (List (List Num))
  | [.int .u32 e]=>some [[.i e.v]]
  | _=>none
def laN (e:EN):EN:=⟨[[.i (BK (e.dt 0).incs)]],[]⟩
def icN (e:EN):EN:=⟨[[.i (bif hasI (e.dt 0).incs (e.ai 0 0) then incK (e.dt 0).incs (e.ai 0 0) else 0),.i (bif hasI (e.dt 0).incs (e.ai 0 0) then incO (e.dt 0).incs (e.ai 0 0) else 0),.i (bif hasI (e.dt 0).incs (e.ai 0 0) then incZ (e.dt 0).incs (e.ai 0 0) else 0)],[.b (hasI (e.dt 0).incs (e.ai 0 0))]],[]⟩
def mapCellsN (d:Dat) (e:Int):List Num:=.i (bif hasM d.incs e then e else 0)::[0,1,2,3,4].flatMap fun o=>[.b (bif hasM d.incs e then upM d.incs e o else false),.i (bif hasM d.incs e then wM d.incs e o else 0),.i (bif hasM d.incs e then hM o else 0)]
def mpN (e:EN):EN:=⟨[mapCellsN (e.dt 0) (e.ai 0 0),[.b (hasM (e.dt 0).incs (e.ai 0 0))]],[]⟩
def idN (e:EN):EN:=⟨[[.b (e.dt 0).idle]],[]⟩
def prmN (e:EN):EN:=⟨[balN (e.dt 0).prom],[]⟩
def laV (r:EN):AV:=.int .u32 (.sym (r.ai 0 0))
def icV (r:EN):AV:=.tup [.agg [.int .u8 (.sym (r.ai 0 0)),.int .u8 (.sym (r.ai 0 1)),.int .i64 (.sym (r.ai 0 2))],.bool (.sym (r.ab 1 0))]
def mpV (r:EN):AV:=.tup [.agg [.int .u32 (.sym (r.ai 0 0)),.bool (.sym (r.ab 0 1)),.int .i64 (.sym (r.ai 0 2)),.int .u8 (.sym (r.ai 0 3)),.bool (.sym (r.ab 0 4)),.int .i64 (.sym (r.ai 0 5)),.int .u8 (.sym (r.ai 0 6)),.bool (.sym (r.ab 0 7)),.int .i64 (.sym (r.ai 0 8)),.int .u8 (.sym (r.ai 0 9)),.bool (.sym (r.ab 0 10)),.int .i64 (.sym (r.ai 0 11)),.int .u8 (.sym (r.ai 0 12)),.bool (.sym (r.ab 0 13)),.int .i64 (.sym (r.ai 0 14)),.int .u8 (.sym (r.ai 0 15))],.bool (.sym (r.ab 1 0))]
def idV (r:EN):AV:=.bool (.sym (r.ab 0 0))
def prmV (r:EN):AV:=.agg [.int .u32 (.sym (r.ai 0 0)),.int .u8 (.sym (r.ai 0 1))]
theorem rdSumm_ok {f : FuncId} {t : Nat} {R : Dat → Nat → List Nat → World → Prop} {A : List AV → Option (List (List Num))} {N : EN → EN} {V : EN → AV} (hk : ∀ r E E', den E (V r) = den E' (V r))
    (H:∀ d rest a,A rest=some a→∀ blk fp w,R d blk fp w→∀ E,Calls Tryz.prog f (Value.pointer (some ⟨blk,0,none⟩)::BM E rest).toArray w fun e w'=>e = .returned (den E (V (N ⟨a,[.own d]⟩)))∧Below w.heap.size w w') :
    Ak Tryz.prog f (rdSumm t R A N V):=by
  have go:∀ args h key r,((rdSumm t R A N V).run args h key).sel=some r→∃ k g d rest a,args = .ptr k 0::rest∧hget k h=some (.own t R d g)∧hget g h=some .tok∧A rest=some a∧r=(V (N ⟨a,[.own d]⟩),[k,g],[],key):=by
    intro args h key r e
    simp only [rdSumm] at e
    split at e
    · rename_i k rest
      split at e
      · rename_i t' R' d g hg
        split at e
        · rename_i a ht hto ha
          obtain ⟨hs,e⟩:=Ar e
          cases e
          have h1:=Nat.eq_of_beq_eq_true ht
          subst h1
          have h2:=sameR_iff.1 hs
          subst h2
          exact ⟨k,g,d,rest,a,rfl,hg,hto,ha,rfl⟩
        · cases e
      · cases e
    · cases e
  refine ⟨fun args h key v R0 W key' e=>?_,fun args h key r e=>?_⟩
  · obtain ⟨k,g,d,rest,a,rfl,h1,h2,h3,h4⟩:=go _ _ _ _ e
    cases h4
    intro A E lk w vals hU hC _ hvals
    have hk1:lk k=some (.own t R d g):=(hC k (by simp)).trans h1
    have hg1:lk g=some .tok:=(hC g (by simp)).trans h2
    have hr:R d (E.blk k) (E.fp g) w:=(hU.here.obj k _ hk1) hg1 w (Nat.le_refl _) (fun _ _=>rfl)
    have hv0:=hvals E (Ae.refl A E)
    subst hv0
    refine (H d rest a h3 (E.blk k) (E.fp g) w hr E).mono ?_
    rintro e w' ⟨rfl,hb⟩
    refine ⟨_,E,rfl,fun E' _=>hk _ E E',?_,?_⟩
    · rw [hupd_nil]
      exact (hU.world hb.size hb.block).same fun _ h=>.inl h
    · rw [hupd_nil]
      exact ⟨hb.os,hb.tape,hb.output,hb.size,Ae.refl _ _,fun b hb' _=>hb.block b hb',fun k o b h1 h2=>.inl ⟨k,o,h1,h2⟩,
        fun k hA ht=>⟨ht,fun b hb'=>hb.block b ((hU.here.obj k _ ht).lt (b:=b) hb')⟩,fun k len sz rows a h1 h2 h3=>.inl ⟨k,len,sz,rows,a,h1,h2,h3,rfl⟩⟩
  · obtain ⟨k,g,d,rest,a,rfl,h1,h2,h3,rfl⟩:=go _ _ _ _ e
    exact ⟨Nat.le_refl _,WOK.nil _ _ _⟩
theorem hist_cells {d : Dat} {blk : Nat} {fp : List Nat} {w : World} (h : Af d blk fp w) : ∃ C ty, ∃ E : Env, w.heap[blk]? = some (.cells C ty (0, 0)) ∧ C[0]? = some (.map (some (E.blk 1))) ∧ C[1]? = some (.map (some (E.blk 2))) ∧ C[2]? = some (.int .u32 (BK d.incs)) ∧
    (∃ es cl,w.heap[E.blk 1]? = some (.map es cl)∧((es.size:Nat):Int)=(d.incs.length:Int)+1∧∀ (i:Nat) (e:MapEntry),es[i]? = some e→e.key = .int .u32 (1+(i:Int))∧e.val=den E (mapA d.incs i)) ∧
    (∃ es cl,w.heap[E.blk 2]? = some (.map es cl)∧((es.size:Nat):Int)=(d.incs.length:Int)∧∀ (i:Nat) (e:MapEntry),es[i]? = some e→e.key = .int .u32 (2+(i:Int))∧e.val=den E (incA d.incs i)):=by
  obtain ⟨j,E,hU,hb,_⟩:=histR_reveal h
  obtain ⟨_,_,ty,h0⟩:=hU.here.obj 0 _ rfl
  obtain ⟨_,es1,c1,h1,h2,h3⟩:=hU.here.obj 1 _ rfl
  obtain ⟨_,es2,c2,h4,h5,h6⟩:=hU.here.obj 2 _ rfl
  rw [hb] at h0
  exact ⟨_,ty,E,h0,rfl,rfl,rfl,⟨es1,c1,h1,h2,h3⟩,⟨es2,c2,h4,h5,h6⟩⟩
theorem cell_of {w:World} {b:Nat} {C:Array Value} {ty:TypeId} {i:Nat} {v:Value} (h:w.heap[b]? = some (.cells C ty (0,0))) (hi:C[i]? = some v):w.cell? ⟨b,i,none⟩=some v:=by
  unfold World.cell?
  rw [h]
  exact hi
theorem cLaI_ok:Ak Tryz.prog 24 (rdSumm 5 HistI noA laN laV):=rdSumm_ok (fun _ _ _=>rfl) fun d rest a h blk fp w hr E=>by
  unfold noA at h
  split at h
  · cases h
    obtain ⟨fp',_,hr⟩:=hr
    obtain ⟨C,ty,E1,h1,_,_,h2,_⟩:=hist_cells hr
    refine (last_walk blk w _ (cell_of h1 h2)).mono ?_
    rintro e w' ⟨rfl,rfl⟩
    exact ⟨rfl,Below.refl _ _⟩
  · cases h
end Go.Proofs.YtddmgdclmkgpeaaGreat
