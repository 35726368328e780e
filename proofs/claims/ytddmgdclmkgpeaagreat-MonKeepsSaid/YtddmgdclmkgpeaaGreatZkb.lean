/- Texts of this claim, laid together (part 2).
   Conditions: none. -/
import Derived.Calls
import Derived.Orders
import Derived.Laws.Append
import Derived.Laws.AppendOwn
import Derived.Laws.CopyRow
import Derived.Laws.Rows
import Derived.Below
import Derived.Laws.StructEq
import Derived.Laws.Pointers
import Derived.ChangeKeysEq
import Derived.Laws.Tables
import Derived.Great.BuildSlice
import Derived.MapKept
import Derived.Test.YtddmgdclmkgpeaaGreatZka
set_option linter.unusedSimpArgs false
set_option linter.unusedVariables false
set_option linter.unusedSimpArgs false
set_option linter.unusedVariables false
namespace Go.Eng
structure Inc where
  kind:Int
  osd:Int
  n:Int
structure Bal where
  n:Int
  who:Int
structure BA where
  want:Inc
  value:Inc
  best:Inc
  b:Bal
  acc:Bal
  hp:List Int
  ha:List Int
  has:Bool
  valued:Bool
  decided:Inc
  done:Bool
  ever:Bool
structure Al where
  id:Int
  incs:List Inc
  prom:Bal
  acc:Bal
  ainc:Inc
  wishes:List Inc
  prop:Option BA
  ticks:Int
  over:Bal
  rep:Nat→Bool
abbrev Dat:=Al
instance:Inhabited Al:=⟨⟨0,[],⟨0,0⟩,⟨0,0⟩,⟨0,0,0⟩,[],none,0,⟨0,0⟩,fun _=>false⟩⟩
end Go.Eng
set_option linter.unusedSimpArgs false
set_option linter.unusedVariables false
namespace Go.Eng
inductive SI where
  | lit (n:Int)
  | sym (n:Int)
def SI.v:SI→Int
  | .lit n=>n
  | .sym n=>n
inductive SB where
  | lit (b:Bool)
  | sym (b:Bool)
def SB.v:SB→Bool
  | .lit b=>b
  | .sym b=>b
inductive SS where
  | lit (s:ByteArray)
  | sym (s:ByteArray)
def SS.v:SS→ByteArray
  | .lit s=>s
  | .sym s=>s
def eqU:List UInt8→List UInt8→Bool
  | [],[]=>true
  | x::xs,y::ys=>match Nat.beq x.toNat y.toNat with
    | true=>eqU xs ys
    | false=>false
  | _,_=>false
def SS.eq (a b:SS):SB:=match a,b with
  | .lit x,.lit y=>.lit (eqU x.data.toList y.data.toList)
  | .sym x,.lit y=>.sym (x==y)
  | .lit x,.sym y=>.sym (x==y)
  | .sym x,.sym y=>.sym (x==y)
def SS.len:SS→SI
  | .lit s=>.lit s.size
  | .sym s=>.sym s.size
inductive AV where
  | bool (b:SB)
  | int (k:IntKind) (n:SI)
  | str (s:SS)
  | slIf (b:Bool) (k:Nat) (h:Option Addr×Nat×Nat)
  | slN (k:Nat)
  | nilp
  | ptr (k:Nat) (off:Nat)
  | elp (k:Nat) (i:SI) (sz off:Nat)
  | nils
  | sl (k:Nat)
  | mref (k:Nat)
  | fn (f:Fn) (first cap:List AV)
  | nilf
  | nili
  | ifc (t:TypeId) (v:AV)
  | agg (l:List AV)
  | tup (l:List AV)
  | raw (v:Value)
structure Env where
  blk:Nat→Nat
  hdr:Nat→Option Addr×Nat×Nat
  fp:Nat→List Nat
def Env.elem (E:Env) (k:Nat) (n:Nat):Addr:=⟨((E.hdr k).1.getD ⟨0,0,none⟩).block,((E.hdr k).1.getD ⟨0,0,none⟩).off+n,none⟩
mutual
def den (E:Env):AV→Value
  | .bool b=>.bool b.v
  | .int k n=>.int k n.v
  | .str s=>.string s.v
  | .slIf b k h=>match b with
    | true=>.slice (E.hdr k).1 (E.hdr k).2.1 (E.hdr k).2.2
    | false=>.slice h.1 h.2.1 h.2.2
  | .slN k=>.slice (some ((E.hdr k).1.getD ⟨0,0,none⟩)) (E.hdr k).2.1 (E.hdr k).2.2
  | .nilp=>.pointer none
  | .ptr k off=>.pointer (some ⟨E.blk k,off,none⟩)
  | .elp k i sz off=>.pointer (some (E.elem k (i.v.toNat * sz+off)))
  | .nils=>.slice none 0 0
  | .sl k=>.slice (E.hdr k).1 (E.hdr k).2.1 (E.hdr k).2.2
  | .mref k=>.map (some (E.blk k))
  | .fn f a b=>.func f (BM E a).toArray (BM E b).toArray
  | .nilf=>.nilFunc
  | .nili=>.nilIface
  | .ifc t v=>.iface t (den E v)
  | .agg l=>.agg (BM E l).toArray
  | .tup l=>.tuple (BM E l).toArray
  | .raw v=>v
def BM (E:Env):List AV→List Value
  | []=>[]
  | v::l=>den E v::BM E l
end
inductive Ai where
  | box (cs:List AV)
  | tok
  | lst (len:SI) (sz:Nat) (rows:Nat→List AV) (grp:Option Nat)
  | opq (R:Nat→List Nat→World→Prop)
  | mp (base len:SI) (vals:Nat→AV)
  | own (t:Nat) (R:Dat→Nat→List Nat→World→Prop) (d:Dat) (g:Nat)
  | als (b:Nat) (lo hi:SI) (sz of:Nat)
abbrev Aq:=List (Nat×Option Ai)
def hget (k:Nat):Aq→Option Ai
  | []=>none
  | (j,o)::h=>match Nat.beq j k with
    | true=>o
    | false=>hget k h
abbrev Tm:=List (Nat×AV)
def tget (t:Nat):Tm→AV
  | []=>.raw undef
  | (j,v)::l=>match Nat.beq j t with
    | true=>v
    | false=>tget t l
def tput (dst:Option Tmp) (v:AV) (τ:Tm):Tm :=
  match dst with
  | some d=>(d,v)::τ
  | none=>τ
def forceS {R:Type} (v:AV) (K:AV→R):R :=
  match v with
  | .bool (.lit b)=>K (.bool (.lit b))
  | .bool (.sym b)=>K (.bool (.sym b))
  | .int k (.lit n)=>K (.int k (.lit n))
  | .int k (.sym n)=>K (.int k (.sym n))
  | .elp k (.lit n) sz off=>K (.elp k (.lit n) sz off)
  | .elp k (.sym n) sz off=>K (.elp k (.sym n) sz off)
  | .str (.lit s)=>K (.str (.lit s))
  | .str (.sym s)=>K (.str (.sym s))
  | v=>K v
def forceC {R:Type} : List AV→(List AV→R)→R
  | [],K=>K []
  | v::l,K=>forceS v fun v=>forceC l fun l=>K (v::l)
theorem forceS_eq {R:Type} (v:AV) (K:AV→R):forceS v K=K v:=by
  unfold forceS
  split <;> rfl
theorem forceC_eq {R:Type} : ∀ (l:List AV) (K:List AV→R),forceC l K=K l
  | [],_=>rfl
  | v::l,K=>by simp only [forceC,forceS_eq,forceC_eq l]
inductive Num where
  | i (n:Int)
  | b (x:Bool)
  | s (x:ByteArray)
  | u
def Num.I:Num→Int
  | .i n=>n
  | _=>0
def Num.B:Num→Bool
  | .b x=>x
  | _=>false
def Num.S:Num→ByteArray
  | .s x=>x
  | _=>ByteArray.empty
def hdN:List Num→Num
  | []=>.u
  | x::_=>x
def tlN:List Num→List Num
  | []=>[]
  | _::l=>l
inductive ON where
  | box (xs:List Num)
  | lst (len:Nat) (rows:Nat→List Num)
  | tok
  | own (d:Dat)
def ON.dat:ON→Dat
  | .own d=>d
  | _=>default
def ON.xs:ON→List Num
  | .box xs=>xs
  | _=>[]
def ON.len:ON→Nat
  | .lst n _=>n
  | _=>0
def ON.rows:ON→Nat→List Num
  | .lst _ r=>r
  | _=>fun _=>[]
def hdO:List ON→ON
  | []=>.tok
  | x::_=>x
def tlO:List ON→List ON
  | []=>[]
  | _::l=>l
def hdL:List (List Num)→List Num
  | []=>[]
  | x::_=>x
def tlL:List (List Num)→List (List Num)
  | []=>[]
  | _::l=>l
structure EN where
  a:List (List Num)
  o:List ON
def nthN:Nat→List Num→Num
  | 0,l=>hdN l
  | n+1,l=>nthN n (tlN l)
def nthL:Nat→List (List Num)→List Num
  | 0,l=>hdL l
  | n+1,l=>nthL n (tlL l)
def nthO:Nat→List ON→ON
  | 0,l=>hdO l
  | n+1,l=>nthO n (tlO l)
def EN.ai (e:EN) (j k:Nat):Int:=(nthN k (nthL j e.a)).I
def EN.ab (e:EN) (j k:Nat):Bool:=(nthN k (nthL j e.a)).B
def EN.bi (e:EN) (j k:Nat):Int:=(nthN k (nthO j e.o).xs).I
def EN.bb (e:EN) (j k:Nat):Bool:=(nthN k (nthO j e.o).xs).B
def EN.ln (e:EN) (j:Nat):Nat:=(nthO j e.o).len
def EN.dt (e:EN) (j:Nat):Dat:=(nthO j e.o).dat
def EN.rw (e:EN) (j:Nat):Nat→List Num:=(nthO j e.o).rows
inductive Ah (R:Type) where
  | leaf (r:R)
  | ite (b:Bool) (t e:Ah R)
  | must (b:Bool) (t:Ah R)
  | defI (x:Int) (k:Int→Ah R)
  | defB (x:Bool) (k:Bool→Ah R)
  | defE (x:EN) (k:EN→Ah R)
  | fail (why:String)
def Ah.sel {R:Type} : Ah R→Option R
  | .leaf r=>some r
  | .defI x k=>(k x).sel
  | .defB x k=>(k x).sel
  | .defE x k=>(k x).sel
  | .ite b t e=>match b with
    | true=>t.sel
    | false=>e.sel
  | .must b t=>match b with
    | true=>t.sel
    | false=>none
  | .fail _=>none
def Ah.bind {R S:Type} (t:Ah R) (f:R→Ah S):Ah S :=
  match t with
  | .leaf r=>f r
  | .ite b t e=>.ite b (t.bind f) (e.bind f)
  | .must b t=>.must b (t.bind f)
  | .defI x k=>.defI x fun z=>(k z).bind f
  | .defB x k=>.defB x fun z=>(k z).bind f
  | .defE x k=>.defE x fun z=>(k z).bind f
  | .fail w=>.fail w
def Ah.ofOpt {R S:Type} (w:String) (x:Option R) (f:R→Ah S):Ah S :=
  match x with
  | some r=>f r
  | none=>.fail w
def Ah.need {R:Type} (b:SB) (t:Ah R):Ah R :=
  match b with
  | .lit true=>t
  | .lit false=>.fail "a condition that must hold is false"
  | .sym b=>.must b t
def ofV0:Value→AV
  | .bool b=>.bool (.lit b)
  | .int k n=>.int k (.lit n)
  | .string s=>.str (.lit s)
  | .pointer none=>.nilp
  | .slice none 0 0=>.nils
  | .nilFunc=>.nilf
  | .nilIface=>.nili
  | v=>.raw v
def ofV:Value→AV
  | .agg cs=>.agg (cs.toList.map ofV0)
  | v=>ofV0 v
def aeval (τ:Tm):Operand→AV
  | .tmp t=>tget t τ
  | .const v=>ofV v
  | .global g=>.raw (.pointer (some ⟨g,0,none⟩))
  | .func f=>.fn (.func f) [] []
def AV.scalar:AV→Bool
  | .agg _ | .tup _=>false
  | .raw v=>match v with
    | .map none=>true
    | _=>false
  | _=>true
def AV.cells:AV→List AV
  | .agg l=>l
  | v=>[v]
def Ap:List AV→Bool
  | []=>true
  | v::l=>match v.scalar with
    | true=>Ap l
    | false=>false
def isAggB (P:Program) (t:TypeId):Option Bool :=
  match P.underlying t with
  | some (.struct _) | some (.array _ _)=>some true
  | some _=>some false
  | none=>none
def tsize (P:Program) (t:TypeId):Option Nat :=
  match P.info? t with
  | some i=>some i.size
  | none=>none
def tbytes (P:Program) (t:TypeId):Option Nat :=
  match P.info? t with
  | some i=>some i.bytes
  | none=>none
def tzero (P:Program) (t:TypeId):Option AV :=
  match P.info? t with
  | some i=>match i.zero with
    | some v=>some (ofV v)
    | none=>none
  | none=>none
def partA (P:Program) (t:TypeId) (cs:List AV) (off:Nat):Option AV :=
  match isAggB P t,tsize P t with
  | some true,some n=>match Nat.ble (off+n) cs.length with
    | true=>some (.agg ((cs.drop off).take n))
    | false=>none
  | some false,some _=>cs[off]?
  | _,_=>none
def putCells (cs:List AV) (off:Nat) (vs:List AV):List AV:=cs.take off++vs++cs.drop (off+vs.length)
def SI.bin (f:Int→Int→Int) (a b:SI):SI :=
  match a,b with
  | .lit x,.lit y=>.lit (f x y)
  | .sym x,.lit y=>.sym (f x y)
  | .lit x,.sym y=>.sym (f x y)
  | .sym x,.sym y=>.sym (f x y)
def SI.un (f:Int→Int):SI→SI
  | .lit x=>.lit (f x)
  | .sym x=>.sym (f x)
def SI.cmp (f:Int→Int→Bool) (a b:SI):SB :=
  match a,b with
  | .lit x,.lit y=>.lit (f x y)
  | .sym x,.lit y=>.sym (f x y)
  | .lit x,.sym y=>.sym (f x y)
  | .sym x,.sym y=>.sym (f x y)
def SB.not:SB→SB
  | .lit b=>.lit (!b)
  | .sym b=>.sym (!b)
def SB.and (a b:SB):SB :=
  match a,b with
  | .lit true,b=>b
  | .lit false,_=>.lit false
  | a,.lit true=>a
  | _,.lit false=>.lit false
  | .sym a,.sym b=>.sym (a&&b)
def SB.beq (a b:SB):SB :=
  match a,b with
  | .lit x,.lit y=>.lit (x==y)
  | .sym x,.lit y=>.sym (x==y)
  | .lit x,.sym y=>.sym (x==y)
  | .sym x,.sym y=>.sym (x==y)
inductive Res where
  | val (v:AV) (R:List Nat) (W:Aq)
abbrev BJ (v:AV):Ah Res:=.leaf (.val v [] [])
def eqA (P:Program):Nat→TypeId→AV→AV→Option SB
  | 0,_,_,_=>none
  | d+1,t,x,y =>
    match P.underlying t with
    | some .bool=>match x,y with
      | .bool a,.bool b=>some (a.beq b)
      | _,_=>none
    | some (.int _)=>match x,y with
      | .int k a,.int k' b=>match decide (k=k') with
        | true=>some (SI.cmp (fun a b=>a==b) a b)
        | false=>none
      | _,_=>none
    | some .string=>match x,y with
      | .str a,.str b=>some (a.eq b)
      | _,_=>none
    | some (.slice _)=>match x,y with
      | .nils,.nils=>some (.lit true)
      | .slN _,.nils=>some (.lit false)
      | .nils,.slN _=>some (.lit false)
      | _,_=>none
    | some (.pointer _)=>match x,y with
      | .nilp,.nilp=>some (.lit true)
      | .nilp,.ptr _ _=>some (.lit false)
      | .ptr _ _,.nilp=>some (.lit false)
      | _,_=>none
    | some (.func _ _ _)=>match x,y with
      | .nilf,.nilf=>some (.lit true)
      | .nilf,.fn _ _ _=>some (.lit false)
      | .fn _ _ _,.nilf=>some (.lit false)
      | _,_=>none
    | some (.struct fields)=>match x,y with
      | .agg xs,.agg ys=>match P.stoodInHeld t with
        | true=>none
        | false => fields.toList.foldr (fun f acc =>
            match decide (f.name = "_") with
            | true=>acc
            | false=>match partA P f.type xs f.offset,partA P f.type ys f.offset with
              | some a,some b=>match eqA P d f.type a b,acc with
                | some r,some s=>some (r.and s)
                | _,_=>none
              | _,_=>none) (some (.lit true))
      | _,_=>none
    | some (.array len elem)=>match x,y,tsize P elem with
      | .agg xs, .agg ys, some n => (List.range len).foldr (fun i acc =>
            match partA P elem xs (i * n),partA P elem ys (i * n) with
            | some a,some b=>match eqA P d elem a b,acc with
              | some r,some s=>some (r.and s)
              | _,_=>none
            | _,_=>none) (some (.lit true))
      | _,_,_=>none
    | _=>none
def intOp (op:BinOp) (k:IntKind) (a b:SI):Ah Res :=
  match op with
  | .add=>BJ (.int k (SI.bin (fun x y=>k.wrap (x+y)) a b))
  | .sub=>BJ (.int k (SI.bin (fun x y=>k.wrap (x - y)) a b))
  | .mul=>BJ (.int k (SI.bin (fun x y=>k.wrap (x * y)) a b))
  | .quo=>.need (SI.cmp (fun x _=>x != 0) b b) (BJ (.int k (SI.bin (fun x y=>k.wrap (x.tdiv y)) a b)))
  | .rem=>.need (SI.cmp (fun x _=>x != 0) b b) (BJ (.int k (SI.bin (fun x y=>x.tmod y) a b)))
  | .and=>BJ (.int k (SI.bin (fun x y=>k.wrap (BitVec.ofInt k.bits x &&& BitVec.ofInt k.bits y).toNat) a b))
  | .or=>BJ (.int k (SI.bin (fun x y=>k.wrap (BitVec.ofInt k.bits x ||| BitVec.ofInt k.bits y).toNat) a b))
  | .xor=>BJ (.int k (SI.bin (fun x y=>k.wrap (BitVec.ofInt k.bits x ^^^ BitVec.ofInt k.bits y).toNat) a b))
  | .eql=>BJ (.bool (SI.cmp (fun x y=>x==y) a b))
  | .neq=>BJ (.bool (SI.cmp (fun x y=>x != y) a b))
  | .lss=>BJ (.bool (SI.cmp (fun x y=>decide (x<y)) a b))
  | .leq=>BJ (.bool (SI.cmp (fun x y=>decide (x≤y)) a b))
  | .gtr=>BJ (.bool (SI.cmp (fun x y=>decide (x>y)) a b))
  | .geq=>BJ (.bool (SI.cmp (fun x y=>decide (x≥y)) a b))
  | _=>.fail "an operator on integers"
def shiftOp (op:BinOp) (k:IntKind) (a b:SI):Ah Res :=
  match op with
  | .shl=>.need (SI.cmp (fun x _=>decide (0≤x)) b b) (BJ (.int k (SI.bin (fun x y=>k.wrap (x * 2 ^ min y.toNat k.bits)) a b)))
  | .shr=>.need (SI.cmp (fun x _=>decide (0≤x)) b b) (BJ (.int k (SI.bin (fun x y=>x.fdiv (2 ^ min y.toNat k.bits)) a b)))
  | _=>.fail "shift"
def eqOp (P:Program) (neg:Bool) (t:TypeId) (x y:AV):Ah Res :=
  match eqA P 8 t x y with
  | some r=>BJ (.bool (match neg with | true=>r.not | false=>r))
  | none=>.fail "=="
def binA (P:Program) (op:BinOp) (t:TypeId) (x y:AV):Ah Res :=
  match x,y with
  | .int k a,.int k' b =>
    match op with
    | .shl | .shr=>shiftOp op k a b
    | _=>match decide (k=k') with
      | true=>intOp op k a b
      | false=>.fail "kinds"
  | .str a,.str b=>match op with
    | .eql=>BJ (.bool (a.eq b))
    | .neq=>BJ (.bool (a.eq b).not)
    | _=>.fail "an operator on strings"
  | .agg _,.agg _=>match P.eqGuardType P.depth t with
    | true=>.fail "eqGuard"
    | false=>match op with
      | .eql=>eqOp P false t x y
      | .neq=>eqOp P true t x y
      | _=>.fail "an operator on structs"
  | .nili,.nili=>.fail "=="
  | _,_=>match op with
    | .eql=>eqOp P false t x y
    | .neq=>eqOp P true t x y
    | _=>.fail "an operator"
def unA (op:UnOp) (x:AV):Ah Res :=
  match op,x with
  | .not,.bool b=>BJ (.bool b.not)
  | .neg,.int k n=>BJ (.int k (n.un fun x=>k.wrap (0 - x)))
  | _,_=>.fail "unary"
def nway {R:Type} (i:Int) (f:Nat→Ah R):Nat→Ah R→Ah R
  | 0,e=>e
  | n+1,e=>nway i f n (.ite (decide (i=(n:Int))) (f n) e)
def atPlace {R:Type} (i:SI) (n:Nat) (f:Nat→Ah R):Ah R :=
  match i with
  | .lit x=>match decide (0≤x∧x<(n:Int)) with
    | true=>f x.toNat
    | false=>.fail "index"
  | .sym x=>nway x f n (.must false (.fail "index"))
def fillA (place:Nat→Option (Nat×Nat)) (cells:List AV):List (Nat×AV)→Option (List AV)
  | []=>some cells
  | (i,v)::rest=>match place i with
    | none=>none
    | some (off,size) =>
      match Nat.beq v.cells.length size,Nat.ble (off+v.cells.length) cells.length,Ap v.cells with
      | true,true,true=>fillA place (putCells cells off v.cells) rest
      | _,_,_=>none
def placeOf (P:Program):Option Field→Option (Nat×Nat)
  | some f=>match tsize P f.type with
    | some n=>some (f.offset,n)
    | none=>none
  | none=>none
def placesA (P:Program) (fields:Array Field) (i:Nat):Option (Nat×Nat):=placeOf P fields[i]?
def buildA (P:Program) (t:TypeId) (parts:List (Nat×AV)):Option AV :=
  match tzero P t,P.underlying t with
  | some z,some (.struct fields)=>match fields.toList.all (fun f=>(tsize P f.type).isSome),Ap z.cells with
    | true,true=>(fillA (placesA P fields) z.cells parts).map .agg
    | _,_=>none
  | some z,some (.array _ elem)=>match tsize P elem,Ap z.cells with
    | some n,true=>(fillA (fun i=>some (i * n,n)) z.cells parts).map .agg
    | _,_=>none
  | _,_=>none
def liveG (h:Aq):Option Nat→Bool
  | none=>true
  | some g=>match hget g h with
    | some .tok=>true
    | _=>false
def keysG (k:Nat):Option Nat→List Nat
  | none=>[k]
  | some g=>[k,g]
def inB (i len:SI):SB:=SI.cmp (fun i n=>decide (0≤i∧i<n)) i len
def fixS {R:Type} (v:AV) (K:AV→Ah R):Ah R:=match v with
  | .slIf b k _=>.must b (K (.sl k))
  | v=>K v
def fixC {R:Type} : List AV→(List AV→Ah R)→Ah R
  | [],K=>K []
  | v::l,K=>fixS v fun v=>fixC l fun l=>K (v::l)
def fixA {R:Type} (v:AV) (K:AV→Ah R):Ah R:=match v with
  | .agg l=>fixC l fun l=>K (.agg l)
  | v=>fixS v K
def loadA (P:Program) (t:TypeId) (x:AV) (h:Aq):Ah Res :=
  match x with
  | .ptr k off=>match hget k h with
    | some (.box cs)=>.ofOpt "load" (partA P t cs off) fun v=>.leaf (.val v [k] [])
    | _=>.fail "load: no box"
  | .elp k i sz off=>match hget k h with
    | some (.lst len sz' rows g)=>match Nat.beq sz sz',liveG h g with
      | true,true=>.need (inB i len) (.ofOpt "load" (partA P t (rows i.v.toNat) off) fun v=>fixA v fun v=>.leaf (.val v (keysG k g) []))
      | _,_=>.fail "load: the list is gone"
    | _=>.fail "load: no list"
  | _=>.fail "load"
def setRows (i:SI) (off:Nat) (vs:List AV) (r:Nat→List AV) (j:Nat):List AV:=match Nat.beq j i.v.toNat with
  | true=>putCells (r j) off vs
  | false=>r j
def storeA (P:Program) (t:TypeId) (x v:AV) (h:Aq) (key:Nat):Ah Res :=
  match x with
  | .ptr k off=>match hget k h,tsize P t with
    | some (.box cs),some n=>match Nat.beq v.cells.length n,Nat.ble (off+n) cs.length,Ap v.cells with
      | true,true,true=>.leaf (.val (.raw undef) [k] [(k,some (.box (putCells cs off v.cells)))])
      | _,_,_=>.fail "store: size"
    | _,_=>.fail "store: no box"
  | .elp k i sz off=>match hget k h,tsize P t with
    | some (.lst len sz' rows (some g)),some n=>match Nat.beq sz sz'&&liveG h (some g),Nat.beq v.cells.length n,Nat.ble (off+n) sz,Ap v.cells with
      | true,true,true,true=>.need (inB i len) (.leaf (.val (.raw undef) [k,g] [(k,some (.lst len sz (setRows i off v.cells rows) (some key))),(key,some .tok),(g,none)]))
      | _,_,_,_=>.fail "store: size"
    | _,_=>.fail "store: no list"
  | _=>.fail "store"
def fieldAddrA (P:Program) (s:TypeId) (x:AV) (f:Nat):Ah Res :=
  match P.underlying s with
  | some (.struct fields)=>match fields[f]? with
    | some fd=>match tsize P fd.type with
      | some (_+1)=>match x with
        | .ptr k off=>BJ (.ptr k (off+fd.offset))
        | .elp k i sz off=>BJ (.elp k i sz (off+fd.offset))
        | _=>.fail "fieldAddr"
      | _=>.fail "fieldAddr: size"
    | none=>.fail "fieldAddr: no field"
  | _=>.fail "fieldAddr: no struct"
def indexAddrA (P:Program) (t:TypeId) (x i:AV) (h:Aq):Ah Res :=
  match i with
  | .int _ i=>match P.underlying t with
    | some (.array len elem)=>match tsize P elem with
      | some n=>match x with
        | .ptr k off=>atPlace i len fun j=>BJ (.ptr k (off+j * n))
        | _=>.fail "indexAddr: array"
      | none=>.fail "indexAddr: size"
    | some (.slice elem)=>match x,tsize P elem with
      | .sl k,some n=>match hget k h with
        | some (.lst len sz _ _)=>match Nat.beq n sz with
          | true=>.need (inB i len) (.leaf (.val (.elp k i n 0) [k] []))
          | false=>.fail "indexAddr: size"
        | _=>.fail "indexAddr: no list"
      | _,_=>.fail "indexAddr: slice"
    | _=>.fail "indexAddr"
  | _=>.fail "indexAddr"
def indexA (P:Program) (t:TypeId) (x i:AV):Ah Res :=
  match x,i with
  | .agg cs,.int _ i=>match P.underlying t with
    | some (.array len elem)=>match tsize P elem with
      | some n=>atPlace i len fun j=>.ofOpt "index" (partA P elem cs (j * n)) fun v=>BJ v
      | none=>.fail "index: size"
    | _=>.fail "index"
  | _,_=>.fail "index"
def fieldA (P:Program) (t:TypeId) (x:AV) (f:Nat):Ah Res :=
  match P.underlying t,x with
  | some (.struct fields),.agg cs=>match fields[f]? with
    | some fd=>.ofOpt "field" (partA P fd.type cs fd.offset) fun v=>BJ v
    | none=>.fail "field"
  | _,_=>.fail "field"
def lenK (k:Nat) (h:Aq):Ah Res :=
  match hget k h with
  | some (.lst len _ _ _)=>.leaf (.val (.int .i64 len) [k] [])
  | _=>.fail "len: no list"
def lenA (P:Program) (t:TypeId) (x:AV) (h:Aq):Ah Res :=
  match P.underlying t,x with
  | some .string,.str s=>BJ (.int .i64 s.len)
  | some (.array n _),_=>BJ (.int .i64 (.lit n))
  | some (.slice _),.nils=>BJ (.int .i64 (.lit 0))
  | some (.slice _),.sl k=>lenK k h
  | some (.slice _),.slN k=>lenK k h
  | _,_=>.fail "len"
structure Lst where
  len:SI
  rows:Nat→List AV
  R:List Nat
def Lst.with {R:Type} (a:Lst) (K:SI→(Nat→List AV)→List Nat→R):R:=match a with
  | ⟨l,r,k⟩=>K l r k
theorem Lst.with_eq {R:Type} (a:Lst) (K:SI→(Nat→List AV)→List Nat→R):a.with K=K a.len a.rows a.R:=rfl
def readK (sz k:Nat) (h:Aq):Option Lst :=
  match hget k h with
  | some (.lst len sz' rows g)=>match Nat.beq sz sz',liveG h g with
    | true,true=>some ⟨len,rows,keysG k g⟩
    | _,_=>none
  | _=>none
def readL (sz:Nat) (x:AV) (h:Aq):Option Lst :=
  match x with
  | .nils=>some ⟨.lit 0,fun _=>[],[]⟩
  | .sl k=>readK sz k h
  | .slN k=>readK sz k h
  | _=>none
def AP (n:SI) (r s:Nat→List AV) (i:Nat):List AV :=
  match Nat.blt i n.v.toNat with
  | true=>r i
  | false=>s (i - n.v.toNat)
def smallB (bytes:Nat) (n:SI):SB:=SI.cmp (fun x _=>decide (x * (bytes:Int)≤1099511627776∧x≤1099511627776)) n n
def addL (a b:SI):SI:=SI.bin (fun x y=>x+y) a b
def grpOf (x:AV) (h:Aq):Option (Option Nat) :=
  match x with
  | .nils=>some none
  | .sl k=>match hget k h with
    | some (.lst _ _ _ (some g))=>some (some g)
    | _=>none
  | _=>none
def killG:Option Nat→Aq
  | none=>[]
  | some g=>[(g,none)]
def appendA (P:Program) (t:TypeId) (x y:AV) (h:Aq) (key:Nat):Ah Res :=
  match P.underlying t with
  | some (.slice elem)=>match tsize P elem,tbytes P elem,tzero P elem with
    | some (n+1),some b,some z=>match Nat.beq z.cells.length (n+1),readL (n+1) x h,readL (n+1) y h,grpOf x h with
      | true,some a,some c,some g =>
        a.with fun la ra Ra=>c.with fun lc rc Rc=>.need (smallB b (addL la lc)) (.leaf (.val (.sl (key+1)) (Ra++Rc)
          ((key+1,some (.lst (addL la lc) (n+1) (AP la ra rc) (some key)))::(key,some .tok)::killG g)))
      | _,_,_,_=>.fail "append: not a list of its own"
    | _,_,_=>.fail "append: size"
  | _=>.fail "append"
def boundA (d:SI):Option AV→Option SI
  | none=>some d
  | some (.int _ i)=>some i
  | some _=>none
def subL (a b:SI):SI:=SI.bin (fun x y=>x - y) a b
def Aw (lo:SI) (r:Nat→List AV) (i:Nat):List AV:=r (lo.v.toNat+i)
def sliceA (P:Program) (t:TypeId) (x:AV) (lo hi:Option AV) (h:Aq) (key:Nat):Ah Res :=
  match P.underlying t with
  | some (.slice elem)=>match tsize P elem,x with
    | some n,.sl k=>match hget k h with
      | some (.lst len sz rows g)=>match Nat.beq n sz&&liveG h g,boundA (.lit 0) lo,boundA len hi with
        | true,some l,some m =>
          .need (SI.cmp (fun l m=>decide (0≤l∧l≤m)) l m) (.need (SI.cmp (fun m n=>decide (m≤n)) m len)
            (.leaf (.val (.sl key) (keysG k g) [(key,some (.lst (subL m l) n (Aw l rows) g)),(key+1,some (.als k l m n key))])))
        | _,_,_=>.fail "slice: bounds"
      | _=>.fail "slice: no list"
    | some _,.nils=>match boundA (.lit 0) lo,boundA (.lit 0) hi with
      | some (.lit 0),some (.lit 0)=>BJ .nils
      | _,_=>.fail "slice: nil"
    | _,_=>.fail "slice"
  | _=>.fail "slice"
def sliceZA (P:Program) (t:TypeId) (x:AV) (lo:Option AV) (hi mx:AV) (h:Aq) (key:Nat):Ah Res :=
  match P.underlying t with
  | some (.slice elem)=>match tsize P elem,boundA (.lit 0) lo,hi,mx with
    | some n,some (.lit 0),.int _ (.lit 0),.int _ (.lit 0)=>match x with
      | .nils=>BJ .nils
      | .sl k=>match hget k h with
        | some (.lst _ _ _ _)=>.leaf (.val (.sl (key+1)) [k] [(key+1,some (.lst (.lit 0) n (fun _=>[]) (some key))),(key,some .tok)])
        | _=>.fail "slice: no list"
      | _=>.fail "slice"
    | _,_,_,_=>.fail "slice: max"
  | _=>.fail "slice"
def intKey (P:Program) (kt:TypeId):Option IntKind :=
  match P.underlying kt with
  | some (.int k)=>some k
  | _=>none
def tupOk (ok:Bool) (v:AV) (b:Bool):AV:=match ok with
  | true=>.tup [v,.bool (.lit b)]
  | false=>v
def atMap (base i:SI) (vals:Nat→AV):AV:=vals (subL i base).v.toNat
def lookupA (P:Program) (t:TypeId) (x i:AV) (ok:Bool) (h:Aq):Ah Res :=
  match P.underlying t,x,i with
  | some (.map kt e),.mref k,.int ki i=>match intKey P kt,hget k h,tzero P e with
    | some kk,some (.mp base len vals),some z=>match decide (kk = .u32),decide (ki = .u32),(SI.cmp (fun i b=>decide (b≤i)) i base).and (SI.cmp (fun i n=>decide (i<n)) i (addL base len)) with
      | true,true,.lit true=>.leaf (.val (tupOk ok (atMap base i vals) true) [k] [])
      | true,true,.lit false=>.leaf (.val (tupOk ok z false) [k] [])
      | true,true,.sym b=>.ite b (.leaf (.val (tupOk ok (atMap base i vals) true) [k] [])) (.leaf (.val (tupOk ok z false) [k] []))
      | _,_,_=>.fail "lookup: kinds"
    | _,_,_=>.fail "lookup: no map"
  | _,_,_=>.fail "lookup"
def SI.is0:SI→Bool
  | .lit n=>decide (n=0)
  | .sym _=>false
def pushV (len:SI) (vals:Nat→AV) (v:AV) (j:Nat):AV:=match Nat.blt j len.v.toNat with
  | true=>vals j
  | false=>v
def mapUpdateA (P:Program) (t:TypeId) (x i v:AV) (h:Aq):Ah Res :=
  match P.underlying t,x,i with
  | some (.map kt _),.mref k,.int ki i=>match intKey P kt,hget k h with
    | some kk,some (.mp base len vals)=>match decide (kk = .u32),decide (ki = .u32),len.is0 with
      | true,true,true=>.leaf (.val (.raw undef) [k] [(k,some (.mp i (.lit 1) (fun _=>v)))])
      | true,true,false=>.need (SI.cmp (fun i n=>decide (i=n)) i (addL base len)) (.leaf (.val (.raw undef) [k] [(k,some (.mp base (addL len (.lit 1)) (pushV len vals v)))]))
      | _,_,_=>.fail "mapUpdate: kinds"
    | _,_=>.fail "mapUpdate: no map"
  | _,_,_=>.fail "mapUpdate"
def makeMapA (key:Nat):Ah Res:=.leaf (.val (.mref key) [] [(key,some (.mp (.lit 0) (.lit 0) (fun _=>.raw undef)))])
def Aa (n:Nat) (cs:List AV) (i:Nat):List AV:=(cs.drop (i * n)).take n
def buildSliceA (P:Program) (t:TypeId) (len:Nat) (parts:List (Nat×AV)) (key:Nat):Ah Res :=
  match P.underlying t with
  | some (.slice elem)=>match tsize P elem,tzero P elem with
    | some (n+1),some z=>match Ap z.cells,Nat.beq z.cells.length (n+1),Nat.ble (len * (n+1)) 16777216 with
      | true,true,true=>match fillA (fun i=>some (i * (n+1),n+1)) (List.replicate len z.cells).flatten parts with
        | some cs=>forceC cs fun cs=>.leaf (.val (.sl (key+1)) [] [(key+1,some (.lst (.lit len) (n+1) (Aa (n+1) cs) (some key))),(key,some .tok)])
        | none=>.fail "buildSlice: parts"
      | _,_,_=>.fail "buildSlice: zero"
    | _,_=>.fail "buildSlice: size"
  | _=>.fail "buildSlice"
def minA (less:Int→Int→Bool):AV→List AV→Option AV
  | x,[]=>some x
  | .int k x,.int k' y::rest=>match decide (k=k') with
    | true=>minA less (.int k (SI.bin (fun x y=>match less y x with | true=>y | false=>x) x y)) rest
    | false=>none
  | _,_=>none
def clrRows (lo hi:SI) (z:List AV) (r:Nat→List AV) (j:Nat):List AV:=match Nat.ble lo.v.toNat j&&Nat.blt j hi.v.toNat with
  | true=>z
  | false=>r j
def clearA (P:Program) (t:TypeId) (x:AV) (h:Aq) (key:Nat):Ah Res :=
  match P.underlying t,x with
  | some (.slice e),.sl j=>match hget (j+1) h with
    | some (.als b lo hi sz of)=>match hget b h,tsize P e,tzero P e with
      | some (.lst len sz' rows (some g)),some n,some z=>match Nat.beq of j&&(Nat.beq sz n&&Nat.beq sz' n),liveG h (some g),Nat.beq z.cells.length n,Ap z.cells with
        | true,true,true,true=>.leaf (.val (.tup []) [j+1,b,g] [(b,some (.lst len n (clrRows lo hi z.cells rows) (some key))),(key,some .tok),(g,none)])
        | _,_,_,_=>.fail "clear: size"
      | _,_,_=>.fail "clear: no list"
    | _=>.fail "clear: of what"
  | _,_=>.fail "clear"
def callable (P:Program) (g:FuncId):Bool :=
  match P.funcs[g]? with
  | some fn=>!(fn.name == "runtime.NumGoroutine")&&fn.body.isSome
  | none=>false
def callA (P:Program) (c:Call) (ρ:Operand→AV) (h:Aq) (key:Nat):Ah Res :=
  match c.callee with
  | .value _=>.fail "call: a function value"
  | .invoke _ _=>.fail "call: invoke"
  | .builtin b=>match b,c.args.toList,c.argTypes.toList with
    | .len,[x],[t]=>lenA P t (ρ x) h
    | .append,[x,y],[t,u]=>match P.underlying u with
      | some (.slice _)=>appendA P t (ρ x) (ρ y) h key
      | _=>.fail "append: of what"
    | .clear,[x],[t]=>clearA P t (ρ x) h key
    | .min,x::xs,_=>match ρ x with
      | .int k n=>.ofOpt "min" (minA (fun y x=>decide (y<x)) (.int k n) (xs.map ρ)) BJ
      | _=>.fail "min"
    | .max,x::xs,_=>match ρ x with
      | .int k n=>.ofOpt "max" (minA (fun y x=>decide (y>x)) (.int k n) (xs.map ρ)) BJ
      | _=>.fail "max"
    | _,_,_=>.fail "a builtin"
def callOf (P:Program) (op:Op) (ρ:Operand→AV):Option (FuncId×List AV) :=
  match op with
  | .call c=>match c.callee with
    | .value f=>match ρ f with
      | .fn (.func g) first cap=>match callable P g with
        | true=>some (g,first++(c.args.toList.map ρ++cap))
        | false=>none
      | _=>none
    | _=>none
  | _=>none
def opA (P:Program) (op:Op) (ρ:Operand→AV) (h:Aq) (key:Nat):Ah Res :=
  match op with
  | .move x=>BJ (ρ x)
  | .assign x=>BJ (ρ x)
  | .pick c a b=>match ρ c with
    | .bool (.lit true)=>BJ (ρ a)
    | .bool (.lit false)=>BJ (ρ b)
    | .bool (.sym s)=>.ite s (BJ (ρ a)) (BJ (ρ b))
    | _=>.fail "pick"
  | .alloc t=>match tzero P t with
    | some z=>match Ap z.cells with
      | true=>.leaf (.val (.ptr key 0) [] [(key,some (.box z.cells))])
      | false=>.fail "alloc: zero"
    | none=>.fail "alloc"
  | .box _ x=>match Ap (ρ x).cells with
    | true=>.leaf (.val (.ptr key 0) [] [(key,some (.box (ρ x).cells))])
    | false=>.fail "box"
  | .build t parts=>.ofOpt "build" (buildA P t (parts.toList.map fun p=>(p.1,ρ p.2))) BJ
  | .buildSlice t len parts=>buildSliceA P t len (parts.toList.map fun p=>(p.1,ρ p.2)) key
  | .load t a=>loadA P t (ρ a) h
  | .store t a x=>storeA P t (ρ a) (ρ x) h key
  | .nilCheck x=>match ρ x with
    | .ptr k off=>BJ (.ptr k off)
    | .elp k i sz off=>BJ (.elp k i sz off)
    | .fn (.func g) a b=>BJ (.fn (.func g) a b)
    | _=>.fail "nilCheck"
  | .binOp op t x y _=>binA P op t (ρ x) (ρ y)
  | .unOp op _ x=>unA op (ρ x)
  | .convert s t x=>match P.underlying s,P.underlying t,ρ x with
    | some (.int _),some (.int k),.int _ n=>BJ (.int k (n.un k.wrap))
    | _,_,_=>.fail "convert"
  | .makeFunc fn first cap=>BJ (.fn fn (first.toList.map ρ) (cap.toList.map ρ))
  | .slice t x lo hi mx=>match mx with
    | none=>sliceA P t (ρ x) (lo.map ρ) (hi.map ρ) h key
    | some m=>match hi with
      | some hi=>sliceZA P t (ρ x) (lo.map ρ) (ρ hi) (ρ m) h key
      | none=>.fail "slice: max"
  | .fieldAddr s x f=>fieldAddrA P s (ρ x) f
  | .field t x f=>fieldA P t (ρ x) f
  | .indexAddr t x i=>indexAddrA P t (ρ x) (ρ i) h
  | .index t x i=>indexA P t (ρ x) (ρ i)
  | .extract t i=>match ρ t with
    | .tup l=>.ofOpt "extract" l[i]? BJ
    | _=>.fail "extract"
  | .call c=>callA P c ρ h key
  | .lookup t x i ok=>lookupA P t (ρ x) (ρ i) ok h
  | .mapUpdate t m k v=>mapUpdateA P t (ρ m) (ρ k) (ρ v) h
  | .makeMap t r=>match r with
    | none=>makeMapA key
    | some _=>.fail "makeMap: how many"
  | _=>.fail "an operation"
def force1 {R:Type} (v:AV) (K:AV→R):R :=
  match v with
  | .agg l=>forceC l fun l=>K (.agg l)
  | v=>forceS v K
def forceD {R:Type} : List AV→(List AV→R)→R
  | [],K=>K []
  | v::l,K=>force1 v fun v=>forceD l fun l=>K (v::l)
def forceV {R:Type} (v:AV) (K:AV→R):R :=
  match v with
  | .tup l=>forceD l fun l=>K (.tup l)
  | v=>force1 v K
def forceI {R:Type} (n:SI) (K:SI→R):R:=match n with
  | .lit n=>K (.lit n)
  | .sym n=>K (.sym n)
theorem forceI_eq {R:Type} (n:SI) (K:SI→R):forceI n K=K n:=by cases n <;> rfl
def forceW {R:Type} : Aq→(Aq→R)→R
  | [],K=>K []
  | (k,some (.box cs))::W,K=>forceC cs fun cs=>forceW W fun W=>K ((k,some (.box cs))::W)
  | (k,some (.lst (.lit n) sz rows g))::W,K=>forceW W fun W=>K ((k,some (.lst (.lit n) sz rows g))::W)
  | (k,some (.lst (.sym n) sz rows g))::W,K=>forceW W fun W=>K ((k,some (.lst (.sym n) sz rows g))::W)
  | (k,some (.mp b n vals))::W,K=>forceI b fun b=>forceI n fun n=>forceW W fun W=>K ((k,some (.mp b n vals))::W)
  | e::W,K=>forceW W fun W=>K (e::W)
def nameS {R:Type} (v:AV) (K:AV→Ah R):Ah R :=
  match v with
  | .bool (.lit b)=>K (.bool (.lit b))
  | .bool (.sym b)=>K (.bool (.sym b))
  | .int k (.lit n)=>K (.int k (.lit n))
  | .int k (.sym n)=>.defI n fun z=>K (.int k (.sym z))
  | .elp k (.lit n) sz off=>K (.elp k (.lit n) sz off)
  | .elp k (.sym n) sz off=>K (.elp k (.sym n) sz off)
  | .str (.lit s)=>K (.str (.lit s))
  | .str (.sym s)=>K (.str (.sym s))
  | v=>K v
def nameC {R:Type} : List AV→(List AV→Ah R)→Ah R
  | [],K=>K []
  | v::l,K=>nameS v fun v=>nameC l fun l=>K (v::l)
def name1 {R:Type} (v:AV) (K:AV→Ah R):Ah R :=
  match v with
  | .agg l=>nameC l fun l=>K (.agg l)
  | v=>nameS v K
def nameD {R:Type} : List AV→(List AV→Ah R)→Ah R
  | [],K=>K []
  | v::l,K=>name1 v fun v=>nameD l fun l=>K (v::l)
def nameV {R:Type} (v:AV) (K:AV→Ah R):Ah R :=
  match v with
  | .tup l=>nameD l fun l=>K (.tup l)
  | v=>name1 v K
def nameBS {R:Type} (v:AV) (K:AV→Ah R):Ah R :=
  match v with
  | .bool (.sym b)=>.defB b fun z=>K (.bool (.sym z))
  | v=>nameS v K
def nameBC {R:Type} : List AV→(List AV→Ah R)→Ah R
  | [],K=>K []
  | v::l,K=>nameBS v fun v=>nameBC l fun l=>K (v::l)
def nameNI {R:Type} (n:SI) (K:SI→Ah R):Ah R:=match n with
  | .lit n=>K (.lit n)
  | .sym n=>.defI n fun n=>K (.sym n)
def nameW {R:Type} : Aq→(Aq→Ah R)→Ah R
  | [],K=>K []
  | (k,some (.box cs))::W,K=>nameBC cs fun cs=>nameW W fun W=>K ((k,some (.box cs))::W)
  | (k,some (.lst (.lit n) sz rows g))::W,K=>nameW W fun W=>K ((k,some (.lst (.lit n) sz rows g))::W)
  | (k,some (.lst (.sym n) sz rows g))::W,K=>.defI n fun n=>nameW W fun W=>K ((k,some (.lst (.sym n) sz rows g))::W)
  | (k,some (.mp b n vals))::W,K=>nameNI b fun b=>nameNI n fun n=>nameW W fun W=>K ((k,some (.mp b n vals))::W)
  | e::W,K=>nameW W fun W=>K (e::W)
def named (op:Op) (ρ:Operand→AV):Bool :=
  match op with
  | .binOp ..=>true
  | .convert ..=>true
  | .lookup ..=>true
  | .call c=>match c.callee with
    | .builtin .len=>false
    | _=>true
  | .load _ a=>match ρ a with
    | .elp ..=>true
    | _=>false
  | _=>false
def nameO {R:Type} (op:Op) (ρ:Operand→AV) (v:AV) (K:AV→Ah R):Ah R :=
  match named op ρ with
  | true=>nameV v K
  | false=>forceV v K
mutual
def keysOf:AV→List Nat
  | .ptr k _=>[k]
  | .elp k _ _ _=>[k]
  | .sl k=>[k]
  | .mref k=>[k]
  | .slIf _ k _=>[k]
  | .slN k=>[k]
  | .fn _ a b=>keysL a++keysL b
  | .ifc _ v=>keysOf v
  | .agg l=>keysL l
  | .tup l=>keysL l
  | _=>[]
def keysL:List AV→List Nat
  | []=>[]
  | v::l=>keysOf v++keysL l
end
def objKeys:Option Ai→List Nat
  | some (.box cs)=>keysL cs
  | some (.lst _ _ _ (some g))=>[g]
  | some (.own _ _ _ g)=>[g]
  | _=>[]
def memK (k:Nat):List Nat→Bool
  | []=>false
  | j::l=>match Nat.beq j k with
    | true=>true
    | false=>memK k l
def reach:Nat→List Nat→List Nat→Aq→List Nat
  | 0,_,seen,_=>seen
  | _+1,[],seen,_=>seen
  | n+1,k::todo,seen,h=>match memK k seen with
    | true=>reach n todo seen h
    | false=>reach n (objKeys (hget k h)++todo) (k::seen) h
def closedK (ks:List Nat) (h:Aq):Bool :=
  ks.all fun k=>match hget k h with
    | some (.lst _ _ _ (some g))=>memK g ks
    | some (.own _ _ _ g)=>memK g ks
    | _=>true
def restrict:List Nat→Aq→Aq
  | [],_=>[]
  | k::l,h=>(k,hget k h)::restrict l h
structure Summ where
  run:List AV→Aq→Nat→Ah (AV×List Nat×Aq×Nat)
inductive Ex where
  | normal
  | exit (id:Nat)
  | ret
structure St where
  ex:Ex
  tm:Tm
  heap:Aq
  key:Nat
structure Hook where
  run:Tm→Aq→Nat→Ah St
structure Tab where
  sm:FuncId→Option Summ
  hk:FuncId→Nat→Option Hook
def guardT {R:Type} (ops:Array Oper) (o:Oper) (τ:Tm) (yes no:Tm→Ah R):Ah R :=
  match o.guard with
  | none=>yes τ
  | some (j,want)=>match (ops[j]?).bind (·.dst) with
    | none=>no τ
    | some t=>match tget t τ with
      | .bool (.lit b)=>match b==want with | true=>yes τ | false=>no τ
      | .bool (.sym b)=>match want with
        | true=>.ite b (yes ((t,.bool (.lit true))::τ)) (no ((t,.bool (.lit false))::τ))
        | false=>.ite b (no ((t,.bool (.lit true))::τ)) (yes ((t,.bool (.lit false))::τ))
      | .raw (.tuple _)=>no τ
      | _=>.fail "guard"
def dstOk (nt:Nat):Option Tmp→Bool
  | none=>true
  | some d=>Nat.blt d nt
def pickT {R:Type} (op:Op) (τ:Tm) (go:Tm→Ah R):Ah R :=
  match op with
  | .pick (.tmp t) _ _=>match tget t τ with
    | .bool (.sym b)=>.ite b (go ((t,.bool (.lit true))::τ)) (go ((t,.bool (.lit false))::τ))
    | _=>go τ
  | _=>go τ
def opsT {R : Type} (P : Program) (T : Tab) (call : FuncId → List AV → Aq → Nat → (AV → Aq → Nat → Ah R) → Ah R) (nt : Nat) (ops : Array Oper) :
    List Oper→Tm→Aq→Nat→(Tm→Aq→Nat→Ah R)→Ah R
  | [],τ,h,key,K=>K τ h key
  | o::rest,τ,h,key,K =>
    match dstOk nt o.dst with
    | false=>.fail "a temporary"
    | true =>
      guardT ops o τ
        (fun τ=>pickT o.op τ fun τ=>match callOf P o.op (aeval τ) with
          | some (f,args)=>match T.sm f with
            | some S=>(S.run args h key).bind fun q=>nameV q.1 fun v=>nameW q.2.2.1 fun W=>opsT P T call nt ops rest (tput o.dst v τ) (W++h) q.2.2.2 K
            | none=>call f args h key fun v h key=>opsT P T call nt ops rest (tput o.dst v τ) h key K
          | none=>(opA P o.op (aeval τ) h key).bind fun
            | .val v _ W=>nameO o.op (aeval τ) v fun v=>forceW W fun W=>opsT P T call nt ops rest (tput o.dst v τ) (W++h) (key+2) K)
        (fun τ=>opsT P T call nt ops rest (tput o.dst (.raw undef) τ) h key K)
structure Cert where
  i:Nat
  R:List Nat
  W:List Nat
def meets (a b:List Nat):Bool:=a.any fun k=>memK k b
def clash (ops:Array Oper) (bef:Nat) (o:Oper) (R W:List Nat) (c:Cert):Bool :=
  match Nat.testBit bef c.i with
  | true=>false
  | false=>match ops[c.i]? with
    | none=>true
    | some x=>match Oper.apart ops x o,meets c.W R,meets c.W W,meets W c.R with
      | true,false,false,false=>false
      | _,_,_,_=>true
def wkeys (W:Aq):List Nat:=W.map (·.1)
def doneT {R:Type} (ops:Array Oper) (bef:Nat) (o:Oper) (cs:List Cert) (Rk:List Nat) (W:Aq) (x:Ah R):Ah R :=
  match cs.any (clash ops bef o Rk (wkeys W)) with
  | true=>.fail "operations in no order touch one thing"
  | false=>x
def edgesOk (o:Oper) (i:Nat):Bool:=o.after.toList.all fun e=>!(Region.binds .any e)||Nat.blt e.on i
def drawT {R : Type} (P : Program) (T : Tab) (call : FuncId → List AV → Aq → Nat → (AV → Aq → Nat → Ah R) → Ah R) (nt : Nat) (ops : Array Oper) (bef : List Nat) :
    List Oper→Nat→List Cert→Tm→Aq→Nat→(Tm→Aq→Nat→Ah R)→Ah R
  | [],_,_,τ,h,key,K=>K τ h key
  | o::rest,i,cs,τ,h,key,K =>
    match dstOk nt o.dst&&edgesOk o i with
    | false=>.fail "a temporary"
    | true =>
      guardT ops o τ
        (fun τ=>pickT o.op τ fun τ=>match callOf P o.op (aeval τ) with
          | some (f,args)=>match T.sm f with
            | some S=>(S.run args h key).bind fun q=>nameV q.1 fun v=>nameW q.2.2.1 fun W=>doneT ops (bef.getD i 0) o cs q.2.1 W (drawT P T call nt ops bef rest (i+1) (⟨i,q.2.1,wkeys W⟩::cs) (tput o.dst v τ) (W++h) q.2.2.2 K)
            | none=>match closedK (reach 100 (keysL args) [] h) h with
              | false=>.fail "a list without its block"
              | true=>call f args (restrict (reach 100 (keysL args) [] h) h) key fun v h2 key =>
                doneT ops (bef.getD i 0) o cs (reach 100 (keysL args) [] h) (h2.take (h2.length - (reach 100 (keysL args) [] h).length))
                  (drawT P T call nt ops bef rest (i+1) (⟨i,reach 100 (keysL args) [] h,wkeys (h2.take (h2.length - (reach 100 (keysL args) [] h).length))⟩::cs) (tput o.dst v τ)
                    (h2.take (h2.length - (reach 100 (keysL args) [] h).length)++h) key K)
          | none=>(opA P o.op (aeval τ) h key).bind fun
            | .val v Rk W=>nameO o.op (aeval τ) v fun v=>forceW W fun W=>doneT ops (bef.getD i 0) o cs Rk W (drawT P T call nt ops bef rest (i+1) (⟨i,Rk,wkeys W⟩::cs) (tput o.dst v τ) (W++h) (key+2) K))
        (fun τ=>doneT ops (bef.getD i 0) o cs [] [] (drawT P T call nt ops bef rest (i+1) (⟨i,[],[]⟩::cs) (tput o.dst (.raw undef) τ) h key K))
def resA (P:Program) (τ:Tm) (h:Aq):List ResultVar→Option (List AV)
  | []=>some []
  | .tmp t::rest=>match resA P τ h rest with
    | some l=>some (tget t τ::l)
    | none=>none
  | .cell a t::rest=>match tget a τ with
    | .ptr k off=>match hget k h with
      | some (.box cs)=>match partA P t cs off,resA P τ h rest with
        | some v,some l=>some (v::l)
        | _,_=>none
      | _=>none
    | _=>none
def resV:List AV→AV
  | [v]=>v
  | l=>.tup l
def argTm:Nat→List AV→Tm
  | _,[]=>[]
  | i,v::l=>(i,v)::argTm (i+1) l
def BR {R : Type} (P : Program) (run : FuncId → Nat → Code → Tm → Aq → Nat → (St → Ah R) → Ah R)
    (g:FuncId) (args:List AV) (h:Aq) (key:Nat) (K:AV→Aq→Nat→Ah R):Ah R :=
  match P.funcs[g]? with
  | some fn=>match fn.body,Nat.ble args.length fn.ntmps with
    | some c,true=>run g fn.ntmps c (argTm 0 args) h key fun s=>match s.ex with
      | .exit _=>.fail "exit"
      | _=>.ofOpt "results" (resA P s.tm s.heap fn.results.toList) fun l=>K (resV l) s.heap s.key
    | _,_=>.fail "call: no body"
  | none=>.fail "call: no function"
def Am {R:Type} (P:Program) (T:Tab):Nat→FuncId→Nat→Code→Tm→Aq→Nat→(St→Ah R)→Ah R
  | 0,_,_,_,_,_,_,_=>.fail "fuel"
  | n+1,f,nt,c,τ,h,key,K =>
    match c with
    | .skip=>K ⟨.normal,τ,h,key⟩
    | .label _=>K ⟨.normal,τ,h,key⟩
    | .exit id=>K ⟨.exit id,τ,h,key⟩
    | .ret=>K ⟨.ret,τ,h,key⟩
    | .seq x y=>Am P T n f nt x τ h key fun s=>match s.ex with
      | .normal=>Am P T n f nt y s.tm s.heap s.key K
      | _=>K s
    | .cond c x y=>match aeval τ c with
      | .bool (.lit true)=>Am P T n f nt x τ h key K
      | .bool (.lit false)=>Am P T n f nt y τ h key K
      | .bool (.sym b)=>match c with
        | .tmp t=>.ite b (Am P T n f nt x ((t,.bool (.lit true))::τ) h key K) (Am P T n f nt y ((t,.bool (.lit false))::τ) h key K)
        | _=>.fail "cond"
      | _=>.fail "cond"
    | .block id x=>match T.hk f id with
      | some H=>(H.run τ h key).bind K
      | none=>Am P T n f nt x τ h key fun s=>match s.ex with
        | .exit i=>match Nat.beq i id with
          | true=>K ⟨.normal,s.tm,s.heap,s.key⟩
          | false=>K s
        | _=>K s
    | .loop x=>Am P T n f nt x τ h key fun s=>match s.ex with
      | .normal=>Am P T n f nt (.loop x) s.tm s.heap s.key K
      | _=>K s
    | .region _ ops false=>opsT P T (BR P (Am P T n)) nt ops ops.toList τ h key fun τ h key=>K ⟨.normal,τ,h,key⟩
    | .region _ ops true=>drawT P T (BR P (Am P T n)) nt ops (Region.before ops).toList ops.toList 0 [] τ h key fun τ h key=>K ⟨.normal,τ,h,key⟩
    | _=>.fail "code"
def noTab:Tab:=⟨fun _=>none,fun _ _=>none⟩
end Go.Eng
set_option linter.unusedSimpArgs false
set_option linter.unusedVariables false
namespace Go.Eng
theorem denL_map (E:Env):∀ l:List AV,BM E l=l.map (den E)
  | []=>rfl
  | v::l=>by simp [BM,denL_map E l]
theorem BL (E:Env) (l:List AV):(BM E l).length=l.length:=by simp [denL_map]
theorem denL_get (E:Env) (l:List AV) (i:Nat):(BM E l)[i]? = (l[i]?).map (den E):=by simp [denL_map]
theorem denL_append (E:Env) (a b:List AV):BM E (a++b)=BM E a++BM E b:=by simp [denL_map]
theorem denL_take (E:Env) (a:List AV) (n:Nat):BM E (a.take n)=(BM E a).take n:=by simp [denL_map]
theorem denL_drop (E:Env) (a:List AV) (n:Nat):BM E (a.drop n)=(BM E a).drop n:=by simp [denL_map]
theorem den_scalar (E:Env) {v:AV} (h:v.scalar=true):(den E v).oneCell'=true:=by
  cases v <;> simp [AV.scalar] at h <;> simp [den,Value.oneCell']
  · rename_i b k h
    cases b <;> rfl
  · rename_i x
    split at h
    · rfl
    · cases h
theorem den_cells (E:Env) {v:AV} (h:Ap v.cells=true):(den E v).cells=(BM E v.cells).toArray:=by
  cases v <;> simp [AV.cells,Ap,AV.scalar] at h <;> simp [den,AV.cells,BM,Value.cells]
  · rename_i b k h
    cases b <;> rfl
  · rename_i x
    cases x <;> first | rfl | (simp at h; done)
theorem allScalar_iff:∀ l:List AV,Ap l=true↔∀ v∈l,v.scalar=true
  | []=>by simp [Ap]
  | v::l=>by
    simp only [Ap,List.mem_cons,forall_eq_or_imp]
    cases hv:v.scalar <;> simp [allScalar_iff l]
theorem den_ofV0 (E:Env) (v:Value):den E (ofV0 v)=v:=by
  unfold ofV0
  split <;> simp [den,SB.v,SI.v,SS.v]
theorem den_ofV (E:Env) (v:Value):den E (ofV v)=v:=by
  unfold ofV
  split
  · rename_i cs
    simp only [den,denL_map,List.map_map]
    have:(cs.toList.map (den E∘ofV0))=cs.toList:=by
      conv=>rhs; rw [← List.map_id cs.toList]
      exact List.map_congr_left fun x _=>den_ofV0 E x
    rw [this]
  · exact den_ofV0 E v
def wget (k:Nat):Aq→Option (Option Ai)
  | []=>none
  | (j,o)::h=>match Nat.beq j k with
    | true=>some o
    | false=>wget k h
abbrev Look:=Nat→Option Ai
def hupd (lk:Look) (W:Aq):Look:=fun k=>match wget k W with
  | some o=>o
  | none=>lk k
theorem hget_wget (k:Nat):∀ h:Aq,hget k h=(wget k h).getD none
  | []=>rfl
  | (j,o)::h=>by
    simp only [hget,wget]
    cases Nat.beq j k
    · exact hget_wget k h
    · rfl
theorem wget_append (k:Nat) (W h:Aq):wget k (W++h)=match wget k W with | some o=>some o | none=>wget k h:=by
  induction W with
  | nil=>rfl
  | cons x W ih =>
    obtain ⟨j,o⟩:=x
    simp only [List.cons_append,wget]
    cases Nat.beq j k
    · exact ih
    · rfl
def AO (h:Aq):Look:=fun k=>hget k h
theorem lookOf_append (W h:Aq):AO (W++h)=hupd (AO h) W:=by
  funext k
  simp only [AO,hupd,hget_wget,wget_append]
  cases wget k W <;> rfl
theorem hupd_nil (lk:Look):hupd lk []=lk:=rfl
theorem wget_none {k:Nat} : ∀ {W:Aq},k ∉ wkeys W→wget k W=none
  | [],_=>rfl
  | (j,o)::W,h=>by
    simp only [wkeys,List.map_cons,List.mem_cons,not_or] at h
    simp only [wget]
    have:Nat.beq j k=false:=by
      cases hb:Nat.beq j k
      · rfl
      · exact absurd (Nat.eq_of_beq_eq_true hb).symm h.1
    rw [this]
    exact wget_none h.2
theorem wget_mem {k:Nat} {o:Option Ai} : ∀ {W:Aq},wget k W=some o→k∈wkeys W
  | [],h=>by simp [wget] at h
  | (j,o')::W,h=>by
    simp only [wget] at h
    simp only [wkeys,List.map_cons,List.mem_cons]
    cases hb:Nat.beq j k
    · rw [hb] at h; exact .inr (wget_mem h)
    · exact .inl (Nat.eq_of_beq_eq_true hb).symm
def RowsAt (E:Env) (get:Nat→Option Value) (off sz n:Nat) (rows:Nat→List AV):Prop :=
  ∀ i,i<n→(rows i).length=sz∧Ap (rows i)=true∧∀ j,j<sz→get (off+(i * sz+j))=((rows i)[j]?).map (den E)
def Ai.grp:Ai→Option Nat
  | .lst _ _ _ g=>g
  | .own _ _ _ g=>some g
  | _=>none
def owns (E:Env) (k:Nat):Ai→Nat→Prop
  | .lst _ _ _ _,_=>False
  | .own _ _ _ _,_=>False
  | .als _ _ _ _ _,_=>False
  | _,b=>b∈E.fp k
def lstRel (E:Env) (lk:Look) (w:World) (k:Nat) (len:SI) (sz:Nat) (rows:Nat→List AV) (grp:Option Nat):Prop :=
  (((E.hdr k).2.1:Nat):Int)=len.v∧(E.hdr k).2.1≤(E.hdr k).2.2 ∧
  (0<(E.hdr k).2.2→∃ B off,(E.hdr k).1=some ⟨B,off,none⟩∧B<w.heap.size ∧
    match grp with
    | none=>RowsAt E (fun o=>w.cell? ⟨B,o,none⟩) off sz (E.hdr k).2.1 rows
    | some g => lk g = some .tok → E.fp g = [B] ∧ ∃ C ty, w.heap[B]? = some (.cells C ty (0, 0)) ∧ off + (E.hdr k).2.2 * sz ≤ C.size ∧
        RowsAt E (fun o=>C[o]?) off sz (E.hdr k).2.1 rows)
def objRel (E:Env) (lk:Look) (w:World) (k:Nat):Ai→Prop
  | .box cs=>E.fp k=[E.blk k]∧Ap cs=true∧∃ ty,w.heap[E.blk k]? = some (.cells (BM E cs).toArray ty (0,0))
  | .tok=>∀ b∈E.fp k,b<w.heap.size
  | .lst len sz rows grp=>lstRel E lk w k len sz rows grp
  | .opq R=>(∀ b∈E.fp k,b<w.heap.size)∧∀ w':World,(∀ b∈E.fp k,w'.heap[b]? = w.heap[b]?)→R (E.blk k) (E.fp k) w'
  | .mp base len vals => E.fp k = [E.blk k] ∧ ∃ es clock, w.heap[E.blk k]? = some (.map es clock) ∧ ((es.size : Nat) : Int) = len.v ∧
      ∀ (i:Nat) (e:MapEntry),es[i]? = some e→e.key = .int .u32 (base.v+i)∧e.val=den E (vals i)
  | .als b lo hi sz of => 0 ≤ lo.v ∧ lo.v ≤ hi.v ∧ hi.v ≤ (((E.hdr b).2.1 : Nat) : Int) ∧ (E.hdr b).2.1 ≤ (E.hdr b).2.2 ∧
      E.hdr of=(if (E.hdr b).2.2=lo.v.toNat then (E.hdr b).1 else (E.hdr b).1.map (·.add (lo.v.toNat * sz)),hi.v.toNat - lo.v.toNat,(E.hdr b).2.2 - lo.v.toNat)
  | .own _ R d g=>lk g=some .tok→∀ w':World,w.heap.size≤w'.heap.size→(∀ b∈E.fp g,w'.heap[b]? = w.heap[b]?)→R d (E.blk k) (E.fp g) w'
structure Rel (E:Env) (lk:Look) (w:World):Prop where
  obj:∀ k o,lk k=some o→objRel E lk w k o
  apart:∀ k o k' o' b,lk k=some o→lk k'=some o'→k≠k'→owns E k o b→owns E k' o' b→False
  ro:∀ k len sz rows a k' o',lk k=some (.lst len sz rows none)→0<(E.hdr k).2.2→(E.hdr k).1=some a→lk k'=some o'→owns E k' o' a.block→False
def Ae (A:Nat→Prop) (E E':Env):Prop:=∀ k,A k→E'.blk k=E.blk k∧E'.hdr k=E.hdr k∧E'.fp k=E.fp k
theorem Ae.refl (A:Nat→Prop) (E:Env):Ae A E E:=fun _ _=>⟨rfl,rfl,rfl⟩
theorem Ae.trans {A B:Nat→Prop} {E E' E'':Env} (h:Ae A E E') (h':Ae B E' E'') (hAB:∀ k,A k→B k):Ae A E E'':=fun k hk =>
  ⟨(h' k (hAB k hk)).1.trans (h k hk).1,(h' k (hAB k hk)).2.1.trans (h k hk).2.1,(h' k (hAB k hk)).2.2.trans (h k hk).2.2⟩
theorem Ae.mono {A B:Nat→Prop} {E E':Env} (h:Ae B E E') (hAB:∀ k,A k→B k):Ae A E E':=fun k hk=>h k (hAB k hk)
structure RelU (A:Nat→Prop) (E:Env) (lk:Look) (w:World):Prop where
  dom:∀ k o,lk k=some o→A k
  grp:∀ k o g,lk k=some o→o.grp=some g→A g
  rel:∀ E',Ae A E E'→Rel E' lk w
theorem RelU.here {A:Nat→Prop} {E:Env} {lk:Look} {w:World} (h:RelU A E lk w):Rel E lk w:=h.rel E (Ae.refl A E)
theorem RelU.move {A B:Nat→Prop} {E E':Env} {lk:Look} {w:World} (h:RelU A E lk w) (ha:Ae A E E') (hAB:∀ k,A k→B k):RelU B E' lk w :=
  ⟨fun k o ho=>hAB k (h.dom k o ho),fun k o g hk hg=>hAB g (h.grp k o g hk hg),fun E'' h''=>h.rel E'' (ha.trans h'' hAB)⟩
structure Ext (A:Nat→Prop) (E:Env) (lk:Look) (w:World) (E':Env) (lk':Look) (w':World):Prop where
  os:w'.os=w.os
  tape:w'.tape=w.tape
  output:w'.output=w.output
  size:w.heap.size≤w'.heap.size
  agree:Ae A E E'
  frame:∀ b,b<w.heap.size→(∀ k o,lk k=some o→¬ owns E k o b)→w'.heap[b]? = w.heap[b]?
  fresh:∀ k o b,lk' k=some o→owns E' k o b→(∃ k0 o0,lk k0=some o0∧owns E k0 o0 b)∨w.heap.size≤b
  tok:∀ k,A k→lk' k=some .tok→lk k=some .tok∧∀ b∈E.fp k,w'.heap[b]? = w.heap[b]?
  rof:∀ k len sz rows a,lk' k=some (.lst len sz rows none)→0<(E'.hdr k).2.2→(E'.hdr k).1=some a →
    (∃ k0 len0 sz0 rows0 a0,lk k0=some (.lst len0 sz0 rows0 none)∧0<(E.hdr k0).2.2∧(E.hdr k0).1=some a0∧a0.block=a.block)∨w.heap.size≤a.block
theorem BP {A:Nat→Prop} {E E':Env} (h:Ae A E E') {k:Nat} (hk:A k) (o:Ai) (b:Nat):owns E' k o b↔owns E k o b:=by
  cases o <;> simp [owns,(h k hk).2.2]
theorem Ext.refl (A:Nat→Prop) (E:Env) (lk:Look) (w:World):Ext A E lk w E lk w :=
  ⟨rfl,rfl,rfl,Nat.le_refl _,Ae.refl A E,fun _ _ _=>rfl,fun k o _ h ho=>.inl ⟨k,o,h,ho⟩,fun _ _ h=>⟨h,fun _ _=>rfl⟩,
   fun k len sz rows a h hc ha=>.inl ⟨k,len,sz,rows,a,h,hc,ha,rfl⟩⟩
theorem Ext.trans {A A' : Nat → Prop} {E E' E'' : Env} {lk lk' lk'' : Look} {w w' w'' : World}
    (h:Ext A E lk w E' lk' w') (h':Ext A' E' lk' w' E'' lk'' w'') (hA:∀ k,A k→A' k):Ext A E lk w E'' lk'' w'' where
  os:=h'.os.trans h.os
  tape:=h'.tape.trans h.tape
  output:=h'.output.trans h.output
  size:=Nat.le_trans h.size h'.size
  agree:=h.agree.trans h'.agree hA
  frame:=fun b hb hn=>by
    rw [h'.frame b (Nat.lt_of_lt_of_le hb h.size) (fun k o ho hown=>by
      rcases h.fresh k o b ho hown with ⟨k0,o0,h0,h1⟩ | h1
      · exact hn k0 o0 h0 h1
      · omega),h.frame b hb hn]
  fresh:=fun k o b ho hown=>by
    rcases h'.fresh k o b ho hown with ⟨k0,o0,h0,h1⟩ | h1
    · exact h.fresh k0 o0 b h0 h1
    · exact .inr (Nat.le_trans h.size h1)
  tok:=fun k hk ht=>by
    obtain ⟨h1,h2⟩:=h'.tok k (hA k hk) ht
    obtain ⟨h3,h4⟩:=h.tok k hk h1
    refine ⟨h3,fun b hb=>?_⟩
    rw [h2 b (by rw [(h.agree k hk).2.2]; exact hb),h4 b hb]
  rof:=fun k len sz rows a h1 h2 h3=>by
    rcases h'.rof k len sz rows a h1 h2 h3 with ⟨k0,len0,sz0,rows0,a0,h4,h5,h6,h7⟩ | h4
    · rcases h.rof k0 len0 sz0 rows0 a0 h4 h5 h6 with ⟨k1,len1,sz1,rows1,a1,g4,g5,g6,g7⟩ | g4
      · exact .inl ⟨k1,len1,sz1,rows1,a1,g4,g5,g6,g7.trans h7⟩
      · exact .inr (h7 ▸ g4)
    · exact .inr (Nat.le_trans h.size h4)
theorem lt_of_get {w:World} {b:Nat} {o:Obj} (h:w.heap[b]? = some o):b<w.heap.size:=(Array.getElem?_eq_some_iff.1 h).1
theorem objRel.lt {E:Env} {lk:Look} {w:World} {k:Nat} {o:Ai} (h:objRel E lk w k o) {b:Nat} (hb:owns E k o b):b<w.heap.size:=by
  cases o with
  | box cs =>
    obtain ⟨h1,_,ty,h2⟩:=h
    simp only [owns,h1,List.mem_singleton] at hb
    subst hb
    exact lt_of_get h2
  | tok=>exact h b hb
  | lst=>exact hb.elim
  | own=>exact hb.elim
  | als=>exact hb.elim
  | opq R=>exact h.1 b hb
  | mp base len vals =>
    obtain ⟨h1,es,cl,h2,_⟩:=h
    simp only [owns,h1,List.mem_singleton] at hb
    subst hb
    exact lt_of_get h2
theorem RowsAt.congr {E:Env} {get get':Nat→Option Value} {off sz n:Nat} {rows:Nat→List AV} (h:RowsAt E get off sz n rows) (hg:∀ o,get' o=get o):RowsAt E get' off sz n rows :=
  fun i hi=>⟨(h i hi).1,(h i hi).2.1,fun j hj=>by rw [hg]; exact (h i hi).2.2 j hj⟩
theorem objRel_keep {E : Env} {lk lk' : Look} {w w' : World} {k : Nat} {o : Ai} (h : objRel E lk w k o) (hsz : w.heap.size ≤ w'.heap.size)
    (h1:∀ b,owns E k o b→w'.heap[b]? = w.heap[b]?)
    (h2:∀ len sz rows a,o = .lst len sz rows none→0<(E.hdr k).2.2→(E.hdr k).1=some a→w'.heap[a.block]? = w.heap[a.block]?)
    (h3:∀ g,o.grp=some g→lk' g=some .tok→lk g=some .tok∧∀ b∈E.fp g,w'.heap[b]? = w.heap[b]?) :
    objRel E lk' w' k o:=by
  cases o with
  | box cs =>
    obtain ⟨e,hs,ty,h⟩:=h
    exact ⟨e,hs,ty,by rw [h1 _ (by simp [owns,e])]; exact h⟩
  | tok=>exact fun b hb=>Nat.lt_of_lt_of_le (h b hb) hsz
  | als b lo hi sz of=>exact h
  | mp base len vals =>
    obtain ⟨e,es,cl,h,hs⟩:=h
    exact ⟨e,es,cl,by rw [h1 _ (by simp [owns,e])]; exact h,hs⟩
  | own t R d g =>
    intro ht w'' hsz2 hw
    obtain ⟨h4,h5⟩:=h3 g rfl ht
    exact h h4 w'' (Nat.le_trans hsz hsz2) fun b hb=>by rw [hw b hb]; exact h5 b hb
  | lst len sz rows grp =>
    obtain ⟨ha,hb,hc⟩:=h
    refine ⟨ha,hb,fun hp=>?_⟩
    obtain ⟨B,off,e,hlt,hr⟩:=hc hp
    refine ⟨B,off,e,Nat.lt_of_lt_of_le hlt hsz,?_⟩
    cases grp with
    | none =>
      exact RowsAt.congr hr fun o=>by
        have:=h2 len sz rows _ rfl hp e
        exact World.cell?_of_block (w:=w) (a:=⟨B,o,none⟩) this
    | some g =>
      intro ht
      obtain ⟨h4,h5⟩:=h3 g rfl ht
      obtain ⟨h6,C,ty,h7,h8⟩:=hr h4
      exact ⟨h6,C,ty,by rw [h5 B (by simp [h6])]; exact h7,h8⟩
  | opq R =>
    refine ⟨fun b hb=>Nat.lt_of_lt_of_le (h.1 b hb) hsz,fun w'' hw=>h.2 w'' fun b hb=>?_⟩
    rw [hw b hb]
    exact h1 b hb
theorem Rel.world {E:Env} {lk:Look} {w w':World} (h:Rel E lk w) (hsz:w.heap.size≤w'.heap.size) (hb:∀ b,b<w.heap.size→w'.heap[b]? = w.heap[b]?):Rel E lk w' where
  obj:=fun k o ho=>by
    have hr:=h.obj k o ho
    refine objRel_keep hr hsz (fun b hown=>hb b (hr.lt hown)) (fun len sz rows a e hp ha=>?_) (fun g e ht=>⟨ht,fun b hbb=>hb b ?_⟩)
    · subst e
      obtain ⟨_,_,hc⟩:=hr
      obtain ⟨B,off,e2,hlt,_⟩:=hc hp
      rw [ha] at e2
      cases e2
      exact hb B hlt
    · exact (h.obj g _ ht).lt (b:=b) hbb
  apart:=h.apart
  ro:=h.ro
theorem RelU.world {A:Nat→Prop} {E:Env} {lk:Look} {w w':World} (h:RelU A E lk w) (hsz:w.heap.size≤w'.heap.size) (hb:∀ b,b<w.heap.size→w'.heap[b]? = w.heap[b]?):RelU A E lk w' :=
  ⟨h.dom,h.grp,fun E' he=>(h.rel E' he).world hsz hb⟩
theorem Rel.sub {E:Env} {lk lk':Look} {w:World} (h:Rel E lk w) (hs:∀ k o,lk' k=some o→lk k=some o):Rel E lk' w where
  obj:=fun k o ho=>objRel_keep (h.obj k o (hs k o ho)) (Nat.le_refl _) (fun _ _=>rfl) (fun _ _ _ _ _ _ _=>rfl) (fun g _ ht=>⟨hs g _ ht,fun _ _=>rfl⟩)
  apart:=fun k o k' o' b h1 h2=>h.apart k o k' o' b (hs _ _ h1) (hs _ _ h2)
  ro:=fun k len sz rows a k' o' h1 h2 h3 h4=>h.ro k len sz rows a k' o' (hs _ _ h1) h2 h3 (hs _ _ h4)
theorem RelU.sub {A:Nat→Prop} {E:Env} {lk lk':Look} {w:World} (h:RelU A E lk w) (hs:∀ k o,lk' k=some o→lk k=some o):RelU A E lk' w :=
  ⟨fun k o ho=>h.dom k o (hs k o ho),fun k o g hk hg=>h.grp k o g (hs _ _ hk) hg,fun E' he=>(h.rel E' he).sub hs⟩
theorem wget_none_iff {k:Nat} : ∀ {W:Aq},wget k W=none↔k ∉ wkeys W
  | []=>by simp [wget,wkeys]
  | (j,o)::W=>by
    simp only [wget,wkeys,List.map_cons,List.mem_cons,not_or]
    cases hb:Nat.beq j k with
    | false =>
      have hne:k≠j:=fun e=>by subst e; simp at hb
      simp only [hne,not_false_eq_true,true_and]
      exact wget_none_iff
    | true=>simp [(Nat.eq_of_beq_eq_true hb).symm]
theorem wget_in {k:Nat} {o:Option Ai} : ∀ {W:Aq},wget k W=some o→(k,o)∈W
  | [],h=>by simp [wget] at h
  | (j,o')::W,h=>by
    simp only [wget] at h
    cases hb:Nat.beq j k with
    | false=>rw [hb] at h; exact List.mem_cons_of_mem _ (wget_in h)
    | true =>
      rw [hb] at h
      cases h
      rw [Nat.eq_of_beq_eq_true hb]
      exact List.mem_cons_self
def WOK (lk:Look) (n n':Nat) (W:Aq):Prop :=
  ∀ k o,(k,o)∈W→(lk k≠none∨(n≤k∧k<n'))∧∀ x g,o=some x→x.grp=some g→g∈wkeys W∨lk g≠none
theorem RelU.frame {A A' : Nat → Prop} {E E' : Env} {lk lr : Look} {W : Aq} {w w' : World} (h : RelU A E lk w)
    (hsub:∀ k o,lr k=some o→lk k=some o) (hcl:∀ k o g,lr k=some o→o.grp=some g→lk g=some .tok→lr g=some .tok)
    (hr:RelU A' E' (hupd lr W) w') (hx:Ext A E lr w E' (hupd lr W) w') (hA:∀ k,A k→A' k)
    (hW:∀ k o,(k,o)∈W→(A k→lr k≠none)∧∀ x g,o=some x→x.grp=some g→g∈wkeys W∨lr g≠none) :
    RelU A' E' (hupd lk W) w'∧Ext A E lk w E' (hupd lk W) w':=by
  have part:∀ k o,hupd lk W k=some o→hupd lr W k=some o∨(k ∉ wkeys W∧lr k=none∧lk k=some o):=by
    intro k o ho
    unfold hupd at ho ⊢
    cases hw:wget k W with
    | some x=>rw [hw] at ho; exact .inl ho
    | none =>
      rw [hw] at ho
      simp only at ho ⊢
      cases hl:lr k with
      | some x=>rw [hsub k x hl] at ho; exact .inl ho
      | none=>exact .inr ⟨wget_none_iff.1 hw,rfl,ho⟩
  have ag:∀ {E''},Ae A' E' E''→Ae A E E'':=fun h''=>hx.agree.trans h'' hA
  have grp:∀ k o g,hupd lr W k=some o→o.grp=some g→hupd lk W g=some .tok→hupd lr W g=some .tok:=by
    intro k o g hk hog hg
    unfold hupd at hk hg ⊢
    cases hwg:wget g W with
    | some x=>rw [hwg] at hg; exact hg
    | none =>
      rw [hwg] at hg
      simp only at hg ⊢
      cases hwk:wget k W with
      | some x =>
        rw [hwk] at hk
        simp only at hk
        rcases (hW k x (wget_in hwk)).2 o g hk hog with h1 | h1
        · exact absurd h1 (wget_none_iff.1 hwg)
        · cases hl:lr g with
          | none=>exact absurd hl h1
          | some y=>rw [hsub g y hl] at hg; exact hg
      | none =>
        rw [hwk] at hk
        exact hcl k o g hk hog hg
  have own:∀ {E''},Ae A' E' E''→∀ k o b,hupd lr W k=some o→owns E'' k o b→(∃ k0 o0,lr k0=some o0∧owns E k0 o0 b)∨w.heap.size≤b:=by
    intro E'' h'' k o b hk hb
    exact hx.fresh k o b hk ((BP h'' (hr.dom k o hk) o b).1 hb)
  have still:∀ {E''},Ae A' E' E''→∀ k o,lr k=none→lk k=some o→∀ b,owns E'' k o b→w'.heap[b]? = w.heap[b]?:=by
    intro E'' h'' k o hn hk b hb
    have hbE:=(BP (ag h'') (h.dom k o hk) o b).1 hb
    refine hx.frame b ((h.here.obj k o hk).lt hbE) fun k0 o0 h0 hb0=>?_
    refine h.here.apart k o k0 o0 b hk (hsub k0 o0 h0) (fun e=>?_) hbE hb0
    subst e
    rw [hn] at h0
    cases h0
  refine ⟨⟨fun k o ho=>?_,fun k o g ho hog=>?_,fun E'' h''=>?_⟩,?_⟩
  · rcases part k o ho with h1 | ⟨_,_,h1⟩
    · exact hr.dom k o h1
    · exact hA k (h.dom k o h1)
  · rcases part k _ ho with h1 | ⟨_,_,h1⟩
    · exact hr.grp k o g h1 hog
    · exact hA g (h.grp k o g h1 hog)
  · have hl:=h.rel E'' (ag h'')
    have hp:=hr.rel E'' h''
    refine ⟨fun k o ho=>?_,fun k o k' o' b ho ho' hne hb hb'=>?_,fun k len sz rows a k' o' ho hcap ha ho' hb=>?_⟩
    · rcases part k o ho with h1 | ⟨h2,h3,h1⟩
      · exact objRel_keep (hp.obj k o h1) (Nat.le_refl _) (fun _ _=>rfl) (fun _ _ _ _ _ _ _=>rfl) (fun g e ht=>⟨grp k o g h1 e ht,fun _ _=>rfl⟩)
      · refine objRel_keep (hl.obj k o h1) hx.size (still h'' k o h3 h1) (fun len sz rows a e hcap ha=>?_) (fun g e ht=>?_)
        · subst e
          obtain ⟨_,_,hc⟩:=hl.obj k _ h1
          obtain ⟨B,off,e2,hlt,_⟩:=hc hcap
          rw [ha] at e2
          cases e2
          refine hx.frame B hlt fun k0 o0 h0 hb0=>?_
          exact hl.ro k len sz rows _ k0 o0 h1 hcap ha (hsub k0 o0 h0) ((BP (ag h'') (h.dom k0 o0 (hsub k0 o0 h0)) o0 B).2 hb0)
        · have hAg:=h.grp k o g h1 e
          cases hwg:wget g W with
          | some x =>
            have htr:hupd lr W g=some .tok:=by
              unfold hupd at ht ⊢
              rw [hwg] at ht ⊢
              exact ht
            obtain ⟨h4,h5⟩:=hx.tok g hAg htr
            exact ⟨hsub g _ h4,fun b hb=>h5 b (by rw [← ((ag h'') g hAg).2.2]; exact hb)⟩
          | none =>
            have hlg:lk g=some .tok:=by
              unfold hupd at ht
              rw [hwg] at ht
              exact ht
            refine ⟨hlg,fun b hb=>?_⟩
            cases hlr:lr g with
            | none=>exact still h'' g .tok hlr hlg b hb
            | some y =>
              have:y = .tok:=by
                have:=hsub g y hlr
                rw [hlg] at this
                cases this; rfl
              subst this
              have htr:hupd lr W g=some .tok:=by
                unfold hupd
                rw [hwg]
                exact hlr
              exact (hx.tok g hAg htr).2 b (by rw [← ((ag h'') g hAg).2.2]; exact hb)
    · rcases part k o ho with h1 | ⟨_,h2,h1⟩ <;> rcases part k' o' ho' with g1 | ⟨_,g2,g1⟩
      · exact hp.apart k o k' o' b h1 g1 hne hb hb'
      · rcases own h'' k o b h1 hb with ⟨k0,o0,h3,h4⟩ | h3
        · refine hl.apart k0 o0 k' o' b (hsub k0 o0 h3) g1 (fun e=>?_) ((BP (ag h'') (h.dom k0 o0 (hsub k0 o0 h3)) o0 b).2 h4) hb'
          subst e
          rw [g2] at h3
          cases h3
        · have:=(hl.obj k' o' g1).lt hb'
          omega
      · rcases own h'' k' o' b g1 hb' with ⟨k0,o0,h3,h4⟩ | h3
        · refine hl.apart k0 o0 k o b (hsub k0 o0 h3) h1 (fun e=>?_) ((BP (ag h'') (h.dom k0 o0 (hsub k0 o0 h3)) o0 b).2 h4) hb
          subst e
          rw [h2] at h3
          cases h3
        · have:=(hl.obj k o h1).lt hb
          omega
      · exact hl.apart k o k' o' b h1 g1 hne hb hb'
    · rcases part k _ ho with h1 | ⟨_,h2,h1⟩ <;> rcases part k' o' ho' with g1 | ⟨_,g2,g1⟩
      · exact hp.ro k len sz rows a k' o' h1 hcap ha g1 hb
      · rw [(h'' k (hr.dom k _ h1)).2.1] at hcap ha
        rcases hx.rof k len sz rows a h1 hcap ha with ⟨k0,len0,sz0,rows0,a0,h4,h5,h6,h7⟩ | h4
        · have hk0:=hsub k0 _ h4
          have hh:=((ag h'') k0 (h.dom k0 _ hk0)).2.1
          exact hl.ro k0 len0 sz0 rows0 a0 k' o' hk0 (by rw [hh]; exact h5) (by rw [hh]; exact h6) g1 (by rw [h7]; exact hb)
        · have:=(hl.obj k' o' g1).lt hb
          omega
      · have hlt : a.block < w.heap.size := by
          obtain ⟨_,_,hc⟩:=hl.obj k _ h1
          obtain ⟨B,off,e2,hlt,_⟩:=hc hcap
          rw [ha] at e2
          cases e2
          exact hlt
        rcases own h'' k' o' _ g1 hb with ⟨k0,o0,h3,h4⟩ | h3
        · exact hl.ro k len sz rows a k0 o0 h1 hcap ha (hsub k0 o0 h3) ((BP (ag h'') (h.dom k0 o0 (hsub k0 o0 h3)) o0 _).2 h4)
        · omega
      · exact hl.ro k len sz rows a k' o' h1 hcap ha g1 hb
  · exact {
      os:=hx.os,tape:=hx.tape,output:=hx.output,size:=hx.size,agree:=hx.agree
      frame:=fun b hb hn=>hx.frame b hb fun k o ho=>hn k o (hsub k o ho)
      fresh:=fun k o b ho hb=>by
        rcases part k o ho with h1 | ⟨_,h2,h1⟩
        · rcases hx.fresh k o b h1 hb with ⟨k0,o0,h3,h4⟩ | h3
          · exact .inl ⟨k0,o0,hsub k0 o0 h3,h4⟩
          · exact .inr h3
        · exact .inl ⟨k,o,h1,(BP hx.agree (h.dom k o h1) o b).1 hb⟩
      tok:=fun k hk ht=>by
        rcases part k _ ht with h1 | ⟨_,h2,h1⟩
        · obtain ⟨h3,h4⟩:=hx.tok k hk h1
          exact ⟨hsub k _ h3,h4⟩
        · refine ⟨h1,fun b hb=>?_⟩
          exact still (Ae.refl A' E') k .tok h2 h1 b (by
            show b∈E'.fp k
            rw [(hx.agree k hk).2.2]; exact hb)
      rof:=fun k len sz rows a h1 h2 h3=>by
        rcases part k _ h1 with g1 | ⟨_,g2,g1⟩
        · rcases hx.rof k len sz rows a g1 h2 h3 with ⟨k0,len0,sz0,rows0,a0,h4,h5⟩ | h4
          · exact .inl ⟨k0,len0,sz0,rows0,a0,hsub _ _ h4,h5⟩
          · exact .inr h4
        · have hh:=(hx.agree k (h.dom k _ g1)).2.1
          exact .inl ⟨k,len,sz,rows,a,g1,by rw [← hh]; exact h2,by rw [← hh]; exact h3,rfl⟩ }
theorem RelU.step {A A' : Nat → Prop} {E E1 : Env} {lk lk' : Look} {w w' : World} (N : Nat → Prop) (h : RelU A E lk w) (hA : ∀ k, A k → A' k) (hE : Ae A E E1)
    (hos:w'.os=w.os) (htape:w'.tape=w.tape) (hout:w'.output=w.output) (hsz:w.heap.size≤w'.heap.size)
    (ha:∀ k o,lk' k=some o→¬ N k→lk k=some o)
    (hdom:∀ k o,lk' k=some o→N k→A' k) (hgrp:∀ k o g,lk' k=some o→o.grp=some g→N k→A' g)
    (hb:∀ E',Ae A' E1 E'→∀ k o,lk' k=some o→N k→objRel E' lk' w' k o)
    (hc:∀ E',Ae A' E1 E'→∀ k o b,lk' k=some o→N k→owns E' k o b→(∃ k0 o0,lk k0=some o0∧(N k0∨lk' k0=none)∧owns E' k0 o0 b)∨w.heap.size≤b)
    (hd:∀ E',Ae A' E1 E'→∀ k o k' o' b,lk' k=some o→lk' k'=some o'→N k→N k'→k≠k'→owns E' k o b→owns E' k' o' b→False)
    (he:∀ b,b<w.heap.size→(∀ k0 o0,lk k0=some o0→(N k0∨lk' k0=none)→¬ owns E k0 o0 b)→w'.heap[b]? = w.heap[b]?)
    (hf:∀ k o g,lk k=some o→o.grp=some g→N g→lk' g≠some .tok)
    (hg:∀ E',Ae A' E1 E'→∀ k len sz rows a,lk' k=some (.lst len sz rows none)→N k→0<(E'.hdr k).2.2→(E'.hdr k).1=some a →
      ∃ k0 len0 sz0 rows0 a0,lk k0=some (.lst len0 sz0 rows0 none)∧0<(E'.hdr k0).2.2∧(E'.hdr k0).1=some a0∧a0.block=a.block)
    (hN:∀ k,N k→A k→lk' k≠some .tok) :
    RelU A' E1 lk' w'∧Ext A E lk w E1 lk' w':=by
  have ag:∀ {E'},Ae A' E1 E'→Ae A E E':=fun h'=>hE.trans h' hA
  have still:∀ {E'},Ae A' E1 E'→∀ k o,lk k=some o→¬ N k→lk' k≠none→∀ b,owns E' k o b→w'.heap[b]? = w.heap[b]?:=by
    intro E' h' k o hk hnk hak b hbo
    have hbE:=(BP (ag h') (h.dom k o hk) o b).1 hbo
    refine he b ((h.here.obj k o hk).lt hbE) fun k0 o0 h0 h1 h2=>?_
    refine h.here.apart k o k0 o0 b hk h0 (fun e=>?_) hbE h2
    subst e
    rcases h1 with h1 | h1
    · exact hnk h1
    · exact hak h1
  have roStill:∀ {E'},Ae A' E1 E'→∀ k len sz rows a,lk k=some (.lst len sz rows none)→0<(E'.hdr k).2.2→(E'.hdr k).1=some a→a.block<w.heap.size∧w'.heap[a.block]? = w.heap[a.block]?:=by
    intro E' h' k len sz rows a hk hcap hadr
    have hl:=h.rel E' (ag h')
    have hlt:a.block<w.heap.size:=by
      obtain ⟨_,_,h3⟩:=hl.obj k _ hk
      obtain ⟨B,off,e2,hlt,_⟩:=h3 hcap
      rw [hadr] at e2
      cases e2
      exact hlt
    refine ⟨hlt,he _ hlt fun k0 o0 h0 _ h2=>?_⟩
    exact hl.ro k len sz rows a k0 o0 hk hcap hadr h0 ((BP (ag h') (h.dom k0 o0 h0) o0 _).2 h2)
  have rel:∀ E',Ae A' E1 E'→Rel E' lk' w':=by
    intro E' h'
    have hl:=h.rel E' (ag h')
    have nown:∀ k o b,lk' k=some o→N k→owns E' k o b→∀ k' o',lk' k'=some o'→¬ N k'→owns E' k' o' b→False:=by
      intro k o b hk hNk hbo k' o' hk' hNk' hbo'
      have hk'':=ha k' o' hk' hNk'
      rcases hc E' h' k o b hk hNk hbo with ⟨k0,o0,h0,h1,h2⟩ | h1
      · refine hl.apart k0 o0 k' o' b h0 hk'' (fun e=>?_) h2 hbo'
        subst e
        rcases h1 with h1 | h1
        · exact hNk' h1
        · rw [h1] at hk'; cases hk'
      · have:=(hl.obj k' o' hk'').lt hbo'
        omega
    have nro:∀ k o b,lk' k=some o→N k→owns E' k o b→∀ k' len sz rows a,lk k'=some (.lst len sz rows none)→0<(E'.hdr k').2.2→(E'.hdr k').1=some a→a.block=b→False:=by
      intro k o b hk hNk hbo k' len sz rows a hk' hcap hadr hab
      rcases hc E' h' k o b hk hNk hbo with ⟨k0,o0,h0,_,h2⟩ | h1
      · exact hl.ro k' len sz rows a k0 o0 hk' hcap hadr h0 (hab ▸ h2)
      · have:=(roStill h' k' len sz rows a hk' hcap hadr).1
        omega
    refine ⟨fun k o hk=>?_,fun k o k' o' b hk hk' hne hbo hbo'=>?_,fun k len sz rows a k' o' hk hcap hadr hk' hbo=>?_⟩
    · by_cases hNk:N k
      · exact hb E' h' k o hk hNk
      · have hk0:=ha k o hk hNk
        refine objRel_keep (hl.obj k o hk0) hsz (still h' k o hk0 hNk (by rw [hk]; simp)) (fun len sz rows a e hcap hadr=>?_) (fun g e ht=>?_)
        · subst e; exact (roStill h' k len sz rows a hk0 hcap hadr).2
        · have hNg:¬ N g:=fun hNg=>hf k o g hk0 e hNg ht
          have hg0:=ha g _ ht hNg
          exact ⟨hg0,still h' g _ hg0 hNg (by rw [ht]; simp)⟩
    · by_cases hNk:N k <;> by_cases hNk':N k'
      · exact hd E' h' k o k' o' b hk hk' hNk hNk' hne hbo hbo'
      · exact nown k o b hk hNk hbo k' o' hk' hNk' hbo'
      · exact nown k' o' b hk' hNk' hbo' k o hk hNk hbo
      · exact hl.apart k o k' o' b (ha k o hk hNk) (ha k' o' hk' hNk') hne hbo hbo'
    · by_cases hNk:N k <;> by_cases hNk':N k'
      · obtain ⟨k0,len0,sz0,rows0,a0,h1,h2,h3,h4⟩:=hg E' h' k len sz rows a hk hNk hcap hadr
        exact nro k' o' _ hk' hNk' hbo k0 len0 sz0 rows0 a0 h1 h2 h3 h4
      · obtain ⟨k0,len0,sz0,rows0,a0,h1,h2,h3,h4⟩:=hg E' h' k len sz rows a hk hNk hcap hadr
        exact hl.ro k0 len0 sz0 rows0 a0 k' o' h1 h2 h3 (ha k' o' hk' hNk') (by rw [h4]; exact hbo)
      · exact nro k' o' _ hk' hNk' hbo k len sz rows a (ha k _ hk hNk) hcap hadr rfl
      · exact hl.ro k len sz rows a k' o' (ha k _ hk hNk) hcap hadr (ha k' o' hk' hNk') hbo
  have e1:Ae A' E1 E1:=Ae.refl A' E1
  refine ⟨⟨fun k o hk=>?_,fun k o g hk hog=>?_,rel⟩,?_⟩
  · by_cases hNk:N k
    · exact hdom k o hk hNk
    · exact hA k (h.dom k o (ha k o hk hNk))
  · by_cases hNk:N k
    · exact hgrp k o g hk hog hNk
    · exact hA g (h.grp k o g (ha k _ hk hNk) hog)
  · exact {
      os:=hos,tape:=htape,output:=hout,size:=hsz,agree:=hE
      frame:=fun b hlt hn=>he b hlt fun k0 o0 h0 _=>hn k0 o0 h0
      fresh:=fun k o b hk hbo=>by
        by_cases hNk:N k
        · rcases hc E1 e1 k o b hk hNk hbo with ⟨k0,o0,h0,_,h2⟩ | h1
          · exact .inl ⟨k0,o0,h0,(BP hE (h.dom k0 o0 h0) o0 b).1 h2⟩
          · exact .inr h1
        · have hk0:=ha k o hk hNk
          exact .inl ⟨k,o,hk0,(BP hE (h.dom k o hk0) o b).1 hbo⟩
      tok:=fun k hk ht=>by
        have hNk:¬ N k:=fun hNk=>hN k hNk hk ht
        have hk0:=ha k _ ht hNk
        exact ⟨hk0,fun b hb=>still e1 k .tok hk0 hNk (by rw [ht]; simp) b (by show b∈E1.fp k; rw [(hE k hk).2.2]; exact hb)⟩
      rof:=fun k len sz rows a hk hcap hadr=>by
        by_cases hNk:N k
        · obtain ⟨k0,len0,sz0,rows0,a0,h1,h2,h3,h4⟩:=hg E1 e1 k len sz rows a hk hNk hcap hadr
          rw [(hE k0 (h.dom k0 _ h1)).2.1] at h2 h3
          exact .inl ⟨k0,len0,sz0,rows0,a0,h1,h2,h3,h4⟩
        · have hk0:=ha k _ hk hNk
          rw [(hE k (h.dom k _ hk0)).2.1] at hcap hadr
          exact .inl ⟨k,len,sz,rows,a,hk0,hcap,hadr,rfl⟩ }
end Go.Eng
set_option linter.unusedSimpArgs false
set_option linter.unusedVariables false
namespace Go.Eng
section
variable {P:Program}
theorem isAgg_run {t:TypeId} {b:Bool} (h:isAggB P t=some b) (w:World):(isAgg t).run P w = .ok b w:=by
  unfold isAggB at h
  unfold isAgg
  cases hu:P.underlying t with
  | none=>rw [hu] at h; cases h
  | some d =>
    rw [hu] at h
    simp only [Sem.run_bind,run_underlying hu,Result.andThen_ok]
    cases d <;> cases h <;> rfl
theorem tinfo_run {t:TypeId} {i:TypeInfo} (h:P.info? t=some i) (w:World):(typeInfo t).run P w = .ok i w:=by
  simp [typeInfo,h]
theorem tsize_info {t:TypeId} {n:Nat} (h:tsize P t=some n):∃ i,P.info? t=some i∧i.size=n:=by
  unfold tsize at h
  cases hi:P.info? t with
  | none=>rw [hi] at h; cases h
  | some i=>rw [hi] at h; cases h; exact ⟨i,rfl,rfl⟩
theorem sizeOf_run {t:TypeId} {n:Nat} (h:tsize P t=some n) (w:World):(sizeOf t).run P w = .ok n w:=by
  obtain ⟨i,hi,rfl⟩:=tsize_info h
  simp [sizeOf,tinfo_run hi]
theorem tzero_info {t:TypeId} {z:AV} (h:tzero P t=some z):∃ i v,P.info? t=some i∧i.zero=some v∧z=ofV v:=by
  unfold tzero at h
  cases hi:P.info? t with
  | none=>rw [hi] at h; cases h
  | some i =>
    rw [hi] at h
    simp only at h
    cases hz:i.zero with
    | none=>rw [hz] at h; cases h
    | some v=>rw [hz] at h; cases h; exact ⟨i,v,rfl,hz,rfl⟩
theorem zero_run {t:TypeId} {z:AV} (h:tzero P t=some z) (E:Env) (w:World):(zeroValue t).run P w = .ok (den E z) w:=by
  obtain ⟨i,v,hi,hz,rfl⟩:=tzero_info h
  simp [zeroValue,tinfo_run hi,hz,den_ofV]
theorem part_sound {t : TypeId} {cs : List AV} {off : Nat} {v : AV} (h : partA P t cs off = some v) (E : Env) (w : World) :
    (part t (BM E cs).toArray off).run P w = .ok (den E v) w:=by
  unfold partA at h
  unfold part
  split at h
  · rename_i n h1 h2
    split at h
    · rename_i h3
      cases h
      simp only [Sem.run_bind,isAgg_run h1,sizeOf_run h2,Result.andThen_ok,if_true,Sem.run_pure]
      simp [den,denL_take,denL_drop]
    · cases h
  · rename_i n h1 h2
    simp only [Sem.run_bind,isAgg_run h1,Result.andThen_ok,Bool.false_eq_true,if_false]
    rw [show ((BM E cs).toArray)[off]? = some (den E v) by simp [denL_get,h]]
    rfl
  · cases h
theorem loadVar_sound {t : TypeId} {cs : List AV} {off : Nat} {v : AV} {E : Env} {w : World} {B o : Nat} (h : partA P t cs off = some v)
    (hc:∀ j,j<cs.length→w.cell? ⟨B,o+j,none⟩=(cs[j]?).map (den E)) :
    (loadVar t ⟨B,o+off,none⟩).run P w = .ok (den E v) w:=by
  unfold partA at h
  unfold loadVar
  split at h
  · rename_i n h1 h2
    split at h
    · rename_i h3
      cases h
      have hle:off+n≤cs.length:=Nat.le_of_ble_eq_true h3
      have hl:(BM E ((cs.drop off).take n)).length=n:=by rw [BL]; simp; omega
      have hrun:(loadCells ⟨B,o+off,none⟩ n).run P w = .ok (BM E ((cs.drop off).take n)).toArray w:=by
        have:=run_loadCells_list (P:=P) w ⟨B,o+off,none⟩ (BM E ((cs.drop off).take n)) (fun j x hx=>by
          rw [Addr.add_lit]
          have hj:j<n:=by
            have:=(List.getElem?_eq_some_iff.1 hx).1
            omega
          rw [show o+off+j=o+(off+j) by omega,hc (off+j) (by omega)]
          rw [denL_get] at hx
          rw [← hx]
          simp [List.getElem?_take,hj,List.getElem?_drop])
        rw [hl] at this
        exact this
      simp only [Sem.run_bind,isAgg_run h1,sizeOf_run h2,Result.andThen_ok,if_true,hrun,Sem.run_pure,den]
    · cases h
  · rename_i n h1 h2
    have hlt:off<cs.length:=(List.getElem?_eq_some_iff.1 h).1
    have hcell:=hc off hlt
    rw [h] at hcell
    simp only [Sem.run_bind,isAgg_run h1,Result.andThen_ok,Bool.false_eq_true,if_false,run_load,hcell,Option.map_some]
  · cases h
theorem putCells_den (E:Env) (cs vs:List AV) (off:Nat):BM E (putCells cs off vs)=(BM E cs).take off++BM E vs++(BM E cs).drop (off+vs.length):=by
  simp [putCells,denL_map]
theorem putCells_length {cs vs:List AV} {off:Nat} (h:off+vs.length≤cs.length):(putCells cs off vs).length=cs.length:=by
  simp [putCells]; omega
theorem putCells_scalar {cs vs:List AV} {off:Nat} (h1:Ap cs=true) (h2:Ap vs=true):Ap (putCells cs off vs)=true:=by
  rw [allScalar_iff] at *
  intro v hv
  simp only [putCells,List.mem_append] at hv
  rcases hv with (hv | hv) | hv
  · exact h1 v (List.mem_of_mem_take hv)
  · exact h2 v hv
  · exact h1 v (List.mem_of_mem_drop hv)
theorem storeVar_sound {t : TypeId} {cs : List AV} {off n : Nat} {v : AV} {E : Env} {w : World} {B : Nat} {ty : TypeId} (hn : tsize P t = some n)
    (hw:w.heap[B]? = some (.cells (BM E cs).toArray ty (0,0))) (hl:v.cells.length=n) (hle:off+n≤cs.length) (hs:Ap v.cells=true) :
    (storeVar t ⟨B,off,none⟩ (den E v)).run P w = .ok () (w.setRow B (BM E (putCells cs off v.cells)).toArray):=by
  unfold storeVar
  have hc:=den_cells E hs
  have hsz:(den E v).cells.size=n:=by rw [hc]; simp [BL,hl]
  have hrun:=run_storeCells_at P B off ty (BM E v.cells) 0 (BM E cs).toArray w hw (by simp [BL]; omega) (by
    intro x hx
    rw [denL_map] at hx
    obtain ⟨y,hy,rfl⟩:=List.mem_map.1 hx
    exact den_scalar E ((allScalar_iff _).1 hs y hy))
  simp only [Sem.run_bind,sizeOf_run hn,Result.andThen_ok,hsz,ne_eq,not_true_eq_false,if_false,Sem.run_pure]
  rw [hc]
  simp only [Nat.add_zero] at hrun
  rw [show ((BM E v.cells).toArray).toList=BM E v.cells from rfl,hrun,putCells_den,BL]
theorem SI.bin_v (f:Int→Int→Int) (a b:SI):(SI.bin f a b).v=f a.v b.v:=by cases a <;> cases b <;> rfl
theorem SI.un_v (f:Int→Int) (a:SI):(SI.un f a).v=f a.v:=by cases a <;> rfl
theorem SI.cmp_v (f:Int→Int→Bool) (a b:SI):(SI.cmp f a b).v=f a.v b.v:=by cases a <;> cases b <;> rfl
theorem SB.not_v (a:SB):a.not.v = !a.v:=by cases a <;> rfl
theorem SB.beq_v (a b:SB):(a.beq b).v=(a.v==b.v):=by cases a <;> cases b <;> rfl
theorem SB.and_v (a b:SB):(a.and b).v=(a.v&&b.v):=by
  rcases a with (_ | _) | a <;> rcases b with (_ | _) | b <;> simp [SB.and,SB.v]
theorem eqU_iff:∀ {l m:List UInt8},eqU l m=true↔l=m
  | [],[]=>by simp [eqU]
  | [],_::_=>by simp [eqU]
  | _::_,[]=>by simp [eqU]
  | x::xs,y::ys=>by
    simp only [eqU,List.cons.injEq]
    cases h:Nat.beq x.toNat y.toNat
    · simp only [Bool.false_eq_true,false_iff,not_and]
      intro e
      subst e
      simp at h
    · have h:x=y:=UInt8.toNat_inj.1 (Nat.eq_of_beq_eq_true h)
      simp [h,eqU_iff]
@[simp] theorem eqU_refl (l:List UInt8):eqU l l=true:=eqU_iff.2 rfl
theorem baLoop_eq (bs:ByteArray):∀ (k i:Nat) (r:List UInt8),k+i=bs.size→ByteArray.toList.loop bs i r=r.reverse++bs.data.toList.drop i:=by
  intro k
  induction k with
  | zero =>
    intro i r h
    unfold ByteArray.toList.loop
    rw [if_neg (by omega)]
    have:bs.data.toList.length=bs.size:=by simp
    rw [List.drop_of_length_le (by omega)]
    simp
  | succ k ih =>
    intro i r h
    unfold ByteArray.toList.loop
    rw [if_pos (by omega),ih (i+1) _ (by omega)]
    have hl:i<bs.data.toList.length:=by simp; omega
    rw [List.drop_eq_getElem_cons hl]
    have:bs.get! i=bs.data.toList[i]:=by
      simp [ByteArray.get!]
      exact getElem!_pos _ _ (by simpa using hl)
    simp [this]
theorem baList_eq (bs:ByteArray):bs.toList=bs.data.toList:=by
  unfold ByteArray.toList
  rw [baLoop_eq bs bs.size 0 [] (by omega)]
  simp
theorem ba_beq (x y:ByteArray):(x==y)=(x.data==y.data):=by
  cases x; cases y; rfl
theorem eqU_beq (x y:ByteArray):eqU x.data.toList y.data.toList=(x==y):=by
  rw [ba_beq,Bool.eq_iff_iff,eqU_iff,beq_iff_eq,Array.toList_inj]
theorem ba_toList (x y:ByteArray):(x.toList==y.toList)=(x==y):=by
  rw [← eqU_beq,baList_eq,baList_eq,Bool.eq_iff_iff,eqU_iff]
  simp
theorem SS.eq_v (a b:SS):(a.eq b).v=(a.v==b.v):=by
  cases a <;> cases b <;> first | rfl | exact eqU_beq _ _
theorem SS.len_v (a:SS):a.len.v=a.v.size:=by cases a <;> rfl
theorem fixS_sel {R:Type} {v:AV} {K:AV→Ah R} {r:R} (h:(fixS v K).sel=some r):∃ v',(K v').sel=some r∧∀ E,den E v'=den E v:=by
  unfold fixS at h
  split at h
  · rename_i b k hd
    cases b with
    | true=>exact ⟨.sl k,h,fun E=>rfl⟩
    | false=>cases h
  · exact ⟨v,h,fun E=>rfl⟩
theorem fixC_sel {R:Type} : ∀ {l:List AV} {K:List AV→Ah R} {r:R},(fixC l K).sel=some r→∃ l',(K l').sel=some r∧∀ E,BM E l'=BM E l
  | [],K,r,h=>⟨[],h,fun E=>rfl⟩
  | v::l,K,r,h=>by
    obtain ⟨v',h1,h2⟩:=fixS_sel h
    obtain ⟨l',h3,h4⟩:=fixC_sel h1
    exact ⟨v'::l',h3,fun E=>by simp only [BM,h2 E,h4 E]⟩
theorem fixA_sel {R:Type} {v:AV} {K:AV→Ah R} {r:R} (h:(fixA v K).sel=some r):∃ v',(K v').sel=some r∧∀ E,den E v'=den E v:=by
  unfold fixA at h
  split at h
  · obtain ⟨l',h1,h2⟩:=fixC_sel h
    exact ⟨.agg l',h1,fun E=>by simp only [den,h2 E]⟩
  · exact fixS_sel h
theorem need_sel {R:Type} {b:SB} {t:Ah R} {r:R} (h:(Ah.need b t).sel=some r):b.v=true∧t.sel=some r:=by
  rcases b with (_ | _) | b
  · cases h
  · exact ⟨rfl,h⟩
  · cases b
    · cases h
    · exact ⟨rfl,h⟩
theorem ofOpt_sel {R S:Type} {w:String} {x:Option R} {f:R→Ah S} {r:S} (h:(Ah.ofOpt w x f).sel=some r):∃ y,x=some y∧(f y).sel=some r:=by
  cases x with
  | none=>cases h
  | some y=>exact ⟨y,rfl,h⟩
theorem bind_sel {R S:Type} (t:Ah R) (f:R→Ah S):(t.bind f).sel=t.sel.bind fun r=>(f r).sel:=by
  induction t with
  | leaf r=>rfl
  | ite b t e iht ihe=>cases b <;> simp [Ah.bind,Ah.sel,iht,ihe]
  | must b t iht=>cases b <;> simp [Ah.bind,Ah.sel,iht]
  | defI x k ih=>exact ih x
  | defB x k ih=>exact ih x
  | defE x k ih=>exact ih x
  | fail w=>rfl
theorem nway_sel {R:Type} {i:Int} {f:Nat→Ah R} {r:R} : ∀ {n:Nat} {e:Ah R},(nway i f n e).sel=some r→(∃ j,j<n∧i=(j:Int)∧(f j).sel=some r)∨e.sel=some r
  | 0,e,h=>.inr h
  | n+1,e,h=>by
    rcases nway_sel (n:=n) h with ⟨j,h1,h2,h3⟩ | h1
    · exact .inl ⟨j,by omega,h2,h3⟩
    · by_cases hi:i=(n:Int)
      · simp only [Ah.sel,hi,decide_true] at h1
        exact .inl ⟨n,by omega,hi,h1⟩
      · simp only [Ah.sel,hi,decide_false] at h1
        exact .inr h1
theorem atPlace_sel {R:Type} {i:SI} {n:Nat} {f:Nat→Ah R} {r:R} (h:(atPlace i n f).sel=some r):∃ j,j<n∧i.v=(j:Int)∧(f j).sel=some r:=by
  cases i with
  | lit x =>
    simp only [atPlace] at h
    split at h
    · rename_i hd
      have hd:=of_decide_eq_true hd
      exact ⟨x.toNat,by omega,by simp [SI.v]; omega,h⟩
    · cases h
  | sym x =>
    rcases nway_sel h with h | h
    · exact h
    · cases h
def nextV:Next→Option Value
  | .value v=>some v
  | .skip=>some undef
  | _=>none
def Done (A:Nat→Prop) (E:Env) (lk:Look) (w:World) (A':Nat→Prop) (v:AV) (lk':Look) (r:Result Next):Prop :=
  ∃ nx w' E1 val,r = .ok nx w'∧nextV nx=some val∧(∀ E',Ae A' E1 E'→val=den E' v)∧RelU A' E1 lk' w'∧Ext A E lk w E1 lk' w'
def plus (A:Nat→Prop) (key:Nat):Nat→Prop:=fun k=>A k∨(key≤k∧k<key+2)
theorem Done.pure {A : Nat → Prop} {E : Env} {lk : Look} {w : World} {key : Nat} {v : AV} {val : Value} (hU : RelU A E lk w)
    (hv:∀ E',Ae A E E'→val=den E' v) {nx:Next} (hn:nextV nx=some val):Done A E lk w (plus A key) v (hupd lk []) (.ok nx w) :=
  ⟨nx,w,E,val,rfl,hn,fun E' h'=>hv E' (h'.mono fun _ h=>.inl h),hU.move (Ae.refl A E) (fun _ h=>.inl h),Ext.refl A E lk w⟩
theorem vrun {s:Sem Value} {w w':World} {val:Value} (h:s.run P w = .ok val w'):(do Pure.pure (Next.value (← s)):Sem Next).run P w = .ok (.value val) w':=by
  simp only [Sem.run_bind,h,Result.andThen_ok,Sem.run_pure]
def Env.put (E:Env) (k:Nat) (b:Nat) (hd:Option Addr×Nat×Nat) (f:List Nat):Env :=
  ⟨fun j=>if j=k then b else E.blk j,fun j=>if j=k then hd else E.hdr j,fun j=>if j=k then f else E.fp j⟩
theorem Env.put_agree {A:Nat→Prop} (E:Env) {k:Nat} (hk:¬ A k) (b:Nat) (hd:Option Addr×Nat×Nat) (f:List Nat):Ae A E (E.put k b hd f):=fun j hj=>by
  have:j≠k:=fun e=>hk (e ▸ hj)
  simp [Env.put,this]
theorem newBox {A : Nat → Prop} {E : Env} {lk : Look} {w : World} {key : Nat} {cs : List AV} (hU : RelU A E lk w) (hk : ∀ k, key ≤ k → k < key + 2 → ¬ A k) (hs : Ap cs = true)
    (C:Array Value) (hC:∀ E',Ae A E E'→C=(BM E' cs).toArray) (ty:TypeId) :
    Done A E lk w (plus A key) (.ptr key 0) (hupd lk [(key,some (.box cs))]) (.ok (.value (.pointer (some ⟨w.heap.size,0,none⟩))) { w with heap:=w.heap.push (.cells C ty) }):=by
  have hnk:¬ A key:=hk key (Nat.le_refl _) (by omega)
  have hE:Ae A E (E.put key w.heap.size (none,0,0) [w.heap.size]):=E.put_agree hnk _ _ _
  refine ⟨_,_,E.put key w.heap.size (none,0,0) [w.heap.size],.pointer (some ⟨w.heap.size,0,none⟩),rfl,rfl,fun E' h'=>?_,?_⟩
  · have:=(h' key (.inr ⟨Nat.le_refl _,by omega⟩)).1
    simp only [den,this,Env.put,if_true]
  have lkN:∀ k,hupd lk [(key,some (.box cs))] k=if k=key then some (.box cs) else lk k:=by
    intro k
    simp only [hupd,wget]
    by_cases hkk:k=key
    · subst hkk; simp
    · have : Nat.beq key k = false := by
        cases hb:Nat.beq key k
        · rfl
        · exact absurd (Nat.eq_of_beq_eq_true hb).symm hkk
      simp [this,hkk]
  have hold:∀ b,b<w.heap.size→(w.heap.push (.cells C ty))[b]? = w.heap[b]?:=fun b hb=>by
    rw [Array.getElem?_push,if_neg (by omega)]
  have hkn:lk key=none:=by
    cases hl:lk key with
    | none=>rfl
    | some o=>exact absurd (hU.dom key o hl) hnk
  refine RelU.step (fun k=>k=key) hU (fun _ h=>.inl h) hE rfl rfl rfl (by simp) ?_ ?_ ?_ ?_ ?_ ?_ ?_ ?_ ?_ ?_
  · intro k o ho hn; rw [lkN,if_neg hn] at ho; exact ho
  · intro k o ho hn; subst hn; exact .inr ⟨Nat.le_refl _,by omega⟩
  · intro k o g ho hg hn; subst hn; rw [lkN,if_pos rfl] at ho; cases ho; cases hg
  · intro E' h' k o ho hn
    subst hn
    rw [lkN,if_pos rfl] at ho
    cases ho
    obtain ⟨e1,_,e3⟩:=h' k (.inr ⟨Nat.le_refl _,by omega⟩)
    simp only [Env.put,if_true] at e1 e3
    refine ⟨by rw [e1,e3],hs,ty,?_⟩
    rw [e1,← hC E' (hE.trans h' fun _ h=>.inl h)]
    simp
  · intro E' h' k o b ho hn hb
    subst hn
    rw [lkN,if_pos rfl] at ho
    cases ho
    obtain ⟨_,_,e3⟩:=h' k (.inr ⟨Nat.le_refl _,by omega⟩)
    simp only [Env.put,if_true] at e3
    simp only [owns,e3,List.mem_singleton] at hb
    exact .inr (by omega)
  · intro E' h' k o k' o' b _ _ hn hn' hne; exact absurd (hn.trans hn'.symm) hne
  · intro b hb _; exact hold b hb
  · intro k o g ho hg hn; subst hn; exact absurd (hU.grp k o g ho hg) hnk
  · intro E' h' k len sz rows a ho hn; subst hn; rw [lkN,if_pos rfl] at ho; cases ho
  · intro k hn hA; subst hn; exact absurd hA hnk
end
end Go.Eng
set_option linter.unusedSimpArgs false
set_option linter.unusedVariables false
namespace Go.Eng
section
variable {P:Program}
theorem eqA_sound (E:Env) (w:World):∀ (d:Nat) (t:TypeId) (x y:AV) (r:SB) (D:Nat),eqA P d t x y=some r→d≤D→(Op.equalIn D t (den E x) (den E y)).run P w = .ok r.v w:=by
  intro d
  induction d with
  | zero=>intro t x y r D h; cases h
  | succ d ih =>
    intro t x y r D h hD
    obtain ⟨D,rfl⟩:∃ m,D=m+1:=⟨D - 1,by omega⟩
    simp only [eqA] at h
    split at h
    · rename_i hu
      split at h
      · cases h; simp [den,run_equalIn_bool w D t _ _ hu,SB.beq_v]
      · cases h
    · rename_i kk hu
      split at h
      · rename_i k a k' b
        split at h
        · rename_i hk
          cases h
          have:k=k':=of_decide_eq_true hk
          subst this
          simp [den,run_equalIn_int w D t k _ _ _ hu,SI.cmp_v]
        · cases h
      · cases h
    · rename_i hu
      split at h
      · cases h
        simp [den,Op.equalIn,run_underlying hu,SS.eq_v]
      · cases h
    · rename_i e hu
      split at h <;> first | (cases h; done) | (cases h; simp [den,Op.equalIn,run_underlying hu,SB.v])
    · rename_i e hu
      split at h <;> first | (cases h; done) | (cases h; simp [den,Op.equalIn,run_underlying hu,SB.v])
    · rename_i hu
      split at h <;> first | (cases h; done) | (cases h; simp [den,Op.equalIn,run_underlying hu,SB.v])
    · rename_i fields hu
      split at h
      · rename_i xs ys
        split at h
        · cases h
        · rename_i hp
          have hu':P.underlying t=some (.struct (P.fieldsOf t)):=by simp [Program.fieldsOf,hu]
          have hf:P.fieldsOf t=fields:=by simp [Program.fieldsOf,hu]
          simp only [den]
          rw [run_equalIn_struct w D t _ _ hu' hp,hf]
          clear hf hu' hu
          generalize fields.toList=fs at h ⊢
          induction fs generalizing r with
          | nil=>simp only [List.foldr_nil,Option.some.injEq] at h; subst h; rfl
          | cons f fs ihf =>
            simp only [List.foldr_cons] at h
            simp only [Op.eqFields]
            split at h
            · rename_i hn
              have hn:=of_decide_eq_true hn
              rw [if_neg (by simpa using hn)]
              exact ihf r h
            · rename_i hn
              have hn:=of_decide_eq_false hn
              rw [if_pos hn]
              split at h
              · rename_i a b h1 h2
                split at h
                · rename_i r1 s h3 h4
                  cases h
                  simp only [Sem.run_bind,part_sound h1 E w,part_sound h2 E w,ih f.type a b r1 D h3 (by omega),Result.andThen_ok]
                  have:=ihf s h4
                  rw [SB.and_v]
                  cases r1.v
                  · simp
                  · simpa using this
                · cases h
              · cases h
      · cases h
    · rename_i len elem hu
      split at h
      · rename_i xs ys n hn
        obtain ⟨i,hi,rfl⟩:=tsize_info hn
        simp only [den]
        rw [run_equalIn_array w D _ _ hu hi]
        have hc:P.cellsOf elem=i.size:=by simp [Program.cellsOf,hi]
        rw [hc]
        generalize List.range len=is at h ⊢
        induction is generalizing r with
        | nil=>simp only [List.foldr_nil,Option.some.injEq] at h; subst h; rfl
        | cons j is ihf =>
          simp only [List.foldr_cons] at h
          simp only [Op.eqItems]
          split at h
          · rename_i a b h1 h2
            split at h
            · rename_i r1 s h3 h4
              cases h
              simp only [Sem.run_bind,part_sound h1 E w,part_sound h2 E w,ih elem a b r1 D h3 (by omega),Result.andThen_ok]
              have:=ihf s h4
              rw [SB.and_v]
              cases r1.v
              · simp
              · simpa using this
            · cases h
          · cases h
      · cases h
    · cases h
theorem eqA_run {d : Nat} {t : TypeId} {x y : AV} {r : SB} (h : eqA P d t x y = some r) (hd : d ≤ 10000) (hg : ∀ a b, x = .agg a → y = .agg b → P.eqGuardType P.depth t = false) (E : Env) (w : World) (op : BinOp) (p q : Operand) :
    (eqGuard op t p q (den E x) (den E y)).run P w = .ok () w∧(binOp .eql t (den E x) (den E y)).run P w = .ok (.bool r.v) w∧(binOp .neq t (den E x) (den E y)).run P w = .ok (.bool (!r.v)) w:=by
  have he:=eqA_sound E w d t x y r 10000 h hd
  have he':(Op.equal t (den E x) (den E y)).run P w = .ok r.v w:=he
  cases d with
  | zero=>cases h
  | succ d =>
    simp only [eqA] at h
    split at h
    · split at h
      · cases h; refine ⟨by cases op <;> simp [eqGuard,den],?_,?_⟩ <;> simp only [den] at he' ⊢ <;> simp [binOp,he']
      · cases h
    · split at h
      · rename_i k a k' b
        split at h
        · rename_i hk
          have:k=k':=of_decide_eq_true hk
          subst this
          cases h
          refine ⟨by cases op <;> simp [eqGuard,den],?_,?_⟩ <;> simp [den,binOp,Op.intCmp,SI.cmp_v,bne]
        · cases h
      · cases h
    · split at h
      · cases h
        refine ⟨by cases op <;> simp [eqGuard,den],?_,?_⟩ <;> simp [den,binOp,Op.stringOp,SS.eq_v,beq_toListBytes]
      · cases h
    · split at h <;> first
        | (cases h; done)
        | (cases h; refine ⟨by cases op <;> simp [eqGuard,den],?_,?_⟩ <;> simp only [den] at he' ⊢ <;> simp [binOp,he'])
    · split at h <;> first
        | (cases h; done)
        | (cases h; refine ⟨by cases op <;> simp [eqGuard,den],?_,?_⟩ <;> simp only [den] at he' ⊢ <;> simp [binOp,he'])
    · split at h <;> first
        | (cases h; done)
        | (cases h; refine ⟨by cases op <;> simp [eqGuard,den],?_,?_⟩ <;> simp only [den] at he' ⊢ <;> simp [binOp,he'])
    · split at h
      · rename_i a b
        refine ⟨?_,?_,?_⟩
        · simp only [den]; exact run_eqGuard_agg w op t p q _ _ (hg a b rfl rfl)
        · simp only [den] at he' ⊢; simp [binOp,he']
        · simp only [den] at he' ⊢; simp [binOp,he']
      · cases h
    · split at h
      · rename_i a b
        refine ⟨?_,?_,?_⟩
        · simp only [den]; exact run_eqGuard_agg w op t p q _ _ (hg _ _ rfl rfl)
        · simp only [den] at he' ⊢; simp [binOp,he']
        · simp only [den] at he' ⊢; simp [binOp,he']
      · cases h
    · cases h
theorem Au {v v':AV} {R R':List Nat} {W W':Aq} (h:(Ah.leaf (Res.val v R W)).sel=some (.val v' R' W')):v'=v∧R'=R∧W'=W:=by
  cases h; exact ⟨rfl,rfl,rfl⟩
theorem eqOp_run {neg : Bool} {t : TypeId} {x y v : AV} {R : List Nat} {W : Aq} (h : (eqOp P neg t x y).sel = some (.val v R W)) (hg : ∀ a b, x = .agg a → y = .agg b → P.eqGuardType P.depth t = false)
    (E:Env) (w:World) (p q:Operand) :
    W=[]∧(do eqGuard (match neg with | true=>.neq | false=>.eql) t p q (den E x) (den E y); binOp (match neg with | true=>.neq | false=>.eql) t (den E x) (den E y)).run P w = .ok (den E v) w:=by
  unfold eqOp at h
  split at h
  · rename_i r hr
    obtain ⟨rfl,_,rfl⟩:=Au h
    refine ⟨rfl,?_⟩
    cases neg
    · obtain ⟨h1,h2,h3⟩:=eqA_run hr (by omega) hg E w .eql p q
      simp only [Sem.run_bind,h1,Result.andThen_ok,h2,den]
    · obtain ⟨h1,h2,h3⟩:=eqA_run hr (by omega) hg E w .neq p q
      simp only [Sem.run_bind,h1,Result.andThen_ok,h3,den,SB.not_v]
  · cases h
theorem intOp_run {op : BinOp} {k : IntKind} {a b : SI} {v : AV} {R : List Nat} {W : Aq} (h : (intOp op k a b).sel = some (.val v R W)) (t : TypeId) (E : Env) (w : World) (p q : Operand) :
    W=[]∧(do eqGuard op t p q (.int k a.v) (.int k b.v); binOp op t (.int k a.v) (.int k b.v)).run P w = .ok (den E v) w:=by
  have hg:(eqGuard op t p q (.int k a.v) (.int k b.v)).run P w = .ok () w:=by cases op <;> simp [eqGuard]
  simp only [Sem.run_bind,hg,Result.andThen_ok]
  cases op <;> simp only [intOp] at h <;> first
    | (cases h; done)
    | (obtain ⟨rfl,_,rfl⟩:=Au h; exact ⟨rfl,by simp [binOp,Op.intArith,Op.intBits,Op.intCmp,den,SI.bin_v,SI.cmp_v]⟩)
    | (obtain ⟨hb,h⟩:=need_sel h; obtain ⟨rfl,_,rfl⟩:=Au h; refine ⟨rfl,?_⟩; rw [SI.cmp_v] at hb; simp only [bne_iff_ne] at hb; simp [binOp,Op.intDiv,den,SI.bin_v,hb])
theorem shiftOp_run {op : BinOp} {k k' : IntKind} {a b : SI} {v : AV} {R : List Nat} {W : Aq} (h : (shiftOp op k a b).sel = some (.val v R W)) (t : TypeId) (E : Env) (w : World) (p q : Operand) :
    W=[]∧(do eqGuard op t p q (.int k a.v) (.int k' b.v); binOp op t (.int k a.v) (.int k' b.v)).run P w = .ok (den E v) w:=by
  have hg:(eqGuard op t p q (.int k a.v) (.int k' b.v)).run P w = .ok () w:=by cases op <;> simp [eqGuard]
  simp only [Sem.run_bind,hg,Result.andThen_ok]
  cases op <;> simp only [shiftOp] at h <;> first
    | (cases h; done)
    | (obtain ⟨hb, h⟩ := need_sel h; obtain ⟨rfl, _, rfl⟩ := Au h; refine ⟨rfl, ?_⟩; rw [SI.cmp_v] at hb; have hb := of_decide_eq_true hb
       have hb':¬ (b.v<0):=by omega
       simp [binOp,Op.shift,den,SI.bin_v,hb'])
theorem binA_run {op : BinOp} {t : TypeId} {x y v : AV} {R : List Nat} {W : Aq} (h : (binA P op t x y).sel = some (.val v R W)) (E : Env) (w : World) (p q : Operand) :
    W=[]∧(do eqGuard op t p q (den E x) (den E y); binOp op t (den E x) (den E y)).run P w = .ok (den E v) w:=by
  unfold binA at h
  split at h
  · rename_i k a k' b
    split at h
    · exact shiftOp_run h t E w p q
    · exact shiftOp_run h t E w p q
    · split at h
      · rename_i hk
        have:k=k':=of_decide_eq_true hk
        subst this
        exact intOp_run h t E w p q
      · cases h
  · rename_i a b
    split at h
    · obtain ⟨rfl,_,rfl⟩:=Au h
      exact ⟨rfl,by simp [eqGuard,binOp,Op.stringOp,den,SS.eq_v,ba_toList]⟩
    · obtain ⟨rfl,_,rfl⟩:=Au h
      exact ⟨rfl,by simp [eqGuard,binOp,Op.stringOp,den,SB.not_v,SS.eq_v,ba_toList,bne]⟩
    · cases h
  · rename_i a b
    split at h
    · cases h
    · rename_i hg
      split at h
      · exact eqOp_run (neg:=false) h (fun _ _ _ _=>hg) E w p q
      · exact eqOp_run (neg:=true) h (fun _ _ _ _=>hg) E w p q
      · cases h
  · cases h
  · rename_i h1 h2 h3 h4
    split at h
    · exact eqOp_run (neg:=false) h (fun a b ha hb=>absurd hb (by intro hb; exact h3 a b ha hb)) E w p q
    · exact eqOp_run (neg:=true) h (fun a b ha hb=>absurd hb (by intro hb; exact h3 a b ha hb)) E w p q
    · cases h
theorem unA_run {op:UnOp} {x v:AV} {R:List Nat} {W:Aq} (h:(unA op x).sel=some (.val v R W)) (E:Env) (w:World):W=[]∧(Op.unary op (den E x)).run P w = .ok (den E v) w:=by
  unfold unA at h
  split at h
  · obtain ⟨rfl,_,rfl⟩:=Au h
    exact ⟨rfl,by simp [Op.unary,den,SB.not_v]⟩
  · obtain ⟨rfl,_,rfl⟩:=Au h
    exact ⟨rfl,by simp [Op.unary,den,SI.un_v,Op.intArith]⟩
  · cases h
end
end Go.Eng
set_option linter.unusedSimpArgs false
set_option linter.unusedVariables false
namespace Go.Eng
section
variable {P:Program}
theorem foldl_set (off : Nat) : ∀ (vs : List Value) (i : Nat) (cur : Array Value), off + i + vs.length ≤ cur.size →
    (vs.zipIdx i).foldl (fun cs (x:Value×Nat)=>cs.setIfInBounds (off+x.2) x.1) cur=(cur.toList.take (off+i)++vs++cur.toList.drop (off+i+vs.length)).toArray
  | [],i,cur,_=>by simp
  | v::rest,i,cur,h=>by
    simp only [List.length_cons] at h
    rw [List.zipIdx_cons,List.foldl_cons,foldl_set off rest (i+1) (cur.setIfInBounds (off+i) v) (by simp; omega)]
    have e:=list_seg_step cur.toList (off+i) v rest (by simp; omega)
    congr 1
    simpa [Array.toList_setIfInBounds,Nat.add_assoc] using e
theorem fill_sound (E : Env) (pl pr : Nat → Option (Nat × Nat)) (hpl : ∀ i x, pl i = some x → pr i = some x) : ∀ (parts : List (Nat × AV)) (cells cs : List AV), fillA pl cells parts = some cs →
    Instr.fill pr (BM E cells).toArray (parts.map fun p=>(p.1,den E p.2))=some (BM E cs).toArray∧(Ap cells=true→Ap cs=true)∧cs.length=cells.length
  | [],cells,cs,h=>by
    cases h
    exact ⟨rfl,id,rfl⟩
  | (i,v)::rest,cells,cs,h=>by
    simp only [fillA] at h
    split at h
    · cases h
    · rename_i off size hi
      split at h
      · rename_i h1 h2 h3
        have h1:=Nat.eq_of_beq_eq_true h1
        have h2:=Nat.le_of_ble_eq_true h2
        obtain ⟨g1,g2,g3⟩:=fill_sound E pl pr hpl rest _ cs h
        have hc:=den_cells E h3
        refine ⟨?_,fun hs=>g2 (putCells_scalar hs h3),g3.trans (putCells_length h2)⟩
        simp only [List.map_cons,Instr.fill,hpl i _ hi,hc,List.size_toArray,BL,h1]
        rw [if_neg (by simp; omega)]
        rw [← g1]
        congr 1
        rw [putCells_den]
        have:=foldl_set off (BM E v.cells) 0 (BM E cells).toArray (by simp [BL]; omega)
        rw [← Array.foldl_toList,Array.toList_zipIdx]
        simp only [Nat.add_zero,BL] at this
        exact this
      · cases h
theorem places_get : ∀ (fs : List Field) (hall : fs.all (fun f => (tsize P f.type).isSome) = true),
    ∃ places,fs.mapM (fun f=>(P.info? f.type).map fun i=>(f.offset,i.size))=some places∧∀ (i:Nat) (x:Nat×Nat),placeOf P fs[i]? = some x→places[i]? = some x
  | [],_=>⟨[],rfl,fun i x h=>by simp [placeOf] at h⟩
  | f::fs,hall=>by
    simp only [List.all_cons,Bool.and_eq_true] at hall
    obtain ⟨places,h1,h2⟩:=places_get fs hall.2
    obtain ⟨n,hn⟩:=Option.isSome_iff_exists.1 hall.1
    obtain ⟨i,hi,rfl⟩:=tsize_info hn
    refine ⟨(f.offset,i.size)::places,by simp [List.mapM_cons,hi,h1],fun j x hx=>?_⟩
    cases j with
    | zero=>simpa [hn,placeOf] using hx
    | succ j=>simpa using h2 j x (by simpa using hx)
theorem buildA_sound {t : TypeId} {parts : List (Nat × AV)} {v : AV} (h : buildA P t parts = some v) (E : Env) :
    ∃ cs,v = .agg cs∧P.built t (parts.map fun p=>(p.1,den E p.2))=some (BM E cs).toArray:=by
  unfold buildA at h
  split at h
  · rename_i z fields hz hu
    obtain ⟨i,zv,hi,hzv,rfl⟩:=tzero_info hz
    split at h
    · rename_i h1 h2
      obtain ⟨cs,hcs,rfl⟩:=Option.map_eq_some_iff.1 h
      obtain ⟨places,h3,h4⟩:=places_get fields.toList h1
      refine ⟨cs,rfl,?_⟩
      have hc:=den_cells E h2
      rw [den_ofV] at hc
      simp only [Program.built,hi,hu,hzv,h3,hc]
      refine (fill_sound E _ _ (fun j x hx=>?_) parts _ cs hcs).1
      unfold placesA at hx
      simpa using h4 j x (by simpa using hx)
    · cases h
  · rename_i z len elem hz hu
    obtain ⟨i,zv,hi,hzv,rfl⟩:=tzero_info hz
    split at h
    · rename_i n h1 h2
      obtain ⟨cs,hcs,rfl⟩:=Option.map_eq_some_iff.1 h
      obtain ⟨ie,hie,rfl⟩:=tsize_info h1
      refine ⟨cs,rfl,?_⟩
      have hc:=den_cells E h2
      rw [den_ofV] at hc
      simp only [Program.built,hi,hu,hzv,hie,hc]
      exact (fill_sound E _ _ (fun j x hx=>hx) parts _ cs hcs).1
    · cases h
  · cases h
theorem Done.det {A : Nat → Prop} {E : Env} {lk : Look} {w : World} {key : Nat} {v : AV} {r : Result Next} (hU : RelU A E lk w)
    (h:∀ E',Ae A E E'→r = .ok (.value (den E' v)) w):Done A E lk w (plus A key) v (hupd lk []) r:=by
  have h0:=h E (Ae.refl A E)
  rw [h0]
  refine Done.pure hU (fun E' h'=>?_) rfl
  have h1:=h E' h'
  rw [h0] at h1
  injection h1 with h1
  injection h1
theorem lst_place {E : Env} {lk : Look} {w : World} {k : Nat} {len : SI} {sz : Nat} {rows : Nat → List AV} {g : Option Nat} {i : Int} (hr : lstRel E lk w k len sz rows g) (hg : ∀ g', g = some g' → lk g' = some .tok)
    (h0:0≤i) (h1:i<len.v):∃ B off,(E.hdr k).1=some ⟨B,off,none⟩∧(rows i.toNat).length=sz∧∀ j,j<sz→w.cell? ⟨B,off+i.toNat * sz+j,none⟩=((rows i.toNat)[j]?).map (den E):=by
  obtain ⟨ha,hb,hc⟩:=hr
  have hlt:i.toNat<(E.hdr k).2.1:=by omega
  obtain ⟨B,off,e,hB,hrows⟩:=hc (by omega)
  refine ⟨B,off,e,?_⟩
  cases g with
  | none =>
    obtain ⟨h2,_,h3⟩:=hrows i.toNat hlt
    exact ⟨h2,fun j hj=>by rw [Nat.add_assoc]; exact h3 j hj⟩
  | some g =>
    obtain ⟨h4,C,ty,h5,h6,h7⟩:=hrows (hg g rfl)
    obtain ⟨h2,_,h3⟩:=h7 i.toNat hlt
    exact ⟨h2,fun j hj=>by rw [Nat.add_assoc,cell_of_row w B _ C ty _ h5]; exact h3 j hj⟩
theorem inB_v {i len:SI} (h:(inB i len).v=true):0≤i.v∧i.v<len.v:=by
  rw [inB,SI.cmp_v] at h
  exact of_decide_eq_true h
theorem liveG_spec {h:Aq} {g:Option Nat} (hl:liveG h g=true):∀ g',g=some g'→hget g' h=some .tok:=by
  intro g' e
  subst e
  unfold liveG at hl
  simp only at hl
  split at hl
  · assumption
  · cases hl
theorem loadA_sound {t : TypeId} {x v : AV} {h : Aq} {R : List Nat} {W : Aq} (hs : (loadA P t x h).sel = some (.val v R W)) {E : Env} {lk : Look} {w : World} (hr : Rel E lk w) (hR : ∀ k ∈ R, lk k = hget k h) :
    W=[]∧(Instr.loadAt t (den E x)).run P w = .ok (den E v) w:=by
  unfold loadA at hs
  split at hs
  · rename_i k off
    split at hs
    · rename_i cs hk
      obtain ⟨y,hy,hs⟩:=ofOpt_sel hs
      obtain ⟨rfl,rfl,rfl⟩:=Au hs
      refine ⟨rfl,?_⟩
      obtain ⟨_,_,ty,hb⟩:=hr.obj k _ ((hR k (by simp)).trans hk)
      have:=loadVar_sound (P:=P) (E:=E) (w:=w) (B:=E.blk k) (o:=0) hy (fun j hj=>by
        rw [cell_of_row w _ _ _ ty _ hb]
        simp [denL_get])
      simp only [Nat.zero_add] at this
      simp [Instr.loadAt,Instr.sureAddr,den,this]
    · cases hs
  · rename_i k i sz off
    split at hs
    · rename_i len sz' rows g hk
      split at hs
      · rename_i h1 h2
        have h1:=Nat.eq_of_beq_eq_true h1
        subst h1
        obtain ⟨hb,hs⟩:=need_sel hs
        obtain ⟨y,hy,hs⟩:=ofOpt_sel hs
        obtain ⟨y',hs,hden⟩:=fixA_sel hs
        obtain ⟨rfl,rfl,rfl⟩:=Au hs
        rw [hden E]
        refine ⟨rfl,?_⟩
        obtain ⟨hi0,hi1⟩:=inB_v hb
        have hlive:∀ g',g=some g'→lk g'=some .tok:=fun g' e=>by
          rw [hR g' (by subst e; simp [keysG])]; exact liveG_spec h2 g' e
        obtain ⟨B,o,e,h3,h4⟩:=lst_place (hr.obj k _ ((hR k (by cases g <;> simp [keysG])).trans hk)) hlive hi0 hi1
        have:=loadVar_sound (P:=P) (E:=E) (w:=w) (B:=B) (o:=o+i.v.toNat * sz) hy (fun j hj=>h4 j (by omega))
        simp only [Instr.loadAt,Instr.sureAddr,den,Env.elem,e,Option.getD_some,Sem.run_bind,Sem.run_pure,Result.andThen_ok]
        rw [← Nat.add_assoc]
        exact this
      · cases hs
    · cases hs
  · cases hs
theorem fieldAddrA_sound {s : TypeId} {x v : AV} {f : Nat} {R : List Nat} {W : Aq} (hs : (fieldAddrA P s x f).sel = some (.val v R W)) (E : Env) (w : World) :
    W=[]∧(Instr.fieldAt s (den E x) f).run P w = .ok (den E v) w:=by
  unfold fieldAddrA at hs
  split at hs
  · rename_i fields hu
    split at hs
    · rename_i fd hf
      split at hs
      · rename_i n hn
        split at hs
        · obtain ⟨rfl,rfl,rfl⟩:=Au hs
          exact ⟨rfl,by simp [Instr.fieldAt,Instr.sureAddr,run_underlying hu,hf,den,fieldPlace,sizeOf_run hn,Addr.add_lit]⟩
        · obtain ⟨rfl,rfl,rfl⟩:=Au hs
          exact ⟨rfl,by simp [Instr.fieldAt,Instr.sureAddr,run_underlying hu,hf,den,fieldPlace,sizeOf_run hn,Addr.add_lit,Env.elem,Nat.add_assoc]⟩
        · cases hs
      · cases hs
    · cases hs
  · cases hs
theorem indexAddrA_sound {t : TypeId} {x i v : AV} {h : Aq} {R : List Nat} {W : Aq} (hs : (indexAddrA P t x i h).sel = some (.val v R W)) {E : Env} {lk : Look} {w : World} (hr : Rel E lk w) (hR : ∀ k ∈ R, lk k = hget k h) :
    W=[]∧(Instr.indexAt t (den E x) (den E i)).run P w = .ok (den E v) w:=by
  unfold indexAddrA at hs
  split at hs
  · rename_i ki i
    split at hs
    · rename_i len elem hu
      split at hs
      · rename_i n hn
        split at hs
        · rename_i k off
          obtain ⟨j,hj,hij,hs⟩:=atPlace_sel hs
          obtain ⟨rfl,rfl,rfl⟩:=Au hs
          refine ⟨rfl,?_⟩
          have h1:(0:Int)≤i.v∧i.v<(len:Int):=by omega
          simp [Instr.indexAt,asIntOf,run_underlying hu,den,Instr.sureAddr,h1,sizeOf_run hn,Addr.add_lit,hij,show j<len from hj]
        · cases hs
      · cases hs
    · rename_i elem hu
      split at hs
      · rename_i k n hn
        split at hs
        · rename_i len sz rows g hk
          split at hs
          · rename_i h1
            have h1:=Nat.eq_of_beq_eq_true h1
            subst h1
            obtain ⟨hb,hs⟩:=need_sel hs
            obtain ⟨rfl,rfl,rfl⟩:=Au hs
            refine ⟨rfl,?_⟩
            obtain ⟨hi0,hi1⟩:=inB_v hb
            obtain ⟨ha,hb',hc⟩:=hr.obj k _ ((hR k (by simp)).trans hk)
            obtain ⟨B,off,e,_⟩:=hc (by omega)
            have h2:i.v<(((E.hdr k).2.1:Nat):Int):=by omega
            simp [Instr.indexAt,asIntOf,run_underlying hu,den,e,hi0,h2,sizeOf_run hn,Addr.add_lit,Env.elem]
          · cases hs
        · cases hs
      · cases hs
    · cases hs
  · cases hs
theorem indexA_sound {t : TypeId} {x i v : AV} {R : List Nat} {W : Aq} (hs : (indexA P t x i).sel = some (.val v R W)) (E : Env) (w : World) :
    W=[]∧(Instr.index t (den E x) (den E i)).run P w = .ok (den E v) w:=by
  unfold indexA at hs
  split at hs
  · rename_i cs ki i
    split at hs
    · rename_i len elem hu
      split at hs
      · rename_i n hn
        obtain ⟨j,hj,hij,hs⟩:=atPlace_sel hs
        obtain ⟨y,hy,hs⟩:=ofOpt_sel hs
        obtain ⟨rfl,rfl,rfl⟩:=Au hs
        refine ⟨rfl,?_⟩
        have hp:=part_sound hy E w
        simp [Instr.index,asIntOf,run_underlying hu,den,hij,show j<len from hj,sizeOf_run hn,hp]
      · cases hs
    · cases hs
  · cases hs
theorem fieldA_sound {t : TypeId} {x v : AV} {f : Nat} {R : List Nat} {W : Aq} (hs : (fieldA P t x f).sel = some (.val v R W)) (E : Env) (w : World) :
    W=[]∧(Instr.field t (den E x) f).run P w = .ok (den E v) w:=by
  unfold fieldA at hs
  split at hs
  · rename_i fields cs hu
    split at hs
    · rename_i fd hf
      obtain ⟨y,hy,hs⟩:=ofOpt_sel hs
      obtain ⟨rfl,rfl,rfl⟩:=Au hs
      refine ⟨rfl,?_⟩
      have hp:=part_sound hy E w
      simp [Instr.field,run_underlying hu,hf,den,asAgg,hp]
    · cases hs
  · cases hs
theorem lenK_sound {k : Nat} {v : AV} {h : Aq} {R : List Nat} {W : Aq} (hs : (lenK k h).sel = some (.val v R W)) {E : Env} {lk : Look} {w : World} (hr : Rel E lk w) (hR : ∀ k ∈ R, lk k = hget k h) :
    W=[]∧den E v = .int .i64 ((E.hdr k).2.1:Nat):=by
  unfold lenK at hs
  split at hs
  · rename_i len sz rows g hk
    obtain ⟨rfl,rfl,rfl⟩:=Au hs
    obtain ⟨ha,_,_⟩:=hr.obj k _ ((hR k (by simp)).trans hk)
    exact ⟨rfl,by simp [den,← ha]⟩
  · cases hs
theorem lenA_sound {t ty : TypeId} {ts : List TypeId} {x v : AV} {h : Aq} {R : List Nat} {W : Aq} (hs : (lenA P t x h).sel = some (.val v R W)) {E : Env} {lk : Look} {w : World} (hr : Rel E lk w) (hR : ∀ k ∈ R, lk k = hget k h) :
    W=[]∧(Builtin.len_ (t::ts).toArray ty #[den E x]).run P w = .ok (den E v) w:=by
  unfold lenA at hs
  split at hs
  · rename_i s hu
    obtain ⟨rfl,rfl,rfl⟩:=Au hs
    exact ⟨rfl,by simp [Builtin.len_,run_underlying hu,den,goInt,SS.len_v]⟩
  · rename_i n e hu
    obtain ⟨rfl,rfl,rfl⟩:=Au hs
    exact ⟨rfl,by simp [Builtin.len_,run_underlying hu,den,goInt,SI.v]⟩
  · rename_i e hu
    obtain ⟨rfl,rfl,rfl⟩:=Au hs
    exact ⟨rfl,by simp [Builtin.len_,run_underlying hu,den,goInt,SI.v]⟩
  · rename_i e k hu
    obtain ⟨h1,h2⟩:=lenK_sound hs hr hR
    refine ⟨h1,?_⟩
    rw [h2]
    simp [Builtin.len_,run_underlying hu,den,goInt]
  · rename_i e k hu
    obtain ⟨h1,h2⟩:=lenK_sound hs hr hR
    refine ⟨h1,?_⟩
    rw [h2]
    simp [Builtin.len_,run_underlying hu,den,goInt]
  · cases hs
theorem minA_sound (mx : Bool) (less : Int → Int → Bool) (hless : less = if mx then (fun y x => decide (y > x)) else (fun y x => decide (y < x))) (E : Env) (w : World) : ∀ (xs : List AV) (x v : AV), minA less x xs = some v → (∃ k n, x = .int k n) →
    ((xs.map (den E)).foldlM (if mx then Builtin.max2 else Builtin.min2) (den E x)).run P w = .ok (den E v) w
  | [],x,v,h,_=>by simp only [minA,Option.some.injEq] at h; subst h; rfl
  | y::ys,x,v,h,hx=>by
    obtain ⟨k,n,rfl⟩:=hx
    cases y <;> simp only [minA] at h <;> try (cases h; done)
    rename_i k' m
    split at h
    · rename_i hk
      have:k=k':=of_decide_eq_true hk
      subst this
      have ih:=minA_sound mx less hless E w ys _ v h ⟨_,_,rfl⟩
      simp only [List.map_cons,List.foldlM_cons,Sem.run_bind]
      have h2:((if mx then Builtin.max2 else Builtin.min2) (den E (.int k n)) (den E (.int k m))).run P w = .ok (den E (.int k (SI.bin (fun x y=>match less y x with | true=>y | false=>x) n m))) w:=by
        subst hless
        cases mx
        · simp only [Bool.false_eq_true,if_false,den,Builtin.min2,SI.bin_v,Sem.run_pure]
          by_cases hlt:m.v<n.v <;> simp [hlt]
        · simp only [if_true,den,Builtin.max2,SI.bin_v,Sem.run_pure]
          by_cases hlt:m.v>n.v <;> simp [hlt]
      rw [h2]
      exact ih
    · cases h
end
end Go.Eng
set_option linter.unusedSimpArgs false
set_option linter.unusedVariables false
namespace Go.Eng
section
variable {P:Program}
theorem beq_ne {a b:Nat} (h:a≠b):Nat.beq a b=false:=by
  cases hb:Nat.beq a b
  · rfl
  · exact absurd (Nat.eq_of_beq_eq_true hb) h
theorem hupd_one (lk:Look) (k:Nat) (o:Option Ai) (j:Nat):hupd lk [(k,o)] j=if j=k then o else lk j:=by
  simp only [hupd,wget]
  by_cases h:j=k
  · subst h; simp
  · simp [beq_ne (Ne.symm h),h]
theorem storeBox {A : Nat → Prop} {E : Env} {lk : Look} {w : World} {key k : Nat} {cs cs' : List AV} (hU : RelU A E lk w) (hk : lk k = some (.box cs)) (hs : Ap cs' = true)
    (C:Array Value) (hC:∀ E',Ae A E E'→C=(BM E' cs').toArray) :
    Done A E lk w (plus A key) (.raw undef) (hupd lk [(k,some (.box cs'))]) (.ok .skip (w.setRow (E.blk k) C)):=by
  refine ⟨_,_,E,undef,rfl,rfl,fun _ _=>rfl,?_⟩
  have hAk:=hU.dom k _ hk
  obtain ⟨e1,_,ty,e2⟩:=hU.here.obj k _ hk
  refine RelU.step (fun j=>j=k) hU (fun _ h=>.inl h) (Ae.refl A E) rfl rfl rfl (by simp [World.setRow]) ?_ ?_ ?_ ?_ ?_ ?_ ?_ ?_ ?_ ?_
  · intro j o ho hn; rw [hupd_one,if_neg hn] at ho; exact ho
  · intro j o ho hn; subst hn; exact .inl hAk
  · intro j o g ho hg hn; subst hn; rw [hupd_one,if_pos rfl] at ho; cases ho; cases hg
  · intro E' h' j o ho hn
    subst hn
    rw [hupd_one,if_pos rfl] at ho
    cases ho
    have h'':Ae A E E':=h'.mono fun _ h=>.inl h
    obtain ⟨f1,f2,f3⟩:=h'' j hAk
    refine ⟨by rw [f1,f3,e1],hs,ty,?_⟩
    rw [f1,← hC E' h'']
    exact setRow_heap w _ _ _ ty _ e2
  · intro E' h' j o b ho hn hb
    subst hn
    rw [hupd_one,if_pos rfl] at ho
    cases ho
    exact .inl ⟨j,_,hk,.inl rfl,hb⟩
  · intro E' h' j o j' o' b _ _ hn hn' hne; exact absurd (hn.trans hn'.symm) hne
  · intro b hb hn
    refine setRow_other w _ _ _ fun e=>hn k _ hk (.inl rfl) ?_
    simp [owns,e1,e]
  · intro j o g ho hg hn ht; subst hn; rw [hupd_one,if_pos rfl] at ht; cases ht
  · intro E' h' j len sz rows a ho hn; subst hn; rw [hupd_one,if_pos rfl] at ho; cases ho
  · intro j hn hA ht; subst hn; rw [hupd_one,if_pos rfl] at ht; cases ht
theorem get_splice {α : Type} (a vs : List α) (p q : Nat) (h : p + vs.length ≤ a.length) :
    (a.take p++vs++a.drop (p+vs.length))[q]? = if q<p then a[q]? else if q<p+vs.length then vs[q - p]? else a[q]?:=by
  have hl:(a.take p).length=p:=by rw [List.length_take]; omega
  by_cases h1:q<p
  · rw [if_pos h1,List.append_assoc,List.getElem?_append_left (by omega),List.getElem?_take,if_pos h1]
  · rw [if_neg h1]
    by_cases h2:q<p+vs.length
    · rw [if_pos h2,List.append_assoc,List.getElem?_append_right (by omega),hl,List.getElem?_append_left (by omega)]
    · rw [if_neg h2,List.getElem?_append_right (by rw [List.length_append]; omega),List.length_append,hl,List.getElem?_drop]
      congr 1
      omega
theorem putLst {A : Nat → Prop} {E : Env} {lk : Look} {w w' : World} {key b sz g : Nat} {len : SI} {rows rows' : Nat → List AV} {v : AV} {val : Value} {nx : Next} (hU : RelU A E lk w) (hk : ∀ k, key ≤ k → k < key + 2 → ¬ A k)
    (hb:lk b=some (.lst len sz rows (some g))) (ht:lk g=some .tok) (hos:w'.os=w.os) (htape:w'.tape=w.tape) (hout:w'.output=w.output) (hsz:w.heap.size≤w'.heap.size)
    (hheap:∀ c,c<w.heap.size→c ∉ E.fp g→w'.heap[c]? = w.heap[c]?)
    (hrows:∀ E',Ae A E E'→∀ B off C ty,(E.hdr b).1=some ⟨B,off,none⟩→E.fp g=[B]→w.heap[B]? = some (.cells C ty (0,0))→off+(E.hdr b).2.2 * sz≤C.size→RowsAt E' (fun o=>C[o]?) off sz (E.hdr b).2.1 rows →
      ∃ C',w'.heap[B]? = some (.cells C' ty (0,0))∧C'.size=C.size∧RowsAt E' (fun o=>C'[o]?) off sz (E.hdr b).2.1 rows')
    (hn:nextV nx=some val) (hv:∀ E':Env,val=den E' v) :
    Done A E lk w (plus A key) v (hupd lk [(b,some (.lst len sz rows' (some key))),(key,some .tok),(g,none)]) (.ok nx w'):=by
  have hnk:¬ A key:=hk key (Nat.le_refl _) (by omega)
  have hAb:=hU.dom b _ hb
  have hAg:=hU.grp b _ g hb rfl
  have hbk:b≠key:=fun e=>hnk (e ▸ hAb)
  have hgk:g≠key:=fun e=>hnk (e ▸ hAg)
  have hgb:g≠b:=fun e=>by rw [e,hb] at ht; cases ht
  have hE:Ae A E (E.put key 0 (none,0,0) (E.fp g)):=E.put_agree hnk _ _ _
  have in0:plus A key key:=.inr ⟨Nat.le_refl _,by omega⟩
  have fp0:∀ {E'},Ae (plus A key) (E.put key 0 (none,0,0) (E.fp g)) E'→E'.fp key=E.fp g:=fun h'=>by
    rw [(h' key in0).2.2]; simp [Env.put]
  have ag:∀ {E'},Ae (plus A key) (E.put key 0 (none,0,0) (E.fp g)) E'→Ae A E E':=fun h'=>hE.trans h' fun _ h=>.inl h
  have lkN : ∀ j, hupd lk [(b, some (.lst len sz rows' (some key))), (key, some .tok), (g, none)] j =
      if j=b then some (.lst len sz rows' (some key)) else if j=key then some .tok else if j=g then none else lk j:=by
    intro j
    by_cases h1:j=b
    · subst h1; simp [hupd,wget]
    · by_cases h2:j=key
      · subst h2; simp [hupd,wget,beq_ne hbk,h1]
      · by_cases h3:j=g
        · subst h3; simp [hupd,wget,beq_ne (Ne.symm h1),beq_ne (Ne.symm h2),h1,h2]
        · simp [hupd,wget,beq_ne (Ne.symm h1),beq_ne (Ne.symm h2),beq_ne (Ne.symm h3),h1,h2,h3]
  refine ⟨nx,w',E.put key 0 (none,0,0) (E.fp g),val,rfl,hn,fun E' _=>hv E',?_⟩
  refine RelU.step (fun j=>j=b∨j=key) hU (fun _ h=>.inl h) hE hos htape hout hsz ?_ ?_ ?_ ?_ ?_ ?_ ?_ ?_ ?_ ?_
  · intro j o ho hn'
    rw [lkN,if_neg (fun e=>hn' (.inl e)),if_neg (fun e=>hn' (.inr e))] at ho
    split at ho
    · cases ho
    · exact ho
  · intro j o _ hn'
    rcases hn' with rfl | rfl
    · exact .inl hAb
    · exact in0
  · intro j o g' ho hg hn'
    rcases hn' with rfl | rfl
    · rw [lkN,if_pos rfl] at ho; cases ho; cases hg; exact in0
    · rw [lkN,if_neg hbk.symm,if_pos rfl] at ho; cases ho; cases hg
  · intro E' h' j o ho hn'
    rcases hn' with rfl | rfl
    · rw [lkN,if_pos rfl] at ho
      cases ho
      have hh:E'.hdr j=E.hdr j:=((ag h') j hAb).2.1
      obtain ⟨a1,a2,a3⟩:=(hU.rel E' (ag h')).obj j _ hb
      rw [hh] at a1 a2 a3
      refine ⟨by rw [hh]; exact a1,by rw [hh]; exact a2,fun hp=>?_⟩
      rw [hh] at hp ⊢
      obtain ⟨B,off,e,hB,hr⟩:=a3 hp
      obtain ⟨c1,C,ty,c2,c3,c4⟩:=hr ht
      rw [((ag h') g hAg).2.2] at c1
      obtain ⟨C',d1,d2,d3⟩:=hrows E' (ag h') B off C ty e c1 c2 c3 c4
      exact ⟨B,off,e,Nat.lt_of_lt_of_le hB hsz,fun _=>⟨by rw [fp0 h',c1],C',ty,d1,by rw [d2]; exact c3,d3⟩⟩
    · rw [lkN,if_neg hbk.symm,if_pos rfl] at ho
      cases ho
      intro c hc
      rw [fp0 h'] at hc
      exact Nat.lt_of_lt_of_le ((hU.here.obj g _ ht).lt (b:=c) hc) hsz
  · intro E' h' j o c ho hn' hc
    rcases hn' with rfl | rfl
    · rw [lkN,if_pos rfl] at ho; cases ho; exact hc.elim
    · rw [lkN,if_neg hbk.symm,if_pos rfl] at ho
      cases ho
      have hc:c∈E'.fp j:=hc
      rw [fp0 h'] at hc
      refine .inl ⟨g,.tok,ht,.inr (by rw [lkN,if_neg hgb,if_neg hgk,if_pos rfl]),?_⟩
      show c∈E'.fp g
      rw [((ag h') g hAg).2.2]
      exact hc
  · intro E' h' j o j' o' c ho ho' hn1 hn2 hne hc hc'
    rcases hn1 with rfl | rfl
    · rw [lkN,if_pos rfl] at ho; cases ho; exact hc
    · rcases hn2 with rfl | rfl
      · rw [lkN,if_pos rfl] at ho'; cases ho'; exact hc'
      · exact hne rfl
  · intro c hc hn'
    exact hheap c hc fun hcf=>hn' g .tok ht (.inr (by rw [lkN,if_neg hgb,if_neg hgk,if_pos rfl])) hcf
  · intro j o g' ho hg hn'
    rcases hn' with rfl | rfl
    · rw [lkN,if_pos rfl]; intro h; cases h
    · exact absurd (hU.grp j o g' ho hg) hnk
  · intro E' h' j len' sz2 rows2 a ho hn'
    rcases hn' with rfl | rfl
    · rw [lkN,if_pos rfl] at ho; cases ho
    · rw [lkN,if_neg hbk.symm,if_pos rfl] at ho; cases ho
  · intro j hn' hA
    rcases hn' with rfl | rfl
    · rw [lkN,if_pos rfl]; intro h; cases h
    · exact absurd hA hnk
def setRowsN (i p:Nat) (vs:List AV) (r:Nat→List AV) (j:Nat):List AV:=match Nat.beq j i with
  | true=>putCells (r j) p vs
  | false=>r j
theorem setRowsN_self (i p:Nat) (vs:List AV) (r:Nat→List AV):setRowsN i p vs r i=putCells (r i) p vs:=by
  unfold setRowsN; rw [Nat.beq_refl]
theorem setRowsN_ne {i j p:Nat} {vs:List AV} {r:Nat→List AV} (h:j≠i):setRowsN i p vs r j=r j:=by
  unfold setRowsN; rw [beq_ne h]
theorem storeCells_rows {E : Env} {off sz n i p : Nat} {C : Array Value} {rows : Nat → List AV} {vs : List AV} (hr : RowsAt E (fun o => C[o]?) off sz n rows) (hi : i < n) (hp : p + vs.length ≤ sz) (hs : Ap vs = true) (hC : off + n * sz ≤ C.size) :
    RowsAt E (fun o=>(C.toList.take (off+i * sz+p)++BM E vs++C.toList.drop (off+i * sz+p+(BM E vs).length)).toArray[o]?) off sz n (setRowsN i p vs rows):=by
  intro i' hi'
  obtain ⟨r1,r2,r3⟩:=hr i' hi'
  have hle:(i+1) * sz≤n * sz:=Nat.mul_le_mul_right sz (by omega)
  rw [Nat.add_mul] at hle
  have hget : ∀ j, j < sz → (C.toList.take (off + i * sz + p) ++ BM E vs ++ C.toList.drop (off + i * sz + p + (BM E vs).length)).toArray[off + (i' * sz + j)]? =
      if i'=i∧p≤j∧j<p+vs.length then (BM E vs)[j - p]? else C[off+(i' * sz+j)]?:=by
    intro j hj
    have hb:off+i * sz+p+(BM E vs).length≤C.toList.length:=by rw [BL]; simp; omega
    rw [List.getElem?_toArray,get_splice _ _ _ _ hb,BL]
    by_cases e:i'=i
    · subst e
      by_cases h1:p≤j∧j<p+vs.length
      · rw [if_neg (by omega),if_pos (by omega),if_pos ⟨rfl,h1⟩]
        congr 1
        omega
      · rw [if_neg (c:=i'=i'∧p≤j∧j<p+vs.length) (fun h=>h1 h.2)]
        by_cases h2:off+(i' * sz+j)<off+i' * sz+p
        · rw [if_pos h2]; simp
        · rw [if_neg h2,if_neg (by omega)]; simp
    · rw [if_neg (c:=i'=i∧p≤j∧j<p+vs.length) (fun h=>e h.1)]
      rcases Nat.lt_or_gt_of_ne e with h | h
      · have:=Nat.mul_le_mul_right sz (show i'+1≤i by omega)
        rw [Nat.add_mul] at this
        rw [if_pos (by omega)]; simp
      · have:=Nat.mul_le_mul_right sz (show i+1≤i' by omega)
        rw [Nat.add_mul] at this
        rw [if_neg (by omega),if_neg (by omega)]; simp
  by_cases e:i'=i
  · subst e
    rw [setRowsN_self]
    refine ⟨by rw [putCells_length (by omega),r1],putCells_scalar r2 hs,fun j hj=>?_⟩
    dsimp only
    rw [hget j hj,putCells,get_splice _ _ _ _ (by omega)]
    by_cases h1:p≤j∧j<p+vs.length
    · rw [if_pos ⟨rfl,h1⟩,if_neg (by omega),if_pos h1.2,denL_get]
    · rw [if_neg (fun h=>h1 h.2)]
      have:=r3 j hj
      dsimp only at this
      by_cases h2:j<p
      · rw [if_pos h2]; exact this
      · rw [if_neg h2,if_neg (by omega)]; exact this
  · rw [setRowsN_ne e]
    refine ⟨r1,r2,fun j hj=>?_⟩
    dsimp only
    rw [hget j hj,if_neg (fun h=>e h.1)]
    exact r3 j hj
theorem storeA_sound {t : TypeId} {x y v : AV} {h : Aq} {R : List Nat} {W : Aq} {key : Nat} (hs : (storeA P t x y h key).sel = some (.val v R W)) {A : Nat → Prop} {E : Env} {lk : Look} {w : World} (hU : RelU A E lk w) (hkk : ∀ k, key ≤ k → k < key + 2 → ¬ A k)
    (hR:∀ k∈R,lk k=hget k h) (X Y:Value) (hX:∀ E',Ae A E E'→X=den E' x) (hY:∀ E',Ae A E E'→Y=den E' y) :
    Done A E lk w (plus A key) v (hupd lk W) ((do Instr.storeAt t X Y; Pure.pure Next.skip:Sem Next).run P w):=by
  unfold storeA at hs
  split at hs
  · rename_i k off
    split at hs
    · rename_i cs n hk hn
      split at hs
      · rename_i h1 h2 h3
        have h1:=Nat.eq_of_beq_eq_true h1
        have h2:=Nat.le_of_ble_eq_true h2
        obtain ⟨rfl,rfl,rfl⟩:=Au hs
        have hk':=(hR k (by simp)).trans hk
        obtain ⟨e1,e0,ty,e2⟩:=hU.here.obj k _ hk'
        have hrun:=storeVar_sound (P:=P) (v:=y) (E:=E) hn e2 h1 h2 h3
        have hX0:=hX E (Ae.refl A E)
        have hY0:=hY E (Ae.refl A E)
        have:(do Instr.storeAt t X Y; Pure.pure Next.skip:Sem Next).run P w = .ok .skip (w.setRow (E.blk k) (BM E (putCells cs off y.cells)).toArray):=by
          rw [hX0,hY0]
          simp only [Instr.storeAt,Instr.sureAddr,den,Sem.run_bind,Sem.run_pure,Result.andThen_ok,hrun]
        rw [this]
        refine storeBox hU hk' (putCells_scalar e0 h3) _ fun E' h'=>?_
        obtain ⟨_,_,ty',e3⟩:=(hU.rel E' h').obj k _ hk'
        rw [(h' k (hU.dom k _ hk')).1,e2] at e3
        have e4:BM E cs=BM E' cs:=by
          injection e3 with e3
          injection e3 with e3
          simpa using e3
        have e5:BM E y.cells=BM E' y.cells:=by
          have:=hY0.symm.trans (hY E' h')
          have hc:=congrArg Value.cells this
          rw [den_cells E h3,den_cells E' h3] at hc
          simpa using hc
        rw [putCells_den,putCells_den,e4,e5]
      · cases hs
    · cases hs
  · rename_i k i sz off
    split at hs
    · rename_i len sz' rows g n hk hn
      split at hs
      · rename_i h0 h1 h2 h3
        simp only [Bool.and_eq_true] at h0
        have h1:=Nat.eq_of_beq_eq_true h1
        have h2:=Nat.le_of_ble_eq_true h2
        have hsz:=Nat.eq_of_beq_eq_true h0.1
        subst hsz
        obtain ⟨hb,hs⟩:=need_sel hs
        obtain ⟨hi0,hi1⟩:=inB_v hb
        obtain ⟨rfl,rfl,rfl⟩:=Au hs
        have hk':=(hR k (by simp)).trans hk
        have ht:lk g=some .tok:=(hR g (by simp)).trans (liveG_spec h0.2 g rfl)
        obtain ⟨a1,a2,a3⟩:=hU.here.obj k _ hk'
        obtain ⟨B,o,e,hB,hr⟩:=a3 (by omega)
        obtain ⟨c1,C,ty,c2,c3,c4⟩:=hr ht
        have hlt:i.v.toNat<(E.hdr k).2.1:=by omega
        have hle1:=Nat.mul_le_mul_right sz a2
        have hle2:(i.v.toNat+1) * sz≤(E.hdr k).2.1 * sz:=Nat.mul_le_mul_right sz (by omega)
        rw [Nat.add_mul] at hle2
        have hX0:=hX E (Ae.refl A E)
        have hY0:=hY E (Ae.refl A E)
        have hc:=den_cells E h3
        have hrun:(storeVar t ⟨B,o+(i.v.toNat * sz+off),none⟩ (den E y)).run P w = .ok () (w.setRow B (C.toList.take (o+i.v.toNat * sz+off)++BM E y.cells++C.toList.drop (o+i.v.toNat * sz+off+(BM E y.cells).length)).toArray):=by
          unfold storeVar
          have hsz:(den E y).cells.size=n:=by rw [hc]; simp [BL,h1]
          have hst:=run_storeCells_at P B (o+(i.v.toNat * sz+off)) ty (BM E y.cells) 0 C w c2 (by rw [BL]; omega) (by
            intro x hx
            rw [denL_map] at hx
            obtain ⟨z,hz,rfl⟩:=List.mem_map.1 hx
            exact den_scalar E ((allScalar_iff _).1 h3 z hz))
          simp only [Sem.run_bind,sizeOf_run hn,Result.andThen_ok,hsz,ne_eq,not_true_eq_false,if_false,Sem.run_pure]
          rw [hc]
          simp only [Nat.add_zero] at hst
          rw [show ((BM E y.cells).toArray).toList=BM E y.cells from rfl,hst,show o+(i.v.toNat * sz+off)=o+i.v.toNat * sz+off by omega]
        have hrun2:(do Instr.storeAt t X Y; Pure.pure Next.skip:Sem Next).run P w = .ok .skip (w.setRow B (C.toList.take (o+i.v.toNat * sz+off)++BM E y.cells++C.toList.drop (o+i.v.toNat * sz+off+(BM E y.cells).length)).toArray):=by
          rw [hX0,hY0]
          simp only [Instr.storeAt,Instr.sureAddr,den,Env.elem,e,Option.getD_some,Sem.run_bind,Sem.run_pure,Result.andThen_ok,hrun]
        rw [hrun2]
        refine putLst hU hkk hk' ht rfl rfl rfl (by simp [World.setRow]) (fun c hc' hcf=>?_) (fun E' h' B' off' C2 ty2 q1 q2 q3 q4 q5=>?_) rfl (fun _=>rfl)
        · refine setRow_other w _ _ _ fun e'=>hcf ?_
          rw [c1,e']; simp
        · rw [e] at q1
          cases q1
          rw [c2] at q3
          cases q3
          have e5:BM E y.cells=BM E' y.cells:=by
            have:=hY0.symm.trans (hY E' h')
            have hc2:=congrArg Value.cells this
            rw [den_cells E h3,den_cells E' h3] at hc2
            simpa using hc2
          refine ⟨_,setRow_heap w B _ _ ty _ c2,?_,?_⟩
          · simp only [List.size_toArray,List.length_append,List.length_take,List.length_drop,BL,Array.length_toList]
            omega
          · rw [e5]
            exact storeCells_rows q5 hlt (by omega) h3 (by omega)
      · cases hs
    · cases hs
  · cases hs
def BO (E:Env) (n:Nat) (rows:Nat→List AV):List Value:=(List.range n).flatMap fun i=>BM E (rows i)
theorem flatRows_succ (E:Env) (n:Nat) (rows:Nat→List AV):BO E (n+1) rows=BO E n rows++BM E (rows n):=by
  simp [BO,List.range_succ]
theorem flatRows_length (E:Env) (sz:Nat) (rows:Nat→List AV):∀ n,(∀ i,i<n→(rows i).length=sz)→(BO E n rows).length=n * sz
  | 0,_=>by simp [BO]
  | n+1,h=>by
    rw [flatRows_succ,List.length_append,flatRows_length E sz rows n (fun i hi=>h i (by omega)),BL,h n (by omega),Nat.add_mul,Nat.one_mul]
theorem flatRows_get (E:Env) (sz:Nat) (rows:Nat→List AV):∀ n,(∀ i,i<n→(rows i).length=sz)→∀ i j,i<n→j<sz→(BO E n rows)[i * sz+j]? = ((rows i)[j]?).map (den E)
  | 0,_,i,j,hi,_=>absurd hi (by omega)
  | n+1,h,i,j,hi,hj=>by
    have hl:=flatRows_length E sz rows n (fun i hi=>h i (by omega))
    rw [flatRows_succ]
    by_cases hlt:i<n
    · have : i * sz + j < n * sz := by
        have:=Nat.mul_le_mul_right sz (show i+1≤n by omega)
        rw [Nat.add_mul,Nat.one_mul] at this
        omega
      rw [List.getElem?_append_left (by omega)]
      exact flatRows_get E sz rows n (fun i hi=>h i (by omega)) i j hlt hj
    · have:i=n:=by omega
      subst this
      rw [List.getElem?_append_right (by omega),hl,show i * sz+j - i * sz=j by omega,denL_get]
theorem flatRows_cat (E:Env) (a:SI) (n:Nat) (hn:a.v.toNat=n) (r s:Nat→List AV):∀ m,BO E (n+m) (AP a r s)=BO E n r++BO E m s
  | 0=>by
    simp only [Nat.add_zero,BO,List.range_zero,List.flatMap_nil,List.append_nil]
    have:∀ i∈List.range n,BM E (AP a r s i)=BM E (r i):=fun i hi=>by
      have hi:=List.mem_range.1 hi
      simp only [AP,hn]
      rw [show Nat.blt i n=true from by simp [Nat.blt]; omega]
    rw [List.flatMap_def,List.flatMap_def,List.map_congr_left this]
  | m+1=>by
    rw [← Nat.add_assoc,flatRows_succ,flatRows_cat E a n hn r s m,flatRows_succ,List.append_assoc]
    congr 2
    simp only [AP,hn]
    rw [show Nat.blt (n+m) n=false from by
      cases hb:Nat.blt (n+m) n with
      | false=>rfl
      | true=>have:=Nat.le_of_ble_eq_true hb; omega]
    rw [Nat.add_sub_cancel_left]
theorem rowsAt_of_flat {E : Env} {get : Nat → Option Value} {off sz n : Nat} {rows : Nat → List AV} (h1 : ∀ i, i < n → (rows i).length = sz) (h2 : ∀ i, i < n → Ap (rows i) = true)
    (h3:∀ p,p<n * sz→get (off+p)=(BO E n rows)[p]?):RowsAt E get off sz n rows:=fun i hi =>
  ⟨h1 i hi,h2 i hi,fun j hj=>by
    rw [h3 (i * sz+j) (by
      have:=Nat.mul_le_mul_right sz (show i+1≤n by omega)
      rw [Nat.add_mul,Nat.one_mul] at this
      omega),flatRows_get E sz rows n h1 i j hi hj]⟩
theorem readK_sound {sz k : Nat} {h : Aq} {L : Lst} (hs : readK sz k h = some L) {E : Env} {lk : Look} {w : World} (hr : Rel E lk w) (hR : ∀ k ∈ L.R, lk k = hget k h) :
    ∃ a n cap,den E (.sl k) = .slice a n cap∧(n:Int)=L.len.v∧n≤cap∧(a=none→cap=0)∧(∀ i,i<n→(L.rows i).length=sz)∧(∀ i,i<n→Ap (L.rows i)=true) ∧
      (∀ p v,(BO E n L.rows)[p]? = some v→∃ ad,a=some ad∧w.cell? (ad.add p)=some v):=by
  unfold readK at hs
  · split at hs
    · rename_i len sz' rows g hk
      split at hs
      · rename_i h1 h2
        have h1:=Nat.eq_of_beq_eq_true h1
        subst h1
        cases hs
        have hlive:∀ g',g=some g'→lk g'=some .tok:=fun g' e=>by
          rw [hR g' (by subst e; simp [keysG])]; exact liveG_spec h2 g' e
        have hl:=hr.obj k _ ((hR k (by cases g <;> simp [keysG])).trans hk)
        obtain ⟨ha,hb,hc⟩:=hl
        have rowsOk:∀ i,i<(E.hdr k).2.1→(rows i).length=sz∧Ap (rows i)=true:=by
          intro i hi
          obtain ⟨B,off,e,hB,hrows⟩:=hc (by omega)
          cases g with
          | none=>exact ⟨(hrows i hi).1,(hrows i hi).2.1⟩
          | some g =>
            obtain ⟨_,C,ty,_,_,h7⟩:=hrows (hlive g rfl)
            exact ⟨(h7 i hi).1,(h7 i hi).2.1⟩
        by_cases hcap:0<(E.hdr k).2.2
        · obtain ⟨B,off,e,hB,hrows⟩:=hc hcap
          refine ⟨(E.hdr k).1,(E.hdr k).2.1,(E.hdr k).2.2,rfl,ha,hb,fun hn=>(by rw [e] at hn; cases hn),fun i hi=>(rowsOk i hi).1,fun i hi=>(rowsOk i hi).2,fun p v hp=>?_⟩
          refine ⟨_,e,?_⟩
          rw [Addr.add_lit]
          have hlen:=flatRows_length E sz rows (E.hdr k).2.1 (fun i hi=>(rowsOk i hi).1)
          have hplt:p<(E.hdr k).2.1 * sz:=by rw [← hlen]; exact (List.getElem?_eq_some_iff.1 hp).1
          have hsz:0<sz:=by
            cases sz with
            | zero=>simp at hplt
            | succ n=>omega
          have hi:p / sz<(E.hdr k).2.1:=Nat.div_lt_of_lt_mul (by rw [Nat.mul_comm]; exact hplt)
          have hj:p % sz<sz:=Nat.mod_lt _ hsz
          have hpe:p=p / sz * sz+p % sz:=by rw [Nat.mul_comm]; exact (Nat.div_add_mod p sz).symm
          obtain ⟨B',off',e',_,h4⟩:=lst_place (i:=((p / sz:Nat):Int)) ⟨ha,hb,hc⟩ hlive (Int.natCast_nonneg _) (by rw [← ha]; exact Int.ofNat_lt.2 hi)
          rw [e] at e'
          cases e'
          have h5:=h4 (p % sz) hj
          rw [Int.toNat_natCast,Nat.add_assoc,← hpe] at h5
          rw [h5,← flatRows_get E sz rows _ (fun i hi=>(rowsOk i hi).1) _ _ hi hj,← hpe]
          exact hp
        · have hn0:(E.hdr k).2.1=0:=by omega
          refine ⟨(E.hdr k).1,(E.hdr k).2.1,(E.hdr k).2.2,rfl,ha,hb,fun _=>by omega,fun i hi=>(rowsOk i hi).1,fun i hi=>(rowsOk i hi).2,fun p v hp=>?_⟩
          rw [hn0] at hp
          simp [BO] at hp
      · cases hs
    · cases hs
theorem readL_sound {sz : Nat} {x : AV} {h : Aq} {L : Lst} (hs : readL sz x h = some L) {E : Env} {lk : Look} {w : World} (hr : Rel E lk w) (hR : ∀ k ∈ L.R, lk k = hget k h) :
    ∃ a n cap,den E x = .slice a n cap∧(n:Int)=L.len.v∧n≤cap∧(a=none→cap=0)∧(∀ i,i<n→(L.rows i).length=sz)∧(∀ i,i<n→Ap (L.rows i)=true) ∧
      (∀ p v,(BO E n L.rows)[p]? = some v→∃ ad,a=some ad∧w.cell? (ad.add p)=some v):=by
  unfold readL at hs
  split at hs
  · cases hs
    exact ⟨none,0,0,rfl,rfl,Nat.le_refl _,fun _=>rfl,fun i hi=>absurd hi (by omega),fun i hi=>absurd hi (by omega),fun p v hp=>by simp [BO] at hp⟩
  · exact readK_sound hs hr hR
  · obtain ⟨a,n,cap,h1,h2,h3,h4,h5,h6,h7⟩:=readK_sound hs hr hR
    simp only [den] at h1
    injection h1 with e1 e2 e3
    subst e2 e3
    refine ⟨_,_,_,rfl,h2,h3,(fun e=>by cases e),h5,h6,fun p v hp=>?_⟩
    obtain ⟨ad,g1,g2⟩:=h7 p v hp
    exact ⟨ad,by rw [e1,g1]; rfl,g2⟩
  · cases hs
theorem first_run {sz n cap : Nat} {a : Option Addr} {news : List Value} {w : World} (hl : news.length = n * sz) (h0 : a = none → cap = 0) (hle : n ≤ cap) (h : ∀ p v, news[p]? = some v → ∃ ad, a = some ad ∧ w.cell? (ad.add p) = some v) :
    (Builtin.firstCells sz n (.slice a n cap)).run P w = .ok news.toArray w:=by
  cases a with
  | none =>
    have:n=0:=by have:=h0 rfl; omega
    subst this
    have:news=[]:=List.eq_nil_of_length_eq_zero (by simpa using hl)
    subst this
    simp [Builtin.firstCells]
  | some ad =>
    exact run_firstCells_some (P:=P) w sz n ad n cap news hl fun j v hv=>by
      obtain ⟨ad',e,h'⟩:=h j v hv
      cases e
      exact h'
theorem flat_same {sz : Nat} {x : AV} {h : Aq} {L : Lst} (hs : readL sz x h = some L) {E E' : Env} {lk : Look} {w : World} (hr : Rel E lk w) (hr' : Rel E' lk w) (hR : ∀ k ∈ L.R, lk k = hget k h) (hx : den E x = den E' x) {n : Nat} (hn : (n : Int) = L.len.v) :
    BO E' n L.rows=BO E n L.rows:=by
  obtain ⟨a,m,cap,h1,h2,h3,h4,h5,h6,h7⟩:=readL_sound hs hr hR
  obtain ⟨a',m',cap',g1,g2,g3,g4,g5,g6,g7⟩:=readL_sound hs hr' hR
  have:m=n:=by omega
  subst this
  have:m'=m:=by omega
  subst this
  rw [h1,g1] at hx
  cases hx
  apply List.ext_getElem?
  intro p
  have l1:=flatRows_length E sz L.rows m' h5
  have l2:=flatRows_length E' sz L.rows m' h5
  by_cases hp:p<m' * sz
  · obtain ⟨v,hv⟩:∃ v,(BO E m' L.rows)[p]? = some v:=⟨_,List.getElem?_eq_getElem (by omega)⟩
    obtain ⟨v',hv'⟩:∃ v,(BO E' m' L.rows)[p]? = some v:=⟨_,List.getElem?_eq_getElem (by omega)⟩
    obtain ⟨ad,e1,e2⟩:=h7 p v hv
    obtain ⟨ad',f1,f2⟩:=g7 p v' hv'
    rw [e1] at f1
    cases f1
    rw [e2] at f2
    rw [hv,hv',f2]
  · rw [List.getElem?_eq_none (by omega),List.getElem?_eq_none (by omega)]
theorem newList {A : Nat → Prop} {E : Env} {lk : Look} {w w' : World} {key : Nat} {len : SI} {sz : Nat} {rows : Nat → List AV} {g : Option Nat} (hU : RelU A E lk w) (hk : ∀ k, key ≤ k → k < key + 2 → ¬ A k)
    (n cap:Nat) (a:Option Addr) (f:List Nat) (hos:w'.os=w.os) (htape:w'.tape=w.tape) (hout:w'.output=w.output) (hsz:w.heap.size≤w'.heap.size)
    (hlen:(n:Int)=len.v) (hcap:n≤cap) (hf0:f=[]∨∃ b C ty,f=[b]∧w'.heap[b]? = some (.cells C ty (0,0)))
    (hrows:∀ E',Ae A E E'→0<cap→∃ B off,a=some ⟨B,off,none⟩∧f=[B]∧∃ C ty,w'.heap[B]? = some (.cells C ty (0,0))∧off+cap * sz≤C.size∧RowsAt E' (fun o=>C[o]?) off sz n rows)
    (hown:∀ b∈f,(∃ g',g=some g'∧lk g'=some .tok∧b∈E.fp g')∨w.heap.size≤b)
    (hheap:∀ b,b<w.heap.size→b ∉ f→w'.heap[b]? = w.heap[b]?) (hgA:∀ g',g=some g'→A g') :
    Done A E lk w (plus A key) (.sl (key+1)) (hupd lk ((key+1,some (.lst len sz rows (some key)))::(key,some .tok)::killG g)) (.ok (.value (.slice a n cap)) w'):=by
  have hnk:¬ A key:=hk key (Nat.le_refl _) (by omega)
  have hnk1:¬ A (key+1):=hk (key+1) (by omega) (by omega)
  have hne:key≠key+1:=by omega
  let E1:=(E.put key 0 (none,0,0) f).put (key+1) 0 (a,n,cap) []
  have hE:Ae A E E1:=fun j hj=>by
    have j1:j≠key:=fun e=>hnk (e ▸ hj)
    have j2:j≠key+1:=fun e=>hnk1 (e ▸ hj)
    simp [E1,Env.put,j1,j2]
  have in0:plus A key key:=.inr ⟨Nat.le_refl _,by omega⟩
  have in1:plus A key (key+1):=.inr ⟨by omega,by omega⟩
  have fp0:∀ {E'},Ae (plus A key) E1 E'→E'.fp key=f:=fun h'=>by
    rw [(h' key in0).2.2]; simp [E1,Env.put,hne]
  have hd1:∀ {E'},Ae (plus A key) E1 E'→E'.hdr (key+1)=(a,n,cap):=fun h'=>by
    rw [(h' (key+1) in1).2.1]; simp [E1,Env.put]
  have lkN : ∀ j, hupd lk ((key + 1, some (.lst len sz rows (some key))) :: (key, some .tok) :: killG g) j =
      if j=key+1 then some (.lst len sz rows (some key)) else if j=key then some .tok else if g=some j then none else lk j:=by
    intro j
    by_cases h1:j=key+1
    · subst h1; simp [hupd,wget]
    · by_cases h2:j=key
      · subst h2; simp [hupd,wget,beq_ne (Ne.symm h1)]
      · cases g with
        | none=>simp [hupd,wget,beq_ne (Ne.symm h1),beq_ne (Ne.symm h2),h1,h2,killG]
        | some g' =>
          by_cases h3:j=g'
          · subst h3; simp [hupd,wget,beq_ne (Ne.symm h1),beq_ne (Ne.symm h2),h1,h2,killG]
          · simp [hupd,wget,beq_ne (Ne.symm h1),beq_ne (Ne.symm h2),h1,h2,killG,beq_ne (Ne.symm h3),Ne.symm h3]
  refine ⟨_,_,E1,.slice a n cap,rfl,rfl,fun E' h'=>?_,?_⟩
  · simp only [den,hd1 h']
  refine RelU.step (fun j=>j=key∨j=key+1) hU (fun _ h=>.inl h) hE hos htape hout hsz ?_ ?_ ?_ ?_ ?_ ?_ ?_ ?_ ?_ ?_
  · intro j o ho hn
    rw [lkN,if_neg (fun e=>hn (.inr e)),if_neg (fun e=>hn (.inl e))] at ho
    split at ho
    · cases ho
    · exact ho
  · intro j o _ hn
    rcases hn with rfl | rfl
    · exact in0
    · exact in1
  · intro j o' g' ho hg hn
    rcases hn with rfl | rfl
    · rw [lkN,if_neg hne,if_pos rfl] at ho; cases ho; cases hg
    · rw [lkN,if_pos rfl] at ho; cases ho; cases hg; exact in0
  · intro E' h' j o ho hn
    rcases hn with rfl | rfl
    · rw [lkN,if_neg hne,if_pos rfl] at ho
      cases ho
      show ∀ b∈E'.fp j,b<w'.heap.size
      rw [fp0 h']
      intro b hb
      rcases hf0 with e | ⟨b',C,ty,e,e2⟩
      · rw [e] at hb; cases hb
      · rw [e,List.mem_singleton] at hb
        subst hb
        exact lt_of_get e2
    · rw [lkN,if_pos rfl] at ho
      cases ho
      have hh:=hd1 h'
      refine ⟨by rw [hh]; exact hlen,by rw [hh]; exact hcap,fun hp=>?_⟩
      rw [hh] at hp ⊢
      obtain ⟨B,off,e1,e2,C,ty,e3,e4,e5⟩:=hrows E' (hE.trans h' fun _ h=>.inl h) hp
      exact ⟨B,off,e1,lt_of_get e3,fun _=>⟨by rw [fp0 h',e2],C,ty,e3,e4,e5⟩⟩
  · intro E' h' j o b ho hn hb
    rcases hn with rfl | rfl
    · rw [lkN,if_neg hne,if_pos rfl] at ho
      cases ho
      have hb:b∈f:=by
        have:b∈E'.fp j:=hb
        rwa [fp0 h'] at this
      rcases hown b hb with ⟨g',e1,e2,e3⟩ | h1
      · refine .inl ⟨g',.tok,e2,.inr ?_,?_⟩
        · have g1:g'≠j:=fun e=>hnk (e ▸ hgA g' e1)
          have g2:g'≠j+1:=fun e=>hnk1 (e ▸ hgA g' e1)
          rw [lkN,if_neg g2,if_neg g1,if_pos e1]
        · show b∈E'.fp g'
          rw [((hE.trans h' fun _ h=>.inl h) g' (hgA g' e1)).2.2]
          exact e3
      · exact .inr h1
    · rw [lkN,if_pos rfl] at ho
      cases ho
      exact hb.elim
  · intro E' h' j o j' o' b ho ho' hn hn' hne' hb hb'
    rcases hn with rfl | rfl <;> rcases hn' with rfl | rfl
    · exact hne' rfl
    · rw [lkN,if_pos rfl] at ho'; cases ho'; exact hb'
    · rw [lkN,if_pos rfl] at ho; cases ho; exact hb
    · exact hne' rfl
  · intro b hb hn
    refine hheap b hb fun hbf=>?_
    rcases hown b hbf with ⟨g',e1,e2,e3⟩ | h1
    · refine hn g' .tok e2 (.inr ?_) e3
      have g1:g'≠key:=fun e=>hnk (e ▸ hgA g' e1)
      have g2:g'≠key+1:=fun e=>hnk1 (e ▸ hgA g' e1)
      rw [lkN,if_neg g2,if_neg g1,if_pos e1]
    · omega
  · intro j o' g' ho hog hn
    have:=hU.grp j o' g' ho hog
    rcases hn with rfl | rfl
    · exact absurd this hnk
    · exact absurd this hnk1
  · intro E' h' j len' sz' rows' a' ho hn
    rcases hn with rfl | rfl
    · rw [lkN,if_neg hne,if_pos rfl] at ho; cases ho
    · rw [lkN,if_pos rfl] at ho; cases ho
  · intro j hn hA
    rcases hn with rfl | rfl
    · exact absurd hA hnk
    · exact absurd hA hnk1
theorem append_room_run {t u ty elem e2 : TypeId} {i : TypeInfo} (hu : P.underlying t = some (.slice elem)) (hu2 : P.underlying u = some (.slice e2)) (hi : P.info? elem = some i) {w : World}
    (B off n cap:Nat) (cur:Array Value) (ety:TypeId) (hg:w.heap[B]? = some (.cells cur ety (0,0))) (b:Option Addr) (m c:Nat) (news:List Value)
    (hf:(Builtin.firstCells i.size m (.slice b m c)).run P w = .ok news.toArray w) (h1:∀ v∈news,v.oneCell'=true) (hroom:n+m≤cap) (hfit:off+n * i.size+news.length≤cur.size) :
    (Builtin.append_ #[t,u] ty #[.slice (some ⟨B,off,none⟩) n cap,.slice b m c]).run P w =
      .ok (.slice (some ⟨B,off,none⟩) (n+m) cap) (w.setRow B (cur.toList.take (off+n * i.size)++news++cur.toList.drop (off+n * i.size+news.length)).toArray):=by
  have hst:=run_storeCells_at P B (off+n * i.size) ety news 0 cur w hg (by simpa using hfit) h1
  simp only [Nat.add_zero] at hst
  simp [Builtin.append_,run_underlying hu,run_underlying hu2,sizeOf,typeInfo,hi,Builtin.lenOf,hroom,hf,Addr.add_lit,hst]
theorem append_void_run {t u ty elem e2 : TypeId} {i : TypeInfo} (hu : P.underlying t = some (.slice elem)) (hu2 : P.underlying u = some (.slice e2)) (hi : P.info? elem = some i) {w : World}
    (a b:Option Addr) (cap c:Nat) (hf:(Builtin.firstCells i.size 0 (.slice b 0 c)).run P w = .ok #[] w) :
    (Builtin.append_ #[t,u] ty #[.slice a 0 cap,.slice b 0 c]).run P w = .ok (.slice a 0 cap) w:=by
  cases a <;> simp [Builtin.append_,run_underlying hu,run_underlying hu2,sizeOf,typeInfo,hi,Builtin.lenOf,hf,storeCells]
theorem append_grow_run {t u ty elem e2 : TypeId} {i : TypeInfo} {z : Value} (hu : P.underlying t = some (.slice elem)) (hu2 : P.underlying u = some (.slice e2)) (hi : P.info? elem = some i) (hz : i.zero = some z) {w : World}
    (a b:Option Addr) (n cap m c:Nat) (olds news:List Value) (hfo:(Builtin.firstCells i.size n (.slice a n cap)).run P w.drew = .ok olds.toArray w.drew)
    (hf:(Builtin.firstCells i.size m (.slice b m c)).run P w.drew = .ok news.toArray w.drew) (hg:cap<n+m) (h63:((n+m:Nat):Int)≤9223372036854775807) (hfit:Builtin.nextslicecap (n+m) cap * i.bytes≤281474976710656) :
    (Builtin.append_ #[t,u] ty #[.slice a n cap,.slice b m c]).run P w =
      .ok (.slice (some ⟨w.heap.size,0,none⟩) (n+m) (grownCap w (n+m) cap elem)) (w.drew.alloc (.cells (olds.toArray++news.toArray++Builtin.zeroCells z.cells (grownCap w (n+m) cap elem - (n+m))) elem)):=by
  have hn:¬ (n+m≤cap):=by omega
  have h63':¬ (9223372036854775807<((n:Int)+(m:Int))):=by omega
  have h48':¬ (281474976710656<Builtin.nextslicecap (n+m) cap * i.bytes):=by omega
  simp [Builtin.append_,run_underlying hu,run_underlying hu2,sizeOf,typeInfo,zeroValue,hi,hz,Builtin.lenOf,hn,h63',h48',Question.forced,hf,hfo,newRow,grownCap]
  congr 2
  apply Array.ext'
  simp [List.append_assoc]
end
end Go.Eng
set_option linter.unusedSimpArgs false
set_option linter.unusedVariables false
namespace Go.Eng
section
variable {P:Program}
theorem oneCells {E:Env} {n:Nat} {rows:Nat→List AV} (h:∀ i,i<n→Ap (rows i)=true):∀ v∈BO E n rows,v.oneCell'=true:=by
  intro v hv
  simp only [BO,List.mem_flatMap,List.mem_range] at hv
  obtain ⟨i,hi,hv⟩:=hv
  rw [denL_map] at hv
  obtain ⟨y,hy,rfl⟩:=List.mem_map.1 hv
  exact den_scalar E ((allScalar_iff _).1 (h i hi) y hy)
theorem ofV_size (v:Value):(ofV v).cells.length=v.cells.size:=by
  unfold ofV
  split
  · simp [AV.cells,Value.cells]
  · rename_i h
    have h1:v.cells.size=1:=by
      cases v <;> first | rfl | exact absurd rfl (h _)
    rw [h1]
    unfold ofV0
    split <;> rfl
theorem appendA_sound {t u ty e2 : TypeId} {x y v : AV} {h : Aq} {key : Nat} {R : List Nat} {W : Aq} (hs : (appendA P t x y h key).sel = some (.val v R W)) (hu2 : P.underlying u = some (.slice e2))
    {A:Nat→Prop} {E:Env} {lk:Look} {w:World} (hU:RelU A E lk w) (hk:∀ k,key≤k→k<key+2→¬ A k) (hR:∀ k∈R,lk k=hget k h) (X Y:Value)
    (hX:∀ E',Ae A E E'→X=den E' x) (hY:∀ E',Ae A E E'→Y=den E' y) :
    Done A E lk w (plus A key) v (hupd lk W) ((do Pure.pure (Next.value (← Builtin.append_ #[t,u] ty #[X,Y])):Sem Next).run P w):=by
  unfold appendA at hs
  split at hs
  · rename_i elem hu
    split at hs
    · rename_i n0 by0 z hn hby hz
      split at hs
      · rename_i a c g h1 h2 h3 h4
        have h1:=Nat.eq_of_beq_eq_true h1
        simp only [Lst.with_eq] at hs
        obtain ⟨hsm,hs⟩:=need_sel hs
        obtain ⟨rfl,rfl,rfl⟩:=Au hs
        obtain ⟨i,hi,hisz⟩:=tsize_info hn
        have hby':i.bytes=by0:=by unfold tbytes at hby; rw [hi] at hby; simpa using hby
        obtain ⟨i',zv,hi',hzv,hzz⟩:=tzero_info hz
        rw [hi] at hi'
        cases hi'
        have hr0:=hU.here
        have hRa:∀ k∈a.R,lk k=hget k h:=fun k hk=>hR k (by simp [hk])
        have hRc:∀ k∈c.R,lk k=hget k h:=fun k hk=>hR k (by simp [hk])
        obtain ⟨ax,n,cap,x1,x2,x3,x4,x5,x6,x7⟩:=readL_sound h2 hr0 hRa
        obtain ⟨ay,m,capy,y1,y2,y3,y4,y5,y6,y7⟩:=readL_sound h3 hr0 hRc
        have hX0:=hX E (Ae.refl A E)
        have hY0:=hY E (Ae.refl A E)
        rw [x1] at hX0
        rw [y1] at hY0
        have hlen:((n+m:Nat):Int)=(addL a.len c.len).v:=by rw [addL,SI.bin_v]; omega
        have hnn:a.len.v.toNat=n:=by omega
        have hbound:(n+m) * i.bytes≤1099511627776∧n+m≤1099511627776:=by
          rw [smallB,SI.cmp_v] at hsm
          have:=of_decide_eq_true hsm
          rw [← hlen,hby'.symm] at this
          exact ⟨by have h9:=this.1; rw [← Int.natCast_mul] at h9; omega,by omega⟩
        have lx:=flatRows_length E (n0+1) a.rows n x5
        have ly:=flatRows_length E (n0+1) c.rows m y5
        have rowsLen:∀ j,j<n+m→(AP a.len a.rows c.rows j).length=n0+1∧Ap (AP a.len a.rows c.rows j)=true:=by
          intro j hj
          unfold AP
          rw [hnn]
          cases hb:Nat.blt j n with
          | true=>have:=Nat.le_of_ble_eq_true hb; exact ⟨x5 j (by omega),x6 j (by omega)⟩
          | false =>
            have hge:n≤j:=by
              cases Nat.lt_or_ge j n with
              | inl hlt=>have:Nat.blt j n=true:=Nat.ble_eq_true_of_le hlt; rw [this] at hb; cases hb
              | inr h=>exact h
            exact ⟨y5 (j - n) (by omega),y6 (j - n) (by omega)⟩
        have flat:∀ E',Ae A E E'→BO E' (n+m) (AP a.len a.rows c.rows)=BO E n a.rows++BO E m c.rows:=by
          intro E' h'
          rw [flatRows_cat E' a.len n hnn]
          rw [flat_same h2 hr0 (hU.rel E' h') hRa (by rw [← hX E (Ae.refl A E),← hX E' h']) x2,flat_same h3 hr0 (hU.rel E' h') hRc (by rw [← hY E (Ae.refl A E),← hY E' h']) y2]
        have hgrp:(∀ g',g=some g'→A g')∧(0<cap→∃ g' B off C ety,g=some g'∧lk g'=some .tok∧ax=some ⟨B,off,none⟩∧E.fp g'=[B]∧w.heap[B]? = some (.cells C ety (0,0))∧off+cap * (n0+1)≤C.size):=by
          unfold grpOf at h4
          split at h4
          · cases h4
            have:cap=0:=by simp only [den] at x1; cases x1; rfl
            exact ⟨fun _ e=>(by cases e),fun hp=>absurd hp (by omega)⟩
          · rename_i k
            split at h4
            · rename_i len sz rows g' hkk
              cases h4
              have hRk:k∈a.R∧g'∈a.R:=by
                unfold readL at h2
                simp only [readK] at h2
                rw [hkk] at h2
                simp only at h2
                split at h2
                · cases h2; simp [keysG]
                · cases h2
              have hlk:=(hRa k hRk.1).trans hkk
              refine ⟨fun g'' e=>(by cases e; exact hU.grp k _ g' hlk rfl),fun hp=>?_⟩
              have hsz:n0+1=sz∧liveG h (some g')=true:=by
                unfold readL at h2
                simp only [readK] at h2
                rw [hkk] at h2
                simp only at h2
                split at h2
                · rename_i h5 h6
                  exact ⟨Nat.eq_of_beq_eq_true h5,h6⟩
                · cases h2
              have htok:=(hRa g' hRk.2).trans (liveG_spec hsz.2 g' rfl)
              simp only [den] at x1
              injection x1 with e1 e2 e3
              obtain ⟨_,_,hc⟩:=hr0.obj k _ hlk
              obtain ⟨B,off,f1,f2,f3⟩:=hc (by omega)
              obtain ⟨f4,C,ety,f5,f6,_⟩:=f3 htok
              exact ⟨g',B,off,C,ety,rfl,htok,by rw [← e1,f1],f4,f5,by rw [← e3,hsz.1]; exact f6⟩
            · cases h4
          · cases h4
        have first0:=fun (W:World) (hW:∀ a,W.cell? a=w.cell? a)=>first_run (P:=P) (sz:=n0+1) (w:=W) lx x4 x3 (fun p v hp=>by
          obtain ⟨ad,e1,e2⟩:=x7 p v hp
          exact ⟨ad,e1,by rw [hW]; exact e2⟩)
        have first1:=fun (W:World) (hW:∀ a,W.cell? a=w.cell? a)=>first_run (P:=P) (sz:=n0+1) (w:=W) ly y4 y3 (fun p v hp=>by
          obtain ⟨ad,e1,e2⟩:=y7 p v hp
          exact ⟨ad,e1,by rw [hW]; exact e2⟩)
        rw [hX0,hY0]
        by_cases hroom:n+m≤cap
        · by_cases hcap:0<cap
          ·
            obtain ⟨g',B,off,C,ety,rfl,htok,rfl,hfp,hC,hfit⟩:=hgrp.2 hcap
            have hfit':off+n * (n0+1)+(BO E m c.rows).length≤C.size:=by
              rw [ly]
              have:=Nat.mul_le_mul_right (n0+1) hroom
              rw [Nat.add_mul] at this
              omega
            have hrun:=append_room_run (P:=P) (ty:=ty) hu hu2 hi B off n cap C ety hC ay m capy (BO E m c.rows) (by rw [hisz]; exact first1 w (fun _=>rfl)) (oneCells y6) hroom (by rw [hisz]; exact hfit')
            rw [vrun hrun,hisz]
            have hsh:=setRow_heap w B C ((C.toList.take (off+n * (n0+1))++BO E m c.rows++C.toList.drop (off+n * (n0+1)+(BO E m c.rows).length)).toArray) ety _ hC
            refine newList (g:=some g') hU hk (n+m) cap _ [B] rfl rfl rfl (by simp [World.setRow]) hlen hroom (.inr ⟨B,_,ety,rfl,hsh⟩) (fun E' h' _=>?_) (fun b hb=>?_) (fun b hb hn=>?_) hgrp.1
            · refine ⟨B,off,rfl,rfl,_,ety,hsh,?_,rowsAt_of_flat (fun j hj=>(rowsLen j hj).1) (fun j hj=>(rowsLen j hj).2) fun p hp=>?_⟩
              · simp only [List.size_toArray,List.length_append,List.length_take,List.length_drop,Array.length_toList]
                omega
              · rw [flat E' h']
                rw [Nat.add_mul] at hp
                simp only [List.getElem?_toArray]
                by_cases hpn:p<n * (n0+1)
                · rw [List.append_assoc,List.getElem?_append_left (by simp only [List.length_take,Array.length_toList]; omega),List.getElem?_append_left (by omega),List.getElem?_take,if_pos (by omega)]
                  obtain ⟨v,hv⟩:∃ v,(BO E n a.rows)[p]? = some v:=⟨_,List.getElem?_eq_getElem (by omega)⟩
                  obtain ⟨ad,e1,e2⟩:=x7 p v hv
                  cases e1
                  rw [Addr.add_lit,cell_of_row w B _ C ety _ hC] at e2
                  rw [hv,← e2]
                  simp
                · rw [List.append_assoc,List.getElem?_append_right (by simp only [List.length_take,Array.length_toList]; omega),List.getElem?_append_left (by simp only [List.length_take,Array.length_toList]; omega),List.getElem?_append_right (by omega)]
                  congr 1
                  simp only [List.length_take,Array.length_toList]
                  omega
            · rw [List.mem_singleton] at hb
              subst hb
              exact .inl ⟨g',rfl,htok,by simp [hfp]⟩
            · exact setRow_other w B b _ (by simpa using hn)
          ·
            have hn0:n=0:=by omega
            have hm0:m=0:=by omega
            subst hn0; subst hm0
            have hnil:BO E 0 c.rows=[]:=by simp [BO]
            have hrun:=append_void_run (P:=P) (ty:=ty) hu hu2 hi ax ay cap capy (by rw [hisz]; have:=first1 w (fun _=>rfl); rw [hnil] at this; exact this)
            rw [vrun hrun]
            exact newList hU hk 0 cap _ [] rfl rfl rfl (Nat.le_refl _) hlen (by omega) (.inl rfl) (fun E' h' hp=>absurd hp hcap) (fun b hb=>by cases hb) (fun _ _ _=>rfl) hgrp.1
        ·
          have hrun:=append_grow_run (P:=P) (ty:=ty) hu hu2 hi hzv ax ay n cap m capy (BO E n a.rows) (BO E m c.rows) (by rw [hisz]; exact first0 w.drew (fun _=>rfl)) (by rw [hisz]; exact first1 w.drew (fun _=>rfl)) (by omega) (by omega) (growslice_fits (by omega) (by omega))
          rw [vrun hrun]
          have hge:=grownCap_ge w (n+m) cap elem
          refine newList hU hk (n+m) _ _ [w.heap.size] rfl rfl rfl (by simp [World.alloc]) hlen hge (.inr ⟨w.heap.size,_,elem,rfl,heap_alloc_new w.drew _⟩) (fun E' h' _=>?_) (fun b hb=>?_) (fun b hb _=>?_) hgrp.1
          · refine ⟨w.heap.size,0,rfl,rfl,_,elem,heap_alloc_new w.drew _,?_,rowsAt_of_flat (fun j hj=>(rowsLen j hj).1) (fun j hj=>(rowsLen j hj).2) fun p hp=>?_⟩
            · have hzs : zv.cells.size = n0 + 1 := by
                rw [← ofV_size,← hzz]; exact h1
              simp only [Array.size_append,List.size_toArray,lx,ly,size_zeroCells,hzs]
              have:=Nat.mul_le_mul_right (n0+1) hge
              rw [Nat.sub_mul,Nat.zero_add,← Nat.add_mul]
              omega
            · rw [flat E' h']
              rw [Nat.add_mul] at hp
              rw [Nat.zero_add,Array.getElem?_append_left (by simp; omega)]
              simp
          · rw [List.mem_singleton] at hb
            exact .inr (by omega)
          · show (w.drew.heap.push _)[b]? = _
            rw [Array.getElem?_push,if_neg (by show b≠w.heap.size; omega)]
            rfl
      · cases hs
    · cases hs
  · cases hs
theorem newAlias {A : Nat → Prop} {E : Env} {lk : Look} {w : World} {key k : Nat} {len : SI} {sz : Nat} {rows : Nat → List AV} {g : Option Nat} (hU : RelU A E lk w) (hk : ∀ k, key ≤ k → k < key + 2 → ¬ A k)
    (hl:lk k=some (.lst len sz rows g)) (l m:SI) (l' m' cap:Nat) (hl0:(l':Int)=l.v) (hm0:(m':Int)=m.v) (hlm:l'≤m') (hmn:m'≤(E.hdr k).2.1) (hcap:(E.hdr k).2.2=cap) :
    Done A E lk w (plus A key) (.sl key) (hupd lk [(key,some (.lst (subL m l) sz (Aw l rows) g)),(key+1,some (.als k l m sz key))])
      (.ok (.value (.slice (if cap=l' then (E.hdr k).1 else (E.hdr k).1.map (·.add (l' * sz))) (m' - l') (cap - l'))) w):=by
  have hnk:¬ A key:=hk key (Nat.le_refl _) (by omega)
  have hAk:=hU.dom k _ hl
  let hd:Option Addr×Nat×Nat:=(if cap=l' then (E.hdr k).1 else (E.hdr k).1.map (·.add (l' * sz)),m' - l',cap - l')
  have hE:Ae A E (E.put key 0 hd []):=E.put_agree hnk _ _ _
  have in0:plus A key key:=.inr ⟨Nat.le_refl _,by omega⟩
  have hd1:∀ {E'},Ae (plus A key) (E.put key 0 hd []) E'→E'.hdr key=hd:=fun h'=>by
    rw [(h' key in0).2.1]; simp [Env.put]
  have hdk:∀ {E'},Ae (plus A key) (E.put key 0 hd []) E'→E'.hdr k=E.hdr k:=fun h'=>((hE.trans h' fun _ h=>.inl h) k hAk).2.1
  have lkN : ∀ j, hupd lk [(key, some (.lst (subL m l) sz (Aw l rows) g)), (key + 1, some (.als k l m sz key))] j =
      if j=key then some (.lst (subL m l) sz (Aw l rows) g) else if j=key+1 then some (.als k l m sz key) else lk j:=by
    intro j
    by_cases h1:j=key
    · subst h1; simp [hupd,wget]
    · by_cases h2:j=key+1
      · subst h2; simp [hupd,wget,beq_ne (Ne.symm h1)]
      · simp [hupd,wget,beq_ne (Ne.symm h1),beq_ne (Ne.symm h2),h1,h2]
  have in1:plus A key (key+1):=.inr ⟨by omega,by omega⟩
  have hle:l'≤cap:=by
    have:=(hU.here.obj k _ hl).2.1
    omega
  refine ⟨_,_,E.put key 0 hd [],.slice hd.1 hd.2.1 hd.2.2,rfl,rfl,fun E' h'=>?_,?_⟩
  · simp only [den,hd1 h']
  refine RelU.step (fun j=>j=key∨j=key+1) hU (fun _ h=>.inl h) hE rfl rfl rfl (Nat.le_refl _) ?_ ?_ ?_ ?_ ?_ ?_ ?_ ?_ ?_ ?_
  · intro j o ho hn; rw [lkN,if_neg (fun e=>hn (.inl e)),if_neg (fun e=>hn (.inr e))] at ho; exact ho
  · intro j o ho hn
    rcases hn with rfl | rfl
    · exact in0
    · exact in1
  · intro j o' g1 ho hog hn
    rcases hn with rfl | rfl
    · rw [lkN,if_pos rfl] at ho
      cases ho
      exact .inl (hU.grp k _ g1 hl hog)
    · rw [lkN,if_neg (by omega),if_pos rfl] at ho
      cases ho
      cases hog
  · intro E' h' j o ho hn
    rcases hn with rfl | rfl
    · rw [lkN,if_pos rfl] at ho
      cases ho
      have hr:=(hU.rel E' (hE.trans h' fun _ h=>.inl h)).obj k _ hl
      obtain ⟨a1,a2,a3⟩:=hr
      rw [hdk h'] at a1 a2 a3
      rw [hcap] at a2 a3
      refine ⟨?_,?_,fun hp=>?_⟩
      · rw [hd1 h',subL,SI.bin_v]; show ((m' - l':Nat):Int)=_; omega
      · rw [hd1 h']; show m' - l'≤cap - l'; omega
      · rw [hd1 h'] at hp ⊢
        have hp:0<cap - l':=hp
        obtain ⟨B,off,e,hB,hrows⟩:=a3 (by omega)
        refine ⟨B,off+l' * sz,?_,hB,?_⟩
        · show (if cap=l' then (E.hdr k).1 else (E.hdr k).1.map (·.add (l' * sz)))=_
          rw [if_neg (by omega),e]
          simp [Addr.add_lit]
        · have hlv:l.v.toNat=l':=by omega
          cases g with
          | none =>
            show RowsAt E' _ (off+l' * sz) sz (m' - l') (Aw l rows)
            intro i hi
            obtain ⟨b1,b2,b3⟩:=hrows (l'+i) (by omega)
            simp only [Aw,hlv]
            refine ⟨b1,b2,fun j hj=>?_⟩
            rw [← b3 j hj,show off+l' * sz+(i * sz+j)=off+((l'+i) * sz+j) by rw [Nat.add_mul]; omega]
          | some g =>
            intro ht
            have hgk:g≠j:=fun e=>hnk (e ▸ hU.grp k _ g hl rfl)
            have hgk1:g≠j+1:=fun e=>hk (j+1) (by omega) (by omega) (e ▸ hU.grp k _ g hl rfl)
            have hg:lk g=some .tok:=by
              rw [lkN,if_neg hgk,if_neg hgk1] at ht; exact ht
            obtain ⟨b1,C,ty,b2,b3,b4⟩:=hrows hg
            refine ⟨b1,C,ty,b2,?_,?_⟩
            · show off+l' * sz+(cap - l') * sz≤C.size
              rw [Nat.add_assoc,← Nat.add_mul,Nat.add_sub_cancel' hle]
              exact b3
            · show RowsAt E' _ (off+l' * sz) sz (m' - l') (Aw l rows)
              intro i hi
              obtain ⟨c1,c2,c3⟩:=b4 (l'+i) (by omega)
              simp only [Aw,hlv]
              refine ⟨c1,c2,fun j hj=>?_⟩
              rw [← c3 j hj,show off+l' * sz+(i * sz+j)=off+((l'+i) * sz+j) by rw [Nat.add_mul]; omega]
    · rw [lkN,if_neg (by omega),if_pos rfl] at ho
      cases ho
      show 0≤l.v∧l.v≤m.v∧m.v≤(((E'.hdr k).2.1:Nat):Int)∧(E'.hdr k).2.1≤(E'.hdr k).2.2∧_
      rw [hd1 h',hdk h',hcap]
      have hlv:l.v.toNat=l':=by omega
      have hmv:m.v.toNat=m':=by omega
      rw [hlv,hmv]
      exact ⟨by omega,by omega,by omega,by have:=(hU.here.obj k _ hl).2.1; omega,rfl⟩
  · intro E' h' j o b ho hn hb
    rcases hn with rfl | rfl
    · rw [lkN,if_pos rfl] at ho
      cases ho
      exact hb.elim
    · rw [lkN,if_neg (by omega),if_pos rfl] at ho
      cases ho
      exact hb.elim
  · intro E' h' j o j' o' b ho _ hn hn' hne hb
    rcases hn with rfl | rfl
    · rw [lkN,if_pos rfl] at ho
      cases ho
      exact hb.elim
    · rw [lkN,if_neg (by omega),if_pos rfl] at ho
      cases ho
      exact hb.elim
  · intro b hb _; rfl
  · intro j o' g1 ho hog hn
    rcases hn with rfl | rfl
    · exact absurd (hU.grp j o' g1 ho hog) hnk
    · exact absurd (hU.grp j o' _ ho hog) (hk _ (by omega) (by omega))
  · intro E' h' j len' sz' rows' a ho hn hc ha
    rcases hn with rfl | rfl
    · rw [lkN,if_pos rfl] at ho
      injection ho with ho
      injection ho with _ _ _ ho
      subst ho
      rw [hd1 h'] at hc ha
      have hc:0<cap - l':=hc
      have ha:(if cap=l' then (E.hdr k).1 else (E.hdr k).1.map (·.add (l' * sz)))=some a:=ha
      rw [if_neg (by omega)] at ha
      have hr:=(hU.rel E' (hE.trans h' fun _ h=>.inl h)).obj k _ hl
      obtain ⟨_,_,a3⟩:=hr
      rw [hdk h'] at a3
      rw [hcap] at a3
      obtain ⟨B,off,e,hB,_⟩:=a3 (by omega)
      rw [e] at ha
      simp only [Option.map_some,Addr.add_lit,Option.some.injEq] at ha
      refine ⟨k,len,sz,rows,⟨B,off,none⟩,hl,by rw [hdk h',hcap]; omega,by rw [hdk h',e],by rw [← ha]⟩
    · rw [lkN,if_neg (by omega),if_pos rfl] at ho
      cases ho
  · intro j hn hA
    rcases hn with rfl | rfl
    · exact absurd hA hnk
    · exact absurd hA (hk _ (by omega) (by omega))
theorem zeroCells_get {z:Array Value} {n i j:Nat} (hi:i<n) (hj:j<z.size):(Builtin.zeroCells z n)[i * z.size+j]? = z[j]?:=by
  have h1:i * z.size+j<n * z.size:=by
    have:=Nat.mul_le_mul_right z.size (show i+1≤n by omega)
    rw [Nat.add_mul] at this
    omega
  unfold Builtin.zeroCells
  rw [Array.getElem?_map,Array.getElem?_range,if_pos h1]
  simp only [Option.map_some]
  rw [Nat.mul_comm,Nat.mul_add_mod,Nat.mod_eq_of_lt hj,getElem!_pos z j hj,Array.getElem?_eq_getElem hj]
theorem clrRows_at {E : Env} {off sz n : Nat} {C : Array Value} {rows : Nat → List AV} {zc : List AV} {vs : List Value} {lo hi : SI} (hr : RowsAt E (fun o => C[o]?) off sz n rows) (hlm : lo.v.toNat ≤ hi.v.toNat) (hmn : hi.v.toNat ≤ n)
    (hz:zc.length=sz) (hs:Ap zc=true) (hC:off+n * sz≤C.size) (hvl:vs.length=(hi.v.toNat - lo.v.toNat) * sz) (hv:∀ i j,i<hi.v.toNat - lo.v.toNat→j<sz→vs[i * sz+j]? = (zc[j]?).map (den E)) :
    RowsAt E (fun o=>(C.toList.take (off+lo.v.toNat * sz)++vs++C.toList.drop (off+lo.v.toNat * sz+vs.length)).toArray[o]?) off sz n (clrRows lo hi zc rows):=by
  generalize hl:lo.v.toNat=l at *
  generalize hm:hi.v.toNat=m at *
  intro i hi'
  obtain ⟨r1,r2,r3⟩:=hr i hi'
  have hmul:l * sz+(m - l) * sz=m * sz:=by rw [← Nat.add_mul]; congr 1; omega
  have hle:m * sz≤n * sz:=Nat.mul_le_mul_right sz hmn
  have hb:off+l * sz+vs.length≤C.toList.length:=by simp only [Array.length_toList]; omega
  by_cases h1:l≤i∧i<m
  · have hc : clrRows lo hi zc rows i = zc := by
      unfold clrRows
      rw [hl,hm,show (Nat.ble l i&&Nat.blt i m)=true from by simp [Nat.blt_eq,h1.1,h1.2]]
    rw [hc]
    refine ⟨hz,hs,fun j hj=>?_⟩
    dsimp only
    have e1:l * sz≤i * sz:=Nat.mul_le_mul_right sz h1.1
    have e2:=Nat.mul_le_mul_right sz (show i+1≤m by omega)
    rw [Nat.add_mul] at e2
    rw [List.getElem?_toArray,get_splice _ _ _ _ hb,if_neg (by omega),if_pos (by omega),← hv (i - l) j (by omega) hj]
    congr 1
    rw [Nat.sub_mul]
    omega
  · have hc : clrRows lo hi zc rows i = rows i := by
      unfold clrRows
      rw [hl,hm,show (Nat.ble l i&&Nat.blt i m)=false from by
        cases h2:Nat.ble l i with
        | false=>rfl
        | true =>
          cases h3:Nat.blt i m with
          | false=>rfl
          | true=>exact absurd ⟨Nat.le_of_ble_eq_true h2,Nat.le_of_ble_eq_true h3⟩ h1]
    rw [hc]
    refine ⟨r1,r2,fun j hj=>?_⟩
    have:=r3 j hj
    dsimp only at this ⊢
    rw [← this,List.getElem?_toArray,get_splice _ _ _ _ hb]
    by_cases h2:i<l
    · have e2:=Nat.mul_le_mul_right sz (show i+1≤l by omega)
      rw [Nat.add_mul] at e2
      rw [if_pos (by omega)]; simp
    · have e2:=Nat.mul_le_mul_right sz (show m≤i by omega)
      rw [if_neg (by omega),if_neg (by omega)]; simp
theorem clearA_sound {t ty : TypeId} {x v : AV} {h : Aq} {key : Nat} {R : List Nat} {W : Aq} (hs : (clearA P t x h key).sel = some (.val v R W))
    {A:Nat→Prop} {E:Env} {lk:Look} {w:World} (hU:RelU A E lk w) (hk:∀ k,key≤k→k<key+2→¬ A k) (hR:∀ k∈R,lk k=hget k h) (X:Value) (hX:∀ E',Ae A E E'→X=den E' x) :
    Done A E lk w (plus A key) v (hupd lk W) ((do Pure.pure (Next.value (← Builtin.clear_ #[t] ty #[X])):Sem Next).run P w):=by
  unfold clearA at hs
  split at hs
  · rename_i e j hu
    split at hs
    · rename_i b lo hi sz of hj
      split at hs
      · rename_i len sz' rows g n z hb hn hz
        split at hs
        · rename_i c1 c2 c3 c4
          simp only [Bool.and_eq_true] at c1
          have q1:=Nat.eq_of_beq_eq_true c1.1
          have q2:=Nat.eq_of_beq_eq_true c1.2.1
          have q3:=Nat.eq_of_beq_eq_true c1.2.2
          subst q1 q2 q3
          have c3:=Nat.eq_of_beq_eq_true c3
          obtain ⟨rfl,rfl,rfl⟩:=Au hs
          have hj':=(hR (of+1) (by simp)).trans hj
          have hb':=(hR b (by simp)).trans hb
          have ht:lk g=some .tok:=(hR g (by simp)).trans (liveG_spec c2 g rfl)
          obtain ⟨p1,p2,p3,p4,p5⟩:=hU.here.obj _ _ hj'
          obtain ⟨a1,a2,a3⟩:=hU.here.obj b _ hb'
          obtain ⟨i,zv,hi',hzv,hzz⟩:=tzero_info hz
          have hX0:=hX E (Ae.refl A E)
          simp only [den,p5] at hX0
          have hzc:∀ E':Env,(BM E' z.cells).toArray=zv.cells:=fun E'=>by
            rw [← den_cells E' c4,hzz,den_ofV]
          have hzs:zv.cells.size=sz':=by rw [← ofV_size,← hzz]; exact c3
          by_cases hlt:lo.v<hi.v
          · obtain ⟨B,o,e0,hB,hr⟩:=a3 (by omega)
            obtain ⟨d1,C,ety,d2,d3,d4⟩:=hr ht
            have hcap:(E.hdr b).2.2≠lo.v.toNat:=by omega
            rw [if_neg hcap,e0] at hX0
            simp only [Option.map_some,Addr.add_lit] at hX0
            have hne:∃ q,hi.v.toNat - lo.v.toNat=q+1:=⟨hi.v.toNat - lo.v.toNat - 1,by omega⟩
            obtain ⟨q,hq⟩:=hne
            have hle1:=Nat.mul_le_mul_right sz' a2
            have hle2:=Nat.mul_le_mul_right sz' (show hi.v.toNat≤(E.hdr b).2.1 by omega)
            have hmul:lo.v.toNat * sz'+(hi.v.toNat - lo.v.toNat) * sz'=hi.v.toNat * sz':=by rw [← Nat.add_mul]; congr 1; omega
            have hzl:(Builtin.zeroCells zv.cells (q+1)).toList.length=(hi.v.toNat - lo.v.toNat) * sz':=by
              rw [Array.length_toList,size_zeroCells,hzs,hq]
            have hst:=run_storeCells_at P B (o+lo.v.toNat * sz') ety (Builtin.zeroCells zv.cells (q+1)).toList 0 C w d2 (by omega) (by
              intro v hv
              have hv:=Array.mem_toList_iff.1 hv
              unfold Builtin.zeroCells at hv
              rw [Array.mem_map] at hv
              obtain ⟨k0,hk0,rfl⟩:=hv
              rw [Array.mem_range] at hk0
              have hpos:0<zv.cells.size:=by
                rcases Nat.eq_zero_or_pos zv.cells.size with h | h
                · rw [h] at hk0; omega
                · exact h
              have hmod:=Nat.mod_lt k0 hpos
              rw [getElem!_pos zv.cells (k0 % zv.cells.size) hmod]
              have hm:zv.cells[k0 % zv.cells.size]∈(BM E z.cells):=by
                have h3:zv.cells.toList=BM E z.cells:=by rw [← hzc E]
                rw [← h3]
                exact Array.mem_toList_iff.2 (Array.getElem_mem hmod)
              rw [denL_map] at hm
              obtain ⟨y,hy,e⟩:=List.mem_map.1 hm
              rw [← e]
              exact den_scalar E ((allScalar_iff _).1 c4 y hy))
            have hrun:(Builtin.clear_ #[t] ty #[X]).run P w = .ok (.tuple #[]) (w.setRow B (C.toList.take (o+lo.v.toNat * sz')++(Builtin.zeroCells zv.cells (q+1)).toList++C.toList.drop (o+lo.v.toNat * sz'+(Builtin.zeroCells zv.cells (q+1)).toList.length)).toArray):=by
              rw [hX0,hq]
              simp only [Nat.add_zero] at hst
              simp only [Builtin.clear_,Sem.run_bind,run_underlying hu,Result.andThen_ok,zero_run hz E,Sem.run_pure]
              simp only [List.getElem?_toArray,List.getElem?_cons_zero,Sem.run_bind,run_underlying hu,Result.andThen_ok,zero_run hz E,Sem.run_pure]
              rw [show (den E z).cells=zv.cells from by rw [hzz,den_ofV],hst]
              rfl
            rw [vrun hrun]
            refine putLst hU hk hb' ht rfl rfl rfl (by simp [World.setRow]) (fun c hc' hcf=>?_) (fun E' h' B' off' C2 ty2 q1 q2 q3 q4 q5=>?_) rfl (fun _=>rfl)
            · refine setRow_other w _ _ _ fun e'=>hcf ?_
              rw [d1,e']; simp
            · rw [e0] at q1
              cases q1
              rw [d2] at q3
              cases q3
              refine ⟨_,setRow_heap w B _ _ ety _ d2,?_,?_⟩
              · simp only [List.size_toArray,List.length_append,List.length_take,List.length_drop,Array.length_toList,hzl] at *
                omega
              · refine clrRows_at q5 (by omega) (by omega) c3 c4 (by omega) hzl fun i j hi0 hj0=>?_
                rw [hq] at hi0
                rw [Array.getElem?_toList,← hzs,zeroCells_get hi0 (by rw [hzs]; exact hj0),← hzc E']
                rw [List.getElem?_toArray,denL_get]
          · have he:hi.v.toNat - lo.v.toNat=0:=by omega
            have hrun:(Builtin.clear_ #[t] ty #[X]).run P w = .ok (.tuple #[]) w:=by
              rw [hX0,he]
              generalize (if (E.hdr b).2.2=lo.v.toNat then (E.hdr b).1 else Option.map (fun x=>x.add (lo.v.toNat * sz')) (E.hdr b).1)=ad
              cases ad <;> simp [Builtin.clear_,run_underlying hu]
            rw [vrun hrun]
            refine putLst hU hk hb' ht rfl rfl rfl (Nat.le_refl _) (fun c hc' hcf=>rfl) (fun E' h' B' off' C2 ty2 q1 q2 q3 q4 q5=>⟨C2,q3,rfl,?_⟩) rfl (fun _=>rfl)
            intro i' hi'
            have hc:clrRows lo hi z.cells rows i'=rows i':=by
              unfold clrRows
              cases h2:Nat.ble lo.v.toNat i' with
              | false=>rfl
              | true =>
                cases h3:Nat.blt i' hi.v.toNat with
                | false=>rfl
                | true =>
                  have:=Nat.le_of_ble_eq_true h2
                  have:=Nat.le_of_ble_eq_true h3
                  omega
            rw [hc]
            exact q5 i' hi'
        · cases hs
      · cases hs
    · cases hs
  · cases hs
theorem bounds_run {E : Env} {w : World} {lo hi : Option AV} {l m d : SI} (n cap : Nat) (hl : boundA (.lit 0) lo = some l) (hm : boundA d hi = some m) (hd : (n : Int) = d.v) (h0 : 0 ≤ l.v) (h1 : l.v ≤ m.v) (h2 : m.v ≤ (n : Int)) (hc : n ≤ cap) :
    (Instr.sliceBounds true n cap (lo.map (den E)) (hi.map (den E)) none).run P w = .ok (l.v.toNat,m.v.toNat,cap) w:=by
  have c1:0≤m.v∧m.v≤(cap:Int):=by omega
  have c2:0≤l.v∧l.v≤((m.v.toNat:Nat):Int):=by omega
  cases hi with
  | none =>
    simp only [boundA,Option.some.injEq] at hm
    subst hm
    have hn:d.v.toNat=n:=by omega
    rw [hn] at c2 ⊢
    cases lo with
    | none =>
      simp only [boundA,Option.some.injEq] at hl
      subst hl
      simp only [Instr.sliceBounds,Option.map_none,Sem.run_bind,Sem.run_pure,Result.andThen_ok,SI.v]
      rfl
    | some v =>
      cases v <;> simp only [boundA] at hl <;> try (cases hl; done)
      cases hl
      simp only [Instr.sliceBounds,Instr.sliceBound,asIntOf,den,Option.map_none,Option.map_some,Sem.run_bind,Sem.run_pure,Result.andThen_ok]
      rw [if_pos c2]
      rfl
  | some v =>
    cases v <;> simp only [boundA] at hm <;> try (cases hm; done)
    cases hm
    cases lo with
    | none =>
      simp only [boundA,Option.some.injEq] at hl
      subst hl
      simp only [Instr.sliceBounds,Instr.sliceBound,asIntOf,den,Option.map_none,Option.map_some,Sem.run_bind,Sem.run_pure,Result.andThen_ok]
      rw [if_pos c1]
      rfl
    | some v =>
      cases v <;> simp only [boundA] at hl <;> try (cases hl; done)
      cases hl
      simp only [Instr.sliceBounds,Instr.sliceBound,asIntOf,den,Option.map_none,Option.map_some,Sem.run_bind,Sem.run_pure,Result.andThen_ok]
      rw [if_pos c1]
      simp only [Sem.run_pure,Result.andThen_ok]
      rw [if_pos c2]
      rfl
theorem sliceA_sound {t : TypeId} {x v : AV} {lo hi : Option AV} {h : Aq} {key : Nat} {R : List Nat} {W : Aq} (hs : (sliceA P t x lo hi h key).sel = some (.val v R W))
    {A:Nat→Prop} {E:Env} {lk:Look} {w:World} (hU:RelU A E lk w) (hk:∀ k,key≤k→k<key+2→¬ A k) (hR:∀ k∈R,lk k=hget k h) (X:Value) (LO HI:Option Value)
    (hX:∀ E',Ae A E E'→X=den E' x) (hLO:∀ E',Ae A E E'→LO=lo.map (den E')) (hHI:∀ E',Ae A E E'→HI=hi.map (den E')) :
    Done A E lk w (plus A key) v (hupd lk W) ((do Pure.pure (Next.value (← Instr.sliceAt t X LO HI none)):Sem Next).run P w):=by
  unfold sliceA at hs
  rw [hX E (Ae.refl A E),hLO E (Ae.refl A E),hHI E (Ae.refl A E)]
  split at hs
  · rename_i elem hu
    split at hs
    · rename_i n k hn
      split at hs
      · rename_i len sz rows g hkk
        split at hs
        · rename_i l m h1 h2 h3
          simp only [Bool.and_eq_true] at h1
          have hnsz:=Nat.eq_of_beq_eq_true h1.1
          subst hnsz
          obtain ⟨c1,hs⟩:=need_sel hs
          obtain ⟨c2,hs⟩:=need_sel hs
          rw [SI.cmp_v] at c1 c2
          have c1:=of_decide_eq_true c1
          have c2:=of_decide_eq_true c2
          obtain ⟨rfl,rfl,rfl⟩:=Au hs
          have hl:=(hR k (by cases g <;> simp [keysG])).trans hkk
          obtain ⟨a1,a2,_⟩:=hU.here.obj k _ hl
          have hb:=bounds_run (P:=P) (E:=E) (w:=w) (E.hdr k).2.1 (E.hdr k).2.2 h2 h3 a1 c1.1 c1.2 (by omega) a2
          have hrun : (Instr.sliceAt t (den E (.sl k)) (lo.map (den E)) (hi.map (den E)) none).run P w =
              .ok (.slice (if (E.hdr k).2.2=l.v.toNat then (E.hdr k).1 else (E.hdr k).1.map (·.add (l.v.toNat * n))) (m.v.toNat - l.v.toNat) ((E.hdr k).2.2 - l.v.toNat)) w:=by
            simp only [Instr.sliceAt,Sem.run_bind,run_underlying hu,Result.andThen_ok,Instr.slice,den,hb,sizeOf_run hn,Sem.run_pure]
          rw [vrun hrun]
          exact newAlias hU hk hl l m l.v.toNat m.v.toNat _ (by omega) (by omega) (by omega) (by omega) rfl
        · cases hs
      · cases hs
    · rename_i n hn
      split at hs
      · rename_i h2 h3
        obtain ⟨rfl,rfl,rfl⟩:=Au hs
        have hb:∀ E':Env,(Instr.sliceAt t (den E' .nils) (lo.map (den E')) (hi.map (den E')) none).run P w = .ok (den E' .nils) w:=by
          intro E'
          have hb:=bounds_run (P:=P) (E:=E') (w:=w) (d:=.lit 0) 0 0 h2 h3 rfl (by simp [SI.v]) (by simp [SI.v]) (by simp [SI.v]) (Nat.le_refl _)
          simp only [Instr.sliceAt,Sem.run_bind,run_underlying hu,Result.andThen_ok,Instr.slice,den,hb,sizeOf_run hn,Sem.run_pure]
          simp [SI.v]
        rw [vrun (hb E)]
        exact Done.pure hU (fun E' h'=>rfl) rfl
      · cases hs
    · cases hs
  · cases hs
theorem sliceZA_sound {t : TypeId} {x v hi mx : AV} {lo : Option AV} {h : Aq} {key : Nat} {R : List Nat} {W : Aq} (hs : (sliceZA P t x lo hi mx h key).sel = some (.val v R W))
    {A:Nat→Prop} {E:Env} {lk:Look} {w:World} (hU:RelU A E lk w) (hk:∀ k,key≤k→k<key+2→¬ A k) (hR:∀ k∈R,lk k=hget k h) (X HI MX:Value) (LO:Option Value)
    (hX:∀ E',Ae A E E'→X=den E' x) (hLO:∀ E',Ae A E E'→LO=lo.map (den E')) (hHI:∀ E',Ae A E E'→HI=den E' hi) (hMX:∀ E',Ae A E E'→MX=den E' mx) :
    Done A E lk w (plus A key) v (hupd lk W) ((do Pure.pure (Next.value (← Instr.sliceAt t X LO (some HI) (some MX))):Sem Next).run P w):=by
  unfold sliceZA at hs
  rw [hX E (Ae.refl A E),hLO E (Ae.refl A E),hHI E (Ae.refl A E),hMX E (Ae.refl A E)]
  split at hs
  · rename_i elem hu
    split at hs
    · rename_i n k1 k2 hn hl
      have hb:∀ len cap:Nat,(Instr.sliceBounds true len cap (lo.map (den E)) (some (.int k1 0)) (some (.int k2 0))).run P w = .ok (0,0,0) w:=by
        intro len cap
        have c0:(0:Int)≤0∧(0:Int)≤(cap:Int):=⟨Int.le_refl _,Int.natCast_nonneg _⟩
        have c1:(0:Int)≤0∧(0:Int)≤(((0:Int).toNat:Nat):Int):=⟨Int.le_refl _,Int.le_refl _⟩
        cases lo with
        | none =>
          simp only [Instr.sliceBounds,Instr.sliceBound,asIntOf,Option.map_none,Sem.run_bind,Sem.run_pure,Result.andThen_ok]
          rw [if_pos c0]
          simp only [Sem.run_pure,Result.andThen_ok]
          rw [if_pos c1]
          rfl
        | some v =>
          cases v <;> simp only [boundA] at hl <;> try (cases hl; done)
          cases hl
          simp only [Instr.sliceBounds,Instr.sliceBound,asIntOf,den,SI.v,Option.map_some,Sem.run_bind,Sem.run_pure,Result.andThen_ok]
          rw [if_pos c0]
          simp only [Sem.run_pure,Result.andThen_ok]
          rw [if_pos c1]
          simp only [Sem.run_pure,Result.andThen_ok]
          rw [if_pos c1]
          rfl
      split at hs
      · obtain ⟨rfl,rfl,rfl⟩:=Au hs
        have hrun:(Instr.sliceAt t (den E .nils) (lo.map (den E)) (some (den E (.int k1 (.lit 0)))) (some (den E (.int k2 (.lit 0))))).run P w = .ok (den E .nils) w:=by
          have hb:=hb 0 0
          simp only [Instr.sliceAt,Sem.run_bind,run_underlying hu,Result.andThen_ok,Instr.slice,den,SI.v,hb,sizeOf_run hn,Sem.run_pure]
          simp
        rw [vrun hrun]
        exact Done.pure hU (fun E' h'=>rfl) rfl
      · rename_i k
        split at hs
        · rename_i len sz rows g hkk
          obtain ⟨rfl,rfl,rfl⟩:=Au hs
          have hrun:(Instr.sliceAt t (den E (.sl k)) (lo.map (den E)) (some (den E (.int k1 (.lit 0)))) (some (den E (.int k2 (.lit 0))))).run P w = .ok (.slice (E.hdr k).1 0 0) w:=by
            have hb:=hb (E.hdr k).2.1 (E.hdr k).2.2
            simp only [Instr.sliceAt,Sem.run_bind,run_underlying hu,Result.andThen_ok,Instr.slice,den,SI.v,hb,sizeOf_run hn,Sem.run_pure]
            simp
          rw [vrun hrun]
          exact newList (g:=none) hU hk 0 0 _ [] rfl rfl rfl (Nat.le_refl _) rfl (Nat.le_refl _) (.inl rfl) (fun E' h' hp=>absurd hp (Nat.lt_irrefl 0)) (fun b hb=>by cases hb) (fun _ _ _=>rfl) (fun _ e=>by cases e)
        · cases hs
      · cases hs
    · cases hs
  · cases hs
theorem range_rows (zs:Array Value) (hz:0<zs.size):∀ len,((Array.range (len * zs.size)).map (zs[· % zs.size]!))=(List.replicate len zs.toList).flatten.toArray
  | 0=>by simp
  | len+1=>by
    have ih:=congrArg Array.toList (range_rows zs hz len)
    simp only [Array.toList_map,Array.toList_range] at ih
    apply Array.ext'
    simp only [Array.toList_map,Array.toList_range]
    rw [Nat.add_mul,Nat.one_mul,List.range_add,List.map_append,ih,List.replicate_succ',List.flatten_append]
    congr 1
    simp only [List.flatten_cons,List.flatten_nil,List.append_nil,List.map_map]
    apply List.ext_getElem?
    intro j
    simp only [List.getElem?_map]
    by_cases hj:j<zs.size
    · have hm : (len * zs.size + j) % zs.size = j := by
        rw [Nat.add_comm,Nat.mul_comm,Nat.add_mul_mod_self_left,Nat.mod_eq_of_lt hj]
      simp [List.getElem?_range hj,hm,hj]
    · rw [List.getElem?_eq_none (by simpa using hj),List.getElem?_eq_none (by simpa using hj)]
      rfl
theorem buildSliceA_sound {t : TypeId} {len : Nat} {parts : List (Nat × AV)} {v : AV} {key : Nat} {R : List Nat} {W : Aq} (hs : (buildSliceA P t len parts key).sel = some (.val v R W))
    {A:Nat→Prop} {E:Env} {lk:Look} {w:World} (hU:RelU A E lk w) (hk:∀ k,key≤k→k<key+2→¬ A k) (ps:Array (Nat×Value)) (hps:∀ E',Ae A E E'→ps.toList=parts.map fun p=>(p.1,den E' p.2)) :
    Done A E lk w (plus A key) v (hupd lk W) ((do Pure.pure (Next.value (← Instr.buildSlice t len ps)):Sem Next).run P w):=by
  unfold buildSliceA at hs
  split at hs
  · rename_i elem hu
    split at hs
    · rename_i n z hn hz
      split at hs
      · rename_i h1 h2 h3
        have h2:=Nat.eq_of_beq_eq_true h2
        have h3:=Nat.le_of_ble_eq_true h3
        split at hs
        · rename_i cs hcs
          rw [forceC_eq] at hs
          obtain ⟨rfl,rfl,rfl⟩:=Au hs
          obtain ⟨i,hi,hisz⟩:=tsize_info hn
          obtain ⟨i',zv,hi',hzv,rfl⟩:=tzero_info hz
          rw [hi] at hi'
          cases hi'
          have hisz:i.size=n+1:=hisz
          have hzs:zv.cells.size=n+1:=by rw [← ofV_size]; exact h2
          have hzc:∀ E':Env,zv.cells.toList=BM E' (ofV zv).cells:=fun E'=>by
            have:=den_cells E' h1
            rw [den_ofV] at this
            rw [this]
          have hflat:∀ E':Env,BM E' (List.replicate len (ofV zv).cells).flatten=(List.replicate len zv.cells.toList).flatten:=fun E'=>by
            rw [denL_map,List.map_flatten,List.map_replicate,← denL_map,← hzc E']
          have hfill:∀ E',Ae A E E'→Instr.fill (fun i=>some (i * (n+1),n+1)) (List.replicate len zv.cells.toList).flatten.toArray ps.toList=some (BM E' cs).toArray:=fun E' h'=>by
            have:=(fill_sound E' _ _ (fun j x hx=>hx) parts _ cs hcs).1
            rw [hflat E'] at this
            rw [hps E' h']
            exact this
          obtain ⟨_,hsc,hlen⟩:=fill_sound E _ _ (fun j x hx=>hx) parts _ cs hcs
          have hall:Ap (List.replicate len (ofV zv).cells).flatten=true:=by
            rw [allScalar_iff]
            intro v hv
            simp only [List.mem_flatten,List.mem_replicate] at hv
            obtain ⟨l,⟨_,rfl⟩,hv⟩:=hv
            exact (allScalar_iff _).1 h1 v hv
          have hsc:=hsc hall
          have hlen:cs.length=len * (n+1):=by rw [hlen]; simp [h2]
          have h0:=hfill E (Ae.refl A E)
          have hrun:(Instr.buildSlice t len ps).run P w = .ok (.slice (some ⟨w.heap.size,0,none⟩) len len) (w.alloc (.cells (BM E cs).toArray elem)):=by
            by_cases hpos:len * (n+1)=0
            · have hl0 : len = 0 := by
                rcases Nat.mul_eq_zero.1 hpos with h | h
                · exact h
                · omega
              subst hl0
              simp at h0
              simp [Instr.buildSlice,run_underlying hu,sizeOf,typeInfo,hi,hisz,show Array.range 0 = #[] from rfl,h0,newRow]
            · refine run_buildSlice (P:=P) w t elem len ps _ i zv hu hi hzv (by rw [hisz]; exact Nat.not_lt.2 h3) (by rw [hisz]; exact hpos) ?_
              rw [hisz,← hzs,range_rows zv.cells (by omega),hzs]
              exact h0
          rw [vrun hrun]
          refine newList (g:=none) hU hk len len _ [w.heap.size] rfl rfl rfl (by simp) rfl (Nat.le_refl _) (.inr ⟨w.heap.size,_,elem,rfl,heap_alloc_new w _⟩) (fun E' h' _=>?_) (fun b hb=>?_) (fun b hb _=>?_) (fun _ e=>(by cases e))
          · refine ⟨w.heap.size,0,rfl,rfl,_,elem,heap_alloc_new w _,by simp [BL,hlen],fun i hi=>?_⟩
            have hle:(i+1) * (n+1)≤len * (n+1):=Nat.mul_le_mul_right (n+1) hi
            rw [Nat.add_mul,Nat.one_mul] at hle
            refine ⟨by simp [Aa]; omega,?_,fun j hj=>?_⟩
            · rw [allScalar_iff] at hsc ⊢
              intro v hv
              exact hsc v (List.mem_of_mem_drop (List.mem_of_mem_take hv))
            · have e1 : BM E cs = BM E' cs := by
                have:=h0.symm.trans (hfill E' h')
                simpa using this
              rw [e1]
              simp only [Nat.zero_add,List.getElem?_toArray,denL_get,Aa,List.getElem?_take,hj,if_true,List.getElem?_drop]
          · rw [List.mem_singleton] at hb
            exact .inr (by omega)
          · show (w.heap.push _)[b]? = _
            rw [Array.getElem?_push,if_neg (by omega)]
        · cases hs
      · cases hs
    · cases hs
  · cases hs
end
end Go.Eng
set_option linter.unusedSimpArgs false
set_option linter.unusedVariables false
namespace Go.Eng
section
variable {P:Program}
theorem sbAnd_v (a b:SB):(a.and b).v=(a.v&&b.v):=by
  cases a with
  | lit x=>cases x <;> cases b with
    | lit y=>cases y <;> rfl
    | sym y=>rfl
  | sym x=>cases b with
    | lit y=>cases y <;> simp [SB.and,SB.v]
    | sym y=>rfl
theorem cmp_v' (f:Int→Int→Bool) (a b:SI):(SI.cmp f a b).v=f a.v b.v:=by cases a <;> cases b <;> rfl
theorem findNow_row (x : Int) : ∀ (es : List MapEntry) (b : Int) (i : Nat), (∀ (j : Nat) (e : MapEntry), es[j]? = some e → e.key = .int .u32 (b + j)) →
    Instr.findNow (.int .u32) (.int .u32 x) es i=some (if b≤x∧x<b+es.length then (es[(x - b).toNat]?).map (fun e=>(i+(x - b).toNat,e.val)) else none)
  | [],b,i,_=>by
    have:¬ (b≤x∧x<b+(([]:List MapEntry).length:Int)):=fun ⟨h1,h2⟩=>by
      have h2:x<b+0:=h2
      omega
    rw [if_neg this]
    rfl
  | e::es,b,i,h=>by
    have h0:e.key = .int .u32 b:=by have:=h 0 e rfl; simpa using this
    have ih:=findNow_row x es (b+1) (i+1) fun j e' hj=>by
      have:=h (j+1) e' (by simpa using hj)
      rw [this]
      congr 1
      push_cast
      omega
    unfold Instr.findNow
    rw [h0]
    by_cases hx:x=b
    · subst hx
      have:x≤x∧x<x+((e::es).length:Int):=by simp; omega
      rw [if_pos this]
      simp [Instr.sameNow]
    · have hne:(x==b)=false:=by simp [hx]
      simp only [Instr.sameNow,if_true,hne]
      rw [ih]
      by_cases hc:b+1≤x∧x<b+1+(es.length:Int)
      · rw [if_pos hc,if_pos (by simp; omega)]
        have:(x - b).toNat=(x - (b+1)).toNat+1:=by omega
        rw [this]
        simp only [List.getElem?_cons_succ]
        congr 2
        funext e
        congr 1
        omega
      · rw [if_neg hc,if_neg (by simp; omega)]
theorem mp_look {kt : TypeId} {w : World} {E : Env} {base len : SI} {vals : Nat → AV} {es : Array MapEntry} (hk : P.underlying kt = some (.int .u32)) (hl : ((es.size : Nat) : Int) = len.v)
    (he:∀ (i:Nat) (e:MapEntry),es[i]? = some e→e.key = .int .u32 (base.v+i)∧e.val=den E (vals i)) (x:Int) :
    (Instr.findKey kt (.int .u32 x) es.toList).run P w = .ok (if base.v≤x∧x<base.v+len.v then some ((x - base.v).toNat,den E (vals (x - base.v).toNat)) else none) w:=by
  have h:=findNow_row x es.toList base.v 0 fun j e hj=>(he j e (by simpa using hj)).1
  unfold Instr.findKey
  simp only [Sem.run_bind,run_underlying hk,Result.andThen_ok]
  rw [h]
  simp only [Sem.run_pure]
  congr 1
  rw [Array.length_toList,hl]
  by_cases hc:base.v≤x∧x<base.v+len.v
  · rw [if_pos hc,if_pos hc]
    have hlt:(x - base.v).toNat<es.size:=by omega
    have hg:es[(x - base.v).toNat]? = some es[(x - base.v).toNat]:=Array.getElem?_eq_getElem hlt
    rw [Array.getElem?_toList,hg]
    simp [(he _ _ hg).2]
  · rw [if_neg hc,if_neg hc]
theorem key_u32 {kt:TypeId} (hk:P.underlying kt=some (.int .u32)) (x:Int) (em:Bool) (n:Nat) (w:World):(Instr.checkKey em (n+1) kt (.int .u32 x)).run P w = .ok () w:=by
  unfold Instr.checkKey
  simp [run_underlying hk]
theorem intKey_run {kt:TypeId} {k:IntKind} (h:intKey P kt=some k):P.underlying kt=some (.int k):=by
  unfold intKey at h
  split at h
  · rename_i hh; cases h; exact hh
  · cases h
theorem lookup_run {t kt e : TypeId} {w : World} {E : Env} {k : Nat} {base len : SI} {vals : Nat → AV} {z : AV} (hu : P.underlying t = some (.map kt e)) (hk : P.underlying kt = some (.int .u32)) (hz : tzero P e = some z)
    {es:Array MapEntry} {cl:Nat} (hh:w.heap[E.blk k]? = some (.map es cl)) (hl:((es.size:Nat):Int)=len.v)
    (he:∀ (i:Nat) (e:MapEntry),es[i]? = some e→e.key = .int .u32 (base.v+i)∧e.val=den E (vals i)) (x:SI) (ok:Bool) :
    (Instr.lookup t (.map (some (E.blk k))) (.int .u32 x.v) ok).run P w = .ok (den E (if base.v≤x.v∧x.v<base.v+len.v then tupOk ok (atMap base x vals) true else tupOk ok z false)) w:=by
  have h1:=mp_look (w:=w) hk hl he x.v
  unfold Instr.lookup
  simp only [Sem.run_bind,run_underlying hu,Result.andThen_ok,MapKept.run_getObj_map hh,Sem.run_pure]
  rw [show (10000:Nat)=9999+1 from rfl,key_u32 hk]
  simp only [Result.andThen_ok]
  rw [h1]
  simp only [Result.andThen_ok]
  by_cases hc:base.v≤x.v∧x.v<base.v+len.v
  · rw [if_pos hc,if_pos hc]
    simp only [Sem.run_pure,Result.andThen_ok]
    have:atMap base x vals=vals (x.v - base.v).toNat:=by simp [atMap,subL,SI.bin_v]
    rw [this]
    cases ok <;> simp [tupOk,den,BM,SB.v]
  · rw [if_neg hc,if_neg hc]
    simp only [Sem.run_bind,zero_run hz E,Result.andThen_ok,Sem.run_pure]
    cases ok <;> simp [tupOk,den,BM,SB.v]
theorem lookupA_sound {t : TypeId} {x i v : AV} {ok : Bool} {h : Aq} {R : List Nat} {W : Aq} (hs : (lookupA P t x i ok h).sel = some (.val v R W)) {E : Env} {lk : Look} {w : World} (hr : Rel E lk w) (hR : ∀ k ∈ R, lk k = hget k h) :
    W=[]∧(Instr.lookup t (den E x) (den E i) ok).run P w = .ok (den E v) w:=by
  unfold lookupA at hs
  split at hs
  · rename_i kt e k ki i hu
    split at hs
    · rename_i kk base len vals z hkk hg hz
      have fin : ∀ (v' : AV), kk = .u32 → ki = .u32 → R = [k] → v' = v → v = (if base.v ≤ i.v ∧ i.v < base.v + len.v then tupOk ok (atMap base i vals) true else tupOk ok z false) →
          (Instr.lookup t (den E (.mref k)) (den E (.int ki i)) ok).run P w = .ok (den E v) w:=by
        intro v' e1 e2 e3 _ e4
        subst e1 e2 e3
        obtain ⟨_,es,cl,g1,g2,g3⟩:=hr.obj k _ ((hR k (by simp)).trans hg)
        rw [e4]
        exact lookup_run hu (intKey_run hkk) hz g1 g2 g3 i ok
      have cv:((SI.cmp (fun i b=>decide (b≤i)) i base).and (SI.cmp (fun i n=>decide (i<n)) i (addL base len))).v=decide (base.v≤i.v∧i.v<base.v+len.v):=by
        rw [sbAnd_v,cmp_v',cmp_v']
        simp [addL,SI.bin_v]
      split at hs
      · rename_i d1 d2 hc
        obtain ⟨rfl,rfl,rfl⟩:=Au hs
        rw [hc] at cv
        refine ⟨rfl,fin _ (of_decide_eq_true d1) (of_decide_eq_true d2) rfl rfl ?_⟩
        rw [if_pos (of_decide_eq_true cv.symm)]
      · rename_i d1 d2 hc
        obtain ⟨rfl,rfl,rfl⟩:=Au hs
        rw [hc] at cv
        refine ⟨rfl,fin _ (of_decide_eq_true d1) (of_decide_eq_true d2) rfl rfl ?_⟩
        rw [if_neg (of_decide_eq_false cv.symm)]
      · rename_i b d1 d2 hc
        rw [hc] at cv
        cases b
        · obtain ⟨rfl,rfl,rfl⟩:=Au hs
          refine ⟨rfl,fin _ (of_decide_eq_true d1) (of_decide_eq_true d2) rfl rfl ?_⟩
          rw [if_neg (of_decide_eq_false cv.symm)]
        · obtain ⟨rfl,rfl,rfl⟩:=Au hs
          refine ⟨rfl,fin _ (of_decide_eq_true d1) (of_decide_eq_true d2) rfl rfl ?_⟩
          rw [if_pos (of_decide_eq_true cv.symm)]
      · cases hs
    · cases hs
  · cases hs
theorem putMap {A : Nat → Prop} {E : Env} {lk : Look} {w : World} {key k : Nat} {base len base' len' : SI} {vals vals' : Nat → AV} (hU : RelU A E lk w) (hk : lk k = some (.mp base len vals)) (es : Array MapEntry) (cl : Nat)
    (hl:((es.size:Nat):Int)=len'.v) (he:∀ E',Ae A E E'→∀ (i:Nat) (e:MapEntry),es[i]? = some e→e.key = .int .u32 (base'.v+i)∧e.val=den E' (vals' i)) :
    Done A E lk w (plus A key) (.raw undef) (hupd lk [(k,some (.mp base' len' vals'))]) (.ok .skip { w with heap:=w.heap.setIfInBounds (E.blk k) (.map es cl) }):=by
  refine ⟨_,_,E,undef,rfl,rfl,fun _ _=>rfl,?_⟩
  have hAk:=hU.dom k _ hk
  obtain ⟨e1,es0,cl0,e2,_⟩:=hU.here.obj k _ hk
  have hlt:=lt_of_get e2
  refine RelU.step (fun j=>j=k) hU (fun _ h=>.inl h) (Ae.refl A E) rfl rfl rfl (by simp) ?_ ?_ ?_ ?_ ?_ ?_ ?_ ?_ ?_ ?_
  · intro j o ho hn; rw [hupd_one,if_neg hn] at ho; exact ho
  · intro j o ho hn; subst hn; exact .inl hAk
  · intro j o g ho hg hn; subst hn; rw [hupd_one,if_pos rfl] at ho; cases ho; cases hg
  · intro E' h' j o ho hn
    subst hn
    rw [hupd_one,if_pos rfl] at ho
    cases ho
    have h'':Ae A E E':=h'.mono fun _ h=>.inl h
    obtain ⟨f1,f2,f3⟩:=h'' j hAk
    refine ⟨by rw [f1,f3,e1],es,cl,?_,hl,fun i e hi=>he E' h'' i e hi⟩
    rw [f1]
    simp [Array.getElem?_setIfInBounds,hlt]
  · intro E' h' j o b ho hn hb
    subst hn
    rw [hupd_one,if_pos rfl] at ho
    cases ho
    exact .inl ⟨j,_,hk,.inl rfl,hb⟩
  · intro E' h' j o j' o' b _ _ hn hn' hne; exact absurd (hn.trans hn'.symm) hne
  · intro b hb hn
    have:b≠E.blk k:=fun e=>hn k _ hk (.inl rfl) (by simp [owns,e1,e])
    show (w.heap.setIfInBounds (E.blk k) _)[b]? = _
    rw [Array.getElem?_setIfInBounds_ne (Ne.symm this)]
  · intro j o g ho hg hn ht; subst hn; rw [hupd_one,if_pos rfl] at ht; cases ht
  · intro E' h' j len sz rows a ho hn; subst hn; rw [hupd_one,if_pos rfl] at ho; cases ho
  · intro j hn hA ht; subst hn; rw [hupd_one,if_pos rfl] at ht; cases ht
theorem mapUpdate_run {t kt e : TypeId} {w : World} {E : Env} {k : Nat} {base len : SI} {vals : Nat → AV} (hu : P.underlying t = some (.map kt e)) (hk : P.underlying kt = some (.int .u32))
    {es:Array MapEntry} {cl:Nat} (hh:w.heap[E.blk k]? = some (.map es cl)) (hl:((es.size:Nat):Int)=len.v)
    (he:∀ (i:Nat) (e:MapEntry),es[i]? = some e→e.key = .int .u32 (base.v+i)∧e.val=den E (vals i)) (x:Int) (v:Value) (hx:¬ (base.v≤x∧x<base.v+len.v)) :
    (Instr.mapUpdate t (.map (some (E.blk k))) (.int .u32 x) v).run P w = .ok () { w with heap:=w.heap.setIfInBounds (E.blk k) (.map (es.push { key:=.int .u32 x,val:=v,born:=cl }) (cl+1)) }:=by
  have h1:=mp_look (w:=w) hk hl he x
  rw [if_neg hx] at h1
  unfold Instr.mapUpdate
  simp only [Sem.run_bind,run_underlying hu,Result.andThen_ok,MapKept.run_getObj_map hh]
  rw [show (10000:Nat)=9999+1 from rfl,key_u32 hk]
  simp only [Result.andThen_ok]
  rw [h1]
  simp only [Result.andThen_ok]
  exact MapKept.run_setObj_map _ hh
theorem mapUpdateA_sound {t : TypeId} {x i y v : AV} {h : Aq} {R : List Nat} {W : Aq} (hs : (mapUpdateA P t x i y h).sel = some (.val v R W)) {A : Nat → Prop} {E : Env} {lk : Look} {w : World} {key : Nat} (hU : RelU A E lk w)
    (hR:∀ k∈R,lk k=hget k h) (X I Y:Value) (hX:∀ E',Ae A E E'→X=den E' x) (hI:∀ E',Ae A E E'→I=den E' i) (hY:∀ E',Ae A E E'→Y=den E' y) :
    Done A E lk w (plus A key) v (hupd lk W) ((do Instr.mapUpdate t X I Y; Pure.pure Next.skip:Sem Next).run P w):=by
  unfold mapUpdateA at hs
  split at hs
  · rename_i kt e k ki i hu
    split at hs
    · rename_i kk base len vals hkk hg
      split at hs
      · rename_i d1 d2 d3
        have d1:=of_decide_eq_true d1
        have d2:=of_decide_eq_true d2
        subst d1 d2
        obtain ⟨rfl,rfl,rfl⟩:=Au hs
        have hlk:=(hR k (by simp)).trans hg
        obtain ⟨_,es,cl,g1,g2,g3⟩:=hU.here.obj k _ hlk
        have l0:len.v=0:=by
          cases len with
          | lit n=>exact of_decide_eq_true d3
          | sym n=>cases d3
        have hr:=mapUpdate_run (v:=Y) hu (intKey_run hkk) g1 g2 g3 i.v (by omega)
        rw [hX E (Ae.refl A E),hI E (Ae.refl A E)]
        simp only [den,Sem.run_bind,hr,Result.andThen_ok,Sem.run_pure]
        have hz:es = #[]:=by
          have:es.size=0:=by omega
          exact Array.eq_empty_of_size_eq_zero this
        subst hz
        refine putMap hU hlk _ _ (by rfl) fun E' h' j e hj=>?_
        have:j=0:=by
          have:=(Array.getElem?_eq_some_iff.1 hj).1
          simp at this
          exact this
        subst this
        simp at hj
        subst hj
        exact ⟨by simp,hY E' h'⟩
      · rename_i d1 d2 d3
        have d1:=of_decide_eq_true d1
        have d2:=of_decide_eq_true d2
        subst d1 d2
        obtain ⟨hb,hs⟩:=need_sel hs
        obtain ⟨rfl,rfl,rfl⟩:=Au hs
        rw [cmp_v'] at hb
        have hb:i.v=base.v+len.v:=by simpa [addL,SI.bin_v] using hb
        have hlk:=(hR k (by simp)).trans hg
        obtain ⟨_,es,cl,g1,g2,g3⟩:=hU.here.obj k _ hlk
        have hr:=mapUpdate_run (v:=Y) hu (intKey_run hkk) g1 g2 g3 i.v (by omega)
        rw [hX E (Ae.refl A E),hI E (Ae.refl A E)]
        simp only [den,Sem.run_bind,hr,Result.andThen_ok,Sem.run_pure]
        refine putMap hU hlk _ _ (by rw [addL,SI.bin_v]; show ((es.push _).size:Int)=len.v+1; rw [Array.size_push]; omega) fun E' h' j e hj=>?_
        rw [Array.getElem?_push] at hj
        split at hj
        · rename_i hj'
          cases hj
          subst hj'
          refine ⟨by simp; omega,?_⟩
          have:Nat.blt es.size len.v.toNat=false:=by
            cases hb:Nat.blt es.size len.v.toNat
            · rfl
            · have:es.size+1≤len.v.toNat:=Nat.le_of_ble_eq_true hb
              omega
          simp only [pushV,this]
          exact hY E' h'
        · have hlt:=(Array.getElem?_eq_some_iff.1 hj).1
          obtain ⟨_,es',cl',k1,_,k3⟩:=(hU.rel E' h').obj k _ hlk
          rw [(h' k (hU.dom k _ hlk)).1,g1] at k1
          cases k1
          have:Nat.blt j len.v.toNat=true:=Nat.ble_eq_true_of_le (by omega)
          simp only [pushV,this]
          exact k3 j e hj
      · cases hs
    · cases hs
  · cases hs
theorem makeMapA_sound {A : Nat → Prop} {E : Env} {lk : Look} {w : World} {key : Nat} {t : TypeId} {v : AV} {R : List Nat} {W : Aq} (hs : (makeMapA key).sel = some (.val v R W)) (hU : RelU A E lk w) (hk : ∀ k, key ≤ k → k < key + 2 → ¬ A k) :
    Done A E lk w (plus A key) v (hupd lk W) ((do Pure.pure (Next.value (← Instr.makeMap t none)):Sem Next).run P w):=by
  obtain ⟨rfl,rfl,rfl⟩:=Au hs
  have hrun:(Instr.makeMap t none).run P w = .ok (.map (some w.heap.size)) { w with heap:=w.heap.push (.map #[] 0) }:=by
    simp [Instr.makeMap]
  rw [vrun hrun]
  have hnk:¬ A key:=hk key (Nat.le_refl _) (by omega)
  have hE:Ae A E (E.put key w.heap.size (none,0,0) [w.heap.size]):=E.put_agree hnk _ _ _
  refine ⟨_,_,E.put key w.heap.size (none,0,0) [w.heap.size],.map (some w.heap.size),rfl,rfl,fun E' h'=>?_,?_⟩
  · have:=(h' key (.inr ⟨Nat.le_refl _,by omega⟩)).1
    simp only [den,this,Env.put,if_true]
  have hold:∀ b,b<w.heap.size→(w.heap.push (.map #[] 0))[b]? = w.heap[b]?:=fun b hb=>by
    rw [Array.getElem?_push,if_neg (by omega)]
  refine RelU.step (fun k=>k=key) hU (fun _ h=>.inl h) hE rfl rfl rfl (by simp) ?_ ?_ ?_ ?_ ?_ ?_ ?_ ?_ ?_ ?_
  · intro k o ho hn; rw [hupd_one,if_neg hn] at ho; exact ho
  · intro k o ho hn; subst hn; exact .inr ⟨Nat.le_refl _,by omega⟩
  · intro k o g ho hg hn; subst hn; rw [hupd_one,if_pos rfl] at ho; cases ho; cases hg
  · intro E' h' k o ho hn
    subst hn
    rw [hupd_one,if_pos rfl] at ho
    cases ho
    obtain ⟨e1,_,e3⟩:=h' k (.inr ⟨Nat.le_refl _,by omega⟩)
    simp only [Env.put,if_true] at e1 e3
    refine ⟨by rw [e1,e3],#[],0,?_,rfl,fun i e hi=>by simp at hi⟩
    rw [e1]
    simp
  · intro E' h' k o b ho hn hb
    subst hn
    rw [hupd_one,if_pos rfl] at ho
    cases ho
    obtain ⟨_,_,e3⟩:=h' k (.inr ⟨Nat.le_refl _,by omega⟩)
    simp only [Env.put,if_true] at e3
    simp only [owns,e3,List.mem_singleton] at hb
    exact .inr (by omega)
  · intro E' h' k o k' o' b _ _ hn hn' hne; exact absurd (hn.trans hn'.symm) hne
  · intro b hb _; exact hold b hb
  · intro k o g ho hg hn; subst hn; exact absurd (hU.grp k o g ho hg) hnk
  · intro E' h' k len sz rows a ho hn; subst hn; rw [hupd_one,if_pos rfl] at ho; cases ho
  · intro k hn hA; subst hn; exact absurd hA hnk
end
end Go.Eng
set_option linter.unusedSimpArgs false
set_option linter.unusedVariables false
namespace Go.Eng
section
variable {P:Program}
theorem toList_one {α:Type} {a:Array α} {x:α} (h:a.toList=[x]):a = #[x]:=by cases a; simp at h; subst h; rfl
theorem toList_two {α:Type} {a:Array α} {x y:α} (h:a.toList=[x,y]):a = #[x,y]:=by cases a; simp at h; subst h; rfl
theorem mapDen {E:Env} {ev:Operand→Value} {ρ:Operand→AV} : ∀ (l:List Operand),(∀ x∈l,ev x=den E (ρ x))→l.map ev=BM E (l.map ρ)
  | [],_=>rfl
  | x::l,h=>by
    simp only [List.map_cons,BM,h x (by simp),mapDen l fun y hy=>h y (by simp [hy])]
theorem opA_sound {op : Op} {ρ : Operand → AV} {h : Aq} {key : Nat} {v : AV} {R : List Nat} {W : Aq} (hs : (opA P op ρ h key).sel = some (.val v R W))
    {A:Nat→Prop} {E:Env} {lk:Look} {w:World} (hU:RelU A E lk w) (hk:∀ k,key≤k→k<key+2→¬ A k) (hR:∀ k∈R,lk k=hget k h) (ev:Operand→Value)
    (hρ:∀ E',Ae A E E'→∀ x∈op.operands,ev x=den E' (ρ x)) (o:Oper) (ho:o.op=op) :
    Done A E lk w (plus A key) v (hupd lk W) ((execOp ev o).run P w):=by
  unfold execOp
  rw [ho]
  have rel:=fun {E'} (h':Ae A E E')=>hU.rel E' h'
  cases op <;> simp only [opA] at hs <;> try (cases hs; done)
  all_goals try dsimp only
  case move x =>
    obtain ⟨rfl,rfl,rfl⟩:=Au hs
    exact Done.pure hU (fun E' h'=>hρ E' h' x (by simp [Op.operands])) rfl
  case assign x =>
    obtain ⟨rfl,rfl,rfl⟩:=Au hs
    exact Done.pure hU (fun E' h'=>hρ E' h' x (by simp [Op.operands])) rfl
  case pick c a b =>
    have hc:=fun E' (h':Ae A E E')=>hρ E' h' c (by simp [Op.operands])
    have ha:=fun E' (h':Ae A E E')=>hρ E' h' a (by simp [Op.operands])
    have hb:=fun E' (h':Ae A E E')=>hρ E' h' b (by simp [Op.operands])
    split at hs
    · rename_i e
      obtain ⟨rfl,rfl,rfl⟩:=Au hs
      refine Done.det hU fun E' h'=>?_
      rw [hc E' h',e]
      simp [den,asBool,SB.v,ha E' h']
    · rename_i e
      obtain ⟨rfl,rfl,rfl⟩:=Au hs
      refine Done.det hU fun E' h'=>?_
      rw [hc E' h',e]
      simp [den,asBool,SB.v,hb E' h']
    · rename_i s e
      cases s
      · obtain ⟨rfl,rfl,rfl⟩:=Au hs
        refine Done.det hU fun E' h'=>?_
        rw [hc E' h',e]
        simp [den,asBool,SB.v,hb E' h']
      · obtain ⟨rfl,rfl,rfl⟩:=Au hs
        refine Done.det hU fun E' h'=>?_
        rw [hc E' h',e]
        simp [den,asBool,SB.v,ha E' h']
    · cases hs
  case alloc t =>
    split at hs
    · rename_i z hz
      split at hs
      · rename_i h1
        obtain ⟨rfl,rfl,rfl⟩:=Au hs
        have:=newBox (key:=key) hU hk h1 (den E z).cells (fun E' h'=>by
          rw [← den_cells E' h1]
          obtain ⟨i,v,_,_,rfl⟩:=tzero_info hz
          rw [den_ofV,den_ofV]) t
        refine cast ?_ this
        congr 1
        simp [Instr.alloc,zero_run hz E,newVar,newRow]
      · cases hs
    · cases hs
  case box t x =>
    have hx:=fun E' (h':Ae A E E')=>hρ E' h' x (by simp [Op.operands])
    split at hs
    · rename_i h1
      obtain ⟨rfl,rfl,rfl⟩:=Au hs
      exact newBox (key:=key) hU hk h1 (ev x).cells (fun E' h'=>by rw [hx E' h',den_cells E' h1]) t
    · cases hs
  case build t parts =>
    obtain ⟨y,hy,hs⟩:=ofOpt_sel hs
    obtain ⟨rfl,rfl,rfl⟩:=Au hs
    refine Done.det hU fun E' h'=>?_
    obtain ⟨cs,rfl,hb⟩:=buildA_sound hy E'
    refine vrun (run_build w t _ _ ?_)
    rw [← hb]
    congr 1
    simp only [Array.toList_map,List.map_map]
    refine List.map_congr_left fun p hp=>?_
    simp only [Function.comp]
    rw [hρ E' h' p.2 (by simp [Op.operands]; exact ⟨p.1,by simpa using hp⟩)]
  case buildSlice t len parts =>
    refine buildSliceA_sound hs hU hk _ fun E' h'=>?_
    simp only [Array.toList_map,List.map_map]
    refine List.map_congr_left fun p hp=>?_
    simp only [Function.comp]
    rw [hρ E' h' p.2 (by simp [Op.operands]; exact ⟨p.1,by simpa using hp⟩)]
  case load t x =>
    have hx:=fun E' (h':Ae A E E')=>hρ E' h' x (by simp [Op.operands])
    have hW:=(loadA_sound (P:=P) hs hU.here hR).1
    subst hW
    refine Done.det hU fun E' h'=>?_
    rw [hx E' h']
    exact vrun (loadA_sound hs (rel h') hR).2
  case store t x y =>
    exact storeA_sound hs hU hk hR _ _ (fun E' h'=>hρ E' h' x (by simp [Op.operands])) (fun E' h'=>hρ E' h' y (by simp [Op.operands]))
  case nilCheck x =>
    have hx:=fun E' (h':Ae A E E')=>hρ E' h' x (by simp [Op.operands])
    split at hs
    · rename_i k off e
      obtain ⟨rfl,rfl,rfl⟩:=Au hs
      refine Done.det hU fun E' h'=>?_
      rw [hx E' h',e]
      rfl
    · rename_i k i sz off e
      obtain ⟨rfl,rfl,rfl⟩:=Au hs
      refine Done.det hU fun E' h'=>?_
      rw [hx E' h',e]
      rfl
    · rename_i g a b e
      obtain ⟨rfl,rfl,rfl⟩:=Au hs
      refine Done.det hU fun E' h'=>?_
      rw [hx E' h',e]
      rfl
    · cases hs
  case binOp op t x y yt =>
    have hx:=fun E' (h':Ae A E E')=>hρ E' h' x (by simp [Op.operands])
    have hy:=fun E' (h':Ae A E E')=>hρ E' h' y (by simp [Op.operands])
    have hW:=(binA_run (P:=P) hs E w x y).1
    subst hW
    refine Done.det hU fun E' h'=>?_
    rw [hx E' h',hy E' h']
    exact vrun (binA_run hs E' w x y).2
  case unOp op t x =>
    have hx:=fun E' (h':Ae A E E')=>hρ E' h' x (by simp [Op.operands])
    have hW:=(unA_run (P:=P) hs E w).1
    subst hW
    refine Done.det hU fun E' h'=>?_
    rw [hx E' h']
    exact vrun (unA_run hs E' w).2
  case convert s t x =>
    have hx:=fun E' (h':Ae A E E')=>hρ E' h' x (by simp [Op.operands])
    split at hs
    · rename_i k1 k2 k3 n h1 h2 e
      obtain ⟨rfl,rfl,rfl⟩:=Au hs
      refine Done.det hU fun E' h'=>?_
      rw [hx E' h',e]
      refine vrun ?_
      simp [convert,run_underlying h1,run_underlying h2,den,Conv.intToInt,SI.un_v]
    · cases hs
  case makeFunc fn first cap =>
    obtain ⟨rfl,rfl,rfl⟩:=Au hs
    refine Done.det hU fun E' h'=>?_
    refine vrun ?_
    have h1:=mapDen (E:=E') (ev:=ev) (ρ:=ρ) first.toList fun x hx=>hρ E' h' x (by simp [Op.operands]; exact .inl (by simpa using hx))
    have h2:=mapDen (E:=E') (ev:=ev) (ρ:=ρ) cap.toList fun x hx=>hρ E' h' x (by simp [Op.operands]; exact .inr (by simpa using hx))
    simp only [Instr.makeFunc,den,Sem.run_pure]
    congr 2
    · apply Array.ext'; simpa using h1
    · apply Array.ext'; simpa using h2
  case slice t x lo hi mx =>
    split at hs
    · refine sliceA_sound hs hU hk hR _ _ _ (fun E' h'=>hρ E' h' x (by simp [Op.operands])) (fun E' h'=>?_) (fun E' h'=>?_)
      · cases lo with
        | none=>rfl
        | some l=>simp [hρ E' h' l (by simp [Op.operands])]
      · cases hi with
        | none=>rfl
        | some l=>simp [hρ E' h' l (by cases lo <;> simp [Op.operands])]
    · rename_i m
      split at hs
      · rename_i hi
        refine sliceZA_sound hs hU hk hR _ _ _ _ (fun E' h'=>hρ E' h' x (by simp [Op.operands])) (fun E' h'=>?_) (fun E' h'=>hρ E' h' hi (by cases lo <;> simp [Op.operands])) (fun E' h'=>hρ E' h' m (by cases lo <;> simp [Op.operands]))
        cases lo with
        | none=>rfl
        | some l=>simp [hρ E' h' l (by simp [Op.operands])]
      · cases hs
  case fieldAddr s x f =>
    have hx:=fun E' (h':Ae A E E')=>hρ E' h' x (by simp [Op.operands])
    have hW:=(fieldAddrA_sound (P:=P) hs E w).1
    subst hW
    refine Done.det hU fun E' h'=>?_
    rw [hx E' h']
    exact vrun (fieldAddrA_sound hs E' w).2
  case field t x f =>
    have hx:=fun E' (h':Ae A E E')=>hρ E' h' x (by simp [Op.operands])
    have hW:=(fieldA_sound (P:=P) hs E w).1
    subst hW
    refine Done.det hU fun E' h'=>?_
    rw [hx E' h']
    exact vrun (fieldA_sound hs E' w).2
  case indexAddr t x i =>
    have hx:=fun E' (h':Ae A E E')=>hρ E' h' x (by simp [Op.operands])
    have hi:=fun E' (h':Ae A E E')=>hρ E' h' i (by simp [Op.operands])
    have hW:=(indexAddrA_sound (P:=P) hs hU.here hR).1
    subst hW
    refine Done.det hU fun E' h'=>?_
    rw [hx E' h',hi E' h']
    exact vrun (indexAddrA_sound hs (rel h') hR).2
  case index t x i =>
    have hx:=fun E' (h':Ae A E E')=>hρ E' h' x (by simp [Op.operands])
    have hi:=fun E' (h':Ae A E E')=>hρ E' h' i (by simp [Op.operands])
    have hW:=(indexA_sound (P:=P) hs E w).1
    subst hW
    refine Done.det hU fun E' h'=>?_
    rw [hx E' h',hi E' h']
    exact vrun (indexA_sound hs E' w).2
  case extract t i =>
    have hx:=fun E' (h':Ae A E E')=>hρ E' h' t (by simp [Op.operands])
    split at hs
    · rename_i l e
      obtain ⟨y,hy,hs⟩:=ofOpt_sel hs
      obtain ⟨rfl,rfl,rfl⟩:=Au hs
      refine Done.det hU fun E' h'=>?_
      rw [hx E' h',e]
      refine vrun ?_
      simp [Instr.extract,den,denL_get,hy]
    · cases hs
  case lookup t x i ok =>
    have hx:=fun E' (h':Ae A E E')=>hρ E' h' x (by simp [Op.operands])
    have hi:=fun E' (h':Ae A E E')=>hρ E' h' i (by simp [Op.operands])
    have hW:=(lookupA_sound (P:=P) hs hU.here hR).1
    subst hW
    refine Done.det hU fun E' h'=>?_
    rw [hx E' h',hi E' h']
    exact vrun (lookupA_sound hs (rel h') hR).2
  case mapUpdate t m i x =>
    exact mapUpdateA_sound hs hU hR _ _ _ (fun E' h'=>hρ E' h' m (by simp [Op.operands])) (fun E' h'=>hρ E' h' i (by simp [Op.operands])) (fun E' h'=>hρ E' h' x (by simp [Op.operands]))
  case makeMap t r =>
    split at hs
    · exact makeMapA_sound hs hU hk
    · cases hs
  case call c =>
    unfold callA at hs
    split at hs
    · cases hs
    · cases hs
    · rename_i b hcb
      have hops:∀ x∈c.args.toList,x∈(Op.call c).operands:=fun x hx=>by
        simp [Op.operands,Call.operands,hcb]; simpa using hx
      have hmap:∀ E',Ae A E E'→c.args.toList.map ev=BM E' (c.args.toList.map ρ):=fun E' h'=>mapDen _ fun x hx=>hρ E' h' x (hops x hx)
      simp only [resolve,hcb,Sem.run_bind,Sem.run_pure,Result.andThen_ok,invoke]
      split at hs
      ·
        rename_i x t hx ht
        have hargs:=toList_one hx
        have hts:=toList_one ht
        have e1:(c.args.map ev) = #[ev x]:=by rw [hargs]; simp
        have hW:=(lenA_sound (P:=P) (ty:=o.type) (ts:=[]) hs hU.here hR).1
        subst hW
        refine Done.det hU fun E' h'=>?_
        rw [e1,hts,hρ E' h' x (hops x (by simp [hx]))]
        exact vrun (lenA_sound (ts:=[]) hs (rel h') hR).2
      ·
        rename_i x y t u hx ht
        have hargs:=toList_two hx
        have hts:=toList_two ht
        split at hs
        · rename_i e2 hu2
          have e1:(c.args.map ev) = #[ev x,ev y]:=by rw [hargs]; simp
          rw [e1,hts]
          exact appendA_sound hs hu2 hU hk hR _ _ (fun E' h'=>hρ E' h' x (hops x (by simp [hx]))) (fun E' h'=>hρ E' h' y (hops y (by simp [hx])))
        · cases hs
      ·
        rename_i x t hx ht
        have hargs:=toList_one hx
        have hts:=toList_one ht
        have e1:(c.args.map ev) = #[ev x]:=by rw [hargs]; simp
        rw [e1,hts]
        exact clearA_sound hs hU hk hR _ (fun E' h'=>hρ E' h' x (hops x (by simp [hx])))
      ·
        rename_i x xs hx
        split at hs
        · rename_i k n e
          obtain ⟨y,hy,hs⟩:=ofOpt_sel hs
          obtain ⟨rfl,rfl,rfl⟩:=Au hs
          refine Done.det hU fun E' h'=>?_
          refine vrun ?_
          have h1:=minA_sound (P:=P) false (fun y x=>decide (y<x)) rfl E' w (xs.map ρ) _ _ hy ⟨k,n,rfl⟩
          have h2:=hmap E' h'
          rw [hx] at h2
          simp only [List.map_cons,BM,List.cons.injEq] at h2
          simp only [Builtin.min_,Array.toList_map,hx,List.map_cons]
          rw [h2.1,h2.2,denL_map,e]
          exact h1
        · cases hs
      ·
        rename_i x xs hx
        split at hs
        · rename_i k n e
          obtain ⟨y,hy,hs⟩:=ofOpt_sel hs
          obtain ⟨rfl,rfl,rfl⟩:=Au hs
          refine Done.det hU fun E' h'=>?_
          refine vrun ?_
          have h1:=minA_sound (P:=P) true (fun y x=>decide (y>x)) rfl E' w (xs.map ρ) _ _ hy ⟨k,n,rfl⟩
          have h2:=hmap E' h'
          rw [hx] at h2
          simp only [List.map_cons,BM,List.cons.injEq] at h2
          simp only [Builtin.max_,Array.toList_map,hx,List.map_cons]
          rw [h2.1,h2.2,denL_map,e]
          exact h1
        · cases hs
      · cases hs
theorem callable_run {g:FuncId} (h:callable P g=true) (args:Array Value) (w:World):(callFunc g args).run P w = .ok (.enter g args) w:=by
  unfold callable at h
  split at h
  · rename_i fn hf
    simp only [Bool.and_eq_true,Bool.not_eq_true'] at h
    have h2:fn.body.isNone=false:=by cases hb:fn.body <;> simp_all
    simp only [callFunc,Sem.run_bind,run_program,Result.andThen_ok,hf,h.1,Bool.false_eq_true,if_false,h2,Sem.run_pure]
  · cases h
theorem callOf_run {op : Op} {ρ : Operand → AV} {g : FuncId} {args : List AV} (hs : callOf P op ρ = some (g, args))
    {A:Nat→Prop} {E:Env} (w:World) (ev:Operand→Value) (hρ:∀ E',Ae A E E'→∀ x∈op.operands,ev x=den E' (ρ x)) (o:Oper) (ho:o.op=op) :
    ∃ vals,(execOp ev o).run P w = .ok (.enter g vals) w∧∀ E',Ae A E E'→vals=(BM E' args).toArray:=by
  unfold callOf at hs
  split at hs
  · rename_i c
    split at hs
    · rename_i f hcf
      split at hs
      · rename_i g' first cap e
        split at hs
        · rename_i hc
          cases hs
          have hops:∀ x∈c.args.toList,x∈(Op.call c).operands:=fun x hx=>by
            simp [Op.operands,Call.operands]; exact .inr (by simpa using hx)
          have hf:f∈(Op.call c).operands:=by simp [Op.operands,Call.operands,hcf]
          refine ⟨(BM E (first++(c.args.toList.map ρ++cap))).toArray,?_,fun E' h'=>?_⟩
          · have hmap:=mapDen (E:=E) (ev:=ev) (ρ:=ρ) c.args.toList fun x hx=>hρ E (Ae.refl A E) x (hops x hx)
            unfold execOp
            rw [ho]
            simp only [resolve,hcf,Deferred.ofValue,Sem.run_bind,hρ E (Ae.refl A E) f hf,e,den,Sem.run_pure,Result.andThen_ok,invoke]
            rw [callable_run hc]
            congr 2
            apply Array.ext'
            simp only [Array.toList_append,Array.toList_map,hmap,denL_append,List.append_assoc]
          · congr 1
            have hmap:=mapDen (E:=E) (ev:=ev) (ρ:=ρ) c.args.toList fun x hx=>hρ E (Ae.refl A E) x (hops x hx)
            have hmap':=mapDen (E:=E') (ev:=ev) (ρ:=ρ) c.args.toList fun x hx=>hρ E' h' x (hops x hx)
            have hff:=(hρ E (Ae.refl A E) f hf).symm.trans (hρ E' h' f hf)
            rw [e] at hff
            simp only [den] at hff
            injection hff with _ h1 h2
            rw [denL_append,denL_append,denL_append,denL_append,← hmap,hmap',Array.toList_inj.2 h1 |> fun h=>(by simpa using h:BM E first=BM E' first),(by simpa using Array.toList_inj.2 h2:BM E cap=BM E' cap)]
        · cases hs
      · cases hs
    · cases hs
  · cases hs
end
end Go.Eng
set_option linter.unusedSimpArgs false
set_option linter.unusedVariables false
namespace Go.Eng
theorem force1_eq {R:Type} (v:AV) (K:AV→R):force1 v K=K v:=by
  unfold force1
  split
  · exact forceC_eq _ _
  · exact forceS_eq _ _
theorem forceD_eq {R:Type} : ∀ (l:List AV) (K:List AV→R),forceD l K=K l
  | [],_=>rfl
  | v::l,K=>by simp only [forceD,force1_eq,forceD_eq l]
theorem forceV_eq {R:Type} (v:AV) (K:AV→R):forceV v K=K v:=by
  unfold forceV
  split
  · exact forceD_eq _ _
  · exact force1_eq _ _
theorem forceW_eq {R:Type} : ∀ (W:Aq) (K:Aq→R),forceW W K=K W
  | [],_=>rfl
  | e::W,K=>by
    have ih:=fun K=>forceW_eq (R:=R) W K
    unfold forceW
    split
    · rename_i h; cases h
    · rename_i h; cases h; rw [forceC_eq,ih]
    · rename_i h; cases h; rw [ih]
    · rename_i h; cases h; rw [ih]
    · rename_i h; cases h; rw [forceI_eq,forceI_eq,ih]
    · rename_i h; cases h; rw [ih]
theorem nameS_sel {R:Type} (v:AV) (K:AV→Ah R):(nameS v K).sel=(K v).sel:=by
  unfold nameS
  split <;> rfl
theorem nameC_sel {R:Type} : ∀ (l:List AV) (K:List AV→Ah R),(nameC l K).sel=(K l).sel
  | [],_=>rfl
  | v::l,K=>by simp only [nameC,nameS_sel,nameC_sel l]
theorem name1_sel {R:Type} (v:AV) (K:AV→Ah R):(name1 v K).sel=(K v).sel:=by
  unfold name1
  split
  · exact nameC_sel _ _
  · exact nameS_sel _ _
theorem nameD_sel {R:Type} : ∀ (l:List AV) (K:List AV→Ah R),(nameD l K).sel=(K l).sel
  | [],_=>rfl
  | v::l,K=>by simp only [nameD,name1_sel,nameD_sel l]
theorem nameV_sel {R:Type} (v:AV) (K:AV→Ah R):(nameV v K).sel=(K v).sel:=by
  unfold nameV
  split
  · exact nameD_sel _ _
  · exact name1_sel _ _
theorem nameBS_sel {R:Type} (v:AV) (K:AV→Ah R):(nameBS v K).sel=(K v).sel:=by
  unfold nameBS
  split
  · rfl
  · exact nameS_sel _ _
theorem nameBC_sel {R:Type} : ∀ (l:List AV) (K:List AV→Ah R),(nameBC l K).sel=(K l).sel
  | [],_=>rfl
  | v::l,K=>by simp only [nameBC,nameBS_sel,nameBC_sel l]
theorem nameNI_sel {R:Type} (n:SI) (K:SI→Ah R):(nameNI n K).sel=(K n).sel:=by cases n <;> rfl
theorem nameW_sel {R:Type} : ∀ (W:Aq) (K:Aq→Ah R),(nameW W K).sel=(K W).sel
  | [],_=>rfl
  | e::W,K=>by
    have ih:=fun K=>nameW_sel (R:=R) W K
    unfold nameW
    split
    · rename_i h; cases h
    · rename_i h; cases h; rw [nameBC_sel,ih]
    · rename_i h; cases h; rw [ih]
    · rename_i h; cases h; exact ih _
    · rename_i h; cases h; rw [nameNI_sel,nameNI_sel,ih]
    · rename_i h; cases h; rw [ih]
theorem nameO_sel {R:Type} (op:Op) (ρ:Operand→AV) (v:AV) (K:AV→Ah R):(nameO op ρ v K).sel=(K v).sel:=by
  unfold nameO
  split
  · exact nameV_sel _ _
  · rw [forceV_eq]
def guardD (ops:Array Oper) (o:Oper) (τ:Tm):Option (Bool×Tm) :=
  match o.guard with
  | none=>some (true,τ)
  | some (j,want)=>match (ops[j]?).bind (·.dst) with
    | none=>some (false,τ)
    | some t=>match tget t τ with
      | .bool (.lit b)=>some (b==want,τ)
      | .bool (.sym b)=>some (b==want,(t,.bool (.lit b))::τ)
      | .raw (.tuple _)=>some (false,τ)
      | _=>none
theorem guardT_sel {R : Type} (ops : Array Oper) (o : Oper) (τ : Tm) (yes no : Tm → Ah R) :
    (guardT ops o τ yes no).sel=(guardD ops o τ).bind fun q=>match q.1 with | true=>(yes q.2).sel | false=>(no q.2).sel:=by
  unfold guardT guardD
  cases o.guard with
  | none=>rfl
  | some jw =>
    obtain ⟨j,want⟩:=jw
    dsimp only
    cases (ops[j]?).bind (·.dst) with
    | none=>rfl
    | some t =>
      dsimp only
      cases tget t τ with
      | bool b=>cases b with
        | lit b=>cases b <;> cases want <;> rfl
        | sym b=>cases b <;> cases want <;> rfl
      | raw v=>cases v <;> rfl
      | _=>rfl
def pickD (op:Op) (τ:Tm):Tm :=
  match op with
  | .pick (.tmp t) _ _=>match tget t τ with
    | .bool (.sym b)=>(t,.bool (.lit b))::τ
    | _=>τ
  | _=>τ
theorem pickT_sel {R:Type} (op:Op) (τ:Tm) (go:Tm→Ah R):(pickT op τ go).sel=(go (pickD op τ)).sel:=by
  unfold pickT pickD
  cases op with
  | pick c a b=>cases c with
    | tmp t =>
      dsimp only
      cases tget t τ with
      | bool b=>cases b with
        | lit b=>rfl
        | sym b=>cases b <;> rfl
      | _=>rfl
    | _=>rfl
  | _=>rfl
abbrev CallD:=FuncId→List AV→Aq→Nat→Option (AV×Aq×Nat)
abbrev CallT (R:Type):=FuncId→List AV→Aq→Nat→(AV→Aq→Nat→Ah R)→Ah R
def Nat1 {R:Type} (c:CallT R) (d:CallD):Prop:=∀ f args h key K,(c f args h key K).sel=(d f args h key).bind fun q=>(K q.1 q.2.1 q.2.2).sel
def opsD (P:Program) (T:Tab) (call:CallD) (nt:Nat) (ops:Array Oper):List Oper→Tm→Aq→Nat→Option (Tm×Aq×Nat)
  | [],τ,h,key=>some (τ,h,key)
  | o::rest,τ,h,key =>
    match dstOk nt o.dst with
    | false=>none
    | true=>(guardD ops o τ).bind fun q=>match q.1 with
      | true=>match callOf P o.op (aeval (pickD o.op q.2)) with
        | some (f,args)=>match T.sm f with
          | some S=>(S.run args h key).sel.bind fun r=>opsD P T call nt ops rest (tput o.dst r.1 (pickD o.op q.2)) (r.2.2.1++h) r.2.2.2
          | none=>(call f args h key).bind fun r=>opsD P T call nt ops rest (tput o.dst r.1 (pickD o.op q.2)) r.2.1 r.2.2
        | none=>(opA P o.op (aeval (pickD o.op q.2)) h key).sel.bind fun
          | .val v _ W=>opsD P T call nt ops rest (tput o.dst v (pickD o.op q.2)) (W++h) (key+2)
      | false=>opsD P T call nt ops rest (tput o.dst (.raw undef) q.2) h key
theorem obind_congr {α β:Type} {x:Option α} {f g:α→Option β} (h:∀ a,f a=g a):x.bind f=x.bind g:=by
  cases x with
  | none=>rfl
  | some a=>exact h a
theorem opsT_sel {R : Type} {P : Program} {T : Tab} {c : CallT R} {d : CallD} (hc : Nat1 c d) (nt : Nat) (ops : Array Oper) : ∀ (l : List Oper) (τ : Tm) (h : Aq) (key : Nat) (K : Tm → Aq → Nat → Ah R),
    (opsT P T c nt ops l τ h key K).sel=(opsD P T d nt ops l τ h key).bind fun q=>(K q.1 q.2.1 q.2.2).sel:=by
  intro l
  induction l with
  | nil=>intro τ h key K; rfl
  | cons o rest ih =>
    intro τ h key K
    simp only [opsT,opsD]
    cases dstOk nt o.dst with
    | false=>rfl
    | true =>
      dsimp only
      rw [guardT_sel,Option.bind_assoc]
      refine obind_congr fun q=>?_
      cases q.1 with
      | false=>exact ih _ _ _ _
      | true =>
        dsimp only
        rw [pickT_sel]
        cases callOf P o.op (aeval (pickD o.op q.2)) with
        | none =>
          dsimp only
          rw [bind_sel,Option.bind_assoc]
          refine obind_congr fun r=>?_
          cases r with
          | val v R' W =>
            dsimp only
            rw [nameO_sel,forceW_eq]
            exact ih _ _ _ _
        | some fa =>
          obtain ⟨f,args⟩:=fa
          dsimp only
          cases T.sm f with
          | some S =>
            dsimp only
            rw [bind_sel,Option.bind_assoc]
            refine obind_congr fun r=>?_
            rw [nameV_sel,nameW_sel]
            exact ih _ _ _ _
          | none =>
            dsimp only
            rw [hc,Option.bind_assoc]
            exact obind_congr fun r=>ih _ _ _ _
def drawStepD (P:Program) (T:Tab) (call:CallD) (o:Oper) (τ:Tm) (h:Aq) (key:Nat):Option (AV×List Nat×Aq×Nat) :=
  match callOf P o.op (aeval τ) with
  | some (f,args)=>match T.sm f with
    | some S=>(S.run args h key).sel
    | none=>match closedK (reach 100 (keysL args) [] h) h with
      | false=>none
      | true => (call f args (restrict (reach 100 (keysL args) [] h) h) key).map fun r =>
          (r.1,reach 100 (keysL args) [] h,r.2.1.take (r.2.1.length - (reach 100 (keysL args) [] h).length),r.2.2)
  | none=>(opA P o.op (aeval τ) h key).sel.map fun
    | .val v R W=>(v,R,W,key+2)
def drawD (P:Program) (T:Tab) (call:CallD) (nt:Nat) (ops:Array Oper) (bef:List Nat):List Oper→Nat→List Cert→Tm→Aq→Nat→Option (Tm×Aq×Nat)
  | [],_,_,τ,h,key=>some (τ,h,key)
  | o::rest,i,cs,τ,h,key =>
    match dstOk nt o.dst&&edgesOk o i with
    | false=>none
    | true=>(guardD ops o τ).bind fun q=>match q.1 with
      | true=>(drawStepD P T call o (pickD o.op q.2) h key).bind fun r =>
        match cs.any (clash ops (bef.getD i 0) o r.2.1 (wkeys r.2.2.1)) with
        | true=>none
        | false=>drawD P T call nt ops bef rest (i+1) (⟨i,r.2.1,wkeys r.2.2.1⟩::cs) (tput o.dst r.1 (pickD o.op q.2)) (r.2.2.1++h) r.2.2.2
      | false=>match cs.any (clash ops (bef.getD i 0) o [] (wkeys [])) with
        | true=>none
        | false=>drawD P T call nt ops bef rest (i+1) (⟨i,[],[]⟩::cs) (tput o.dst (.raw undef) q.2) h key
theorem doneT_sel {R : Type} (ops : Array Oper) (bef : Nat) (o : Oper) (cs : List Cert) (Rk : List Nat) (W : Aq) (x : Ah R) :
    (doneT ops bef o cs Rk W x).sel=match cs.any (clash ops bef o Rk (wkeys W)) with | true=>none | false=>x.sel:=by
  unfold doneT
  cases cs.any (clash ops bef o Rk (wkeys W)) <;> rfl
theorem ifb {R S:Type} (b:Bool) (x:Option R) (f:R→Option S):(match b with | true=>none | false=>x).bind f=match b with | true=>none | false=>x.bind f:=by cases b <;> rfl
theorem drawT_sel {R : Type} {P : Program} {T : Tab} {c : CallT R} {d : CallD} (hc : Nat1 c d) (nt : Nat) (ops : Array Oper) (bef : List Nat) : ∀ (l : List Oper) (i : Nat) (cs : List Cert) (τ : Tm) (h : Aq) (key : Nat) (K : Tm → Aq → Nat → Ah R),
    (drawT P T c nt ops bef l i cs τ h key K).sel=(drawD P T d nt ops bef l i cs τ h key).bind fun q=>(K q.1 q.2.1 q.2.2).sel:=by
  intro l
  induction l with
  | nil=>intro i cs τ h key K; rfl
  | cons o rest ih =>
    intro i cs τ h key K
    simp only [drawT,drawD]
    cases dstOk nt o.dst&&edgesOk o i with
    | false=>rfl
    | true =>
      dsimp only
      rw [guardT_sel,Option.bind_assoc]
      refine obind_congr fun q=>?_
      cases q.1 with
      | false =>
        dsimp only
        rw [doneT_sel,ifb]
        congr 1
        funext _
        exact ih _ _ _ _ _ _
      | true =>
        dsimp only
        rw [pickT_sel]
        unfold drawStepD
        cases callOf P o.op (aeval (pickD o.op q.2)) with
        | none =>
          dsimp only
          rw [bind_sel,Option.bind_assoc,Option.bind_map]
          refine obind_congr fun r=>?_
          cases r with
          | val v R' W =>
            dsimp only [Function.comp]
            rw [nameO_sel,forceW_eq,doneT_sel,ifb]
            congr 1
            funext _
            exact ih _ _ _ _ _ _
        | some fa =>
          obtain ⟨f,args⟩:=fa
          dsimp only
          cases T.sm f with
          | some S =>
            dsimp only
            rw [bind_sel,Option.bind_assoc]
            refine obind_congr fun r=>?_
            rw [nameV_sel,nameW_sel,doneT_sel,ifb]
            congr 1
            funext _
            exact ih _ _ _ _ _ _
          | none =>
            dsimp only
            cases closedK (reach 100 (keysL args) [] h) h with
            | false=>rfl
            | true =>
              dsimp only
              rw [hc,Option.bind_assoc,Option.bind_map]
              refine obind_congr fun r=>?_
              dsimp only [Function.comp]
              rw [doneT_sel,ifb]
              congr 1
              funext _
              exact ih _ _ _ _ _ _
def callWD (P:Program) (run:FuncId→Nat→Code→Tm→Aq→Nat→Option St):CallD:=fun g args h key =>
  match P.funcs[g]? with
  | some fn=>match fn.body,Nat.ble args.length fn.ntmps with
    | some c,true=>(run g fn.ntmps c (argTm 0 args) h key).bind fun s=>match s.ex with
      | .exit _=>none
      | _=>(resA P s.tm s.heap fn.results.toList).map fun l=>(resV l,s.heap,s.key)
    | _,_=>none
  | none=>none
def codeD (P:Program) (T:Tab):Nat→FuncId→Nat→Code→Tm→Aq→Nat→Option St
  | 0,_,_,_,_,_,_=>none
  | n+1,f,nt,c,τ,h,key =>
    match c with
    | .skip=>some ⟨.normal,τ,h,key⟩
    | .label _=>some ⟨.normal,τ,h,key⟩
    | .exit id=>some ⟨.exit id,τ,h,key⟩
    | .ret=>some ⟨.ret,τ,h,key⟩
    | .seq x y=>(codeD P T n f nt x τ h key).bind fun s=>match s.ex with
      | .normal=>codeD P T n f nt y s.tm s.heap s.key
      | _=>some s
    | .cond c x y=>match aeval τ c with
      | .bool (.lit true)=>codeD P T n f nt x τ h key
      | .bool (.lit false)=>codeD P T n f nt y τ h key
      | .bool (.sym b)=>match c with
        | .tmp t=>match b with
          | true=>codeD P T n f nt x ((t,.bool (.lit true))::τ) h key
          | false=>codeD P T n f nt y ((t,.bool (.lit false))::τ) h key
        | _=>none
      | _=>none
    | .block id x=>match T.hk f id with
      | some H=>(H.run τ h key).sel
      | none=>(codeD P T n f nt x τ h key).bind fun s=>match s.ex with
        | .exit i=>match Nat.beq i id with
          | true=>some ⟨.normal,s.tm,s.heap,s.key⟩
          | false=>some s
        | _=>some s
    | .loop x=>(codeD P T n f nt x τ h key).bind fun s=>match s.ex with
      | .normal=>codeD P T n f nt (.loop x) s.tm s.heap s.key
      | _=>some s
    | .region _ ops false=>(opsD P T (callWD P (codeD P T n)) nt ops ops.toList τ h key).map fun q=>⟨.normal,q.1,q.2.1,q.2.2⟩
    | .region _ ops true=>(drawD P T (callWD P (codeD P T n)) nt ops (Region.before ops).toList ops.toList 0 [] τ h key).map fun q=>⟨.normal,q.1,q.2.1,q.2.2⟩
    | _=>none
theorem callW_nat {R : Type} {P : Program} {run : FuncId → Nat → Code → Tm → Aq → Nat → (St → Ah R) → Ah R} {runD : FuncId → Nat → Code → Tm → Aq → Nat → Option St}
    (hr:∀ f nt c τ h key K,(run f nt c τ h key K).sel=(runD f nt c τ h key).bind fun s=>(K s).sel):Nat1 (BR P run) (callWD P runD):=by
  intro g args h key K
  unfold BR callWD
  cases P.funcs[g]? with
  | none=>rfl
  | some fn =>
    dsimp only
    cases fn.body with
    | none=>rfl
    | some c =>
      cases Nat.ble args.length fn.ntmps with
      | false=>rfl
      | true =>
        dsimp only
        rw [hr,Option.bind_assoc]
        refine obind_congr fun s=>?_
        cases s.ex with
        | exit _=>rfl
        | normal =>
          dsimp only
          cases resA P s.tm s.heap fn.results.toList <;> rfl
        | ret =>
          dsimp only
          cases resA P s.tm s.heap fn.results.toList <;> rfl
theorem codeT_sel {R : Type} {P : Program} {T : Tab} : ∀ (n : Nat) (f : FuncId) (nt : Nat) (c : Code) (τ : Tm) (h : Aq) (key : Nat) (K : St → Ah R),
    (Am P T n f nt c τ h key K).sel=(codeD P T n f nt c τ h key).bind fun s=>(K s).sel:=by
  intro n
  induction n with
  | zero=>intro f nt c τ h key K; rfl
  | succ n ih =>
    intro f nt c τ h key K
    have hcall:Nat1 (BR P (Am (R:=R) P T n)) (callWD P (codeD P T n)):=callW_nat ih
    cases c <;> simp only [Am,codeD] <;> try rfl
    case seq x y =>
      rw [ih,Option.bind_assoc]
      refine obind_congr fun s=>?_
      cases he:s.ex <;> dsimp only
      · exact ih _ _ _ _ _ _ _
      · rfl
      · rfl
    case cond c x y =>
      cases hc:aeval τ c <;> try rfl
      rename_i b
      cases b with
      | lit b=>cases b <;> exact ih _ _ _ _ _ _ _
      | sym b =>
        cases c <;> try rfl
        cases b <;> exact ih _ _ _ _ _ _ _
    case block id x =>
      cases T.hk f id with
      | some H=>exact bind_sel _ _
      | none =>
        dsimp only
        rw [ih,Option.bind_assoc]
        refine obind_congr fun s=>?_
        cases s.ex <;> dsimp only <;> try rfl
        rename_i i
        cases Nat.beq i id <;> rfl
    case loop x =>
      rw [ih,Option.bind_assoc]
      refine obind_congr fun s=>?_
      cases s.ex <;> dsimp only
      · exact ih _ _ _ _ _ _ _
      · rfl
      · rfl
    case region id ops draw =>
      cases draw <;> simp only [Am,codeD]
      · rw [opsT_sel hcall,Option.bind_map]; rfl
      · rw [drawT_sel hcall,Option.bind_map]; rfl
end Go.Eng
set_option linter.unusedSimpArgs false
set_option linter.unusedVariables false
namespace Go.Eng
theorem WOK.nil (lk:Look) (n n':Nat):WOK lk n n' []:=fun _ _ h=>by cases h
theorem WOK.one {lk:Look} {n n' k:Nat} {o:Option Ai} (hk:lk k≠none∨(n≤k∧k<n')) (ho:∀ x g,o=some x→x.grp=some g→lk g≠none):WOK lk n n' [(k,o)]:=fun j x h=>by
  simp only [List.mem_singleton,Prod.mk.injEq] at h
  obtain ⟨rfl,rfl⟩:=h
  exact ⟨hk,fun x g e eg=>.inr (ho x g e eg)⟩
theorem WOK.trans {lk:Look} {n n' n'':Nat} {W V:Aq} (h:WOK lk n n' W) (h':WOK (hupd lk W) n' n'' V) (h1:n≤n') (h2:n'≤n''):WOK lk n n'' (V++W):=by
  have look:∀ k,hupd lk W k≠none→k∈wkeys W∨lk k≠none:=by
    intro k hk
    by_cases hm:k∈wkeys W
    · exact .inl hm
    · refine .inr ?_
      unfold hupd at hk
      rw [wget_none hm] at hk
      exact hk
  have old:∀ k,k∈wkeys W→lk k≠none∨(n≤k∧k<n'):=by
    intro k hk
    simp only [wkeys,List.mem_map] at hk
    obtain ⟨⟨j,o⟩,hm,rfl⟩:=hk
    exact (h j o hm).1
  intro k o hm
  rw [List.mem_append] at hm
  rcases hm with hm | hm
  · obtain ⟨a1,a2⟩:=h' k o hm
    refine ⟨?_,fun x g e eg=>?_⟩
    · rcases a1 with a1 | a1
      · rcases look k a1 with a1 | a1
        · rcases old k a1 with a1 | a1
          · exact .inl a1
          · exact .inr ⟨a1.1,by omega⟩
        · exact .inl a1
      · exact .inr ⟨by omega,a1.2⟩
    · simp only [wkeys,List.map_append,List.mem_append]
      rcases a2 x g e eg with a2 | a2
      · exact .inl (.inl a2)
      · rcases look g a2 with a2 | a2
        · exact .inl (.inr a2)
        · exact .inr a2
  · obtain ⟨a1,a2⟩:=h k o hm
    refine ⟨?_,fun x g e eg=>?_⟩
    · rcases a1 with a1 | a1
      · exact .inl a1
      · exact .inr ⟨a1.1,by omega⟩
    · simp only [wkeys,List.map_append,List.mem_append]
      rcases a2 x g e eg with a2 | a2
      · exact .inl (.inr a2)
      · exact .inr a2
def Ah.All {R:Type} (Q:R→Prop):Ah R→Prop
  | .leaf r=>Q r
  | .ite _ a b=>a.All Q∧b.All Q
  | .must _ a=>a.All Q
  | .defI x k=>(k x).All Q
  | .defB x k=>(k x).All Q
  | .defE x k=>(k x).All Q
  | .fail _=>True
theorem Ah.All.sel {R:Type} {Q:R→Prop} : ∀ {t:Ah R} {r:R},t.All Q→t.sel=some r→Q r
  | .leaf r,_,h,e=>by cases e; exact h
  | .ite b x y,r,h,e=>by
    cases b
    · exact Ah.All.sel h.2 e
    · exact Ah.All.sel h.1 e
  | .must b x,r,h,e=>by
    cases b
    · cases e
    · exact Ah.All.sel (t:=x) h e
  | .defI x k,r,h,e=>Ah.All.sel (t:=k x) h e
  | .defB x k,r,h,e=>Ah.All.sel (t:=k x) h e
  | .defE x k,r,h,e=>Ah.All.sel (t:=k x) h e
  | .fail _,_,_,e=>by cases e
theorem all_need {R:Type} {Q:R→Prop} {b:SB} {t:Ah R} (h:t.All Q):(Ah.need b t).All Q:=by
  rcases b with (_ | _) | b
  · trivial
  · exact h
  · exact h
theorem all_ofOpt {R S:Type} {Q:S→Prop} {w:String} {x:Option R} {f:R→Ah S} (h:∀ y,(f y).All Q):(Ah.ofOpt w x f).All Q:=by
  cases x with
  | none=>trivial
  | some y=>exact h y
theorem all_nway {R:Type} {Q:R→Prop} {i:Int} {f:Nat→Ah R} (h:∀ j,(f j).All Q):∀ (n:Nat) (e:Ah R),e.All Q→(nway i f n e).All Q
  | 0,_,he=>he
  | n+1,_,he=>all_nway h n _ ⟨h n,he⟩
theorem all_atPlace {R:Type} {Q:R→Prop} {i:SI} {n:Nat} {f:Nat→Ah R} (h:∀ j,(f j).All Q):(atPlace i n f).All Q:=by
  cases i with
  | lit x =>
    simp only [atPlace]
    split
    · exact h _
    · trivial
  | sym x=>exact all_nway h n _ trivial
def ResOK (h:Aq) (key:Nat):Res→Prop
  | .val _ _ W=>WOK (AO h) key (key+2) W
section
variable {P:Program} {h:Aq} {key:Nat}
theorem ok_pure (v:AV) (R:List Nat):(Ah.leaf (Res.val v R [])).All (ResOK h key):=WOK.nil _ _ _
theorem all_intOp (op:BinOp) (k:IntKind) (a b:SI):(intOp op k a b).All (ResOK h key):=by
  cases op <;> first | exact ok_pure _ _ | trivial | exact all_need (ok_pure _ _)
theorem all_shiftOp (op:BinOp) (k:IntKind) (a b:SI):(shiftOp op k a b).All (ResOK h key):=by
  cases op <;> first | trivial | exact all_need (ok_pure _ _)
theorem all_eqOp (neg:Bool) (t:TypeId) (x y:AV):(eqOp P neg t x y).All (ResOK h key):=by
  unfold eqOp
  split
  · exact ok_pure _ _
  · trivial
theorem all_binA (op:BinOp) (t:TypeId) (x y:AV):(binA P op t x y).All (ResOK h key):=by
  unfold binA
  split
  · split
    · exact all_shiftOp _ _ _ _
    · exact all_shiftOp _ _ _ _
    · split
      · exact all_intOp _ _ _ _
      · trivial
  · split <;> first | exact ok_pure _ _ | trivial
  · split
    · trivial
    · split
      · exact all_eqOp _ _ _ _
      · exact all_eqOp _ _ _ _
      · trivial
  · trivial
  · split
    · exact all_eqOp _ _ _ _
    · exact all_eqOp _ _ _ _
    · trivial
theorem all_unA (op:UnOp) (x:AV):(unA op x).All (ResOK h key):=by
  unfold unA
  split <;> first | exact ok_pure _ _ | trivial
theorem all_fixS {R:Type} {Q:R→Prop} {v:AV} {K:AV→Ah R} (h:∀ v,(K v).All Q):(fixS v K).All Q:=by
  unfold fixS
  split
  · exact h _
  · exact h _
theorem all_fixC {R:Type} {Q:R→Prop} : ∀ {l:List AV} {K:List AV→Ah R},(∀ l,(K l).All Q)→(fixC l K).All Q
  | [],K,h=>h _
  | v::l,K,h=>all_fixS fun _=>all_fixC fun _=>h _
theorem all_fixA {R:Type} {Q:R→Prop} {v:AV} {K:AV→Ah R} (h:∀ v,(K v).All Q):(fixA v K).All Q:=by
  unfold fixA
  split
  · exact all_fixC fun _=>h _
  · exact all_fixS h
theorem all_loadA (t:TypeId) (x:AV):(loadA P t x h).All (ResOK h key):=by
  unfold loadA
  split
  · split
    · exact all_ofOpt fun _=>ok_pure _ _
    · trivial
  · split
    · split
      · exact all_need (all_ofOpt fun _=>all_fixA fun _=>ok_pure _ _)
      · trivial
    · trivial
  · trivial
theorem WOK.put {k g n:Nat} {lk:Look} {o:Ai} (hk:lk k≠none) (hg:lk g≠none) (ho:o.grp=some n):WOK lk n (n+2) [(k,some o),(n,some .tok),(g,none)]:=by
  intro j x hm
  simp only [List.mem_cons,Prod.mk.injEq,List.not_mem_nil,or_false] at hm
  rcases hm with ⟨rfl,rfl⟩ | ⟨rfl,rfl⟩ | ⟨rfl,rfl⟩
  · refine ⟨.inl hk,fun x g' e eg=>.inl ?_⟩
    cases e
    rw [ho] at eg; cases eg
    simp [wkeys]
  · exact ⟨.inr ⟨by omega,by omega⟩,fun _ _ e eg=>by cases e; cases eg⟩
  · exact ⟨.inl hg,fun _ _ e eg=>by cases e⟩
theorem all_storeA (t:TypeId) (x v:AV):(storeA P t x v h key).All (ResOK h key):=by
  unfold storeA
  split
  · split
    · rename_i k off cs n hk hn
      split
      · exact WOK.one (.inl (by rw [AO,hk]; simp)) (fun _ _ e eg=>by cases e; cases eg)
      · trivial
    · trivial
  · split
    · rename_i k i sz off len sz' rows g n hk hn
      split
      · rename_i h0 h1 h2 h3
        simp only [Bool.and_eq_true] at h0
        exact all_need (WOK.put (by rw [AO,hk]; simp) (by rw [AO,liveG_spec h0.2 g rfl]; simp) rfl)
      · trivial
    · trivial
  · trivial
theorem all_clearA (t:TypeId) (x:AV):(clearA P t x h key).All (ResOK h key):=by
  unfold clearA
  split
  · split
    · split
      · rename_i len sz' rows g n z hb hn hz
        split
        · rename_i c1 c2 c3 c4
          exact WOK.put (by rw [AO,hb]; simp) (by rw [AO,liveG_spec c2 g rfl]; simp) rfl
        · trivial
      · trivial
    · trivial
  · trivial
theorem all_fieldAddrA (s:TypeId) (x:AV) (f:Nat):(fieldAddrA P s x f).All (ResOK h key):=by
  unfold fieldAddrA
  split
  · split
    · split
      · split <;> first | exact ok_pure _ _ | trivial
      · trivial
    · trivial
  · trivial
theorem all_indexAddrA (t:TypeId) (x i:AV):(indexAddrA P t x i h).All (ResOK h key):=by
  unfold indexAddrA
  split
  · split
    · split
      · split
        · exact all_atPlace fun _=>ok_pure _ _
        · trivial
      · trivial
    · split
      · split
        · split
          · exact all_need (ok_pure _ _)
          · trivial
        · trivial
      · trivial
    · trivial
  · trivial
theorem all_indexA (t:TypeId) (x i:AV):(indexA P t x i).All (ResOK h key):=by
  unfold indexA
  split
  · split
    · split
      · exact all_atPlace fun _=>all_ofOpt fun _=>ok_pure _ _
      · trivial
    · trivial
  · trivial
theorem all_fieldA (t:TypeId) (x:AV) (f:Nat):(fieldA P t x f).All (ResOK h key):=by
  unfold fieldA
  split
  · split
    · exact all_ofOpt fun _=>ok_pure _ _
    · trivial
  · trivial
theorem all_lenK (k:Nat):(lenK k h).All (ResOK h key):=by
  unfold lenK
  split
  · exact ok_pure _ _
  · trivial
theorem all_lenA (t:TypeId) (x:AV):(lenA P t x h).All (ResOK h key):=by
  unfold lenA
  split <;> try exact ok_pure _ _
  · exact all_lenK _
  · exact all_lenK _
  · trivial
theorem all_appendA (t:TypeId) (x y:AV):(appendA P t x y h key).All (ResOK h key):=by
  unfold appendA
  split
  · split
    · split
      · rename_i a c g h1 h2 h3 h4
        simp only [Lst.with_eq]
        refine all_need ?_
        show WOK _ _ _ _
        intro k o hm
        simp only [List.mem_cons,Prod.mk.injEq] at hm
        rcases hm with ⟨rfl,rfl⟩ | ⟨rfl,rfl⟩ | hm
        · refine ⟨.inr ⟨by omega,by omega⟩,fun x g' e eg=>.inl ?_⟩
          cases e; cases eg
          simp [wkeys]
        · exact ⟨.inr ⟨by omega,by omega⟩,fun _ _ e eg=>by cases e; cases eg⟩
        · cases g with
          | none=>cases hm
          | some g =>
            simp only [killG,List.mem_singleton,Prod.mk.injEq] at hm
            obtain ⟨rfl,rfl⟩:=hm
            refine ⟨.inl ?_,fun _ _ e eg=>by cases e⟩
            unfold grpOf at h4
            split at h4
            · cases h4
            · rename_i kk
              split at h4
              · rename_i len sz rows g' hkk
                cases h4
                unfold readL at h2
                simp only [readK,hkk] at h2
                split at h2
                · rename_i h5 h6
                  rw [AO,liveG_spec h6 k rfl]
                  simp
                · cases h2
              · cases h4
            · cases h4
      · trivial
    · trivial
  · trivial
theorem all_sliceA (t:TypeId) (x:AV) (lo hi:Option AV):(sliceA P t x lo hi h key).All (ResOK h key):=by
  unfold sliceA
  split
  · split
    · split
      · rename_i k hn len sz rows g hkk
        split
        · rename_i l m h1 h2 h3
          simp only [Bool.and_eq_true] at h1
          refine all_need (all_need ?_)
          show WOK _ _ _ _
          intro j x hm
          simp only [List.mem_cons,Prod.mk.injEq,List.not_mem_nil,or_false] at hm
          rcases hm with ⟨rfl,rfl⟩ | ⟨rfl,rfl⟩
          · refine ⟨.inr ⟨Nat.le_refl _,by omega⟩,fun x g' e eg=>.inr ?_⟩
            cases e
            rw [AO,liveG_spec h1.2 g' eg]
            simp
          · exact ⟨.inr ⟨by omega,by omega⟩,fun _ _ e eg=>by cases e; cases eg⟩
        · trivial
      · trivial
    · split
      · exact ok_pure _ _
      · trivial
    · trivial
  · trivial
theorem all_sliceZA (t:TypeId) (x:AV) (lo:Option AV) (hi mx:AV):(sliceZA P t x lo hi mx h key).All (ResOK h key):=by
  unfold sliceZA
  split
  · split
    · split
      · exact ok_pure _ _
      · split
        · show WOK _ _ _ _
          intro k o hm
          simp only [List.mem_cons,Prod.mk.injEq,List.not_mem_nil,or_false] at hm
          rcases hm with ⟨rfl,rfl⟩ | ⟨rfl,rfl⟩
          · refine ⟨.inr ⟨by omega,by omega⟩,fun x g' e eg=>.inl ?_⟩
            cases e; cases eg
            simp [wkeys]
          · exact ⟨.inr ⟨by omega,by omega⟩,fun _ _ e eg=>by cases e; cases eg⟩
        · trivial
      · trivial
    · trivial
  · trivial
theorem all_buildSliceA (t:TypeId) (len:Nat) (parts:List (Nat×AV)):(buildSliceA P t len parts key).All (ResOK h key):=by
  unfold buildSliceA
  split
  · split
    · split
      · split
        · rw [forceC_eq]
          show WOK _ _ _ _
          intro k o hm
          simp only [List.mem_cons,Prod.mk.injEq,List.not_mem_nil,or_false] at hm
          rcases hm with ⟨rfl,rfl⟩ | ⟨rfl,rfl⟩
          · refine ⟨.inr ⟨by omega,by omega⟩,fun x g' e eg=>.inl ?_⟩
            cases e; cases eg
            simp [wkeys]
          · exact ⟨.inr ⟨by omega,by omega⟩,fun _ _ e eg=>by cases e; cases eg⟩
        · trivial
      · trivial
    · trivial
  · trivial
theorem all_callA (c:Call) (ρ:Operand→AV):(callA P c ρ h key).All (ResOK h key):=by
  unfold callA
  split
  · trivial
  · trivial
  · split
    · exact all_lenA _ _
    · split
      · exact all_appendA _ _ _
      · trivial
    · exact all_clearA _ _
    · split
      · exact all_ofOpt fun _=>ok_pure _ _
      · trivial
    · split
      · exact all_ofOpt fun _=>ok_pure _ _
      · trivial
    · trivial
theorem all_lookupA (t:TypeId) (x i:AV) (ok:Bool):(lookupA P t x i ok h).All (ResOK h key):=by
  unfold lookupA
  split
  · split
    · split
      · exact WOK.nil _ _ _
      · exact WOK.nil _ _ _
      · exact ⟨WOK.nil _ _ _,WOK.nil _ _ _⟩
      · trivial
    · trivial
  · trivial
theorem all_mapUpdateA (t:TypeId) (x i v:AV):(mapUpdateA P t x i v h).All (ResOK h key):=by
  unfold mapUpdateA
  split
  · split
    · rename_i hk
      split
      · exact WOK.one (.inl (by rw [AO,hk]; simp)) (fun _ _ e eg=>by cases e; cases eg)
      · exact all_need (WOK.one (.inl (by rw [AO,hk]; simp)) (fun _ _ e eg=>by cases e; cases eg))
      · trivial
    · trivial
  · trivial
theorem all_opA (op:Op) (ρ:Operand→AV):(opA P op ρ h key).All (ResOK h key):=by
  cases op <;> simp only [opA] <;> try trivial
  case move=>exact ok_pure _ _
  case assign=>exact ok_pure _ _
  case pick=>split <;> first | exact ok_pure _ _ | trivial | exact ⟨ok_pure _ _,ok_pure _ _⟩
  case alloc =>
    split
    · split
      · exact WOK.one (.inr ⟨Nat.le_refl _,by omega⟩) fun _ _ e eg=>by cases e; cases eg
      · trivial
    · trivial
  case box =>
    split
    · exact WOK.one (.inr ⟨Nat.le_refl _,by omega⟩) fun _ _ e eg=>by cases e; cases eg
    · trivial
  case build=>exact all_ofOpt fun _=>ok_pure _ _
  case buildSlice=>exact all_buildSliceA _ _ _
  case load=>exact all_loadA _ _
  case store=>exact all_storeA _ _ _
  case nilCheck=>split <;> first | exact ok_pure _ _ | trivial
  case binOp=>exact all_binA _ _ _ _
  case unOp=>exact all_unA _ _
  case convert=>split <;> first | exact ok_pure _ _ | trivial
  case makeFunc=>exact ok_pure _ _
  case lookup=>exact all_lookupA _ _ _ _
  case mapUpdate=>exact all_mapUpdateA _ _ _ _
  case makeMap =>
    split
    · exact WOK.one (.inr ⟨Nat.le_refl _,by omega⟩) fun _ _ e eg=>by cases e; cases eg
    · trivial
  case slice =>
    split
    · exact all_sliceA _ _ _ _
    · split
      · exact all_sliceZA _ _ _ _ _
      · trivial
  case fieldAddr=>exact all_fieldAddrA _ _ _
  case field=>exact all_fieldA _ _ _
  case indexAddr=>exact all_indexAddrA _ _ _
  case index=>exact all_indexA _ _ _
  case extract =>
    split
    · exact all_ofOpt fun _=>ok_pure _ _
    · trivial
  case call=>exact all_callA _ _
theorem opA_wok {op:Op} {ρ:Operand→AV} {v:AV} {R:List Nat} {W:Aq} (hs:(opA P op ρ h key).sel=some (.val v R W)):WOK (AO h) key (key+2) W :=
  (all_opA (P:=P) (h:=h) (key:=key) op ρ).sel hs
end
structure TabW (T:Tab):Prop where
  sm:∀ f S,T.sm f=some S→∀ args h key r,(S.run args h key).sel=some r→key≤r.2.2.2∧WOK (AO h) key r.2.2.2 r.2.2.1
  hk:∀ f id H,T.hk f id=some H→∀ τ h key s,(H.run τ h key).sel=some s→key≤s.key∧∃ W,s.heap=W++h∧WOK (AO h) key s.key W
def Grows (h:Aq) (key:Nat) (h':Aq) (key':Nat):Prop:=key≤key'∧∃ W,h'=W++h∧WOK (AO h) key key' W
theorem Grows.refl (h:Aq) (key:Nat):Grows h key h key:=⟨Nat.le_refl _,[],rfl,WOK.nil _ _ _⟩
theorem Grows.trans {h h' h'':Aq} {k k' k'':Nat} (a:Grows h k h' k') (b:Grows h' k' h'' k''):Grows h k h'' k'':=by
  obtain ⟨a1,W,rfl,a2⟩:=a
  obtain ⟨b1,V,rfl,b2⟩:=b
  refine ⟨Nat.le_trans a1 b1,V++W,by simp,?_⟩
  rw [lookOf_append] at b2
  exact a2.trans b2 a1 b1
theorem Grows.app {h W:Aq} {k k':Nat} (h1:k≤k') (h2:WOK (AO h) k k' W):Grows h k (W++h) k':=⟨h1,W,rfl,h2⟩
def CallG (call:CallD):Prop:=∀ f args h key v h' key',call f args h key=some (v,h',key')→Grows h key h' key'
section
variable {P:Program} {T:Tab}
theorem BC {α β:Type} {x:Option α} {f:α→Option β} {b:β} (h:x.bind f=some b):∃ a,x=some a∧f a=some b:=by
  cases x with
  | none=>cases h
  | some a=>exact ⟨a,rfl,h⟩
theorem opsD_grows (hT : TabW T) {call : CallD} (hc : CallG call) (nt : Nat) (ops : Array Oper) : ∀ (l : List Oper) (τ : Tm) (h : Aq) (key : Nat) (q : Tm × Aq × Nat),
    opsD P T call nt ops l τ h key=some q→Grows h key q.2.1 q.2.2:=by
  intro l
  induction l with
  | nil=>intro τ h key q e; cases e; exact Grows.refl _ _
  | cons o rest ih =>
    intro τ h key q e
    simp only [opsD] at e
    split at e
    · cases e
    · obtain ⟨g,_,e⟩:=BC e
      split at e
      · split at e
        · split at e
          · rename_i S hS
            obtain ⟨r,hr,e⟩:=BC e
            obtain ⟨a1,a2⟩:=hT.sm _ S hS _ _ _ r hr
            exact (Grows.app a1 a2).trans (ih _ _ _ _ e)
          · obtain ⟨r,hr,e⟩:=BC e
            exact (hc _ _ _ _ _ _ _ hr).trans (ih _ _ _ _ e)
        · obtain ⟨r,hr,e⟩:=BC e
          cases r with
          | val v R W=>exact (Grows.app (by omega) (opA_wok hr)).trans (ih _ _ _ _ e)
      · exact ih _ _ _ _ e
theorem restrict_length:∀ (ks:List Nat) (h:Aq),(restrict ks h).length=ks.length
  | [],_=>rfl
  | k::ks,h=>by simp [restrict,restrict_length ks h]
theorem restrict_look (h:Aq) (k:Nat):∀ ks:List Nat,AO (restrict ks h) k=if k∈ks then hget k h else none
  | []=>rfl
  | j::ks=>by
    have ih:=restrict_look h k ks
    simp only [AO] at ih ⊢
    simp only [restrict,hget]
    by_cases hj:k=j
    · subst hj; simp
    · rw [beq_ne (Ne.symm hj)]
      dsimp only
      rw [ih]
      simp [hj]
theorem take_new {W r:Aq} : (W++r).take ((W++r).length - r.length)=W:=by simp
theorem drawStepD_grows (hT : TabW T) {call : CallD} (hc : CallG call) {o : Oper} {τ : Tm} {h : Aq} {key : Nat} {r : AV × List Nat × Aq × Nat} (e : drawStepD P T call o τ h key = some r) :
    key≤r.2.2.2∧WOK (AO h) key r.2.2.2 r.2.2.1:=by
  unfold drawStepD at e
  split at e
  · rename_i f args _
    split at e
    · rename_i S hS
      exact hT.sm _ S hS _ _ _ r e
    · split at e
      · cases e
      · obtain ⟨x,hx,rfl⟩:=Option.map_eq_some_iff.1 e
        obtain ⟨a1,W,a2,a3⟩:=hc _ _ _ _ _ _ _ hx
        refine ⟨a1,?_⟩
        dsimp only
        rw [a2]
        rw [← restrict_length (reach 100 (keysL args) [] h) h,take_new]
        intro k o' hm
        obtain ⟨b1,b2⟩:=a3 k o' hm
        have sub:∀ j,AO (restrict (reach 100 (keysL args) [] h) h) j≠none→AO h j≠none:=by
          intro j hj
          rw [restrict_look] at hj
          split at hj
          · exact hj
          · exact absurd rfl hj
        exact ⟨b1.imp (sub k) id,fun x g e' eg=>(b2 x g e' eg).imp id (sub g)⟩
  · obtain ⟨x,hx,rfl⟩:=Option.map_eq_some_iff.1 e
    cases x with
    | val v R W=>exact ⟨Nat.le_add_right key 2,opA_wok hx⟩
theorem drawD_grows (hT : TabW T) {call : CallD} (hc : CallG call) (nt : Nat) (ops : Array Oper) (bef : List Nat) : ∀ (l : List Oper) (i : Nat) (cs : List Cert) (τ : Tm) (h : Aq) (key : Nat) (q : Tm × Aq × Nat),
    drawD P T call nt ops bef l i cs τ h key=some q→Grows h key q.2.1 q.2.2:=by
  intro l
  induction l with
  | nil=>intro i cs τ h key q e; cases e; exact Grows.refl _ _
  | cons o rest ih =>
    intro i cs τ h key q e
    simp only [drawD] at e
    split at e
    · cases e
    · obtain ⟨g,_,e⟩:=BC e
      split at e
      · obtain ⟨r,hr,e⟩:=BC e
        split at e
        · cases e
        · obtain ⟨a1,a2⟩:=drawStepD_grows hT hc hr
          exact (Grows.app a1 a2).trans (ih _ _ _ _ _ _ e)
      · split at e
        · cases e
        · exact ih _ _ _ _ _ _ e
theorem callWD_grows {run:FuncId→Nat→Code→Tm→Aq→Nat→Option St} (hr:∀ f nt c τ h key s,run f nt c τ h key=some s→Grows h key s.heap s.key):CallG (callWD P run):=by
  intro f args h key v h' key' e
  unfold callWD at e
  split at e
  · split at e
    · obtain ⟨s,hs,e⟩:=BC e
      split at e
      · cases e
      · obtain ⟨l,_,e⟩:=Option.map_eq_some_iff.1 e
        cases e
        exact hr _ _ _ _ _ _ _ hs
    · cases e
  · cases e
theorem codeD_grows (hT:TabW T):∀ (n:Nat) (f:FuncId) (nt:Nat) (c:Code) (τ:Tm) (h:Aq) (key:Nat) (s:St),codeD P T n f nt c τ h key=some s→Grows h key s.heap s.key:=by
  intro n
  induction n with
  | zero=>intro f nt c τ h key s e; cases e
  | succ n ih =>
    intro f nt c τ h key s e
    have hcall:CallG (callWD P (codeD P T n)):=callWD_grows ih
    cases c <;> simp only [codeD] at e <;> try (cases e; done)
    case skip=>cases e; exact Grows.refl _ _
    case label=>cases e; exact Grows.refl _ _
    case exit=>cases e; exact Grows.refl _ _
    case ret=>cases e; exact Grows.refl _ _
    case seq x y =>
      obtain ⟨s1,h1,e⟩:=BC e
      split at e
      · exact (ih _ _ _ _ _ _ _ h1).trans (ih _ _ _ _ _ _ _ e)
      · cases e; exact ih _ _ _ _ _ _ _ h1
    case cond c x y =>
      split at e
      · exact ih _ _ _ _ _ _ _ e
      · exact ih _ _ _ _ _ _ _ e
      · split at e
        · split at e
          · exact ih _ _ _ _ _ _ _ e
          · exact ih _ _ _ _ _ _ _ e
        · cases e
      · cases e
    case block id x =>
      split at e
      · rename_i H hH
        exact hT.hk _ _ H hH _ _ _ _ e
      · obtain ⟨s1,h1,e⟩:=BC e
        have g1:=ih _ _ _ _ _ _ _ h1
        split at e
        · split at e <;> (cases e; exact g1)
        · cases e; exact g1
    case loop x =>
      obtain ⟨s1,h1,e⟩:=BC e
      split at e
      · exact (ih _ _ _ _ _ _ _ h1).trans (ih _ _ _ _ _ _ _ e)
      · cases e; exact ih _ _ _ _ _ _ _ h1
    case region id ops draw =>
      cases draw <;> simp only [codeD] at e
      · obtain ⟨q,hq,rfl⟩:=Option.map_eq_some_iff.1 e
        exact opsD_grows hT hcall _ _ _ _ _ _ _ hq
      · obtain ⟨q,hq,rfl⟩:=Option.map_eq_some_iff.1 e
        exact drawD_grows hT hcall _ _ _ _ _ _ _ _ _ _ hq
end
end Go.Eng
set_option linter.unusedSimpArgs false
set_option linter.unusedVariables false
namespace Go.Eng
section
variable {P:Program} {T:Tab}
def rng (A:Nat→Prop) (key key':Nat):Nat→Prop:=fun k=>A k∨(key≤k∧k<key')
def CallSpec (P:Program) (f:FuncId) (args:List AV) (C:Look→Prop) (key key':Nat) (v:AV) (W:Aq):Prop :=
  ∀ (A:Nat→Prop) (E:Env) (lk:Look) (w:World) (vals:Array Value),RelU A E lk w→C lk→(∀ k,key≤k→k<key'→¬ A k)→(∀ E',Ae A E E'→vals=(BM E' args).toArray) →
    Calls P f vals w fun e w'=>∃ val E1,e = .returned val∧(∀ E',Ae (rng A key key') E1 E'→val=den E' v)∧RelU (rng A key key') E1 (hupd lk W) w'∧Ext A E lk w E1 (hupd lk W) w'
def SummOK (P:Program) (f:FuncId) (S:Summ):Prop :=
  ∀ args h key v R W key',(S.run args h key).sel=some (v,R,W,key')→CallSpec P f args (fun lk=>∀ k∈R,lk k=hget k h) key key' v W
def CallOK (P:Program) (call:CallD):Prop :=
  ∀ f args h key v h' key' W,call f args h key=some (v,h',key')→h'=W++h→CallSpec P f args (fun lk=>lk=AO h) key key' v W
def StepSpec (P:Program) (o:Oper) (τ:Tm) (C:Look→Prop) (key key':Nat) (v:AV) (W:Aq):Prop :=
  ∀ (A:Nat→Prop) (E:Env) (lk:Look) (w:World) (a:Act) (K:Act→World→Prop) (Q:Exit→Act→World→Prop),RelU A E lk w→C lk→(∀ k,key≤k→k<key'→¬ A k) →
    (∀ E',Ae A E E'→∀ x∈o.op.operands,a.eval x=den E' (aeval τ x)) →
    (∀ val w' E1,(∀ E',Ae (rng A key key') E1 E'→val=den E' v)→RelU (rng A key key') E1 (hupd lk W) w'→Ext A E lk w E1 (hupd lk W) w'→K (a.put o.dst val) w') →
    o.wp P a w K Q
theorem step_op {o : Oper} {τ : Tm} {h : Aq} {key : Nat} {v : AV} {R : List Nat} {W : Aq} (hs : (opA P o.op (aeval τ) h key).sel = some (.val v R W)) :
    StepSpec P o τ (fun lk=>∀ k∈R,lk k=hget k h) key (key+2) v W:=by
  intro A E lk w a K Q hU hC hk hρ hK
  obtain ⟨nx,w',E1,val,h1,h2,h3,h4,h5⟩:=opA_sound hs hU hk hC a.eval hρ o rfl
  unfold Oper.wp
  rw [h1]
  have:=hK val w' E1 h3 h4 h5
  cases nx <;> simp only [nextV] at h2 <;> try (cases h2; done)
  · cases h2; exact this
  · cases h2; exact this
theorem step_call {o : Oper} {τ : Tm} {f : FuncId} {args : List AV} {C : Look → Prop} {key key' : Nat} {v : AV} {W : Aq} (hs : callOf P o.op (aeval τ) = some (f, args)) (hc : CallSpec P f args C key key' v W) :
    StepSpec P o τ C key key' v W:=by
  intro A E lk w a K Q hU hC hk hρ hK
  obtain ⟨vals,h1,h2⟩:=callOf_run hs w a.eval hρ o rfl
  unfold Oper.wp
  rw [h1,Oper.upon_enter]
  refine (hc A E lk w vals hU hC hk h2).mono ?_
  rintro e w' ⟨val,E1,rfl,h3,h4,h5⟩
  exact hK val w' E1 h3 h4 h5
theorem call_part {call : CallD} (hc : CallOK P call) (hg : CallG call) {f : FuncId} {args : List AV} {ks : List Nat} {h h' : Aq} {key key' : Nat} {v : AV} {W : Aq} (hs : call f args (restrict ks h) key = some (v, h', key'))
    (hW:h'=W++restrict ks h) (hcl:closedK ks h=true):CallSpec P f args (fun lk=>∀ k∈ks,lk k=hget k h) key key' v W:=by
  intro A E lk w vals hU hC hk hv
  have hlook:∀ k,AO (restrict ks h) k=if k∈ks then hget k h else none:=fun k=>restrict_look h k ks
  have hsub:∀ k o,AO (restrict ks h) k=some o→lk k=some o:=by
    intro k o ho
    rw [hlook] at ho
    split at ho
    · rename_i hm; rw [hC k hm]; exact ho
    · cases ho
  have hr:=hc f args _ key v h' key' W hs hW A E _ w vals (hU.sub hsub) rfl hk hv
  obtain ⟨_,W',hW',hwok⟩:=hg f args _ key v h' key' hs
  have:W'=W:=by
    rw [hW] at hW'
    exact List.append_cancel_right hW'.symm
  subst this
  refine hr.mono ?_
  rintro e w' ⟨val,E1,rfl,h3,h4,h5⟩
  obtain ⟨g1,g2⟩:=hU.frame hsub (fun k o g hl hog ht=>by
    rw [hlook] at hl ⊢
    split at hl
    · rename_i hm
      have hcl':=List.all_eq_true.1 hcl k hm
      rw [hl] at hcl'
      have hcl':memK g ks=true:=by
        cases o <;> simp only [Ai.grp] at hog <;> first | (cases hog; done) | (subst hog; exact hcl') | (cases hog; exact hcl')
      have hgm:g∈ks:=by
        clear hl hcl hs hW' hW hr hwok h3 h4 h5 hlook hsub
        induction ks with
        | nil=>cases hm
        | cons j ks ih =>
          simp only [memK] at hcl'
          by_cases hj:j=g
          · subst hj; simp
          · rw [beq_ne hj] at hcl'
            dsimp only at hcl'
            refine List.mem_cons_of_mem _ ?_
            have:∀ (ks:List Nat),memK g ks=true→g∈ks:=by
              intro ks
              induction ks with
              | nil=>intro h; cases h
              | cons j ks ih =>
                intro h
                simp only [memK] at h
                by_cases hj:j=g
                · subst hj; simp
                · rw [beq_ne hj] at h
                  exact List.mem_cons_of_mem _ (ih h)
            exact this ks hcl'
      rw [if_pos hgm,← hC g hgm]
      exact ht
    · cases hl) h4 h5 (fun _ h=>.inl h) (fun k o hm=>⟨fun hA=>(hwok k o hm).1.elim id fun h6=>absurd hA (hk k h6.1 h6.2),(hwok k o hm).2⟩)
  exact ⟨val,E1,rfl,h3,g1,g2⟩
structure StU (A:Nat→Prop) (E:Env) (nt:Nat) (τ:Tm) (lk:Look) (a:Act) (w:World):Prop where
  rel:RelU A E lk w
  size:a.tmps.size=nt
  defers:a.defers=[]
  tm:∀ E',Ae A E E'→∀ t,a.tmps.getD t undef=den E' (tget t τ)
theorem tmEval {E:Env} {a:Act} {τ:Tm} (h:∀ t,a.tmps.getD t undef=den E (tget t τ)) (x:Operand):a.eval x=den E (aeval τ x):=by
  cases x with
  | tmp t=>exact h t
  | const v=>simp [Act.eval,aeval,den_ofV]
  | global g=>rfl
  | func f=>rfl
theorem tget_put (dst:Option Tmp) (v:AV) (τ:Tm) (t:Nat):tget t (tput dst v τ)=if dst=some t then v else tget t τ:=by
  cases dst with
  | none=>simp [tput]
  | some d =>
    simp only [tput,tget,Option.some.injEq]
    by_cases h:d=t
    · subst h; simp
    · rw [beq_ne h]; simp [h]
theorem put_getD {a:Act} {nt:Nat} {dst:Option Tmp} (hs:a.tmps.size=nt) (hd:dstOk nt dst=true) (val:Value) (t:Nat):(a.put dst val).tmps.getD t undef=if dst=some t then val else a.tmps.getD t undef:=by
  cases dst with
  | none=>simp [Act.put]
  | some d =>
    have hlt : @LT.lt Nat _ d a.tmps.size:=by
      rw [hs]
      exact Nat.le_of_ble_eq_true hd
    simp only [Act.put,Option.some.injEq]
    by_cases h:d=t
    · subst h
      simp [Array.getD,hlt]
    · rw [if_neg h]
      simp only [Array.getD_eq_getD_getElem?,Array.getElem?_setIfInBounds_ne h]
theorem put_size {a:Act} {dst:Option Tmp} (val:Value):(a.put dst val).tmps.size=a.tmps.size:=by
  cases dst <;> simp [Act.put]
theorem put_defers' {a:Act} {dst:Option Tmp} (val:Value):(a.put dst val).defers=a.defers:=by
  cases dst <;> rfl
theorem StU.put {A A' : Nat → Prop} {E E1 : Env} {nt : Nat} {τ : Tm} {lk lk' : Look} {a : Act} {w w' : World} (h : StU A E nt τ lk a w) (hE : Ae A E E1) (hA : ∀ k, A k → A' k) (hr : RelU A' E1 lk' w')
    {dst:Option Tmp} (hd:dstOk nt dst=true) {val:Value} {v:AV} (hv:∀ E',Ae A' E1 E'→val=den E' v):StU A' E1 nt (tput dst v τ) lk' (a.put dst val) w' where
  rel:=hr
  size:=by rw [put_size]; exact h.size
  defers:=by rw [put_defers']; exact h.defers
  tm:=fun E' h' t=>by
    rw [put_getD h.size hd,tget_put]
    split
    · exact hv E' h'
    · exact h.tm E' (hE.trans h' hA) t
def TmEq (τ τ':Tm):Prop:=∀ (E:Env) (t:Nat),den E (tget t τ')=den E (tget t τ)
theorem StU.tmEq {A:Nat→Prop} {E:Env} {nt:Nat} {τ τ':Tm} {lk:Look} {a:Act} {w:World} (h:StU A E nt τ lk a w) (he:TmEq τ τ'):StU A E nt τ' lk a w :=
  ⟨h.rel,h.size,h.defers,fun E' h' t=>by rw [he]; exact h.tm E' h' t⟩
theorem TmEq.refl (τ:Tm):TmEq τ τ:=fun _ _=>rfl
theorem TmEq.trans {a b c:Tm} (h:TmEq a b) (h':TmEq b c):TmEq a c:=fun E t=>(h' E t).trans (h E t)
theorem tmEq_known {τ:Tm} {t:Nat} {b:Bool} (h:tget t τ = .bool (.sym b)):TmEq τ ((t,.bool (.lit b))::τ):=by
  intro E s
  simp only [tget]
  by_cases hs:t=s
  · subst hs; simp [h,den,SB.v]
  · rw [beq_ne hs]
theorem pickD_eq (op:Op) (τ:Tm):TmEq τ (pickD op τ):=by
  unfold pickD
  split
  · split
    · rename_i h; exact tmEq_known h
    · exact TmEq.refl _
  · exact TmEq.refl _
theorem guardD_spec {ops : Array Oper} {o : Oper} {τ τ' : Tm} {b : Bool} (h : guardD ops o τ = some (b, τ')) {E : Env} {a : Act} (ht : ∀ t, (match o.guard with | none => True | some (j, _) => (ops[j]?).bind (·.dst) = some t → a.tmps.getD t undef = den E (tget t τ))) :
    Region.wanted o (yielded ops a.tmps)=b∧TmEq τ τ':=by
  have yl:∀ j t,(ops[j]?).bind (·.dst)=some t→yielded ops a.tmps j=match a.tmps.getD t undef with | .bool b=>some b | _=>none:=by
    intro j t e
    unfold yielded
    rw [e]
    simp only [Option.bind_some,Array.getD_eq_getD_getElem?]
    cases a.tmps[t]? with
    | none=>rfl
    | some v=>cases v <;> rfl
  unfold guardD at h
  unfold Region.wanted
  cases hg:o.guard with
  | none =>
    rw [hg] at h
    cases h
    exact ⟨rfl,TmEq.refl _⟩
  | some jw =>
    obtain ⟨j,want⟩:=jw
    rw [hg] at h
    dsimp only at h ⊢
    cases he:(ops[j]?).bind (·.dst) with
    | none =>
      rw [he] at h
      cases h
      refine ⟨?_,TmEq.refl _⟩
      unfold yielded
      rw [he]
      rfl
    | some t =>
      rw [he] at h
      dsimp only at h
      have hv:a.tmps.getD t undef=den E (tget t τ):=by
        have:=ht t
        rw [hg] at this
        exact this he
      rw [yl j t he,hv]
      split at h
      · rename_i b' e
        cases h
        refine ⟨?_,TmEq.refl _⟩
        simp only [e,den,SB.v]
        cases b' <;> cases want <;> rfl
      · rename_i b' e
        cases h
        refine ⟨?_,tmEq_known e⟩
        simp only [e,den,SB.v]
        cases b' <;> cases want <;> rfl
      · rename_i e
        cases h
        refine ⟨?_,TmEq.refl _⟩
        simp only [e,den]
        rfl
      · cases h
theorem RelU.same {A B:Nat→Prop} {E:Env} {lk:Look} {w:World} (h:RelU A E lk w) (hAB:∀ k,A k→B k):RelU B E lk w:=h.move (Ae.refl A E) hAB
theorem StU.same {A B:Nat→Prop} {E:Env} {nt:Nat} {τ:Tm} {lk:Look} {a:Act} {w:World} (h:StU A E nt τ lk a w) (hAB:∀ k,A k→B k):StU B E nt τ lk a w :=
  ⟨h.rel.same hAB,h.size,h.defers,fun E' h' t=>h.tm E' (h'.mono hAB) t⟩
structure TabOK (P:Program) (T:Tab):Prop extends TabW T where
  smOK:∀ f S,T.sm f=some S→SummOK P f S
theorem range_cons (i m:Nat):List.range' i (m+1)=i::List.range' (i+1) m:=by rw [List.range'_succ]
theorem opsD_sound (hT : TabOK P T) {call : CallD} (hc : CallOK P call) (hg : CallG call) (nt : Nat) (ops : Array Oper) : ∀ (m i : Nat) (τ : Tm) (h : Aq) (key : Nat) (q : Tm × Aq × Nat),
    i+m=ops.size→opsD P T call nt ops (ops.toList.drop i) τ h key=some q→∀ (A:Nat→Prop) (E:Env) (a:Act) (w:World) (Q:Exit→Act→World→Prop),StU A E nt τ (AO h) a w →
    (∀ k,key≤k→k<q.2.2→¬ A k) →
    (∀ a' w' E1,StU (rng A key q.2.2) E1 nt q.1 (AO q.2.1) a' w'→Ext A E (AO h) w E1 (AO q.2.1) w'→Q .normal a' w') →
    wpOps P ops Q (List.range' i m) a w:=by
  intro m
  induction m with
  | zero =>
    intro i τ h key q him e A E a w Q hS hk hQ
    have:ops.toList.drop i=[]:=List.drop_eq_nil_of_le (by simp; omega)
    rw [this] at e
    cases e
    exact hQ a w E (hS.same fun _ h=>.inl h) (Ext.refl _ _ _ _)
  | succ m ih =>
    intro i τ h key q him e A E a w Q hS hk hQ
    have hi:i<ops.size:=by omega
    have hl:ops.toList.drop i=ops[i]::ops.toList.drop (i+1):=by
      rw [List.drop_eq_getElem_cons (by simpa using hi)]
      simp
    rw [hl] at e
    rw [range_cons,wpOps_cons]
    unfold wpOp
    rw [Array.getElem?_eq_getElem hi]
    dsimp only
    generalize ops[i]=o at e ⊢
    simp only [opsD] at e
    split at e
    · cases e
    · rename_i hd
      obtain ⟨g,hgd,e⟩:=BC e
      obtain ⟨b,τ1⟩:=g
      have hgs:=guardD_spec hgd (E:=E) (a:=a) (fun t=>by
        split
        · trivial
        · exact fun _=>hS.tm E (Ae.refl A E) t)
      dsimp only at e
      rw [hgs.1]
      have go : ∀ (τ2 : Tm) (v : AV) (W : Aq) (key2 : Nat) (C : Look → Prop), TmEq τ τ2 → StepSpec P o τ2 C key key2 v W → C (AO h) → key ≤ key2 → key2 ≤ q.2.2 →
          opsD P T call nt ops (ops.toList.drop (i+1)) (tput o.dst v τ2) (W++h) key2=some q→o.wp P a w (wpOps P ops Q (List.range' (i+1) m)) Q:=by
        intro τ2 v W key2 C hτ hst hC h1 h2 e2
        have hS2:=hS.tmEq hτ
        refine hst A E (AO h) w a _ Q hS.rel hC (fun k a1 a2=>hk k a1 (by omega)) (fun E' h' x _=>tmEval (hS2.tm E' h') x) ?_
        intro val w' E1 hv hr hx
        have hS3:=hS2.put hx.agree (fun _ h=>.inl h) hr hd hv
        rw [← lookOf_append] at hS3 hx
        refine ih (i+1) _ _ _ q (by omega) e2 (rng A key key2) E1 _ w' Q hS3 (fun k a1 a2=>?_) (fun a' w'' E2 hS4 hx2=>?_)
        · rintro (h3 | h3)
          · exact hk k (by omega) a2 h3
          · omega
        · refine hQ a' w'' E2 (hS4.same ?_) (hx.trans hx2 fun _ h=>.inl h)
          rintro k ((h3 | h3) | h3)
          · exact .inl h3
          · exact .inr ⟨h3.1,by omega⟩
          · exact .inr ⟨by omega,h3.2⟩
      split at e
      · refine .inl ?_
        have hτ:TmEq τ (pickD o.op τ1):=hgs.2.trans (pickD_eq _ _)
        split at e
        · rename_i f args hcall
          split at e
          · rename_i S hS'
            obtain ⟨⟨v,R,W,key2⟩,hr,e⟩:=BC e
            have hle:=(hT.sm f S hS' _ _ _ _ hr).1
            have hgr:=opsD_grows hT.toTabW hg nt ops _ _ _ _ _ e
            exact go _ v W key2 _ hτ (step_call hcall (hT.smOK f S hS' _ _ _ _ _ _ _ hr)) (fun k _=>rfl) hle hgr.1 e
          · obtain ⟨⟨v,h',key2⟩,hr,e⟩:=BC e
            obtain ⟨hle,W,hW,_⟩:=hg _ _ _ _ _ _ _ hr
            have hgr:=opsD_grows hT.toTabW hg nt ops _ _ _ _ _ e
            dsimp only at hW e
            subst hW
            exact go _ v W key2 _ hτ (step_call hcall (hc _ _ _ _ _ _ _ W hr rfl)) rfl hle hgr.1 e
        · obtain ⟨⟨v,R,W⟩,hr,e⟩:=BC e
          have hgr:=opsD_grows hT.toTabW hg nt ops _ _ _ _ _ e
          exact go _ v W (key+2) _ hτ (step_op hr) (fun k _=>rfl) (by omega) hgr.1 e
      · have hS2:=(hS.tmEq hgs.2).put (Ae.refl A E) (fun _ h=>h) hS.rel hd (val:=undef) (v:=.raw undef) (fun _ _=>rfl)
        exact ih (i+1) _ _ _ q (by omega) e A E _ w Q hS2 hk hQ
theorem region_sound (hT : TabOK P T) {call : CallD} (hc : CallOK P call) (hg : CallG call) (nt id : Nat) (ops : Array Oper) (τ : Tm) (h : Aq) (key : Nat) (q : Tm × Aq × Nat)
    (e:opsD P T call nt ops ops.toList τ h key=some q) (A:Nat→Prop) (E:Env) (a:Act) (w:World) (Q:Exit→Act→World→Prop) (hS:StU A E nt τ (AO h) a w)
    (hk:∀ k,key≤k→k<q.2.2→¬ A k)
    (hQ:∀ a' w' E1,StU (rng A key q.2.2) E1 nt q.1 (AO q.2.1) a' w'→Ext A E (AO h) w E1 (AO q.2.1) w'→Q .normal a' w') :
    (Code.region id ops false).wp P Q a w:=by
  refine wp_region ?_
  rw [List.range_eq_range']
  exact opsD_sound hT hc hg nt ops ops.size 0 τ h key q (by omega) (by simpa using e) A E a w Q hS hk hQ
end
end Go.Eng
