/- The engine, part A: abstract values, abstract heaps, decision trees, and the abstract execution of code; definitions alone.
   Conditions: none; nothing is proved here. -/
import Derived.Calls
import Derived.Orders
set_option linter.unusedSimpArgs false
set_option linter.unusedVariables false
namespace Go.Eng



/-- A number: known (lit), or a term that is never looked into (sym). -/
inductive SI where
  | lit (n : Int)
  | sym (n : Int)
def SI.v : SI → Int
  | .lit n => n
  | .sym n => n
inductive SB where
  | lit (b : Bool)
  | sym (b : Bool)
def SB.v : SB → Bool
  | .lit b => b
  | .sym b => b

/-- A string: known, or not. -/
inductive SS where
  | lit (s : ByteArray)
  | sym (s : ByteArray)
def SS.v : SS → ByteArray
  | .lit s => s
  | .sym s => s
def eqU : List UInt8 → List UInt8 → Bool
  | [], [] => true
  | x :: xs, y :: ys => match Nat.beq x.toNat y.toNat with
    | true => eqU xs ys
    | false => false
  | _, _ => false
def SS.eq (a b : SS) : SB := match a, b with
  | .lit x, .lit y => .lit (eqU x.data.toList y.data.toList)
  | .sym x, .lit y => .sym (x == y)
  | .lit x, .sym y => .sym (x == y)
  | .sym x, .sym y => .sym (x == y)
def SS.len : SS → SI
  | .lit s => .lit s.size
  | .sym s => .sym s.size

/- 'slIf': a slice that is that of a key, where a condition holds. 'slN': that of a key, which is not nil. -/
inductive AV where
  | bool (b : SB)
  | int (k : IntKind) (n : SI)
  | str (s : SS)
  | slIf (b : Bool) (k : Nat) (h : Option Addr × Nat × Nat)
  | slN (k : Nat)
  | nilp
  | ptr (k : Nat) (off : Nat)
  | elp (k : Nat) (i : SI) (sz off : Nat)
  | nils
  | sl (k : Nat)
  | fn (f : Fn) (first cap : List AV)
  | nilf
  | nili
  | ifc (t : TypeId) (v : AV)
  | agg (l : List AV)
  | tup (l : List AV)
  | raw (v : Value)

structure Env where
  blk : Nat → Nat
  hdr : Nat → Option Addr × Nat × Nat
  fp : Nat → List Nat

def Env.elem (E : Env) (k : Nat) (n : Nat) : Addr := ⟨((E.hdr k).1.getD ⟨0, 0, none⟩).block, ((E.hdr k).1.getD ⟨0, 0, none⟩).off + n, none⟩

mutual
def den (E : Env) : AV → Value
  | .bool b => .bool b.v
  | .int k n => .int k n.v
  | .str s => .string s.v
  | .slIf b k h => match b with
    | true => .slice (E.hdr k).1 (E.hdr k).2.1 (E.hdr k).2.2
    | false => .slice h.1 h.2.1 h.2.2
  | .slN k => .slice (some ((E.hdr k).1.getD ⟨0, 0, none⟩)) (E.hdr k).2.1 (E.hdr k).2.2
  | .nilp => .pointer none
  | .ptr k off => .pointer (some ⟨E.blk k, off, none⟩)
  | .elp k i sz off => .pointer (some (E.elem k (i.v.toNat * sz + off)))
  | .nils => .slice none 0 0
  | .sl k => .slice (E.hdr k).1 (E.hdr k).2.1 (E.hdr k).2.2
  | .fn f a b => .func f (denL E a).toArray (denL E b).toArray
  | .nilf => .nilFunc
  | .nili => .nilIface
  | .ifc t v => .iface t (den E v)
  | .agg l => .agg (denL E l).toArray
  | .tup l => .tuple (denL E l).toArray
  | .raw v => v
def denL (E : Env) : List AV → List Value
  | [] => []
  | v :: l => den E v :: denL E l
end

inductive AObj where
  | box (cs : List AV)
  | tok
  | lst (len : SI) (sz : Nat) (rows : Nat → List AV) (grp : Option Nat)
  | opq (R : Nat → List Nat → World → Prop)

/-- The newest entry for a key counts; none: it is gone. -/
abbrev Heap := List (Nat × Option AObj)
def hget (k : Nat) : Heap → Option AObj
  | [] => none
  | (j, o) :: h => match Nat.beq j k with
    | true => o
    | false => hget k h

abbrev Tm := List (Nat × AV)
def tget (t : Nat) : Tm → AV
  | [] => .raw undef
  | (j, v) :: l => match Nat.beq j t with
    | true => v
    | false => tget t l
def tput (dst : Option Tmp) (v : AV) (τ : Tm) : Tm :=
  match dst with
  | some d => (d, v) :: τ
  | none => τ

/- A value, laid out before it goes on. -/
def forceS {R : Type} (v : AV) (K : AV → R) : R :=
  match v with
  | .bool (.lit b) => K (.bool (.lit b))
  | .bool (.sym b) => K (.bool (.sym b))
  | .int k (.lit n) => K (.int k (.lit n))
  | .int k (.sym n) => K (.int k (.sym n))
  | .elp k (.lit n) sz off => K (.elp k (.lit n) sz off)
  | .elp k (.sym n) sz off => K (.elp k (.sym n) sz off)
  | .str (.lit s) => K (.str (.lit s))
  | .str (.sym s) => K (.str (.sym s))
  | v => K v
def forceC {R : Type} : List AV → (List AV → R) → R
  | [], K => K []
  | v :: l, K => forceS v fun v => forceC l fun l => K (v :: l)
theorem forceS_eq {R : Type} (v : AV) (K : AV → R) : forceS v K = K v := by
  unfold forceS
  split <;> rfl
theorem forceC_eq {R : Type} : ∀ (l : List AV) (K : List AV → R), forceC l K = K l
  | [], _ => rfl
  | v :: l, K => by simp only [forceC, forceS_eq, forceC_eq l]

/-- A cell's number. -/
inductive Num where
  | i (n : Int)
  | b (x : Bool)
  | s (x : ByteArray)
  | u
def Num.I : Num → Int
  | .i n => n
  | _ => 0
def Num.B : Num → Bool
  | .b x => x
  | _ => false
def Num.S : Num → ByteArray
  | .s x => x
  | _ => ByteArray.empty
def hdN : List Num → Num
  | [] => .u
  | x :: _ => x
def tlN : List Num → List Num
  | [] => []
  | _ :: l => l
inductive ON where
  | box (xs : List Num)
  | lst (len : Nat) (rows : Nat → List Num)
  | tok
def ON.xs : ON → List Num
  | .box xs => xs
  | _ => []
def ON.len : ON → Nat
  | .lst n _ => n
  | _ => 0
def ON.rows : ON → Nat → List Num
  | .lst _ r => r
  | _ => fun _ => []
def hdO : List ON → ON
  | [] => .tok
  | x :: _ => x
def tlO : List ON → List ON
  | [] => []
  | _ :: l => l
def hdL : List (List Num) → List Num
  | [] => []
  | x :: _ => x
def tlL : List (List Num) → List (List Num)
  | [] => []
  | _ :: l => l
structure EN where
  a : List (List Num)
  o : List ON
def nthN : Nat → List Num → Num
  | 0, l => hdN l
  | n + 1, l => nthN n (tlN l)
def nthL : Nat → List (List Num) → List Num
  | 0, l => hdL l
  | n + 1, l => nthL n (tlL l)
def nthO : Nat → List ON → ON
  | 0, l => hdO l
  | n + 1, l => nthO n (tlO l)
/- A value's cell; an object's cell; a list. -/
def EN.ai (e : EN) (j k : Nat) : Int := (nthN k (nthL j e.a)).I
def EN.ab (e : EN) (j k : Nat) : Bool := (nthN k (nthL j e.a)).B
def EN.as (e : EN) (j k : Nat) : ByteArray := (nthN k (nthL j e.a)).S
def EN.bi (e : EN) (j k : Nat) : Int := (nthN k (nthO j e.o).xs).I
def EN.bb (e : EN) (j k : Nat) : Bool := (nthN k (nthO j e.o).xs).B
def EN.bs (e : EN) (j k : Nat) : ByteArray := (nthN k (nthO j e.o).xs).S
def EN.ln (e : EN) (j : Nat) : Nat := (nthO j e.o).len
def EN.rw (e : EN) (j : Nat) : Nat → List Num := (nthO j e.o).rows

inductive Tree (R : Type) where
  | leaf (r : R)
  | ite (b : Bool) (t e : Tree R)
  | must (b : Bool) (t : Tree R)
  | defI (x : Int) (k : Int → Tree R)
  | defB (x : Bool) (k : Bool → Tree R)
  | defE (x : EN) (k : EN → Tree R)
  | fail (why : String)
def Tree.sel {R : Type} : Tree R → Option R
  | .leaf r => some r
  | .defI x k => (k x).sel
  | .defB x k => (k x).sel
  | .defE x k => (k x).sel
  | .ite b t e => match b with
    | true => t.sel
    | false => e.sel
  | .must b t => match b with
    | true => t.sel
    | false => none
  | .fail _ => none
def Tree.bind {R S : Type} (t : Tree R) (f : R → Tree S) : Tree S :=
  match t with
  | .leaf r => f r
  | .ite b t e => .ite b (t.bind f) (e.bind f)
  | .must b t => .must b (t.bind f)
  | .defI x k => .defI x fun z => (k z).bind f
  | .defB x k => .defB x fun z => (k z).bind f
  | .defE x k => .defE x fun z => (k z).bind f
  | .fail w => .fail w

def Tree.ofOpt {R S : Type} (w : String) (x : Option R) (f : R → Tree S) : Tree S :=
  match x with
  | some r => f r
  | none => .fail w
/-- A condition that must hold: asked now where it is known. -/
def Tree.need {R : Type} (b : SB) (t : Tree R) : Tree R :=
  match b with
  | .lit true => t
  | .lit false => .fail "a condition that must hold is false"
  | .sym b => .must b t

/- Values of the program's text. -/
def ofV0 : Value → AV
  | .bool b => .bool (.lit b)
  | .int k n => .int k (.lit n)
  | .string s => .str (.lit s)
  | .pointer none => .nilp
  | .slice none 0 0 => .nils
  | .nilFunc => .nilf
  | .nilIface => .nili
  | v => .raw v
def ofV : Value → AV
  | .agg cs => .agg (cs.toList.map ofV0)
  | v => ofV0 v

def aeval (τ : Tm) : Operand → AV
  | .tmp t => tget t τ
  | .const v => ofV v
  | .global g => .raw (.pointer (some ⟨g, 0, none⟩))
  | .func f => .fn (.func f) [] []

def AV.scalar : AV → Bool
  | .agg _ | .tup _ | .raw _ => false
  | _ => true
def AV.cells : AV → List AV
  | .agg l => l
  | v => [v]
def allScalar : List AV → Bool
  | [] => true
  | v :: l => match v.scalar with
    | true => allScalar l
    | false => false

def isAggB (P : Program) (t : TypeId) : Option Bool :=
  match P.underlying t with
  | some (.struct _) | some (.array _ _) => some true
  | some _ => some false
  | none => none
def tsize (P : Program) (t : TypeId) : Option Nat :=
  match P.info? t with
  | some i => some i.size
  | none => none
def tbytes (P : Program) (t : TypeId) : Option Nat :=
  match P.info? t with
  | some i => some i.bytes
  | none => none
def tzero (P : Program) (t : TypeId) : Option AV :=
  match P.info? t with
  | some i => match i.zero with
    | some v => some (ofV v)
    | none => none
  | none => none

/-- A part of a row of cells, of a type. -/
def partA (P : Program) (t : TypeId) (cs : List AV) (off : Nat) : Option AV :=
  match isAggB P t, tsize P t with
  | some true, some n => match Nat.ble (off + n) cs.length with
    | true => some (.agg ((cs.drop off).take n))
    | false => none
  | some false, some _ => cs[off]?
  | _, _ => none
def putCells (cs : List AV) (off : Nat) (vs : List AV) : List AV := cs.take off ++ vs ++ cs.drop (off + vs.length)

/- Numbers. -/
def SI.bin (f : Int → Int → Int) (a b : SI) : SI :=
  match a, b with
  | .lit x, .lit y => .lit (f x y)
  | .sym x, .lit y => .sym (f x y)
  | .lit x, .sym y => .sym (f x y)
  | .sym x, .sym y => .sym (f x y)
def SI.un (f : Int → Int) : SI → SI
  | .lit x => .lit (f x)
  | .sym x => .sym (f x)
def SB.ofBool (known : Bool) (b : Bool) : SB :=
  match known with
  | true => .lit b
  | false => .sym b
def SI.cmp (f : Int → Int → Bool) (a b : SI) : SB :=
  match a, b with
  | .lit x, .lit y => .lit (f x y)
  | .sym x, .lit y => .sym (f x y)
  | .lit x, .sym y => .sym (f x y)
  | .sym x, .sym y => .sym (f x y)
def SB.not : SB → SB
  | .lit b => .lit (!b)
  | .sym b => .sym (!b)
def SB.and (a b : SB) : SB :=
  match a, b with
  | .lit true, b => b
  | .lit false, _ => .lit false
  | a, .lit true => a
  | _, .lit false => .lit false
  | .sym a, .sym b => .sym (a && b)
def SB.beq (a b : SB) : SB :=
  match a, b with
  | .lit x, .lit y => .lit (x == y)
  | .sym x, .lit y => .sym (x == y)
  | .lit x, .sym y => .sym (x == y)
  | .sym x, .sym y => .sym (x == y)

inductive Res where
  | val (v : AV) (R : List Nat) (W : Heap)
abbrev pureRes (v : AV) : Tree Res := .leaf (.val v [] [])

/-- Equality, by the type. -/
def eqA (P : Program) : Nat → TypeId → AV → AV → Option SB
  | 0, _, _, _ => none
  | d + 1, t, x, y =>
    match P.underlying t with
    | some .bool => match x, y with
      | .bool a, .bool b => some (a.beq b)
      | _, _ => none
    | some (.int _) => match x, y with
      | .int k a, .int k' b => match decide (k = k') with
        | true => some (SI.cmp (fun a b => a == b) a b)
        | false => none
      | _, _ => none
    | some .string => match x, y with
      | .str a, .str b => some (a.eq b)
      | _, _ => none
    | some (.slice _) => match x, y with
      | .nils, .nils => some (.lit true)
      | .slN _, .nils => some (.lit false)
      | .nils, .slN _ => some (.lit false)
      | _, _ => none
    | some (.pointer _) => match x, y with
      | .nilp, .nilp => some (.lit true)
      | .nilp, .ptr _ _ => some (.lit false)
      | .ptr _ _, .nilp => some (.lit false)
      | _, _ => none
    | some (.func _ _ _) => match x, y with
      | .nilf, .nilf => some (.lit true)
      | .nilf, .fn _ _ _ => some (.lit false)
      | .fn _ _ _, .nilf => some (.lit false)
      | _, _ => none
    | some (.struct fields) => match x, y with
      | .agg xs, .agg ys => match P.stoodInHeld t with
        | true => none
        | false => fields.toList.foldr (fun f acc =>
            match decide (f.name = "_") with
            | true => acc
            | false => match partA P f.type xs f.offset, partA P f.type ys f.offset with
              | some a, some b => match eqA P d f.type a b, acc with
                | some r, some s => some (r.and s)
                | _, _ => none
              | _, _ => none) (some (.lit true))
      | _, _ => none
    | some (.array len elem) => match x, y, tsize P elem with
      | .agg xs, .agg ys, some n => (List.range len).foldr (fun i acc =>
            match partA P elem xs (i * n), partA P elem ys (i * n) with
            | some a, some b => match eqA P d elem a b, acc with
              | some r, some s => some (r.and s)
              | _, _ => none
            | _, _ => none) (some (.lit true))
      | _, _, _ => none
    | _ => none

def intOp (op : BinOp) (k : IntKind) (a b : SI) : Tree Res :=
  match op with
  | .add => pureRes (.int k (SI.bin (fun x y => k.wrap (x + y)) a b))
  | .sub => pureRes (.int k (SI.bin (fun x y => k.wrap (x - y)) a b))
  | .mul => pureRes (.int k (SI.bin (fun x y => k.wrap (x * y)) a b))
  | .quo => .need (SI.cmp (fun x _ => x != 0) b b) (pureRes (.int k (SI.bin (fun x y => k.wrap (x.tdiv y)) a b)))
  | .rem => .need (SI.cmp (fun x _ => x != 0) b b) (pureRes (.int k (SI.bin (fun x y => x.tmod y) a b)))
  | .and => pureRes (.int k (SI.bin (fun x y => k.wrap (BitVec.ofInt k.bits x &&& BitVec.ofInt k.bits y).toNat) a b))
  | .or => pureRes (.int k (SI.bin (fun x y => k.wrap (BitVec.ofInt k.bits x ||| BitVec.ofInt k.bits y).toNat) a b))
  | .xor => pureRes (.int k (SI.bin (fun x y => k.wrap (BitVec.ofInt k.bits x ^^^ BitVec.ofInt k.bits y).toNat) a b))
  | .eql => pureRes (.bool (SI.cmp (fun x y => x == y) a b))
  | .neq => pureRes (.bool (SI.cmp (fun x y => x != y) a b))
  | .lss => pureRes (.bool (SI.cmp (fun x y => decide (x < y)) a b))
  | .leq => pureRes (.bool (SI.cmp (fun x y => decide (x ≤ y)) a b))
  | .gtr => pureRes (.bool (SI.cmp (fun x y => decide (x > y)) a b))
  | .geq => pureRes (.bool (SI.cmp (fun x y => decide (x ≥ y)) a b))
  | _ => .fail "an operator on integers"
def shiftOp (op : BinOp) (k : IntKind) (a b : SI) : Tree Res :=
  match op with
  | .shl => .need (SI.cmp (fun x _ => decide (0 ≤ x)) b b) (pureRes (.int k (SI.bin (fun x y => k.wrap (x * 2 ^ min y.toNat k.bits)) a b)))
  | .shr => .need (SI.cmp (fun x _ => decide (0 ≤ x)) b b) (pureRes (.int k (SI.bin (fun x y => x.fdiv (2 ^ min y.toNat k.bits)) a b)))
  | _ => .fail "shift"
def eqOp (P : Program) (neg : Bool) (t : TypeId) (x y : AV) : Tree Res :=
  match eqA P 8 t x y with
  | some r => pureRes (.bool (match neg with | true => r.not | false => r))
  | none => .fail "=="
def binA (P : Program) (op : BinOp) (t : TypeId) (x y : AV) : Tree Res :=
  match x, y with
  | .int k a, .int k' b =>
    match op with
    | .shl | .shr => shiftOp op k a b
    | _ => match decide (k = k') with
      | true => intOp op k a b
      | false => .fail "kinds"
  | .str a, .str b => match op with
    | .eql => pureRes (.bool (a.eq b))
    | .neq => pureRes (.bool (a.eq b).not)
    | _ => .fail "an operator on strings"
  | .agg _, .agg _ => match P.eqGuardType P.depth t with
    | true => .fail "eqGuard"
    | false => match op with
      | .eql => eqOp P false t x y
      | .neq => eqOp P true t x y
      | _ => .fail "an operator on structs"
  | .nili, .nili => .fail "=="
  | _, _ => match op with
    | .eql => eqOp P false t x y
    | .neq => eqOp P true t x y
    | _ => .fail "an operator"
def unA (op : UnOp) (x : AV) : Tree Res :=
  match op, x with
  | .not, .bool b => pureRes (.bool b.not)
  | .neg, .int k n => pureRes (.int k (n.un fun x => k.wrap (0 - x)))
  | _, _ => .fail "unary"

/-- An index into n places: the place, where it is known; else a branch for each. -/
def nway {R : Type} (i : Int) (f : Nat → Tree R) : Nat → Tree R → Tree R
  | 0, e => e
  | n + 1, e => nway i f n (.ite (decide (i = (n : Int))) (f n) e)
def atPlace {R : Type} (i : SI) (n : Nat) (f : Nat → Tree R) : Tree R :=
  match i with
  | .lit x => match decide (0 ≤ x ∧ x < (n : Int)) with
    | true => f x.toNat
    | false => .fail "index"
  | .sym x => nway x f n (.must false (.fail "index"))

def fillA (place : Nat → Option (Nat × Nat)) (cells : List AV) : List (Nat × AV) → Option (List AV)
  | [] => some cells
  | (i, v) :: rest => match place i with
    | none => none
    | some (off, size) =>
      match Nat.beq v.cells.length size, Nat.ble (off + v.cells.length) cells.length, allScalar v.cells with
      | true, true, true => fillA place (putCells cells off v.cells) rest
      | _, _, _ => none
def placeOf (P : Program) : Option Field → Option (Nat × Nat)
  | some f => match tsize P f.type with
    | some n => some (f.offset, n)
    | none => none
  | none => none
def placesA (P : Program) (fields : Array Field) (i : Nat) : Option (Nat × Nat) := placeOf P fields[i]?
def buildA (P : Program) (t : TypeId) (parts : List (Nat × AV)) : Option AV :=
  match tzero P t, P.underlying t with
  | some z, some (.struct fields) => match fields.toList.all (fun f => (tsize P f.type).isSome), allScalar z.cells with
    | true, true => (fillA (placesA P fields) z.cells parts).map .agg
    | _, _ => none
  | some z, some (.array _ elem) => match tsize P elem, allScalar z.cells with
    | some n, true => (fillA (fun i => some (i * n, n)) z.cells parts).map .agg
    | _, _ => none
  | _, _ => none

/-- Is the list's block still there? -/
def liveG (h : Heap) : Option Nat → Bool
  | none => true
  | some g => match hget g h with
    | some .tok => true
    | _ => false
def keysG (k : Nat) : Option Nat → List Nat
  | none => [k]
  | some g => [k, g]
def inB (i len : SI) : SB := SI.cmp (fun i n => decide (0 ≤ i ∧ i < n)) i len

/- A value as it is taken out of a list: a slice that is that of a key, where it is. -/
def fixS {R : Type} (v : AV) (K : AV → Tree R) : Tree R := match v with
  | .slIf b k _ => .must b (K (.sl k))
  | v => K v
def fixC {R : Type} : List AV → (List AV → Tree R) → Tree R
  | [], K => K []
  | v :: l, K => fixS v fun v => fixC l fun l => K (v :: l)
def fixA {R : Type} (v : AV) (K : AV → Tree R) : Tree R := match v with
  | .agg l => fixC l fun l => K (.agg l)
  | v => fixS v K
def loadA (P : Program) (t : TypeId) (x : AV) (h : Heap) : Tree Res :=
  match x with
  | .ptr k off => match hget k h with
    | some (.box cs) => .ofOpt "load" (partA P t cs off) fun v => .leaf (.val v [k] [])
    | _ => .fail "load: no box"
  | .elp k i sz off => match hget k h with
    | some (.lst len sz' rows g) => match Nat.beq sz sz', liveG h g with
      | true, true => .need (inB i len) (.ofOpt "load" (partA P t (rows i.v.toNat) off) fun v => fixA v fun v => .leaf (.val v (keysG k g) []))
      | _, _ => .fail "load: the list is gone"
    | _ => .fail "load: no list"
  | _ => .fail "load"
def storeA (P : Program) (t : TypeId) (x v : AV) (h : Heap) : Tree Res :=
  match x with
  | .ptr k off => match hget k h, tsize P t with
    | some (.box cs), some n => match Nat.beq v.cells.length n, Nat.ble (off + n) cs.length, allScalar v.cells with
      | true, true, true => .leaf (.val (.raw undef) [k] [(k, some (.box (putCells cs off v.cells)))])
      | _, _, _ => .fail "store: size"
    | _, _ => .fail "store: no box"
  | _ => .fail "store"

def fieldAddrA (P : Program) (s : TypeId) (x : AV) (f : Nat) : Tree Res :=
  match P.underlying s with
  | some (.struct fields) => match fields[f]? with
    | some fd => match tsize P fd.type with
      | some (_ + 1) => match x with
        | .ptr k off => pureRes (.ptr k (off + fd.offset))
        | .elp k i sz off => pureRes (.elp k i sz (off + fd.offset))
        | _ => .fail "fieldAddr"
      | _ => .fail "fieldAddr: size"
    | none => .fail "fieldAddr: no field"
  | _ => .fail "fieldAddr: no struct"
def indexAddrA (P : Program) (t : TypeId) (x i : AV) (h : Heap) : Tree Res :=
  match i with
  | .int _ i => match P.underlying t with
    | some (.array len elem) => match tsize P elem with
      | some n => match x with
        | .ptr k off => atPlace i len fun j => pureRes (.ptr k (off + j * n))
        | _ => .fail "indexAddr: array"
      | none => .fail "indexAddr: size"
    | some (.slice elem) => match x, tsize P elem with
      | .sl k, some n => match hget k h with
        | some (.lst len sz _ _) => match Nat.beq n sz with
          | true => .need (inB i len) (.leaf (.val (.elp k i n 0) [k] []))
          | false => .fail "indexAddr: size"
        | _ => .fail "indexAddr: no list"
      | _, _ => .fail "indexAddr: slice"
    | _ => .fail "indexAddr"
  | _ => .fail "indexAddr"
def indexA (P : Program) (t : TypeId) (x i : AV) : Tree Res :=
  match x, i with
  | .agg cs, .int _ i => match P.underlying t with
    | some (.array len elem) => match tsize P elem with
      | some n => atPlace i len fun j => .ofOpt "index" (partA P elem cs (j * n)) fun v => pureRes v
      | none => .fail "index: size"
    | _ => .fail "index"
  | _, _ => .fail "index"
def fieldA (P : Program) (t : TypeId) (x : AV) (f : Nat) : Tree Res :=
  match P.underlying t, x with
  | some (.struct fields), .agg cs => match fields[f]? with
    | some fd => .ofOpt "field" (partA P fd.type cs fd.offset) fun v => pureRes v
    | none => .fail "field"
  | _, _ => .fail "field"

def lenK (k : Nat) (h : Heap) : Tree Res :=
  match hget k h with
  | some (.lst len _ _ _) => .leaf (.val (.int .i64 len) [k] [])
  | _ => .fail "len: no list"
def lenA (P : Program) (t : TypeId) (x : AV) (h : Heap) : Tree Res :=
  match P.underlying t, x with
  | some .string, .str s => pureRes (.int .i64 s.len)
  | some (.array n _), _ => pureRes (.int .i64 (.lit n))
  | some (.slice _), .nils => pureRes (.int .i64 (.lit 0))
  | some (.slice _), .sl k => lenK k h
  | some (.slice _), .slN k => lenK k h
  | _, _ => .fail "len"

/-- A list as it is read: its length, its rows, the keys that are read. -/
structure Lst where
  len : SI
  rows : Nat → List AV
  R : List Nat
def Lst.with {R : Type} (a : Lst) (K : SI → (Nat → List AV) → List Nat → R) : R := match a with
  | ⟨l, r, k⟩ => K l r k
theorem Lst.with_eq {R : Type} (a : Lst) (K : SI → (Nat → List AV) → List Nat → R) : a.with K = K a.len a.rows a.R := rfl
def readK (sz k : Nat) (h : Heap) : Option Lst :=
  match hget k h with
  | some (.lst len sz' rows g) => match Nat.beq sz sz', liveG h g with
    | true, true => some ⟨len, rows, keysG k g⟩
    | _, _ => none
  | _ => none
def readL (sz : Nat) (x : AV) (h : Heap) : Option Lst :=
  match x with
  | .nils => some ⟨.lit 0, fun _ => [], []⟩
  | .sl k => readK sz k h
  | .slN k => readK sz k h
  | _ => none
def catRows (n : SI) (r s : Nat → List AV) (i : Nat) : List AV :=
  match Nat.blt i n.v.toNat with
  | true => r i
  | false => s (i - n.v.toNat)
def smallB (bytes : Nat) (n : SI) : SB := SI.cmp (fun x _ => decide (x * (bytes : Int) ≤ 1099511627776 ∧ x ≤ 1099511627776)) n n
def addL (a b : SI) : SI := SI.bin (fun x y => x + y) a b
/-- Whose block an append may write into. -/
def grpOf (x : AV) (h : Heap) : Option (Option Nat) :=
  match x with
  | .nils => some none
  | .sl k => match hget k h with
    | some (.lst _ _ _ (some g)) => some (some g)
    | _ => none
  | _ => none
def killG : Option Nat → Heap
  | none => []
  | some g => [(g, none)]
def appendA (P : Program) (t : TypeId) (x y : AV) (h : Heap) (key : Nat) : Tree Res :=
  match P.underlying t with
  | some (.slice elem) => match tsize P elem, tbytes P elem, tzero P elem with
    | some (n + 1), some b, some z => match Nat.beq z.cells.length (n + 1), readL (n + 1) x h, readL (n + 1) y h, grpOf x h with
      | true, some a, some c, some g =>
        a.with fun la ra Ra => c.with fun lc rc Rc => .need (smallB b (addL la lc)) (.leaf (.val (.sl (key + 1)) (Ra ++ Rc)
          ((key + 1, some (.lst (addL la lc) (n + 1) (catRows la ra rc) (some key))) :: (key, some .tok) :: killG g)))
      | _, _, _, _ => .fail "append: not a list of its own"
    | _, _, _ => .fail "append: size"
  | _ => .fail "append"

/-- A slice of a list. -/
def boundA (d : SI) : Option AV → Option SI
  | none => some d
  | some (.int _ i) => some i
  | some _ => none
def subL (a b : SI) : SI := SI.bin (fun x y => x - y) a b
def dropRows (lo : SI) (r : Nat → List AV) (i : Nat) : List AV := r (lo.v.toNat + i)
def sliceA (P : Program) (t : TypeId) (x : AV) (lo hi : Option AV) (h : Heap) (key : Nat) : Tree Res :=
  match P.underlying t with
  | some (.slice elem) => match tsize P elem, x with
    | some n, .sl k => match hget k h with
      | some (.lst len sz rows g) => match Nat.beq n sz && liveG h g, boundA (.lit 0) lo, boundA len hi with
        | true, some l, some m =>
          .need (SI.cmp (fun l m => decide (0 ≤ l ∧ l ≤ m)) l m) (.need (SI.cmp (fun m n => decide (m ≤ n)) m len)
            (.leaf (.val (.sl key) (keysG k g) [(key, some (.lst (subL m l) n (dropRows l rows) g))])))
        | _, _, _ => .fail "slice: bounds"
      | _ => .fail "slice: no list"
    | some _, .nils => match boundA (.lit 0) lo, boundA (.lit 0) hi with
      | some (.lit 0), some (.lit 0) => pureRes .nils
      | _, _ => .fail "slice: nil"
    | _, _ => .fail "slice"
  | _ => .fail "slice"

/-- x[:0:0]: no rows, and no room. -/
def sliceZA (P : Program) (t : TypeId) (x : AV) (lo : Option AV) (hi mx : AV) (h : Heap) (key : Nat) : Tree Res :=
  match P.underlying t with
  | some (.slice elem) => match tsize P elem, boundA (.lit 0) lo, hi, mx with
    | some n, some (.lit 0), .int _ (.lit 0), .int _ (.lit 0) => match x with
      | .nils => pureRes .nils
      | .sl k => match hget k h with
        | some (.lst _ _ _ _) => .leaf (.val (.sl (key + 1)) [k] [(key + 1, some (.lst (.lit 0) n (fun _ => []) (some key))), (key, some .tok)])
        | _ => .fail "slice: no list"
      | _ => .fail "slice"
    | _, _, _, _ => .fail "slice: max"
  | _ => .fail "slice"

/-- A literal list of rows out of a row of cells. -/
def chunk (n : Nat) (cs : List AV) (i : Nat) : List AV := (cs.drop (i * n)).take n
def buildSliceA (P : Program) (t : TypeId) (len : Nat) (parts : List (Nat × AV)) (key : Nat) : Tree Res :=
  match P.underlying t with
  | some (.slice elem) => match tsize P elem, tzero P elem with
    | some (n + 1), some z => match allScalar z.cells, Nat.beq z.cells.length (n + 1), Nat.ble (len * (n + 1)) 16777216 with
      | true, true, true => match fillA (fun i => some (i * (n + 1), n + 1)) (List.replicate len z.cells).flatten parts with
        | some cs => forceC cs fun cs => .leaf (.val (.sl (key + 1)) [] [(key + 1, some (.lst (.lit len) (n + 1) (chunk (n + 1) cs) (some key))), (key, some .tok)])
        | none => .fail "buildSlice: parts"
      | _, _, _ => .fail "buildSlice: zero"
    | _, _ => .fail "buildSlice: size"
  | _ => .fail "buildSlice"

def minA (less : Int → Int → Bool) : AV → List AV → Option AV
  | x, [] => some x
  | .int k x, .int k' y :: rest => match decide (k = k') with
    | true => minA less (.int k (SI.bin (fun x y => match less y x with | true => y | false => x) x y)) rest
    | false => none
  | _, _ => none

/-- May it be called by an operation? -/
def callable (P : Program) (g : FuncId) : Bool :=
  match P.funcs[g]? with
  | some fn => !(fn.name == "runtime.NumGoroutine") && fn.body.isSome
  | none => false

def callA (P : Program) (c : Call) (ρ : Operand → AV) (h : Heap) (key : Nat) : Tree Res :=
  match c.callee with
  | .value _ => .fail "call: a function value"
  | .invoke _ _ => .fail "call: invoke"
  | .builtin b => match b, c.args.toList, c.argTypes.toList with
    | .len, [x], [t] => lenA P t (ρ x) h
    | .append, [x, y], [t, u] => match P.underlying u with
      | some (.slice _) => appendA P t (ρ x) (ρ y) h key
      | _ => .fail "append: of what"
    | .min, x :: xs, _ => match ρ x with
      | .int k n => .ofOpt "min" (minA (fun y x => decide (y < x)) (.int k n) (xs.map ρ)) pureRes
      | _ => .fail "min"
    | .max, x :: xs, _ => match ρ x with
      | .int k n => .ofOpt "max" (minA (fun y x => decide (y > x)) (.int k n) (xs.map ρ)) pureRes
      | _ => .fail "max"
    | _, _, _ => .fail "a builtin"

/-- A call of one of the program's functions: which, on what. -/
def callOf (P : Program) (op : Op) (ρ : Operand → AV) : Option (FuncId × List AV) :=
  match op with
  | .call c => match c.callee with
    | .value f => match ρ f with
      | .fn (.func g) first cap => match callable P g with
        | true => some (g, first ++ (c.args.toList.map ρ ++ cap))
        | false => none
      | _ => none
    | _ => none
  | _ => none

def opA (P : Program) (op : Op) (ρ : Operand → AV) (h : Heap) (key : Nat) : Tree Res :=
  match op with
  | .move x => pureRes (ρ x)
  | .assign x => pureRes (ρ x)
  | .pick c a b => match ρ c with
    | .bool (.lit true) => pureRes (ρ a)
    | .bool (.lit false) => pureRes (ρ b)
    | .bool (.sym s) => .ite s (pureRes (ρ a)) (pureRes (ρ b))
    | _ => .fail "pick"
  | .alloc t => match tzero P t with
    | some z => match allScalar z.cells with
      | true => .leaf (.val (.ptr key 0) [] [(key, some (.box z.cells))])
      | false => .fail "alloc: zero"
    | none => .fail "alloc"
  | .box _ x => match allScalar (ρ x).cells with
    | true => .leaf (.val (.ptr key 0) [] [(key, some (.box (ρ x).cells))])
    | false => .fail "box"
  | .build t parts => .ofOpt "build" (buildA P t (parts.toList.map fun p => (p.1, ρ p.2))) pureRes
  | .buildSlice t len parts => buildSliceA P t len (parts.toList.map fun p => (p.1, ρ p.2)) key
  | .load t a => loadA P t (ρ a) h
  | .store t a x => storeA P t (ρ a) (ρ x) h
  | .nilCheck x => match ρ x with
    | .ptr k off => pureRes (.ptr k off)
    | .elp k i sz off => pureRes (.elp k i sz off)
    | .fn (.func g) a b => pureRes (.fn (.func g) a b)
    | _ => .fail "nilCheck"
  | .binOp op t x y _ => binA P op t (ρ x) (ρ y)
  | .unOp op _ x => unA op (ρ x)
  | .convert s t x => match P.underlying s, P.underlying t, ρ x with
    | some (.int _), some (.int k), .int _ n => pureRes (.int k (n.un k.wrap))
    | _, _, _ => .fail "convert"
  | .makeFunc fn first cap => pureRes (.fn fn (first.toList.map ρ) (cap.toList.map ρ))
  | .slice t x lo hi mx => match mx with
    | none => sliceA P t (ρ x) (lo.map ρ) (hi.map ρ) h key
    | some m => match hi with
      | some hi => sliceZA P t (ρ x) (lo.map ρ) (ρ hi) (ρ m) h key
      | none => .fail "slice: max"
  | .fieldAddr s x f => fieldAddrA P s (ρ x) f
  | .field t x f => fieldA P t (ρ x) f
  | .indexAddr t x i => indexAddrA P t (ρ x) (ρ i) h
  | .index t x i => indexA P t (ρ x) (ρ i)
  | .extract t i => match ρ t with
    | .tup l => .ofOpt "extract" l[i]? pureRes
    | _ => .fail "extract"
  | .call c => callA P c ρ h key
  | _ => .fail "an operation"

def force1 {R : Type} (v : AV) (K : AV → R) : R :=
  match v with
  | .agg l => forceC l fun l => K (.agg l)
  | v => forceS v K
def forceD {R : Type} : List AV → (List AV → R) → R
  | [], K => K []
  | v :: l, K => force1 v fun v => forceD l fun l => K (v :: l)
def forceV {R : Type} (v : AV) (K : AV → R) : R :=
  match v with
  | .tup l => forceD l fun l => K (.tup l)
  | v => force1 v K
def forceW {R : Type} : Heap → (Heap → R) → R
  | [], K => K []
  | (k, some (.box cs)) :: W, K => forceC cs fun cs => forceW W fun W => K ((k, some (.box cs)) :: W)
  | (k, some (.lst (.lit n) sz rows g)) :: W, K => forceW W fun W => K ((k, some (.lst (.lit n) sz rows g)) :: W)
  | (k, some (.lst (.sym n) sz rows g)) :: W, K => forceW W fun W => K ((k, some (.lst (.sym n) sz rows g)) :: W)
  | e :: W, K => forceW W fun W => K (e :: W)

/- A value, laid out, its unknown numbers named. -/
def nameS {R : Type} (v : AV) (K : AV → Tree R) : Tree R :=
  match v with
  | .bool (.lit b) => K (.bool (.lit b))
  | .bool (.sym b) => K (.bool (.sym b))
  | .int k (.lit n) => K (.int k (.lit n))
  | .int k (.sym n) => .defI n fun z => K (.int k (.sym z))
  | .elp k (.lit n) sz off => K (.elp k (.lit n) sz off)
  | .elp k (.sym n) sz off => K (.elp k (.sym n) sz off)
  | .str (.lit s) => K (.str (.lit s))
  | .str (.sym s) => K (.str (.sym s))
  | v => K v
def nameC {R : Type} : List AV → (List AV → Tree R) → Tree R
  | [], K => K []
  | v :: l, K => nameS v fun v => nameC l fun l => K (v :: l)
def name1 {R : Type} (v : AV) (K : AV → Tree R) : Tree R :=
  match v with
  | .agg l => nameC l fun l => K (.agg l)
  | v => nameS v K
def nameD {R : Type} : List AV → (List AV → Tree R) → Tree R
  | [], K => K []
  | v :: l, K => name1 v fun v => nameD l fun l => K (v :: l)
def nameV {R : Type} (v : AV) (K : AV → Tree R) : Tree R :=
  match v with
  | .tup l => nameD l fun l => K (.tup l)
  | v => name1 v K
def nameBS {R : Type} (v : AV) (K : AV → Tree R) : Tree R :=
  match v with
  | .bool (.sym b) => .defB b fun z => K (.bool (.sym z))
  | v => nameS v K
def nameBC {R : Type} : List AV → (List AV → Tree R) → Tree R
  | [], K => K []
  | v :: l, K => nameBS v fun v => nameBC l fun l => K (v :: l)
def nameW {R : Type} : Heap → (Heap → Tree R) → Tree R
  | [], K => K []
  | (k, some (.box cs)) :: W, K => nameBC cs fun cs => nameW W fun W => K ((k, some (.box cs)) :: W)
  | (k, some (.lst (.lit n) sz rows g)) :: W, K => nameW W fun W => K ((k, some (.lst (.lit n) sz rows g)) :: W)
  | (k, some (.lst (.sym n) sz rows g)) :: W, K => .defI n fun n => nameW W fun W => K ((k, some (.lst (.sym n) sz rows g)) :: W)
  | e :: W, K => nameW W fun W => K (e :: W)
/-- Is an operation's result named? -/
def named (op : Op) (ρ : Operand → AV) : Bool :=
  match op with
  | .binOp .. => true
  | .convert .. => true
  | .call c => match c.callee with
    | .builtin .len => false
    | _ => true
  | .load _ a => match ρ a with
    | .elp .. => true
    | _ => false
  | _ => false
def nameO {R : Type} (op : Op) (ρ : Operand → AV) (v : AV) (K : AV → Tree R) : Tree R :=
  match named op ρ with
  | true => nameV v K
  | false => forceV v K

/- The keys that a value, an object names. -/
mutual
def keysOf : AV → List Nat
  | .ptr k _ => [k]
  | .elp k _ _ _ => [k]
  | .sl k => [k]
  | .slIf _ k _ => [k]
  | .slN k => [k]
  | .fn _ a b => keysL a ++ keysL b
  | .ifc _ v => keysOf v
  | .agg l => keysL l
  | .tup l => keysL l
  | _ => []
def keysL : List AV → List Nat
  | [] => []
  | v :: l => keysOf v ++ keysL l
end
def objKeys : Option AObj → List Nat
  | some (.box cs) => keysL cs
  | some (.lst _ _ _ (some g)) => [g]
  | _ => []
def memK (k : Nat) : List Nat → Bool
  | [] => false
  | j :: l => match Nat.beq j k with
    | true => true
    | false => memK k l
def reach : Nat → List Nat → List Nat → Heap → List Nat
  | 0, _, seen, _ => seen
  | _ + 1, [], seen, _ => seen
  | n + 1, k :: todo, seen, h => match memK k seen with
    | true => reach n todo seen h
    | false => reach n (objKeys (hget k h) ++ todo) (k :: seen) h
/-- With a list its block's token. -/
def closedK (ks : List Nat) (h : Heap) : Bool :=
  ks.all fun k => match hget k h with
    | some (.lst _ _ _ (some g)) => memK g ks
    | _ => true
def restrict : List Nat → Heap → Heap
  | [], _ => []
  | k :: l, h => (k, hget k h) :: restrict l h

/-- A callee by what it comes to: its result, what it reads, what it writes, the next key. -/
structure Summ where
  run : List AV → Heap → Nat → Tree (AV × List Nat × Heap × Nat)

inductive Ex where
  | normal
  | exit (id : Nat)
  | ret

structure St where
  ex : Ex
  tm : Tm
  heap : Heap
  key : Nat

/-- A block (a loop, mostly) by what it comes to. -/
structure Hook where
  run : Tm → Heap → Nat → Tree St

structure Tab where
  sm : FuncId → Option Summ
  hk : FuncId → Nat → Option Hook

/-- The guard of an operation: carried out, or not; a condition that isn't known is taken into the temporaries. -/
def guardT {R : Type} (ops : Array Oper) (o : Oper) (τ : Tm) (yes no : Tm → Tree R) : Tree R :=
  match o.guard with
  | none => yes τ
  | some (j, want) => match (ops[j]?).bind (·.dst) with
    | none => no τ
    | some t => match tget t τ with
      | .bool (.lit b) => match b == want with | true => yes τ | false => no τ
      | .bool (.sym b) => match want with
        | true => .ite b (yes ((t, .bool (.lit true)) :: τ)) (no ((t, .bool (.lit false)) :: τ))
        | false => .ite b (no ((t, .bool (.lit true)) :: τ)) (yes ((t, .bool (.lit false)) :: τ))
      | .raw (.tuple _) => no τ
      | _ => .fail "guard"

def dstOk (nt : Nat) : Option Tmp → Bool
  | none => true
  | some d => Nat.blt d nt

/-- A 'pick' whose condition isn't known takes it into the temporaries too. -/
def pickT {R : Type} (op : Op) (τ : Tm) (go : Tm → Tree R) : Tree R :=
  match op with
  | .pick (.tmp t) _ _ => match tget t τ with
    | .bool (.sym b) => .ite b (go ((t, .bool (.lit true)) :: τ)) (go ((t, .bool (.lit false)) :: τ))
    | _ => go τ
  | _ => go τ

def opsT {R : Type} (P : Program) (T : Tab) (call : FuncId → List AV → Heap → Nat → (AV → Heap → Nat → Tree R) → Tree R) (nt : Nat) (ops : Array Oper) :
    List Oper → Tm → Heap → Nat → (Tm → Heap → Nat → Tree R) → Tree R
  | [], τ, h, key, K => K τ h key
  | o :: rest, τ, h, key, K =>
    match dstOk nt o.dst with
    | false => .fail "a temporary"
    | true =>
      guardT ops o τ
        (fun τ => pickT o.op τ fun τ => match callOf P o.op (aeval τ) with
          | some (f, args) => match T.sm f with
            | some S => (S.run args h key).bind fun q => nameV q.1 fun v => nameW q.2.2.1 fun W => opsT P T call nt ops rest (tput o.dst v τ) (W ++ h) q.2.2.2 K
            | none => call f args h key fun v h key => opsT P T call nt ops rest (tput o.dst v τ) h key K
          | none => (opA P o.op (aeval τ) h key).bind fun
            | .val v _ W => nameO o.op (aeval τ) v fun v => forceW W fun W => opsT P T call nt ops rest (tput o.dst v τ) (W ++ h) (key + 2) K)
        (fun τ => opsT P T call nt ops rest (tput o.dst (.raw undef) τ) h key K)

/-- What an operation of a region that draws its order did: its number, what it reads and writes of the heap. -/
structure Cert where
  i : Nat
  R : List Nat
  W : List Nat
def meets (a b : List Nat) : Bool := a.any fun k => memK k b
/-- Of two operations that no edge orders: do they touch one thing? -/
def clash (ops : Array Oper) (bef : Nat) (o : Oper) (R W : List Nat) (c : Cert) : Bool :=
  match Nat.testBit bef c.i with
  | true => false
  | false => match ops[c.i]? with
    | none => true
    | some x => match Oper.apart ops x o, meets c.W R, meets c.W W, meets W c.R with
      | true, false, false, false => false
      | _, _, _, _ => true
def wkeys (W : Heap) : List Nat := W.map (·.1)

def doneT {R : Type} (ops : Array Oper) (bef : Nat) (o : Oper) (cs : List Cert) (Rk : List Nat) (W : Heap) (x : Tree R) : Tree R :=
  match cs.any (clash ops bef o Rk (wkeys W)) with
  | true => .fail "operations in no order touch one thing"
  | false => x

/-- Edges go back. -/
def edgesOk (o : Oper) (i : Nat) : Bool := o.after.toList.all fun e => !(Region.binds .any e) || Nat.blt e.on i
def drawT {R : Type} (P : Program) (T : Tab) (call : FuncId → List AV → Heap → Nat → (AV → Heap → Nat → Tree R) → Tree R) (nt : Nat) (ops : Array Oper) (bef : List Nat) :
    List Oper → Nat → List Cert → Tm → Heap → Nat → (Tm → Heap → Nat → Tree R) → Tree R
  | [], _, _, τ, h, key, K => K τ h key
  | o :: rest, i, cs, τ, h, key, K =>
    match dstOk nt o.dst && edgesOk o i with
    | false => .fail "a temporary"
    | true =>
      guardT ops o τ
        (fun τ => pickT o.op τ fun τ => match callOf P o.op (aeval τ) with
          | some (f, args) => match T.sm f with
            | some S => (S.run args h key).bind fun q => nameV q.1 fun v => nameW q.2.2.1 fun W => doneT ops (bef.getD i 0) o cs q.2.1 W (drawT P T call nt ops bef rest (i + 1) (⟨i, q.2.1, wkeys W⟩ :: cs) (tput o.dst v τ) (W ++ h) q.2.2.2 K)
            | none => match closedK (reach 100 (keysL args) [] h) h with
              | false => .fail "a list without its block"
              | true => call f args (restrict (reach 100 (keysL args) [] h) h) key fun v h2 key =>
                doneT ops (bef.getD i 0) o cs (reach 100 (keysL args) [] h) (h2.take (h2.length - (reach 100 (keysL args) [] h).length))
                  (drawT P T call nt ops bef rest (i + 1) (⟨i, reach 100 (keysL args) [] h, wkeys (h2.take (h2.length - (reach 100 (keysL args) [] h).length))⟩ :: cs) (tput o.dst v τ)
                    (h2.take (h2.length - (reach 100 (keysL args) [] h).length) ++ h) key K)
          | none => (opA P o.op (aeval τ) h key).bind fun
            | .val v Rk W => nameO o.op (aeval τ) v fun v => forceW W fun W => doneT ops (bef.getD i 0) o cs Rk W (drawT P T call nt ops bef rest (i + 1) (⟨i, Rk, wkeys W⟩ :: cs) (tput o.dst v τ) (W ++ h) (key + 2) K))
        (fun τ => doneT ops (bef.getD i 0) o cs [] [] (drawT P T call nt ops bef rest (i + 1) (⟨i, [], []⟩ :: cs) (tput o.dst (.raw undef) τ) h key K))

def resA (P : Program) (τ : Tm) (h : Heap) : List ResultVar → Option (List AV)
  | [] => some []
  | .tmp t :: rest => match resA P τ h rest with
    | some l => some (tget t τ :: l)
    | none => none
  | .cell a t :: rest => match tget a τ with
    | .ptr k off => match hget k h with
      | some (.box cs) => match partA P t cs off, resA P τ h rest with
        | some v, some l => some (v :: l)
        | _, _ => none
      | _ => none
    | _ => none
def resV : List AV → AV
  | [v] => v
  | l => .tup l

def argTm : Nat → List AV → Tm
  | _, [] => []
  | i, v :: l => (i, v) :: argTm (i + 1) l

/-- A call: the body on the arguments, then the results. -/
def callW {R : Type} (P : Program) (run : FuncId → Nat → Code → Tm → Heap → Nat → (St → Tree R) → Tree R)
    (g : FuncId) (args : List AV) (h : Heap) (key : Nat) (K : AV → Heap → Nat → Tree R) : Tree R :=
  match P.funcs[g]? with
  | some fn => match fn.body, Nat.ble args.length fn.ntmps with
    | some c, true => run g fn.ntmps c (argTm 0 args) h key fun s => match s.ex with
      | .exit _ => .fail "exit"
      | _ => .ofOpt "results" (resA P s.tm s.heap fn.results.toList) fun l => K (resV l) s.heap s.key
    | _, _ => .fail "call: no body"
  | none => .fail "call: no function"
def codeT {R : Type} (P : Program) (T : Tab) : Nat → FuncId → Nat → Code → Tm → Heap → Nat → (St → Tree R) → Tree R
  | 0, _, _, _, _, _, _, _ => .fail "fuel"
  | n + 1, f, nt, c, τ, h, key, K =>
    match c with
    | .skip => K ⟨.normal, τ, h, key⟩
    | .label _ => K ⟨.normal, τ, h, key⟩
    | .exit id => K ⟨.exit id, τ, h, key⟩
    | .ret => K ⟨.ret, τ, h, key⟩
    | .seq x y => codeT P T n f nt x τ h key fun s => match s.ex with
      | .normal => codeT P T n f nt y s.tm s.heap s.key K
      | _ => K s
    | .cond c x y => match aeval τ c with
      | .bool (.lit true) => codeT P T n f nt x τ h key K
      | .bool (.lit false) => codeT P T n f nt y τ h key K
      | .bool (.sym b) => match c with
        | .tmp t => .ite b (codeT P T n f nt x ((t, .bool (.lit true)) :: τ) h key K) (codeT P T n f nt y ((t, .bool (.lit false)) :: τ) h key K)
        | _ => .fail "cond"
      | _ => .fail "cond"
    | .block id x => match T.hk f id with
      | some H => (H.run τ h key).bind K
      | none => codeT P T n f nt x τ h key fun s => match s.ex with
        | .exit i => match Nat.beq i id with
          | true => K ⟨.normal, s.tm, s.heap, s.key⟩
          | false => K s
        | _ => K s
    | .loop x => codeT P T n f nt x τ h key fun s => match s.ex with
      | .normal => codeT P T n f nt (.loop x) s.tm s.heap s.key K
      | _ => K s
    | .region _ ops false => opsT P T (callW P (codeT P T n)) nt ops ops.toList τ h key fun τ h key => K ⟨.normal, τ, h, key⟩
    | .region _ ops true => drawT P T (callW P (codeT P T n)) nt ops (Region.before ops).toList ops.toList 0 [] τ h key fun τ h key => K ⟨.normal, τ, h, key⟩
    | _ => .fail "code"

def runT (P : Program) (T : Tab) (n : Nat) (g : FuncId) (args : List AV) (h : Heap) (key : Nat) : Tree (AV × Heap) :=
  callW P (codeT P T n) g args h key fun v h _ => .leaf (v, h)
def noTab : Tab := ⟨fun _ => none, fun _ _ => none⟩

end Go.Eng
