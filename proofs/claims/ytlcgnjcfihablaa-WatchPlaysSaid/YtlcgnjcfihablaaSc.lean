/- Proposers: what their calls come to.
   Conditions: none. -/
import Derived.Test.YtlcgnjcfihablaaSb
set_option linter.unusedSimpArgs false
set_option linter.unusedVariables false
namespace Go.Proofs.Ytlcgnjcfihablaa
open Go.Eng Go.RowKit Go.ChangeShapes Go.WideShapes
set_option maxRecDepth 100000
abbrev I3 := Int × Int × Int
abbrev B2 := Int × Int
structure PrS where
  who : Int
  wants : I3
  value : I3
  best : I3
  b : B2
  acc : B2
  pl : List Int
  al : List Int
  has : Bool
  valued : Bool
  dec : I3
  done : Bool
  ever : Bool
def PrS.on (p : PrS) : List ON := [.box [.i p.who, .i p.wants.1, .i p.wants.2.1, .i p.wants.2.2, .i p.value.1, .i p.value.2.1, .i p.value.2.2, .i p.best.1, .i p.best.2.1, .i p.best.2.2, .i p.b.1, .i p.b.2, .i p.acc.1, .i p.acc.2, .u, .u, .b p.has, .b p.valued,
  .i p.dec.1, .i p.dec.2.1, .i p.dec.2.2, .b p.done, .b p.ever], .lst p.pl.length (rowI p.pl), .tok, .lst p.al.length (rowI p.al), .tok]
def PrS.get : List ON → Option PrS
  | [.box [.i who, .i w0, .i w1, .i w2, .i v0, .i v1, .i v2, .i t0, .i t1, .i t2, .i b0, .i b1, .i a0, .i a1, _, _, .b has, .b valued, .i d0, .i d1, .i d2, .b done, .b ever], .lst pn pr, .tok, .lst an ar, .tok] =>
    some ⟨who, (w0, w1, w2), (v0, v1, v2), (t0, t1, t2), (b0, b1), (a0, a1), lstI pn pr, lstI an ar, has, valued, (d0, d1, d2), done, ever⟩
  | _ => none
def prBox (a b : Nat) : List TV := [.i .u8, .i .u8, .i .u8, .i .i64, .i .u8, .i .u8, .i .i64, .i .u8, .i .u8, .i .i64, .i .u32, .i .u8, .i .u32, .i .u8, .sl a, .sl b, .b, .b, .i .u8, .i .u8, .i .i64, .b, .b]
def prHp (a b : Nat) : List (Nat × TO) := [(0, .box (prBox a b)), (a, .lst none [.i .u8] (some (a + 1))), (a + 1, .tok), (b, .lst none [.i .u8] (some (b + 1))), (b + 1, .tok)]
def tB2 : TA := .agg [.i .u32, .i .u8]
def tI3 : TA := .agg [.i .u8, .i .u8, .i .i64]
def prPromT : TS := ⟨[0, 1, 2, 3, 4, 5], [.one (.ptr 0 0), .one (.i .u8), tB2, tB2, tI3, .one .b], prHp 1 3, 5⟩
def prBoolR : TS := ⟨[], [.one .b], prHp 5 7, 9⟩
theorem t15 (p : PrS) (f : Int) (b a : B2) (x : I3) (h : Bool) : callW Try.prog (codeT Try.prog sbT 300) 15 (prPromT.vals ⟨[[], [.i f], [.i b.1, .i b.2], [.i a.1, .i a.2], [.i x.1, .i x.2.1, .i x.2.2], [.b h]], p.on⟩) (prPromT.heap ⟨[[], [.i f], [.i b.1, .i b.2], [.i a.1, .i a.2], [.i x.1, .i x.2.1, .i x.2.2], [.b h]], p.on⟩) 5 (outV 5 prBoolR) =
  .ite p.valued (.must (rowsB [.i .u8] (instR [.i .u8] (rowI p.pl)) p.pl.length) (.must (rowsB [.i .u8] (instR [.i .u8] (rowI p.al)) p.al.length) (.leaf ⟨[[.b false]], p.on⟩))) (.ite (decide (p.b.fst > 0)) (.ite (b.fst ==
  p.b.fst && b.snd == p.b.snd) (.ite (decide (f ≥ 3)) (.must (rowsB [.i .u8] (instR [.i .u8] (rowI p.pl)) p.pl.length) (.must (rowsB [.i .u8] (instR [.i .u8] (rowI p.al)) p.al.length) (.leaf ⟨[[.b false]], p.on⟩))) (.must
  (rowsB [.i .u8] (instR [.i .u8] (rowI p.pl)) p.pl.length) (.must (decide ((p.pl.length : Int) ≤ 1099511627776)) (.ite (anyN (ixP f (rowI p.pl)) p.pl.length) (.must (rowsB [.i .u8] (instR [.i .u8] (rowI p.pl))
  p.pl.length) (.must (rowsB [.i .u8] (instR [.i .u8] (rowI p.al)) p.al.length) (.leaf ⟨[[.b false]], p.on⟩))) (.must (decide (((p.pl.length : Int) + 1) * 1 ≤ 1099511627776 ∧ (p.pl.length : Int) + 1 ≤ 1099511627776)) (.ite
  h (.ite (!p.has) (.ite (!(p.pl.length : Int) + 1 == 2) (.must (rowsB [.i .u8] (catRows (.sym (p.pl.length : Int)) (instR [.i .u8] (rowI p.pl)) (chunk 1 [.int .u8 (.sym f)])) ((p.pl.length : Int) + 1).toNat) (.must (rowsB
  [.i .u8] (instR [.i .u8] (rowI p.al)) p.al.length) (.leaf ⟨[[.b false]], [.box [.i p.who, .i p.wants.fst, .i p.wants.snd.fst, .i p.wants.snd.snd, .i p.value.fst, .i p.value.snd.fst, .i p.value.snd.snd, .i x.fst, .i
  x.snd.fst, .i x.snd.snd, .i p.b.fst, .i p.b.snd, .i a.fst, .i a.snd, .u, .u, .b true, .b p.valued, .i p.dec.fst, .i p.dec.snd.fst, .i p.dec.snd.snd, .b p.done, .b p.ever], .lst ((p.pl.length : Int) + 1).toNat (rowNums
  [.i .u8] (catRows (.sym (p.pl.length : Int)) (instR [.i .u8] (rowI p.pl)) (chunk 1 [.int .u8 (.sym f)]))), .tok, .lst p.al.length (rowI p.al), .tok]⟩))) (.must (rowsB [.i .u8] (catRows (.sym (p.pl.length : Int)) (instR
  [.i .u8] (rowI p.pl)) (chunk 1 [.int .u8 (.sym f)])) ((p.pl.length : Int) + 1).toNat) (.must (rowsB [.i .u8] (instR [.i .u8] (rowI p.al)) p.al.length) (.leaf ⟨[[.b true]], [.box [.i p.who, .i p.wants.fst, .i
  p.wants.snd.fst, .i p.wants.snd.snd, .i x.fst, .i x.snd.fst, .i x.snd.snd, .i x.fst, .i x.snd.fst, .i x.snd.snd, .i p.b.fst, .i p.b.snd, .i a.fst, .i a.snd, .u, .u, .b true, .b true, .i p.dec.fst, .i p.dec.snd.fst, .i
  p.dec.snd.snd, .b p.done, .b p.ever], .lst ((p.pl.length : Int) + 1).toNat (rowNums [.i .u8] (catRows (.sym (p.pl.length : Int)) (instR [.i .u8] (rowI p.pl)) (chunk 1 [.int .u8 (.sym f)]))), .tok, .lst p.al.length (rowI
  p.al), .tok]⟩)))) (.ite (decide (p.acc.fst < a.fst)) (.ite (!(p.pl.length : Int) + 1 == 2) (.must (rowsB [.i .u8] (catRows (.sym (p.pl.length : Int)) (instR [.i .u8] (rowI p.pl)) (chunk 1 [.int .u8 (.sym f)]))
  ((p.pl.length : Int) + 1).toNat) (.must (rowsB [.i .u8] (instR [.i .u8] (rowI p.al)) p.al.length) (.leaf ⟨[[.b false]], [.box [.i p.who, .i p.wants.fst, .i p.wants.snd.fst, .i p.wants.snd.snd, .i p.value.fst, .i
  p.value.snd.fst, .i p.value.snd.snd, .i x.fst, .i x.snd.fst, .i x.snd.snd, .i p.b.fst, .i p.b.snd, .i a.fst, .i a.snd, .u, .u, .b true, .b p.valued, .i p.dec.fst, .i p.dec.snd.fst, .i p.dec.snd.snd, .b p.done, .b
  p.ever], .lst ((p.pl.length : Int) + 1).toNat (rowNums [.i .u8] (catRows (.sym (p.pl.length : Int)) (instR [.i .u8] (rowI p.pl)) (chunk 1 [.int .u8 (.sym f)]))), .tok, .lst p.al.length (rowI p.al), .tok]⟩))) (.must
  (rowsB [.i .u8] (catRows (.sym (p.pl.length : Int)) (instR [.i .u8] (rowI p.pl)) (chunk 1 [.int .u8 (.sym f)])) ((p.pl.length : Int) + 1).toNat) (.must (rowsB [.i .u8] (instR [.i .u8] (rowI p.al)) p.al.length) (.leaf
  ⟨[[.b true]], [.box [.i p.who, .i p.wants.fst, .i p.wants.snd.fst, .i p.wants.snd.snd, .i x.fst, .i x.snd.fst, .i x.snd.snd, .i x.fst, .i x.snd.fst, .i x.snd.snd, .i p.b.fst, .i p.b.snd, .i a.fst, .i a.snd, .u, .u, .b
  true, .b true, .i p.dec.fst, .i p.dec.snd.fst, .i p.dec.snd.snd, .b p.done, .b p.ever], .lst ((p.pl.length : Int) + 1).toNat (rowNums [.i .u8] (catRows (.sym (p.pl.length : Int)) (instR [.i .u8] (rowI p.pl)) (chunk 1
  [.int .u8 (.sym f)]))), .tok, .lst p.al.length (rowI p.al), .tok]⟩)))) (.ite (p.acc.fst == a.fst) (.ite (decide (p.acc.snd < a.snd)) (.ite (!(p.pl.length : Int) + 1 == 2) (.must (rowsB [.i .u8] (catRows (.sym
  (p.pl.length : Int)) (instR [.i .u8] (rowI p.pl)) (chunk 1 [.int .u8 (.sym f)])) ((p.pl.length : Int) + 1).toNat) (.must (rowsB [.i .u8] (instR [.i .u8] (rowI p.al)) p.al.length) (.leaf ⟨[[.b false]], [.box [.i p.who, .i
  p.wants.fst, .i p.wants.snd.fst, .i p.wants.snd.snd, .i p.value.fst, .i p.value.snd.fst, .i p.value.snd.snd, .i x.fst, .i x.snd.fst, .i x.snd.snd, .i p.b.fst, .i p.b.snd, .i a.fst, .i a.snd, .u, .u, .b true, .b p.valued,
  .i p.dec.fst, .i p.dec.snd.fst, .i p.dec.snd.snd, .b p.done, .b p.ever], .lst ((p.pl.length : Int) + 1).toNat (rowNums [.i .u8] (catRows (.sym (p.pl.length : Int)) (instR [.i .u8] (rowI p.pl)) (chunk 1 [.int .u8 (.sym
  f)]))), .tok, .lst p.al.length (rowI p.al), .tok]⟩))) (.must (rowsB [.i .u8] (catRows (.sym (p.pl.length : Int)) (instR [.i .u8] (rowI p.pl)) (chunk 1 [.int .u8 (.sym f)])) ((p.pl.length : Int) + 1).toNat) (.must (rowsB
  [.i .u8] (instR [.i .u8] (rowI p.al)) p.al.length) (.leaf ⟨[[.b true]], [.box [.i p.who, .i p.wants.fst, .i p.wants.snd.fst, .i p.wants.snd.snd, .i x.fst, .i x.snd.fst, .i x.snd.snd, .i x.fst, .i x.snd.fst, .i x.snd.snd,
  .i p.b.fst, .i p.b.snd, .i a.fst, .i a.snd, .u, .u, .b true, .b true, .i p.dec.fst, .i p.dec.snd.fst, .i p.dec.snd.snd, .b p.done, .b p.ever], .lst ((p.pl.length : Int) + 1).toNat (rowNums [.i .u8] (catRows (.sym
  (p.pl.length : Int)) (instR [.i .u8] (rowI p.pl)) (chunk 1 [.int .u8 (.sym f)]))), .tok, .lst p.al.length (rowI p.al), .tok]⟩)))) (.ite (!(p.pl.length : Int) + 1 == 2) (.must (rowsB [.i .u8] (catRows (.sym (p.pl.length :
  Int)) (instR [.i .u8] (rowI p.pl)) (chunk 1 [.int .u8 (.sym f)])) ((p.pl.length : Int) + 1).toNat) (.must (rowsB [.i .u8] (instR [.i .u8] (rowI p.al)) p.al.length) (.leaf ⟨[[.b false]], [.box [.i p.who, .i p.wants.fst,
  .i p.wants.snd.fst, .i p.wants.snd.snd, .i p.value.fst, .i p.value.snd.fst, .i p.value.snd.snd, .i p.best.fst, .i p.best.snd.fst, .i p.best.snd.snd, .i p.b.fst, .i p.b.snd, .i p.acc.fst, .i p.acc.snd, .u, .u, .b p.has,
  .b p.valued, .i p.dec.fst, .i p.dec.snd.fst, .i p.dec.snd.snd, .b p.done, .b p.ever], .lst ((p.pl.length : Int) + 1).toNat (rowNums [.i .u8] (catRows (.sym (p.pl.length : Int)) (instR [.i .u8] (rowI p.pl)) (chunk 1 [.int
  .u8 (.sym f)]))), .tok, .lst p.al.length (rowI p.al), .tok]⟩))) (.ite p.has (.must (rowsB [.i .u8] (catRows (.sym (p.pl.length : Int)) (instR [.i .u8] (rowI p.pl)) (chunk 1 [.int .u8 (.sym f)])) ((p.pl.length : Int) +
  1).toNat) (.must (rowsB [.i .u8] (instR [.i .u8] (rowI p.al)) p.al.length) (.leaf ⟨[[.b true]], [.box [.i p.who, .i p.wants.fst, .i p.wants.snd.fst, .i p.wants.snd.snd, .i p.best.fst, .i p.best.snd.fst, .i
  p.best.snd.snd, .i p.best.fst, .i p.best.snd.fst, .i p.best.snd.snd, .i p.b.fst, .i p.b.snd, .i p.acc.fst, .i p.acc.snd, .u, .u, .b p.has, .b true, .i p.dec.fst, .i p.dec.snd.fst, .i p.dec.snd.snd, .b p.done, .b p.ever],
  .lst ((p.pl.length : Int) + 1).toNat (rowNums [.i .u8] (catRows (.sym (p.pl.length : Int)) (instR [.i .u8] (rowI p.pl)) (chunk 1 [.int .u8 (.sym f)]))), .tok, .lst p.al.length (rowI p.al), .tok]⟩))) (.must (rowsB [.i
  .u8] (catRows (.sym (p.pl.length : Int)) (instR [.i .u8] (rowI p.pl)) (chunk 1 [.int .u8 (.sym f)])) ((p.pl.length : Int) + 1).toNat) (.must (rowsB [.i .u8] (instR [.i .u8] (rowI p.al)) p.al.length) (.leaf ⟨[[.b true]],
  [.box [.i p.who, .i p.wants.fst, .i p.wants.snd.fst, .i p.wants.snd.snd, .i p.wants.fst, .i p.wants.snd.fst, .i p.wants.snd.snd, .i p.best.fst, .i p.best.snd.fst, .i p.best.snd.snd, .i p.b.fst, .i p.b.snd, .i p.acc.fst,
  .i p.acc.snd, .u, .u, .b p.has, .b true, .i p.dec.fst, .i p.dec.snd.fst, .i p.dec.snd.snd, .b p.done, .b p.ever], .lst ((p.pl.length : Int) + 1).toNat (rowNums [.i .u8] (catRows (.sym (p.pl.length : Int)) (instR [.i .u8]
  (rowI p.pl)) (chunk 1 [.int .u8 (.sym f)]))), .tok, .lst p.al.length (rowI p.al), .tok]⟩)))))) (.ite (!(p.pl.length : Int) + 1 == 2) (.must (rowsB [.i .u8] (catRows (.sym (p.pl.length : Int)) (instR [.i .u8] (rowI p.pl))
  (chunk 1 [.int .u8 (.sym f)])) ((p.pl.length : Int) + 1).toNat) (.must (rowsB [.i .u8] (instR [.i .u8] (rowI p.al)) p.al.length) (.leaf ⟨[[.b false]], [.box [.i p.who, .i p.wants.fst, .i p.wants.snd.fst, .i
  p.wants.snd.snd, .i p.value.fst, .i p.value.snd.fst, .i p.value.snd.snd, .i p.best.fst, .i p.best.snd.fst, .i p.best.snd.snd, .i p.b.fst, .i p.b.snd, .i p.acc.fst, .i p.acc.snd, .u, .u, .b p.has, .b p.valued, .i
  p.dec.fst, .i p.dec.snd.fst, .i p.dec.snd.snd, .b p.done, .b p.ever], .lst ((p.pl.length : Int) + 1).toNat (rowNums [.i .u8] (catRows (.sym (p.pl.length : Int)) (instR [.i .u8] (rowI p.pl)) (chunk 1 [.int .u8 (.sym
  f)]))), .tok, .lst p.al.length (rowI p.al), .tok]⟩))) (.ite p.has (.must (rowsB [.i .u8] (catRows (.sym (p.pl.length : Int)) (instR [.i .u8] (rowI p.pl)) (chunk 1 [.int .u8 (.sym f)])) ((p.pl.length : Int) + 1).toNat)
  (.must (rowsB [.i .u8] (instR [.i .u8] (rowI p.al)) p.al.length) (.leaf ⟨[[.b true]], [.box [.i p.who, .i p.wants.fst, .i p.wants.snd.fst, .i p.wants.snd.snd, .i p.best.fst, .i p.best.snd.fst, .i p.best.snd.snd, .i
  p.best.fst, .i p.best.snd.fst, .i p.best.snd.snd, .i p.b.fst, .i p.b.snd, .i p.acc.fst, .i p.acc.snd, .u, .u, .b p.has, .b true, .i p.dec.fst, .i p.dec.snd.fst, .i p.dec.snd.snd, .b p.done, .b p.ever], .lst ((p.pl.length
  : Int) + 1).toNat (rowNums [.i .u8] (catRows (.sym (p.pl.length : Int)) (instR [.i .u8] (rowI p.pl)) (chunk 1 [.int .u8 (.sym f)]))), .tok, .lst p.al.length (rowI p.al), .tok]⟩))) (.must (rowsB [.i .u8] (catRows (.sym
  (p.pl.length : Int)) (instR [.i .u8] (rowI p.pl)) (chunk 1 [.int .u8 (.sym f)])) ((p.pl.length : Int) + 1).toNat) (.must (rowsB [.i .u8] (instR [.i .u8] (rowI p.al)) p.al.length) (.leaf ⟨[[.b true]], [.box [.i p.who, .i
  p.wants.fst, .i p.wants.snd.fst, .i p.wants.snd.snd, .i p.wants.fst, .i p.wants.snd.fst, .i p.wants.snd.snd, .i p.best.fst, .i p.best.snd.fst, .i p.best.snd.snd, .i p.b.fst, .i p.b.snd, .i p.acc.fst, .i p.acc.snd, .u,
  .u, .b p.has, .b true, .i p.dec.fst, .i p.dec.snd.fst, .i p.dec.snd.snd, .b p.done, .b p.ever], .lst ((p.pl.length : Int) + 1).toNat (rowNums [.i .u8] (catRows (.sym (p.pl.length : Int)) (instR [.i .u8] (rowI p.pl))
  (chunk 1 [.int .u8 (.sym f)]))), .tok, .lst p.al.length (rowI p.al), .tok]⟩)))))))) (.ite (!(p.pl.length : Int) + 1 == 2) (.must (rowsB [.i .u8] (catRows (.sym (p.pl.length : Int)) (instR [.i .u8] (rowI p.pl)) (chunk 1
  [.int .u8 (.sym f)])) ((p.pl.length : Int) + 1).toNat) (.must (rowsB [.i .u8] (instR [.i .u8] (rowI p.al)) p.al.length) (.leaf ⟨[[.b false]], [.box [.i p.who, .i p.wants.fst, .i p.wants.snd.fst, .i p.wants.snd.snd, .i
  p.value.fst, .i p.value.snd.fst, .i p.value.snd.snd, .i p.best.fst, .i p.best.snd.fst, .i p.best.snd.snd, .i p.b.fst, .i p.b.snd, .i p.acc.fst, .i p.acc.snd, .u, .u, .b p.has, .b p.valued, .i p.dec.fst, .i p.dec.snd.fst,
  .i p.dec.snd.snd, .b p.done, .b p.ever], .lst ((p.pl.length : Int) + 1).toNat (rowNums [.i .u8] (catRows (.sym (p.pl.length : Int)) (instR [.i .u8] (rowI p.pl)) (chunk 1 [.int .u8 (.sym f)]))), .tok, .lst p.al.length
  (rowI p.al), .tok]⟩))) (.ite p.has (.must (rowsB [.i .u8] (catRows (.sym (p.pl.length : Int)) (instR [.i .u8] (rowI p.pl)) (chunk 1 [.int .u8 (.sym f)])) ((p.pl.length : Int) + 1).toNat) (.must (rowsB [.i .u8] (instR [.i
  .u8] (rowI p.al)) p.al.length) (.leaf ⟨[[.b true]], [.box [.i p.who, .i p.wants.fst, .i p.wants.snd.fst, .i p.wants.snd.snd, .i p.best.fst, .i p.best.snd.fst, .i p.best.snd.snd, .i p.best.fst, .i p.best.snd.fst, .i
  p.best.snd.snd, .i p.b.fst, .i p.b.snd, .i p.acc.fst, .i p.acc.snd, .u, .u, .b p.has, .b true, .i p.dec.fst, .i p.dec.snd.fst, .i p.dec.snd.snd, .b p.done, .b p.ever], .lst ((p.pl.length : Int) + 1).toNat (rowNums [.i
  .u8] (catRows (.sym (p.pl.length : Int)) (instR [.i .u8] (rowI p.pl)) (chunk 1 [.int .u8 (.sym f)]))), .tok, .lst p.al.length (rowI p.al), .tok]⟩))) (.must (rowsB [.i .u8] (catRows (.sym (p.pl.length : Int)) (instR [.i
  .u8] (rowI p.pl)) (chunk 1 [.int .u8 (.sym f)])) ((p.pl.length : Int) + 1).toNat) (.must (rowsB [.i .u8] (instR [.i .u8] (rowI p.al)) p.al.length) (.leaf ⟨[[.b true]], [.box [.i p.who, .i p.wants.fst, .i p.wants.snd.fst,
  .i p.wants.snd.snd, .i p.wants.fst, .i p.wants.snd.fst, .i p.wants.snd.snd, .i p.best.fst, .i p.best.snd.fst, .i p.best.snd.snd, .i p.b.fst, .i p.b.snd, .i p.acc.fst, .i p.acc.snd, .u, .u, .b p.has, .b true, .i
  p.dec.fst, .i p.dec.snd.fst, .i p.dec.snd.snd, .b p.done, .b p.ever], .lst ((p.pl.length : Int) + 1).toNat (rowNums [.i .u8] (catRows (.sym (p.pl.length : Int)) (instR [.i .u8] (rowI p.pl)) (chunk 1 [.int .u8 (.sym
  f)]))), .tok, .lst p.al.length (rowI p.al), .tok]⟩))))))))))) (.must (rowsB [.i .u8] (instR [.i .u8] (rowI p.pl)) p.pl.length) (.must (rowsB [.i .u8] (instR [.i .u8] (rowI p.al)) p.al.length) (.leaf ⟨[[.b false]],
  p.on⟩)))) (.must (rowsB [.i .u8] (instR [.i .u8] (rowI p.pl)) p.pl.length) (.must (rowsB [.i .u8] (instR [.i .u8] (rowI p.al)) p.al.length) (.leaf ⟨[[.b false]], p.on⟩)))) := by kernel_rfl
def prStartT : TS := ⟨[0, 1], [.one (.ptr 0 0), tB2], prHp 1 3, 5⟩
def prStartR : TS := ⟨[], [tB2], prHp 5 7, 9⟩
def prAccT : TS := ⟨[0, 1, 2], [.one (.ptr 0 0), .one (.i .u8), tB2], prHp 1 3, 5⟩
structure RfS where
  who : Int
  want : I3
  b : B2
  h0 : Bool
  h1 : Bool
  h2 : Bool
  best : B2
  bestX : I3
  has : Bool
  value : I3
  valued : Bool
  a0 : Bool
  a1 : Bool
  a2 : Bool
  told : Bool
  dec : I3
  ever : Bool
def RfS.on (r : RfS) : List ON := [.box [.i r.who, .i r.want.1, .i r.want.2.1, .i r.want.2.2, .i r.b.1, .i r.b.2, .b r.h0, .b r.h1, .b r.h2, .i r.best.1, .i r.best.2, .i r.bestX.1, .i r.bestX.2.1, .i r.bestX.2.2, .b r.has, .i r.value.1, .i r.value.2.1, .i r.value.2.2, .b r.valued, .b r.a0, .b r.a1, .b r.a2, .b r.told, .i r.dec.1, .i r.dec.2.1, .i r.dec.2.2, .b r.ever]]
def RfS.get : List ON → Option RfS
  | [.box [.i who, .i w0, .i w1, .i w2, .i b0, .i b1, .b h0, .b h1, .b h2, .i e0, .i e1, .i x0, .i x1, .i x2, .b has, .i v0, .i v1, .i v2, .b valued, .b a0, .b a1, .b a2, .b told, .i d0, .i d1, .i d2, .b ever]] =>
    some ⟨who, (w0, w1, w2), (b0, b1), h0, h1, h2, (e0, e1), (x0, x1, x2), has, (v0, v1, v2), valued, a0, a1, a2, told, (d0, d1, d2), ever⟩
  | _ => none
def rfBox : List TV := [.i .u8, .i .u8, .i .u8, .i .i64, .i .u32, .i .u8, .b, .b, .b, .i .u32, .i .u8, .i .u8, .i .u8, .i .i64, .b, .i .u8, .i .u8, .i .i64, .b, .b, .b, .b, .b, .i .u8, .i .u8, .i .i64, .b]
def rfHp : List (Nat × TO) := [(0, .box rfBox)]
def rfPromT : TS := ⟨[0, 1, 2, 3, 4, 5], [.one (.ptr 0 0), .one (.i .u8), tB2, tB2, tI3, .one .b], rfHp, 1⟩
def rfStartT : TS := ⟨[0, 1], [.one (.ptr 0 0), tB2], rfHp, 1⟩
def rfAccT : TS := ⟨[0, 1, 2], [.one (.ptr 0 0), .one (.i .u8), tB2], rfHp, 1⟩
def rfBoolR : TS := ⟨[], [.one .b], rfHp, 1⟩
def rfStartR : TS := ⟨[], [tB2], rfHp, 1⟩
theorem t14 (p : PrS) (o : B2) : callW Try.prog (codeT Try.prog sbT 300) 14 (prStartT.vals ⟨[[], [.i o.1, .i o.2]], p.on⟩) (prStartT.heap ⟨[[], [.i o.1, .i o.2]], p.on⟩) 5 (outV 5 prStartR) =
  .defI (bif decide (o.fst > p.b.fst) then o.fst else p.b.fst) fun z0 => .ite (decide (z0 < 4294967295)) (.defI (IntKind.u32.wrap (z0 + 1)) fun z1 => .leaf ⟨[[.i z1, .i p.who]], [.box [.i p.who, .i p.wants.fst, .i
  p.wants.snd.fst, .i p.wants.snd.snd, .i 0, .i 0, .i 0, .i 0, .i 0, .i 0, .i z1, .i p.who, .i 0, .i 0, .u, .u, .b false, .b false, .i p.dec.fst, .i p.dec.snd.fst, .i p.dec.snd.snd, .b false, .b p.ever], .lst 0 fun (x :
  Nat) => [], .tok, .lst 0 fun (x : Nat) => [], .tok]⟩) (.leaf ⟨[[.i z0, .i p.who]], [.box [.i p.who, .i p.wants.fst, .i p.wants.snd.fst, .i p.wants.snd.snd, .i 0, .i 0, .i 0, .i 0, .i 0, .i 0, .i z0, .i p.who, .i 0, .i 0,
  .u, .u, .b false, .b false, .i p.dec.fst, .i p.dec.snd.fst, .i p.dec.snd.snd, .b false, .b p.ever], .lst 0 fun (x : Nat) => [], .tok, .lst 0 fun (x : Nat) => [], .tok]⟩) := by kernel_rfl
theorem t17 (p : PrS) (f : Int) (b : B2) : callW Try.prog (codeT Try.prog sbT 300) 17 (prAccT.vals ⟨[[], [.i f], [.i b.1, .i b.2]], p.on⟩) (prAccT.heap ⟨[[], [.i f], [.i b.1, .i b.2]], p.on⟩) 5 (outV 5 prBoolR) =
  .ite (!p.valued) (.must (rowsB [.i .u8] (instR [.i .u8] (rowI p.pl)) p.pl.length) (.must (rowsB [.i .u8] (instR [.i .u8] (rowI p.al)) p.al.length) (.leaf ⟨[[.b false]], p.on⟩))) (.ite p.done (.must (rowsB [.i .u8] (instR
  [.i .u8] (rowI p.pl)) p.pl.length) (.must (rowsB [.i .u8] (instR [.i .u8] (rowI p.al)) p.al.length) (.leaf ⟨[[.b false]], p.on⟩))) (.ite (decide (p.b.fst > 0)) (.ite (b.fst == p.b.fst && b.snd == p.b.snd) (.ite (decide
  (f ≥ 3)) (.must (rowsB [.i .u8] (instR [.i .u8] (rowI p.pl)) p.pl.length) (.must (rowsB [.i .u8] (instR [.i .u8] (rowI p.al)) p.al.length) (.leaf ⟨[[.b false]], p.on⟩))) (.must (rowsB [.i .u8] (instR [.i .u8] (rowI
  p.al)) p.al.length) (.must (decide ((p.al.length : Int) ≤ 1099511627776)) (.ite (anyN (ixP f (rowI p.al)) p.al.length) (.must (rowsB [.i .u8] (instR [.i .u8] (rowI p.pl)) p.pl.length) (.must (rowsB [.i .u8] (instR [.i
  .u8] (rowI p.al)) p.al.length) (.leaf ⟨[[.b false]], p.on⟩))) (.must (decide (((p.al.length : Int) + 1) * 1 ≤ 1099511627776 ∧ (p.al.length : Int) + 1 ≤ 1099511627776)) (.ite (!(p.al.length : Int) + 1 == 2) (.must (rowsB
  [.i .u8] (instR [.i .u8] (rowI p.pl)) p.pl.length) (.must (rowsB [.i .u8] (catRows (.sym (p.al.length : Int)) (instR [.i .u8] (rowI p.al)) (chunk 1 [.int .u8 (.sym f)])) ((p.al.length : Int) + 1).toNat) (.leaf ⟨[[.b
  false]], [.box [.i p.who, .i p.wants.fst, .i p.wants.snd.fst, .i p.wants.snd.snd, .i p.value.fst, .i p.value.snd.fst, .i p.value.snd.snd, .i p.best.fst, .i p.best.snd.fst, .i p.best.snd.snd, .i p.b.fst, .i p.b.snd, .i
  p.acc.fst, .i p.acc.snd, .u, .u, .b p.has, .b p.valued, .i p.dec.fst, .i p.dec.snd.fst, .i p.dec.snd.snd, .b p.done, .b p.ever], .lst p.pl.length (rowI p.pl), .tok, .lst ((p.al.length : Int) + 1).toNat (rowNums [.i .u8]
  (catRows (.sym (p.al.length : Int)) (instR [.i .u8] (rowI p.al)) (chunk 1 [.int .u8 (.sym f)]))), .tok]⟩))) (.must (rowsB [.i .u8] (instR [.i .u8] (rowI p.pl)) p.pl.length) (.must (rowsB [.i .u8] (catRows (.sym
  (p.al.length : Int)) (instR [.i .u8] (rowI p.al)) (chunk 1 [.int .u8 (.sym f)])) ((p.al.length : Int) + 1).toNat) (.leaf ⟨[[.b true]], [.box [.i p.who, .i p.wants.fst, .i p.wants.snd.fst, .i p.wants.snd.snd, .i
  p.value.fst, .i p.value.snd.fst, .i p.value.snd.snd, .i p.best.fst, .i p.best.snd.fst, .i p.best.snd.snd, .i p.b.fst, .i p.b.snd, .i p.acc.fst, .i p.acc.snd, .u, .u, .b p.has, .b p.valued, .i p.value.fst, .i
  p.value.snd.fst, .i p.value.snd.snd, .b true, .b true], .lst p.pl.length (rowI p.pl), .tok, .lst ((p.al.length : Int) + 1).toNat (rowNums [.i .u8] (catRows (.sym (p.al.length : Int)) (instR [.i .u8] (rowI p.al)) (chunk 1
  [.int .u8 (.sym f)]))), .tok]⟩))))))))) (.must (rowsB [.i .u8] (instR [.i .u8] (rowI p.pl)) p.pl.length) (.must (rowsB [.i .u8] (instR [.i .u8] (rowI p.al)) p.al.length) (.leaf ⟨[[.b false]], p.on⟩)))) (.must (rowsB [.i
  .u8] (instR [.i .u8] (rowI p.pl)) p.pl.length) (.must (rowsB [.i .u8] (instR [.i .u8] (rowI p.al)) p.al.length) (.leaf ⟨[[.b false]], p.on⟩))))) := by kernel_rfl
theorem t19 (r : RfS) (o : B2) : callW Try.prog (codeT Try.prog sbT 300) 19 (rfStartT.vals ⟨[[], [.i o.1, .i o.2]], r.on⟩) (rfStartT.heap ⟨[[], [.i o.1, .i o.2]], r.on⟩) 1 (outV 1 rfStartR) =
  .defI (bif decide (o.fst > r.b.fst) then o.fst else r.b.fst) fun z0 => .ite (decide (z0 < 4294967295)) (.defI (IntKind.u32.wrap (z0 + 1)) fun z1 => .leaf ⟨[[.i z1, .i r.who]], [.box [.i r.who, .i r.want.fst, .i
  r.want.snd.fst, .i r.want.snd.snd, .i z1, .i r.who, .b false, .b false, .b false, .i 0, .i 0, .i 0, .i 0, .i 0, .b false, .i 0, .i 0, .i 0, .b false, .b false, .b false, .b false, .b false, .i r.dec.fst, .i
  r.dec.snd.fst, .i r.dec.snd.snd, .b r.ever]]⟩) (.leaf ⟨[[.i z0, .i r.who]], [.box [.i r.who, .i r.want.fst, .i r.want.snd.fst, .i r.want.snd.snd, .i z0, .i r.who, .b false, .b false, .b false, .i 0, .i 0, .i 0, .i 0, .i
  0, .b false, .i 0, .i 0, .i 0, .b false, .b false, .b false, .b false, .b false, .i r.dec.fst, .i r.dec.snd.fst, .i r.dec.snd.snd, .b r.ever]]⟩) := by kernel_rfl
theorem t20 (r : RfS) (f : Int) (b a : B2) (x : I3) (h : Bool) : callW Try.prog (codeT Try.prog sbT 300) 20 (rfPromT.vals ⟨[[], [.i f], [.i b.1, .i b.2], [.i a.1, .i a.2], [.i x.1, .i x.2.1, .i x.2.2], [.b h]], r.on⟩) (rfPromT.heap ⟨[[], [.i f], [.i b.1, .i b.2], [.i a.1, .i a.2], [.i x.1, .i x.2.1, .i x.2.2], [.b h]], r.on⟩) 1 (outV 1 rfBoolR) =
  .ite (r.b.fst == 0 && r.b.snd == 0) (.leaf ⟨[[.b false]], r.on⟩) (.ite (!(b.fst == r.b.fst && b.snd == r.b.snd)) (.leaf ⟨[[.b false]], r.on⟩) (.ite (decide (f ≥ 3)) (.leaf ⟨[[.b false]], r.on⟩) (.ite (decide (f = 0))
  (.ite r.h0 (.leaf ⟨[[.b false]], r.on⟩) (.ite r.valued (.leaf ⟨[[.b false]], r.on⟩) (.ite (decide (f = 0)) (.ite h (.ite (!r.has) (.defI (cntB true r.h1 r.h2) fun z0 => .ite (decide (z0 < 2)) (.leaf ⟨[[.b false]], [.box
  [.i r.who, .i r.want.fst, .i r.want.snd.fst, .i r.want.snd.snd, .i r.b.fst, .i r.b.snd, .b true, .b r.h1, .b r.h2, .i a.fst, .i a.snd, .i x.fst, .i x.snd.fst, .i x.snd.snd, .b true, .i r.value.fst, .i r.value.snd.fst, .i
  r.value.snd.snd, .b r.valued, .b r.a0, .b r.a1, .b r.a2, .b r.told, .i r.dec.fst, .i r.dec.snd.fst, .i r.dec.snd.snd, .b r.ever]]⟩) (.leaf ⟨[[.b true]], [.box [.i r.who, .i r.want.fst, .i r.want.snd.fst, .i
  r.want.snd.snd, .i r.b.fst, .i r.b.snd, .b true, .b r.h1, .b r.h2, .i a.fst, .i a.snd, .i x.fst, .i x.snd.fst, .i x.snd.snd, .b true, .i x.fst, .i x.snd.fst, .i x.snd.snd, .b true, .b r.a0, .b r.a1, .b r.a2, .b r.told,
  .i r.dec.fst, .i r.dec.snd.fst, .i r.dec.snd.snd, .b r.ever]]⟩)) (.ite (decide (r.best.fst < a.fst)) (.defI (cntB true r.h1 r.h2) fun z1 => .ite (decide (z1 < 2)) (.leaf ⟨[[.b false]], [.box [.i r.who, .i r.want.fst, .i
  r.want.snd.fst, .i r.want.snd.snd, .i r.b.fst, .i r.b.snd, .b true, .b r.h1, .b r.h2, .i a.fst, .i a.snd, .i x.fst, .i x.snd.fst, .i x.snd.snd, .b true, .i r.value.fst, .i r.value.snd.fst, .i r.value.snd.snd, .b
  r.valued, .b r.a0, .b r.a1, .b r.a2, .b r.told, .i r.dec.fst, .i r.dec.snd.fst, .i r.dec.snd.snd, .b r.ever]]⟩) (.leaf ⟨[[.b true]], [.box [.i r.who, .i r.want.fst, .i r.want.snd.fst, .i r.want.snd.snd, .i r.b.fst, .i
  r.b.snd, .b true, .b r.h1, .b r.h2, .i a.fst, .i a.snd, .i x.fst, .i x.snd.fst, .i x.snd.snd, .b true, .i x.fst, .i x.snd.fst, .i x.snd.snd, .b true, .b r.a0, .b r.a1, .b r.a2, .b r.told, .i r.dec.fst, .i r.dec.snd.fst,
  .i r.dec.snd.snd, .b r.ever]]⟩)) (.ite (r.best.fst == a.fst) (.ite (decide (r.best.snd < a.snd)) (.defI (cntB true r.h1 r.h2) fun z2 => .ite (decide (z2 < 2)) (.leaf ⟨[[.b false]], [.box [.i r.who, .i r.want.fst, .i
  r.want.snd.fst, .i r.want.snd.snd, .i r.b.fst, .i r.b.snd, .b true, .b r.h1, .b r.h2, .i a.fst, .i a.snd, .i x.fst, .i x.snd.fst, .i x.snd.snd, .b true, .i r.value.fst, .i r.value.snd.fst, .i r.value.snd.snd, .b
  r.valued, .b r.a0, .b r.a1, .b r.a2, .b r.told, .i r.dec.fst, .i r.dec.snd.fst, .i r.dec.snd.snd, .b r.ever]]⟩) (.leaf ⟨[[.b true]], [.box [.i r.who, .i r.want.fst, .i r.want.snd.fst, .i r.want.snd.snd, .i r.b.fst, .i
  r.b.snd, .b true, .b r.h1, .b r.h2, .i a.fst, .i a.snd, .i x.fst, .i x.snd.fst, .i x.snd.snd, .b true, .i x.fst, .i x.snd.fst, .i x.snd.snd, .b true, .b r.a0, .b r.a1, .b r.a2, .b r.told, .i r.dec.fst, .i r.dec.snd.fst,
  .i r.dec.snd.snd, .b r.ever]]⟩)) (.defI (cntB true r.h1 r.h2) fun z3 => .ite (decide (z3 < 2)) (.leaf ⟨[[.b false]], [.box [.i r.who, .i r.want.fst, .i r.want.snd.fst, .i r.want.snd.snd, .i r.b.fst, .i r.b.snd, .b true,
  .b r.h1, .b r.h2, .i r.best.fst, .i r.best.snd, .i r.bestX.fst, .i r.bestX.snd.fst, .i r.bestX.snd.snd, .b r.has, .i r.value.fst, .i r.value.snd.fst, .i r.value.snd.snd, .b r.valued, .b r.a0, .b r.a1, .b r.a2, .b r.told,
  .i r.dec.fst, .i r.dec.snd.fst, .i r.dec.snd.snd, .b r.ever]]⟩) (.ite r.has (.leaf ⟨[[.b true]], [.box [.i r.who, .i r.want.fst, .i r.want.snd.fst, .i r.want.snd.snd, .i r.b.fst, .i r.b.snd, .b true, .b r.h1, .b r.h2, .i
  r.best.fst, .i r.best.snd, .i r.bestX.fst, .i r.bestX.snd.fst, .i r.bestX.snd.snd, .b r.has, .i r.bestX.fst, .i r.bestX.snd.fst, .i r.bestX.snd.snd, .b true, .b r.a0, .b r.a1, .b r.a2, .b r.told, .i r.dec.fst, .i
  r.dec.snd.fst, .i r.dec.snd.snd, .b r.ever]]⟩) (.leaf ⟨[[.b true]], [.box [.i r.who, .i r.want.fst, .i r.want.snd.fst, .i r.want.snd.snd, .i r.b.fst, .i r.b.snd, .b true, .b r.h1, .b r.h2, .i r.best.fst, .i r.best.snd,
  .i r.bestX.fst, .i r.bestX.snd.fst, .i r.bestX.snd.snd, .b r.has, .i r.want.fst, .i r.want.snd.fst, .i r.want.snd.snd, .b true, .b r.a0, .b r.a1, .b r.a2, .b r.told, .i r.dec.fst, .i r.dec.snd.fst, .i r.dec.snd.snd, .b
  r.ever]]⟩)))) (.defI (cntB true r.h1 r.h2) fun z4 => .ite (decide (z4 < 2)) (.leaf ⟨[[.b false]], [.box [.i r.who, .i r.want.fst, .i r.want.snd.fst, .i r.want.snd.snd, .i r.b.fst, .i r.b.snd, .b true, .b r.h1, .b r.h2,
  .i r.best.fst, .i r.best.snd, .i r.bestX.fst, .i r.bestX.snd.fst, .i r.bestX.snd.snd, .b r.has, .i r.value.fst, .i r.value.snd.fst, .i r.value.snd.snd, .b r.valued, .b r.a0, .b r.a1, .b r.a2, .b r.told, .i r.dec.fst, .i
  r.dec.snd.fst, .i r.dec.snd.snd, .b r.ever]]⟩) (.ite r.has (.leaf ⟨[[.b true]], [.box [.i r.who, .i r.want.fst, .i r.want.snd.fst, .i r.want.snd.snd, .i r.b.fst, .i r.b.snd, .b true, .b r.h1, .b r.h2, .i r.best.fst, .i
  r.best.snd, .i r.bestX.fst, .i r.bestX.snd.fst, .i r.bestX.snd.snd, .b r.has, .i r.bestX.fst, .i r.bestX.snd.fst, .i r.bestX.snd.snd, .b true, .b r.a0, .b r.a1, .b r.a2, .b r.told, .i r.dec.fst, .i r.dec.snd.fst, .i
  r.dec.snd.snd, .b r.ever]]⟩) (.leaf ⟨[[.b true]], [.box [.i r.who, .i r.want.fst, .i r.want.snd.fst, .i r.want.snd.snd, .i r.b.fst, .i r.b.snd, .b true, .b r.h1, .b r.h2, .i r.best.fst, .i r.best.snd, .i r.bestX.fst, .i
  r.bestX.snd.fst, .i r.bestX.snd.snd, .b r.has, .i r.want.fst, .i r.want.snd.fst, .i r.want.snd.snd, .b true, .b r.a0, .b r.a1, .b r.a2, .b r.told, .i r.dec.fst, .i r.dec.snd.fst, .i r.dec.snd.snd, .b r.ever]]⟩))))))
  (.defI (cntB true r.h1 r.h2) fun z5 => .ite (decide (z5 < 2)) (.leaf ⟨[[.b false]], [.box [.i r.who, .i r.want.fst, .i r.want.snd.fst, .i r.want.snd.snd, .i r.b.fst, .i r.b.snd, .b true, .b r.h1, .b r.h2, .i r.best.fst,
  .i r.best.snd, .i r.bestX.fst, .i r.bestX.snd.fst, .i r.bestX.snd.snd, .b r.has, .i r.value.fst, .i r.value.snd.fst, .i r.value.snd.snd, .b r.valued, .b r.a0, .b r.a1, .b r.a2, .b r.told, .i r.dec.fst, .i r.dec.snd.fst,
  .i r.dec.snd.snd, .b r.ever]]⟩) (.ite r.has (.leaf ⟨[[.b true]], [.box [.i r.who, .i r.want.fst, .i r.want.snd.fst, .i r.want.snd.snd, .i r.b.fst, .i r.b.snd, .b true, .b r.h1, .b r.h2, .i r.best.fst, .i r.best.snd, .i
  r.bestX.fst, .i r.bestX.snd.fst, .i r.bestX.snd.snd, .b r.has, .i r.bestX.fst, .i r.bestX.snd.fst, .i r.bestX.snd.snd, .b true, .b r.a0, .b r.a1, .b r.a2, .b r.told, .i r.dec.fst, .i r.dec.snd.fst, .i r.dec.snd.snd, .b
  r.ever]]⟩) (.leaf ⟨[[.b true]], [.box [.i r.who, .i r.want.fst, .i r.want.snd.fst, .i r.want.snd.snd, .i r.b.fst, .i r.b.snd, .b true, .b r.h1, .b r.h2, .i r.best.fst, .i r.best.snd, .i r.bestX.fst, .i r.bestX.snd.fst,
  .i r.bestX.snd.snd, .b r.has, .i r.want.fst, .i r.want.snd.fst, .i r.want.snd.snd, .b true, .b r.a0, .b r.a1, .b r.a2, .b r.told, .i r.dec.fst, .i r.dec.snd.fst, .i r.dec.snd.snd, .b r.ever]]⟩)))) (.ite (decide (f = 1))
  (.ite h (.ite (!r.has) (.defI (cntB r.h0 true r.h2) fun z6 => .ite (decide (z6 < 2)) (.leaf ⟨[[.b false]], [.box [.i r.who, .i r.want.fst, .i r.want.snd.fst, .i r.want.snd.snd, .i r.b.fst, .i r.b.snd, .b r.h0, .b true,
  .b r.h2, .i a.fst, .i a.snd, .i x.fst, .i x.snd.fst, .i x.snd.snd, .b true, .i r.value.fst, .i r.value.snd.fst, .i r.value.snd.snd, .b r.valued, .b r.a0, .b r.a1, .b r.a2, .b r.told, .i r.dec.fst, .i r.dec.snd.fst, .i
  r.dec.snd.snd, .b r.ever]]⟩) (.leaf ⟨[[.b true]], [.box [.i r.who, .i r.want.fst, .i r.want.snd.fst, .i r.want.snd.snd, .i r.b.fst, .i r.b.snd, .b r.h0, .b true, .b r.h2, .i a.fst, .i a.snd, .i x.fst, .i x.snd.fst, .i
  x.snd.snd, .b true, .i x.fst, .i x.snd.fst, .i x.snd.snd, .b true, .b r.a0, .b r.a1, .b r.a2, .b r.told, .i r.dec.fst, .i r.dec.snd.fst, .i r.dec.snd.snd, .b r.ever]]⟩)) (.ite (decide (r.best.fst < a.fst)) (.defI (cntB
  r.h0 true r.h2) fun z7 => .ite (decide (z7 < 2)) (.leaf ⟨[[.b false]], [.box [.i r.who, .i r.want.fst, .i r.want.snd.fst, .i r.want.snd.snd, .i r.b.fst, .i r.b.snd, .b r.h0, .b true, .b r.h2, .i a.fst, .i a.snd, .i
  x.fst, .i x.snd.fst, .i x.snd.snd, .b true, .i r.value.fst, .i r.value.snd.fst, .i r.value.snd.snd, .b r.valued, .b r.a0, .b r.a1, .b r.a2, .b r.told, .i r.dec.fst, .i r.dec.snd.fst, .i r.dec.snd.snd, .b r.ever]]⟩)
  (.leaf ⟨[[.b true]], [.box [.i r.who, .i r.want.fst, .i r.want.snd.fst, .i r.want.snd.snd, .i r.b.fst, .i r.b.snd, .b r.h0, .b true, .b r.h2, .i a.fst, .i a.snd, .i x.fst, .i x.snd.fst, .i x.snd.snd, .b true, .i x.fst,
  .i x.snd.fst, .i x.snd.snd, .b true, .b r.a0, .b r.a1, .b r.a2, .b r.told, .i r.dec.fst, .i r.dec.snd.fst, .i r.dec.snd.snd, .b r.ever]]⟩)) (.ite (r.best.fst == a.fst) (.ite (decide (r.best.snd < a.snd)) (.defI (cntB
  r.h0 true r.h2) fun z8 => .ite (decide (z8 < 2)) (.leaf ⟨[[.b false]], [.box [.i r.who, .i r.want.fst, .i r.want.snd.fst, .i r.want.snd.snd, .i r.b.fst, .i r.b.snd, .b r.h0, .b true, .b r.h2, .i a.fst, .i a.snd, .i
  x.fst, .i x.snd.fst, .i x.snd.snd, .b true, .i r.value.fst, .i r.value.snd.fst, .i r.value.snd.snd, .b r.valued, .b r.a0, .b r.a1, .b r.a2, .b r.told, .i r.dec.fst, .i r.dec.snd.fst, .i r.dec.snd.snd, .b r.ever]]⟩)
  (.leaf ⟨[[.b true]], [.box [.i r.who, .i r.want.fst, .i r.want.snd.fst, .i r.want.snd.snd, .i r.b.fst, .i r.b.snd, .b r.h0, .b true, .b r.h2, .i a.fst, .i a.snd, .i x.fst, .i x.snd.fst, .i x.snd.snd, .b true, .i x.fst,
  .i x.snd.fst, .i x.snd.snd, .b true, .b r.a0, .b r.a1, .b r.a2, .b r.told, .i r.dec.fst, .i r.dec.snd.fst, .i r.dec.snd.snd, .b r.ever]]⟩)) (.defI (cntB r.h0 true r.h2) fun z9 => .ite (decide (z9 < 2)) (.leaf ⟨[[.b
  false]], [.box [.i r.who, .i r.want.fst, .i r.want.snd.fst, .i r.want.snd.snd, .i r.b.fst, .i r.b.snd, .b r.h0, .b true, .b r.h2, .i r.best.fst, .i r.best.snd, .i r.bestX.fst, .i r.bestX.snd.fst, .i r.bestX.snd.snd, .b
  r.has, .i r.value.fst, .i r.value.snd.fst, .i r.value.snd.snd, .b r.valued, .b r.a0, .b r.a1, .b r.a2, .b r.told, .i r.dec.fst, .i r.dec.snd.fst, .i r.dec.snd.snd, .b r.ever]]⟩) (.ite r.has (.leaf ⟨[[.b true]], [.box [.i
  r.who, .i r.want.fst, .i r.want.snd.fst, .i r.want.snd.snd, .i r.b.fst, .i r.b.snd, .b r.h0, .b true, .b r.h2, .i r.best.fst, .i r.best.snd, .i r.bestX.fst, .i r.bestX.snd.fst, .i r.bestX.snd.snd, .b r.has, .i
  r.bestX.fst, .i r.bestX.snd.fst, .i r.bestX.snd.snd, .b true, .b r.a0, .b r.a1, .b r.a2, .b r.told, .i r.dec.fst, .i r.dec.snd.fst, .i r.dec.snd.snd, .b r.ever]]⟩) (.leaf ⟨[[.b true]], [.box [.i r.who, .i r.want.fst, .i
  r.want.snd.fst, .i r.want.snd.snd, .i r.b.fst, .i r.b.snd, .b r.h0, .b true, .b r.h2, .i r.best.fst, .i r.best.snd, .i r.bestX.fst, .i r.bestX.snd.fst, .i r.bestX.snd.snd, .b r.has, .i r.want.fst, .i r.want.snd.fst, .i
  r.want.snd.snd, .b true, .b r.a0, .b r.a1, .b r.a2, .b r.told, .i r.dec.fst, .i r.dec.snd.fst, .i r.dec.snd.snd, .b r.ever]]⟩)))) (.defI (cntB r.h0 true r.h2) fun z10 => .ite (decide (z10 < 2)) (.leaf ⟨[[.b false]],
  [.box [.i r.who, .i r.want.fst, .i r.want.snd.fst, .i r.want.snd.snd, .i r.b.fst, .i r.b.snd, .b r.h0, .b true, .b r.h2, .i r.best.fst, .i r.best.snd, .i r.bestX.fst, .i r.bestX.snd.fst, .i r.bestX.snd.snd, .b r.has, .i
  r.value.fst, .i r.value.snd.fst, .i r.value.snd.snd, .b r.valued, .b r.a0, .b r.a1, .b r.a2, .b r.told, .i r.dec.fst, .i r.dec.snd.fst, .i r.dec.snd.snd, .b r.ever]]⟩) (.ite r.has (.leaf ⟨[[.b true]], [.box [.i r.who, .i
  r.want.fst, .i r.want.snd.fst, .i r.want.snd.snd, .i r.b.fst, .i r.b.snd, .b r.h0, .b true, .b r.h2, .i r.best.fst, .i r.best.snd, .i r.bestX.fst, .i r.bestX.snd.fst, .i r.bestX.snd.snd, .b r.has, .i r.bestX.fst, .i
  r.bestX.snd.fst, .i r.bestX.snd.snd, .b true, .b r.a0, .b r.a1, .b r.a2, .b r.told, .i r.dec.fst, .i r.dec.snd.fst, .i r.dec.snd.snd, .b r.ever]]⟩) (.leaf ⟨[[.b true]], [.box [.i r.who, .i r.want.fst, .i r.want.snd.fst,
  .i r.want.snd.snd, .i r.b.fst, .i r.b.snd, .b r.h0, .b true, .b r.h2, .i r.best.fst, .i r.best.snd, .i r.bestX.fst, .i r.bestX.snd.fst, .i r.bestX.snd.snd, .b r.has, .i r.want.fst, .i r.want.snd.fst, .i r.want.snd.snd,
  .b true, .b r.a0, .b r.a1, .b r.a2, .b r.told, .i r.dec.fst, .i r.dec.snd.fst, .i r.dec.snd.snd, .b r.ever]]⟩)))))) (.defI (cntB r.h0 true r.h2) fun z11 => .ite (decide (z11 < 2)) (.leaf ⟨[[.b false]], [.box [.i r.who,
  .i r.want.fst, .i r.want.snd.fst, .i r.want.snd.snd, .i r.b.fst, .i r.b.snd, .b r.h0, .b true, .b r.h2, .i r.best.fst, .i r.best.snd, .i r.bestX.fst, .i r.bestX.snd.fst, .i r.bestX.snd.snd, .b r.has, .i r.value.fst, .i
  r.value.snd.fst, .i r.value.snd.snd, .b r.valued, .b r.a0, .b r.a1, .b r.a2, .b r.told, .i r.dec.fst, .i r.dec.snd.fst, .i r.dec.snd.snd, .b r.ever]]⟩) (.ite r.has (.leaf ⟨[[.b true]], [.box [.i r.who, .i r.want.fst, .i
  r.want.snd.fst, .i r.want.snd.snd, .i r.b.fst, .i r.b.snd, .b r.h0, .b true, .b r.h2, .i r.best.fst, .i r.best.snd, .i r.bestX.fst, .i r.bestX.snd.fst, .i r.bestX.snd.snd, .b r.has, .i r.bestX.fst, .i r.bestX.snd.fst, .i
  r.bestX.snd.snd, .b true, .b r.a0, .b r.a1, .b r.a2, .b r.told, .i r.dec.fst, .i r.dec.snd.fst, .i r.dec.snd.snd, .b r.ever]]⟩) (.leaf ⟨[[.b true]], [.box [.i r.who, .i r.want.fst, .i r.want.snd.fst, .i r.want.snd.snd,
  .i r.b.fst, .i r.b.snd, .b r.h0, .b true, .b r.h2, .i r.best.fst, .i r.best.snd, .i r.bestX.fst, .i r.bestX.snd.fst, .i r.bestX.snd.snd, .b r.has, .i r.want.fst, .i r.want.snd.fst, .i r.want.snd.snd, .b true, .b r.a0, .b
  r.a1, .b r.a2, .b r.told, .i r.dec.fst, .i r.dec.snd.fst, .i r.dec.snd.snd, .b r.ever]]⟩)))) (.ite (decide (f = 2)) (.ite h (.ite (!r.has) (.defI (cntB r.h0 r.h1 true) fun z12 => .ite (decide (z12 < 2)) (.leaf ⟨[[.b
  false]], [.box [.i r.who, .i r.want.fst, .i r.want.snd.fst, .i r.want.snd.snd, .i r.b.fst, .i r.b.snd, .b r.h0, .b r.h1, .b true, .i a.fst, .i a.snd, .i x.fst, .i x.snd.fst, .i x.snd.snd, .b true, .i r.value.fst, .i
  r.value.snd.fst, .i r.value.snd.snd, .b r.valued, .b r.a0, .b r.a1, .b r.a2, .b r.told, .i r.dec.fst, .i r.dec.snd.fst, .i r.dec.snd.snd, .b r.ever]]⟩) (.leaf ⟨[[.b true]], [.box [.i r.who, .i r.want.fst, .i
  r.want.snd.fst, .i r.want.snd.snd, .i r.b.fst, .i r.b.snd, .b r.h0, .b r.h1, .b true, .i a.fst, .i a.snd, .i x.fst, .i x.snd.fst, .i x.snd.snd, .b true, .i x.fst, .i x.snd.fst, .i x.snd.snd, .b true, .b r.a0, .b r.a1, .b
  r.a2, .b r.told, .i r.dec.fst, .i r.dec.snd.fst, .i r.dec.snd.snd, .b r.ever]]⟩)) (.ite (decide (r.best.fst < a.fst)) (.defI (cntB r.h0 r.h1 true) fun z13 => .ite (decide (z13 < 2)) (.leaf ⟨[[.b false]], [.box [.i r.who,
  .i r.want.fst, .i r.want.snd.fst, .i r.want.snd.snd, .i r.b.fst, .i r.b.snd, .b r.h0, .b r.h1, .b true, .i a.fst, .i a.snd, .i x.fst, .i x.snd.fst, .i x.snd.snd, .b true, .i r.value.fst, .i r.value.snd.fst, .i
  r.value.snd.snd, .b r.valued, .b r.a0, .b r.a1, .b r.a2, .b r.told, .i r.dec.fst, .i r.dec.snd.fst, .i r.dec.snd.snd, .b r.ever]]⟩) (.leaf ⟨[[.b true]], [.box [.i r.who, .i r.want.fst, .i r.want.snd.fst, .i
  r.want.snd.snd, .i r.b.fst, .i r.b.snd, .b r.h0, .b r.h1, .b true, .i a.fst, .i a.snd, .i x.fst, .i x.snd.fst, .i x.snd.snd, .b true, .i x.fst, .i x.snd.fst, .i x.snd.snd, .b true, .b r.a0, .b r.a1, .b r.a2, .b r.told,
  .i r.dec.fst, .i r.dec.snd.fst, .i r.dec.snd.snd, .b r.ever]]⟩)) (.ite (r.best.fst == a.fst) (.ite (decide (r.best.snd < a.snd)) (.defI (cntB r.h0 r.h1 true) fun z14 => .ite (decide (z14 < 2)) (.leaf ⟨[[.b false]], [.box
  [.i r.who, .i r.want.fst, .i r.want.snd.fst, .i r.want.snd.snd, .i r.b.fst, .i r.b.snd, .b r.h0, .b r.h1, .b true, .i a.fst, .i a.snd, .i x.fst, .i x.snd.fst, .i x.snd.snd, .b true, .i r.value.fst, .i r.value.snd.fst, .i
  r.value.snd.snd, .b r.valued, .b r.a0, .b r.a1, .b r.a2, .b r.told, .i r.dec.fst, .i r.dec.snd.fst, .i r.dec.snd.snd, .b r.ever]]⟩) (.leaf ⟨[[.b true]], [.box [.i r.who, .i r.want.fst, .i r.want.snd.fst, .i
  r.want.snd.snd, .i r.b.fst, .i r.b.snd, .b r.h0, .b r.h1, .b true, .i a.fst, .i a.snd, .i x.fst, .i x.snd.fst, .i x.snd.snd, .b true, .i x.fst, .i x.snd.fst, .i x.snd.snd, .b true, .b r.a0, .b r.a1, .b r.a2, .b r.told,
  .i r.dec.fst, .i r.dec.snd.fst, .i r.dec.snd.snd, .b r.ever]]⟩)) (.defI (cntB r.h0 r.h1 true) fun z15 => .ite (decide (z15 < 2)) (.leaf ⟨[[.b false]], [.box [.i r.who, .i r.want.fst, .i r.want.snd.fst, .i r.want.snd.snd,
  .i r.b.fst, .i r.b.snd, .b r.h0, .b r.h1, .b true, .i r.best.fst, .i r.best.snd, .i r.bestX.fst, .i r.bestX.snd.fst, .i r.bestX.snd.snd, .b r.has, .i r.value.fst, .i r.value.snd.fst, .i r.value.snd.snd, .b r.valued, .b
  r.a0, .b r.a1, .b r.a2, .b r.told, .i r.dec.fst, .i r.dec.snd.fst, .i r.dec.snd.snd, .b r.ever]]⟩) (.ite r.has (.leaf ⟨[[.b true]], [.box [.i r.who, .i r.want.fst, .i r.want.snd.fst, .i r.want.snd.snd, .i r.b.fst, .i
  r.b.snd, .b r.h0, .b r.h1, .b true, .i r.best.fst, .i r.best.snd, .i r.bestX.fst, .i r.bestX.snd.fst, .i r.bestX.snd.snd, .b r.has, .i r.bestX.fst, .i r.bestX.snd.fst, .i r.bestX.snd.snd, .b true, .b r.a0, .b r.a1, .b
  r.a2, .b r.told, .i r.dec.fst, .i r.dec.snd.fst, .i r.dec.snd.snd, .b r.ever]]⟩) (.leaf ⟨[[.b true]], [.box [.i r.who, .i r.want.fst, .i r.want.snd.fst, .i r.want.snd.snd, .i r.b.fst, .i r.b.snd, .b r.h0, .b r.h1, .b
  true, .i r.best.fst, .i r.best.snd, .i r.bestX.fst, .i r.bestX.snd.fst, .i r.bestX.snd.snd, .b r.has, .i r.want.fst, .i r.want.snd.fst, .i r.want.snd.snd, .b true, .b r.a0, .b r.a1, .b r.a2, .b r.told, .i r.dec.fst, .i
  r.dec.snd.fst, .i r.dec.snd.snd, .b r.ever]]⟩)))) (.defI (cntB r.h0 r.h1 true) fun z16 => .ite (decide (z16 < 2)) (.leaf ⟨[[.b false]], [.box [.i r.who, .i r.want.fst, .i r.want.snd.fst, .i r.want.snd.snd, .i r.b.fst, .i
  r.b.snd, .b r.h0, .b r.h1, .b true, .i r.best.fst, .i r.best.snd, .i r.bestX.fst, .i r.bestX.snd.fst, .i r.bestX.snd.snd, .b r.has, .i r.value.fst, .i r.value.snd.fst, .i r.value.snd.snd, .b r.valued, .b r.a0, .b r.a1,
  .b r.a2, .b r.told, .i r.dec.fst, .i r.dec.snd.fst, .i r.dec.snd.snd, .b r.ever]]⟩) (.ite r.has (.leaf ⟨[[.b true]], [.box [.i r.who, .i r.want.fst, .i r.want.snd.fst, .i r.want.snd.snd, .i r.b.fst, .i r.b.snd, .b r.h0,
  .b r.h1, .b true, .i r.best.fst, .i r.best.snd, .i r.bestX.fst, .i r.bestX.snd.fst, .i r.bestX.snd.snd, .b r.has, .i r.bestX.fst, .i r.bestX.snd.fst, .i r.bestX.snd.snd, .b true, .b r.a0, .b r.a1, .b r.a2, .b r.told, .i
  r.dec.fst, .i r.dec.snd.fst, .i r.dec.snd.snd, .b r.ever]]⟩) (.leaf ⟨[[.b true]], [.box [.i r.who, .i r.want.fst, .i r.want.snd.fst, .i r.want.snd.snd, .i r.b.fst, .i r.b.snd, .b r.h0, .b r.h1, .b true, .i r.best.fst, .i
  r.best.snd, .i r.bestX.fst, .i r.bestX.snd.fst, .i r.bestX.snd.snd, .b r.has, .i r.want.fst, .i r.want.snd.fst, .i r.want.snd.snd, .b true, .b r.a0, .b r.a1, .b r.a2, .b r.told, .i r.dec.fst, .i r.dec.snd.fst, .i
  r.dec.snd.snd, .b r.ever]]⟩)))))) (.defI (cntB r.h0 r.h1 true) fun z17 => .ite (decide (z17 < 2)) (.leaf ⟨[[.b false]], [.box [.i r.who, .i r.want.fst, .i r.want.snd.fst, .i r.want.snd.snd, .i r.b.fst, .i r.b.snd, .b
  r.h0, .b r.h1, .b true, .i r.best.fst, .i r.best.snd, .i r.bestX.fst, .i r.bestX.snd.fst, .i r.bestX.snd.snd, .b r.has, .i r.value.fst, .i r.value.snd.fst, .i r.value.snd.snd, .b r.valued, .b r.a0, .b r.a1, .b r.a2, .b
  r.told, .i r.dec.fst, .i r.dec.snd.fst, .i r.dec.snd.snd, .b r.ever]]⟩) (.ite r.has (.leaf ⟨[[.b true]], [.box [.i r.who, .i r.want.fst, .i r.want.snd.fst, .i r.want.snd.snd, .i r.b.fst, .i r.b.snd, .b r.h0, .b r.h1, .b
  true, .i r.best.fst, .i r.best.snd, .i r.bestX.fst, .i r.bestX.snd.fst, .i r.bestX.snd.snd, .b r.has, .i r.bestX.fst, .i r.bestX.snd.fst, .i r.bestX.snd.snd, .b true, .b r.a0, .b r.a1, .b r.a2, .b r.told, .i r.dec.fst,
  .i r.dec.snd.fst, .i r.dec.snd.snd, .b r.ever]]⟩) (.leaf ⟨[[.b true]], [.box [.i r.who, .i r.want.fst, .i r.want.snd.fst, .i r.want.snd.snd, .i r.b.fst, .i r.b.snd, .b r.h0, .b r.h1, .b true, .i r.best.fst, .i
  r.best.snd, .i r.bestX.fst, .i r.bestX.snd.fst, .i r.bestX.snd.snd, .b r.has, .i r.want.fst, .i r.want.snd.fst, .i r.want.snd.snd, .b true, .b r.a0, .b r.a1, .b r.a2, .b r.told, .i r.dec.fst, .i r.dec.snd.fst, .i
  r.dec.snd.snd, .b r.ever]]⟩)))) (.must false (.fail "index"))))))) (.ite (decide (f = 1)) (.ite r.h1 (.leaf ⟨[[.b false]], r.on⟩) (.ite r.valued (.leaf ⟨[[.b false]], r.on⟩) (.ite (decide (f = 0)) (.ite h (.ite (!r.has)
  (.defI (cntB true r.h1 r.h2) fun z18 => .ite (decide (z18 < 2)) (.leaf ⟨[[.b false]], [.box [.i r.who, .i r.want.fst, .i r.want.snd.fst, .i r.want.snd.snd, .i r.b.fst, .i r.b.snd, .b true, .b r.h1, .b r.h2, .i a.fst, .i
  a.snd, .i x.fst, .i x.snd.fst, .i x.snd.snd, .b true, .i r.value.fst, .i r.value.snd.fst, .i r.value.snd.snd, .b r.valued, .b r.a0, .b r.a1, .b r.a2, .b r.told, .i r.dec.fst, .i r.dec.snd.fst, .i r.dec.snd.snd, .b
  r.ever]]⟩) (.leaf ⟨[[.b true]], [.box [.i r.who, .i r.want.fst, .i r.want.snd.fst, .i r.want.snd.snd, .i r.b.fst, .i r.b.snd, .b true, .b r.h1, .b r.h2, .i a.fst, .i a.snd, .i x.fst, .i x.snd.fst, .i x.snd.snd, .b true,
  .i x.fst, .i x.snd.fst, .i x.snd.snd, .b true, .b r.a0, .b r.a1, .b r.a2, .b r.told, .i r.dec.fst, .i r.dec.snd.fst, .i r.dec.snd.snd, .b r.ever]]⟩)) (.ite (decide (r.best.fst < a.fst)) (.defI (cntB true r.h1 r.h2) fun
  z19 => .ite (decide (z19 < 2)) (.leaf ⟨[[.b false]], [.box [.i r.who, .i r.want.fst, .i r.want.snd.fst, .i r.want.snd.snd, .i r.b.fst, .i r.b.snd, .b true, .b r.h1, .b r.h2, .i a.fst, .i a.snd, .i x.fst, .i x.snd.fst, .i
  x.snd.snd, .b true, .i r.value.fst, .i r.value.snd.fst, .i r.value.snd.snd, .b r.valued, .b r.a0, .b r.a1, .b r.a2, .b r.told, .i r.dec.fst, .i r.dec.snd.fst, .i r.dec.snd.snd, .b r.ever]]⟩) (.leaf ⟨[[.b true]], [.box
  [.i r.who, .i r.want.fst, .i r.want.snd.fst, .i r.want.snd.snd, .i r.b.fst, .i r.b.snd, .b true, .b r.h1, .b r.h2, .i a.fst, .i a.snd, .i x.fst, .i x.snd.fst, .i x.snd.snd, .b true, .i x.fst, .i x.snd.fst, .i x.snd.snd,
  .b true, .b r.a0, .b r.a1, .b r.a2, .b r.told, .i r.dec.fst, .i r.dec.snd.fst, .i r.dec.snd.snd, .b r.ever]]⟩)) (.ite (r.best.fst == a.fst) (.ite (decide (r.best.snd < a.snd)) (.defI (cntB true r.h1 r.h2) fun z20 => .ite
  (decide (z20 < 2)) (.leaf ⟨[[.b false]], [.box [.i r.who, .i r.want.fst, .i r.want.snd.fst, .i r.want.snd.snd, .i r.b.fst, .i r.b.snd, .b true, .b r.h1, .b r.h2, .i a.fst, .i a.snd, .i x.fst, .i x.snd.fst, .i x.snd.snd,
  .b true, .i r.value.fst, .i r.value.snd.fst, .i r.value.snd.snd, .b r.valued, .b r.a0, .b r.a1, .b r.a2, .b r.told, .i r.dec.fst, .i r.dec.snd.fst, .i r.dec.snd.snd, .b r.ever]]⟩) (.leaf ⟨[[.b true]], [.box [.i r.who, .i
  r.want.fst, .i r.want.snd.fst, .i r.want.snd.snd, .i r.b.fst, .i r.b.snd, .b true, .b r.h1, .b r.h2, .i a.fst, .i a.snd, .i x.fst, .i x.snd.fst, .i x.snd.snd, .b true, .i x.fst, .i x.snd.fst, .i x.snd.snd, .b true, .b
  r.a0, .b r.a1, .b r.a2, .b r.told, .i r.dec.fst, .i r.dec.snd.fst, .i r.dec.snd.snd, .b r.ever]]⟩)) (.defI (cntB true r.h1 r.h2) fun z21 => .ite (decide (z21 < 2)) (.leaf ⟨[[.b false]], [.box [.i r.who, .i r.want.fst, .i
  r.want.snd.fst, .i r.want.snd.snd, .i r.b.fst, .i r.b.snd, .b true, .b r.h1, .b r.h2, .i r.best.fst, .i r.best.snd, .i r.bestX.fst, .i r.bestX.snd.fst, .i r.bestX.snd.snd, .b r.has, .i r.value.fst, .i r.value.snd.fst, .i
  r.value.snd.snd, .b r.valued, .b r.a0, .b r.a1, .b r.a2, .b r.told, .i r.dec.fst, .i r.dec.snd.fst, .i r.dec.snd.snd, .b r.ever]]⟩) (.ite r.has (.leaf ⟨[[.b true]], [.box [.i r.who, .i r.want.fst, .i r.want.snd.fst, .i
  r.want.snd.snd, .i r.b.fst, .i r.b.snd, .b true, .b r.h1, .b r.h2, .i r.best.fst, .i r.best.snd, .i r.bestX.fst, .i r.bestX.snd.fst, .i r.bestX.snd.snd, .b r.has, .i r.bestX.fst, .i r.bestX.snd.fst, .i r.bestX.snd.snd,
  .b true, .b r.a0, .b r.a1, .b r.a2, .b r.told, .i r.dec.fst, .i r.dec.snd.fst, .i r.dec.snd.snd, .b r.ever]]⟩) (.leaf ⟨[[.b true]], [.box [.i r.who, .i r.want.fst, .i r.want.snd.fst, .i r.want.snd.snd, .i r.b.fst, .i
  r.b.snd, .b true, .b r.h1, .b r.h2, .i r.best.fst, .i r.best.snd, .i r.bestX.fst, .i r.bestX.snd.fst, .i r.bestX.snd.snd, .b r.has, .i r.want.fst, .i r.want.snd.fst, .i r.want.snd.snd, .b true, .b r.a0, .b r.a1, .b r.a2,
  .b r.told, .i r.dec.fst, .i r.dec.snd.fst, .i r.dec.snd.snd, .b r.ever]]⟩)))) (.defI (cntB true r.h1 r.h2) fun z22 => .ite (decide (z22 < 2)) (.leaf ⟨[[.b false]], [.box [.i r.who, .i r.want.fst, .i r.want.snd.fst, .i
  r.want.snd.snd, .i r.b.fst, .i r.b.snd, .b true, .b r.h1, .b r.h2, .i r.best.fst, .i r.best.snd, .i r.bestX.fst, .i r.bestX.snd.fst, .i r.bestX.snd.snd, .b r.has, .i r.value.fst, .i r.value.snd.fst, .i r.value.snd.snd,
  .b r.valued, .b r.a0, .b r.a1, .b r.a2, .b r.told, .i r.dec.fst, .i r.dec.snd.fst, .i r.dec.snd.snd, .b r.ever]]⟩) (.ite r.has (.leaf ⟨[[.b true]], [.box [.i r.who, .i r.want.fst, .i r.want.snd.fst, .i r.want.snd.snd, .i
  r.b.fst, .i r.b.snd, .b true, .b r.h1, .b r.h2, .i r.best.fst, .i r.best.snd, .i r.bestX.fst, .i r.bestX.snd.fst, .i r.bestX.snd.snd, .b r.has, .i r.bestX.fst, .i r.bestX.snd.fst, .i r.bestX.snd.snd, .b true, .b r.a0, .b
  r.a1, .b r.a2, .b r.told, .i r.dec.fst, .i r.dec.snd.fst, .i r.dec.snd.snd, .b r.ever]]⟩) (.leaf ⟨[[.b true]], [.box [.i r.who, .i r.want.fst, .i r.want.snd.fst, .i r.want.snd.snd, .i r.b.fst, .i r.b.snd, .b true, .b
  r.h1, .b r.h2, .i r.best.fst, .i r.best.snd, .i r.bestX.fst, .i r.bestX.snd.fst, .i r.bestX.snd.snd, .b r.has, .i r.want.fst, .i r.want.snd.fst, .i r.want.snd.snd, .b true, .b r.a0, .b r.a1, .b r.a2, .b r.told, .i
  r.dec.fst, .i r.dec.snd.fst, .i r.dec.snd.snd, .b r.ever]]⟩)))))) (.defI (cntB true r.h1 r.h2) fun z23 => .ite (decide (z23 < 2)) (.leaf ⟨[[.b false]], [.box [.i r.who, .i r.want.fst, .i r.want.snd.fst, .i
  r.want.snd.snd, .i r.b.fst, .i r.b.snd, .b true, .b r.h1, .b r.h2, .i r.best.fst, .i r.best.snd, .i r.bestX.fst, .i r.bestX.snd.fst, .i r.bestX.snd.snd, .b r.has, .i r.value.fst, .i r.value.snd.fst, .i r.value.snd.snd,
  .b r.valued, .b r.a0, .b r.a1, .b r.a2, .b r.told, .i r.dec.fst, .i r.dec.snd.fst, .i r.dec.snd.snd, .b r.ever]]⟩) (.ite r.has (.leaf ⟨[[.b true]], [.box [.i r.who, .i r.want.fst, .i r.want.snd.fst, .i r.want.snd.snd, .i
  r.b.fst, .i r.b.snd, .b true, .b r.h1, .b r.h2, .i r.best.fst, .i r.best.snd, .i r.bestX.fst, .i r.bestX.snd.fst, .i r.bestX.snd.snd, .b r.has, .i r.bestX.fst, .i r.bestX.snd.fst, .i r.bestX.snd.snd, .b true, .b r.a0, .b
  r.a1, .b r.a2, .b r.told, .i r.dec.fst, .i r.dec.snd.fst, .i r.dec.snd.snd, .b r.ever]]⟩) (.leaf ⟨[[.b true]], [.box [.i r.who, .i r.want.fst, .i r.want.snd.fst, .i r.want.snd.snd, .i r.b.fst, .i r.b.snd, .b true, .b
  r.h1, .b r.h2, .i r.best.fst, .i r.best.snd, .i r.bestX.fst, .i r.bestX.snd.fst, .i r.bestX.snd.snd, .b r.has, .i r.want.fst, .i r.want.snd.fst, .i r.want.snd.snd, .b true, .b r.a0, .b r.a1, .b r.a2, .b r.told, .i
  r.dec.fst, .i r.dec.snd.fst, .i r.dec.snd.snd, .b r.ever]]⟩)))) (.ite (decide (f = 1)) (.ite h (.ite (!r.has) (.defI (cntB r.h0 true r.h2) fun z24 => .ite (decide (z24 < 2)) (.leaf ⟨[[.b false]], [.box [.i r.who, .i
  r.want.fst, .i r.want.snd.fst, .i r.want.snd.snd, .i r.b.fst, .i r.b.snd, .b r.h0, .b true, .b r.h2, .i a.fst, .i a.snd, .i x.fst, .i x.snd.fst, .i x.snd.snd, .b true, .i r.value.fst, .i r.value.snd.fst, .i
  r.value.snd.snd, .b r.valued, .b r.a0, .b r.a1, .b r.a2, .b r.told, .i r.dec.fst, .i r.dec.snd.fst, .i r.dec.snd.snd, .b r.ever]]⟩) (.leaf ⟨[[.b true]], [.box [.i r.who, .i r.want.fst, .i r.want.snd.fst, .i
  r.want.snd.snd, .i r.b.fst, .i r.b.snd, .b r.h0, .b true, .b r.h2, .i a.fst, .i a.snd, .i x.fst, .i x.snd.fst, .i x.snd.snd, .b true, .i x.fst, .i x.snd.fst, .i x.snd.snd, .b true, .b r.a0, .b r.a1, .b r.a2, .b r.told,
  .i r.dec.fst, .i r.dec.snd.fst, .i r.dec.snd.snd, .b r.ever]]⟩)) (.ite (decide (r.best.fst < a.fst)) (.defI (cntB r.h0 true r.h2) fun z25 => .ite (decide (z25 < 2)) (.leaf ⟨[[.b false]], [.box [.i r.who, .i r.want.fst,
  .i r.want.snd.fst, .i r.want.snd.snd, .i r.b.fst, .i r.b.snd, .b r.h0, .b true, .b r.h2, .i a.fst, .i a.snd, .i x.fst, .i x.snd.fst, .i x.snd.snd, .b true, .i r.value.fst, .i r.value.snd.fst, .i r.value.snd.snd, .b
  r.valued, .b r.a0, .b r.a1, .b r.a2, .b r.told, .i r.dec.fst, .i r.dec.snd.fst, .i r.dec.snd.snd, .b r.ever]]⟩) (.leaf ⟨[[.b true]], [.box [.i r.who, .i r.want.fst, .i r.want.snd.fst, .i r.want.snd.snd, .i r.b.fst, .i
  r.b.snd, .b r.h0, .b true, .b r.h2, .i a.fst, .i a.snd, .i x.fst, .i x.snd.fst, .i x.snd.snd, .b true, .i x.fst, .i x.snd.fst, .i x.snd.snd, .b true, .b r.a0, .b r.a1, .b r.a2, .b r.told, .i r.dec.fst, .i r.dec.snd.fst,
  .i r.dec.snd.snd, .b r.ever]]⟩)) (.ite (r.best.fst == a.fst) (.ite (decide (r.best.snd < a.snd)) (.defI (cntB r.h0 true r.h2) fun z26 => .ite (decide (z26 < 2)) (.leaf ⟨[[.b false]], [.box [.i r.who, .i r.want.fst, .i
  r.want.snd.fst, .i r.want.snd.snd, .i r.b.fst, .i r.b.snd, .b r.h0, .b true, .b r.h2, .i a.fst, .i a.snd, .i x.fst, .i x.snd.fst, .i x.snd.snd, .b true, .i r.value.fst, .i r.value.snd.fst, .i r.value.snd.snd, .b
  r.valued, .b r.a0, .b r.a1, .b r.a2, .b r.told, .i r.dec.fst, .i r.dec.snd.fst, .i r.dec.snd.snd, .b r.ever]]⟩) (.leaf ⟨[[.b true]], [.box [.i r.who, .i r.want.fst, .i r.want.snd.fst, .i r.want.snd.snd, .i r.b.fst, .i
  r.b.snd, .b r.h0, .b true, .b r.h2, .i a.fst, .i a.snd, .i x.fst, .i x.snd.fst, .i x.snd.snd, .b true, .i x.fst, .i x.snd.fst, .i x.snd.snd, .b true, .b r.a0, .b r.a1, .b r.a2, .b r.told, .i r.dec.fst, .i r.dec.snd.fst,
  .i r.dec.snd.snd, .b r.ever]]⟩)) (.defI (cntB r.h0 true r.h2) fun z27 => .ite (decide (z27 < 2)) (.leaf ⟨[[.b false]], [.box [.i r.who, .i r.want.fst, .i r.want.snd.fst, .i r.want.snd.snd, .i r.b.fst, .i r.b.snd, .b
  r.h0, .b true, .b r.h2, .i r.best.fst, .i r.best.snd, .i r.bestX.fst, .i r.bestX.snd.fst, .i r.bestX.snd.snd, .b r.has, .i r.value.fst, .i r.value.snd.fst, .i r.value.snd.snd, .b r.valued, .b r.a0, .b r.a1, .b r.a2, .b
  r.told, .i r.dec.fst, .i r.dec.snd.fst, .i r.dec.snd.snd, .b r.ever]]⟩) (.ite r.has (.leaf ⟨[[.b true]], [.box [.i r.who, .i r.want.fst, .i r.want.snd.fst, .i r.want.snd.snd, .i r.b.fst, .i r.b.snd, .b r.h0, .b true, .b
  r.h2, .i r.best.fst, .i r.best.snd, .i r.bestX.fst, .i r.bestX.snd.fst, .i r.bestX.snd.snd, .b r.has, .i r.bestX.fst, .i r.bestX.snd.fst, .i r.bestX.snd.snd, .b true, .b r.a0, .b r.a1, .b r.a2, .b r.told, .i r.dec.fst,
  .i r.dec.snd.fst, .i r.dec.snd.snd, .b r.ever]]⟩) (.leaf ⟨[[.b true]], [.box [.i r.who, .i r.want.fst, .i r.want.snd.fst, .i r.want.snd.snd, .i r.b.fst, .i r.b.snd, .b r.h0, .b true, .b r.h2, .i r.best.fst, .i
  r.best.snd, .i r.bestX.fst, .i r.bestX.snd.fst, .i r.bestX.snd.snd, .b r.has, .i r.want.fst, .i r.want.snd.fst, .i r.want.snd.snd, .b true, .b r.a0, .b r.a1, .b r.a2, .b r.told, .i r.dec.fst, .i r.dec.snd.fst, .i
  r.dec.snd.snd, .b r.ever]]⟩)))) (.defI (cntB r.h0 true r.h2) fun z28 => .ite (decide (z28 < 2)) (.leaf ⟨[[.b false]], [.box [.i r.who, .i r.want.fst, .i r.want.snd.fst, .i r.want.snd.snd, .i r.b.fst, .i r.b.snd, .b r.h0,
  .b true, .b r.h2, .i r.best.fst, .i r.best.snd, .i r.bestX.fst, .i r.bestX.snd.fst, .i r.bestX.snd.snd, .b r.has, .i r.value.fst, .i r.value.snd.fst, .i r.value.snd.snd, .b r.valued, .b r.a0, .b r.a1, .b r.a2, .b r.told,
  .i r.dec.fst, .i r.dec.snd.fst, .i r.dec.snd.snd, .b r.ever]]⟩) (.ite r.has (.leaf ⟨[[.b true]], [.box [.i r.who, .i r.want.fst, .i r.want.snd.fst, .i r.want.snd.snd, .i r.b.fst, .i r.b.snd, .b r.h0, .b true, .b r.h2, .i
  r.best.fst, .i r.best.snd, .i r.bestX.fst, .i r.bestX.snd.fst, .i r.bestX.snd.snd, .b r.has, .i r.bestX.fst, .i r.bestX.snd.fst, .i r.bestX.snd.snd, .b true, .b r.a0, .b r.a1, .b r.a2, .b r.told, .i r.dec.fst, .i
  r.dec.snd.fst, .i r.dec.snd.snd, .b r.ever]]⟩) (.leaf ⟨[[.b true]], [.box [.i r.who, .i r.want.fst, .i r.want.snd.fst, .i r.want.snd.snd, .i r.b.fst, .i r.b.snd, .b r.h0, .b true, .b r.h2, .i r.best.fst, .i r.best.snd,
  .i r.bestX.fst, .i r.bestX.snd.fst, .i r.bestX.snd.snd, .b r.has, .i r.want.fst, .i r.want.snd.fst, .i r.want.snd.snd, .b true, .b r.a0, .b r.a1, .b r.a2, .b r.told, .i r.dec.fst, .i r.dec.snd.fst, .i r.dec.snd.snd, .b
  r.ever]]⟩)))))) (.defI (cntB r.h0 true r.h2) fun z29 => .ite (decide (z29 < 2)) (.leaf ⟨[[.b false]], [.box [.i r.who, .i r.want.fst, .i r.want.snd.fst, .i r.want.snd.snd, .i r.b.fst, .i r.b.snd, .b r.h0, .b true, .b
  r.h2, .i r.best.fst, .i r.best.snd, .i r.bestX.fst, .i r.bestX.snd.fst, .i r.bestX.snd.snd, .b r.has, .i r.value.fst, .i r.value.snd.fst, .i r.value.snd.snd, .b r.valued, .b r.a0, .b r.a1, .b r.a2, .b r.told, .i
  r.dec.fst, .i r.dec.snd.fst, .i r.dec.snd.snd, .b r.ever]]⟩) (.ite r.has (.leaf ⟨[[.b true]], [.box [.i r.who, .i r.want.fst, .i r.want.snd.fst, .i r.want.snd.snd, .i r.b.fst, .i r.b.snd, .b r.h0, .b true, .b r.h2, .i
  r.best.fst, .i r.best.snd, .i r.bestX.fst, .i r.bestX.snd.fst, .i r.bestX.snd.snd, .b r.has, .i r.bestX.fst, .i r.bestX.snd.fst, .i r.bestX.snd.snd, .b true, .b r.a0, .b r.a1, .b r.a2, .b r.told, .i r.dec.fst, .i
  r.dec.snd.fst, .i r.dec.snd.snd, .b r.ever]]⟩) (.leaf ⟨[[.b true]], [.box [.i r.who, .i r.want.fst, .i r.want.snd.fst, .i r.want.snd.snd, .i r.b.fst, .i r.b.snd, .b r.h0, .b true, .b r.h2, .i r.best.fst, .i r.best.snd,
  .i r.bestX.fst, .i r.bestX.snd.fst, .i r.bestX.snd.snd, .b r.has, .i r.want.fst, .i r.want.snd.fst, .i r.want.snd.snd, .b true, .b r.a0, .b r.a1, .b r.a2, .b r.told, .i r.dec.fst, .i r.dec.snd.fst, .i r.dec.snd.snd, .b
  r.ever]]⟩)))) (.ite (decide (f = 2)) (.ite h (.ite (!r.has) (.defI (cntB r.h0 r.h1 true) fun z30 => .ite (decide (z30 < 2)) (.leaf ⟨[[.b false]], [.box [.i r.who, .i r.want.fst, .i r.want.snd.fst, .i r.want.snd.snd, .i
  r.b.fst, .i r.b.snd, .b r.h0, .b r.h1, .b true, .i a.fst, .i a.snd, .i x.fst, .i x.snd.fst, .i x.snd.snd, .b true, .i r.value.fst, .i r.value.snd.fst, .i r.value.snd.snd, .b r.valued, .b r.a0, .b r.a1, .b r.a2, .b
  r.told, .i r.dec.fst, .i r.dec.snd.fst, .i r.dec.snd.snd, .b r.ever]]⟩) (.leaf ⟨[[.b true]], [.box [.i r.who, .i r.want.fst, .i r.want.snd.fst, .i r.want.snd.snd, .i r.b.fst, .i r.b.snd, .b r.h0, .b r.h1, .b true, .i
  a.fst, .i a.snd, .i x.fst, .i x.snd.fst, .i x.snd.snd, .b true, .i x.fst, .i x.snd.fst, .i x.snd.snd, .b true, .b r.a0, .b r.a1, .b r.a2, .b r.told, .i r.dec.fst, .i r.dec.snd.fst, .i r.dec.snd.snd, .b r.ever]]⟩)) (.ite
  (decide (r.best.fst < a.fst)) (.defI (cntB r.h0 r.h1 true) fun z31 => .ite (decide (z31 < 2)) (.leaf ⟨[[.b false]], [.box [.i r.who, .i r.want.fst, .i r.want.snd.fst, .i r.want.snd.snd, .i r.b.fst, .i r.b.snd, .b r.h0,
  .b r.h1, .b true, .i a.fst, .i a.snd, .i x.fst, .i x.snd.fst, .i x.snd.snd, .b true, .i r.value.fst, .i r.value.snd.fst, .i r.value.snd.snd, .b r.valued, .b r.a0, .b r.a1, .b r.a2, .b r.told, .i r.dec.fst, .i
  r.dec.snd.fst, .i r.dec.snd.snd, .b r.ever]]⟩) (.leaf ⟨[[.b true]], [.box [.i r.who, .i r.want.fst, .i r.want.snd.fst, .i r.want.snd.snd, .i r.b.fst, .i r.b.snd, .b r.h0, .b r.h1, .b true, .i a.fst, .i a.snd, .i x.fst,
  .i x.snd.fst, .i x.snd.snd, .b true, .i x.fst, .i x.snd.fst, .i x.snd.snd, .b true, .b r.a0, .b r.a1, .b r.a2, .b r.told, .i r.dec.fst, .i r.dec.snd.fst, .i r.dec.snd.snd, .b r.ever]]⟩)) (.ite (r.best.fst == a.fst) (.ite
  (decide (r.best.snd < a.snd)) (.defI (cntB r.h0 r.h1 true) fun z32 => .ite (decide (z32 < 2)) (.leaf ⟨[[.b false]], [.box [.i r.who, .i r.want.fst, .i r.want.snd.fst, .i r.want.snd.snd, .i r.b.fst, .i r.b.snd, .b r.h0,
  .b r.h1, .b true, .i a.fst, .i a.snd, .i x.fst, .i x.snd.fst, .i x.snd.snd, .b true, .i r.value.fst, .i r.value.snd.fst, .i r.value.snd.snd, .b r.valued, .b r.a0, .b r.a1, .b r.a2, .b r.told, .i r.dec.fst, .i
  r.dec.snd.fst, .i r.dec.snd.snd, .b r.ever]]⟩) (.leaf ⟨[[.b true]], [.box [.i r.who, .i r.want.fst, .i r.want.snd.fst, .i r.want.snd.snd, .i r.b.fst, .i r.b.snd, .b r.h0, .b r.h1, .b true, .i a.fst, .i a.snd, .i x.fst,
  .i x.snd.fst, .i x.snd.snd, .b true, .i x.fst, .i x.snd.fst, .i x.snd.snd, .b true, .b r.a0, .b r.a1, .b r.a2, .b r.told, .i r.dec.fst, .i r.dec.snd.fst, .i r.dec.snd.snd, .b r.ever]]⟩)) (.defI (cntB r.h0 r.h1 true) fun
  z33 => .ite (decide (z33 < 2)) (.leaf ⟨[[.b false]], [.box [.i r.who, .i r.want.fst, .i r.want.snd.fst, .i r.want.snd.snd, .i r.b.fst, .i r.b.snd, .b r.h0, .b r.h1, .b true, .i r.best.fst, .i r.best.snd, .i r.bestX.fst,
  .i r.bestX.snd.fst, .i r.bestX.snd.snd, .b r.has, .i r.value.fst, .i r.value.snd.fst, .i r.value.snd.snd, .b r.valued, .b r.a0, .b r.a1, .b r.a2, .b r.told, .i r.dec.fst, .i r.dec.snd.fst, .i r.dec.snd.snd, .b r.ever]]⟩)
  (.ite r.has (.leaf ⟨[[.b true]], [.box [.i r.who, .i r.want.fst, .i r.want.snd.fst, .i r.want.snd.snd, .i r.b.fst, .i r.b.snd, .b r.h0, .b r.h1, .b true, .i r.best.fst, .i r.best.snd, .i r.bestX.fst, .i r.bestX.snd.fst,
  .i r.bestX.snd.snd, .b r.has, .i r.bestX.fst, .i r.bestX.snd.fst, .i r.bestX.snd.snd, .b true, .b r.a0, .b r.a1, .b r.a2, .b r.told, .i r.dec.fst, .i r.dec.snd.fst, .i r.dec.snd.snd, .b r.ever]]⟩) (.leaf ⟨[[.b true]],
  [.box [.i r.who, .i r.want.fst, .i r.want.snd.fst, .i r.want.snd.snd, .i r.b.fst, .i r.b.snd, .b r.h0, .b r.h1, .b true, .i r.best.fst, .i r.best.snd, .i r.bestX.fst, .i r.bestX.snd.fst, .i r.bestX.snd.snd, .b r.has, .i
  r.want.fst, .i r.want.snd.fst, .i r.want.snd.snd, .b true, .b r.a0, .b r.a1, .b r.a2, .b r.told, .i r.dec.fst, .i r.dec.snd.fst, .i r.dec.snd.snd, .b r.ever]]⟩)))) (.defI (cntB r.h0 r.h1 true) fun z34 => .ite (decide
  (z34 < 2)) (.leaf ⟨[[.b false]], [.box [.i r.who, .i r.want.fst, .i r.want.snd.fst, .i r.want.snd.snd, .i r.b.fst, .i r.b.snd, .b r.h0, .b r.h1, .b true, .i r.best.fst, .i r.best.snd, .i r.bestX.fst, .i r.bestX.snd.fst,
  .i r.bestX.snd.snd, .b r.has, .i r.value.fst, .i r.value.snd.fst, .i r.value.snd.snd, .b r.valued, .b r.a0, .b r.a1, .b r.a2, .b r.told, .i r.dec.fst, .i r.dec.snd.fst, .i r.dec.snd.snd, .b r.ever]]⟩) (.ite r.has (.leaf
  ⟨[[.b true]], [.box [.i r.who, .i r.want.fst, .i r.want.snd.fst, .i r.want.snd.snd, .i r.b.fst, .i r.b.snd, .b r.h0, .b r.h1, .b true, .i r.best.fst, .i r.best.snd, .i r.bestX.fst, .i r.bestX.snd.fst, .i r.bestX.snd.snd,
  .b r.has, .i r.bestX.fst, .i r.bestX.snd.fst, .i r.bestX.snd.snd, .b true, .b r.a0, .b r.a1, .b r.a2, .b r.told, .i r.dec.fst, .i r.dec.snd.fst, .i r.dec.snd.snd, .b r.ever]]⟩) (.leaf ⟨[[.b true]], [.box [.i r.who, .i
  r.want.fst, .i r.want.snd.fst, .i r.want.snd.snd, .i r.b.fst, .i r.b.snd, .b r.h0, .b r.h1, .b true, .i r.best.fst, .i r.best.snd, .i r.bestX.fst, .i r.bestX.snd.fst, .i r.bestX.snd.snd, .b r.has, .i r.want.fst, .i
  r.want.snd.fst, .i r.want.snd.snd, .b true, .b r.a0, .b r.a1, .b r.a2, .b r.told, .i r.dec.fst, .i r.dec.snd.fst, .i r.dec.snd.snd, .b r.ever]]⟩)))))) (.defI (cntB r.h0 r.h1 true) fun z35 => .ite (decide (z35 < 2))
  (.leaf ⟨[[.b false]], [.box [.i r.who, .i r.want.fst, .i r.want.snd.fst, .i r.want.snd.snd, .i r.b.fst, .i r.b.snd, .b r.h0, .b r.h1, .b true, .i r.best.fst, .i r.best.snd, .i r.bestX.fst, .i r.bestX.snd.fst, .i
  r.bestX.snd.snd, .b r.has, .i r.value.fst, .i r.value.snd.fst, .i r.value.snd.snd, .b r.valued, .b r.a0, .b r.a1, .b r.a2, .b r.told, .i r.dec.fst, .i r.dec.snd.fst, .i r.dec.snd.snd, .b r.ever]]⟩) (.ite r.has (.leaf
  ⟨[[.b true]], [.box [.i r.who, .i r.want.fst, .i r.want.snd.fst, .i r.want.snd.snd, .i r.b.fst, .i r.b.snd, .b r.h0, .b r.h1, .b true, .i r.best.fst, .i r.best.snd, .i r.bestX.fst, .i r.bestX.snd.fst, .i r.bestX.snd.snd,
  .b r.has, .i r.bestX.fst, .i r.bestX.snd.fst, .i r.bestX.snd.snd, .b true, .b r.a0, .b r.a1, .b r.a2, .b r.told, .i r.dec.fst, .i r.dec.snd.fst, .i r.dec.snd.snd, .b r.ever]]⟩) (.leaf ⟨[[.b true]], [.box [.i r.who, .i
  r.want.fst, .i r.want.snd.fst, .i r.want.snd.snd, .i r.b.fst, .i r.b.snd, .b r.h0, .b r.h1, .b true, .i r.best.fst, .i r.best.snd, .i r.bestX.fst, .i r.bestX.snd.fst, .i r.bestX.snd.snd, .b r.has, .i r.want.fst, .i
  r.want.snd.fst, .i r.want.snd.snd, .b true, .b r.a0, .b r.a1, .b r.a2, .b r.told, .i r.dec.fst, .i r.dec.snd.fst, .i r.dec.snd.snd, .b r.ever]]⟩)))) (.must false (.fail "index"))))))) (.ite (decide (f = 2)) (.ite r.h2
  (.leaf ⟨[[.b false]], r.on⟩) (.ite r.valued (.leaf ⟨[[.b false]], r.on⟩) (.ite (decide (f = 0)) (.ite h (.ite (!r.has) (.defI (cntB true r.h1 r.h2) fun z36 => .ite (decide (z36 < 2)) (.leaf ⟨[[.b false]], [.box [.i
  r.who, .i r.want.fst, .i r.want.snd.fst, .i r.want.snd.snd, .i r.b.fst, .i r.b.snd, .b true, .b r.h1, .b r.h2, .i a.fst, .i a.snd, .i x.fst, .i x.snd.fst, .i x.snd.snd, .b true, .i r.value.fst, .i r.value.snd.fst, .i
  r.value.snd.snd, .b r.valued, .b r.a0, .b r.a1, .b r.a2, .b r.told, .i r.dec.fst, .i r.dec.snd.fst, .i r.dec.snd.snd, .b r.ever]]⟩) (.leaf ⟨[[.b true]], [.box [.i r.who, .i r.want.fst, .i r.want.snd.fst, .i
  r.want.snd.snd, .i r.b.fst, .i r.b.snd, .b true, .b r.h1, .b r.h2, .i a.fst, .i a.snd, .i x.fst, .i x.snd.fst, .i x.snd.snd, .b true, .i x.fst, .i x.snd.fst, .i x.snd.snd, .b true, .b r.a0, .b r.a1, .b r.a2, .b r.told,
  .i r.dec.fst, .i r.dec.snd.fst, .i r.dec.snd.snd, .b r.ever]]⟩)) (.ite (decide (r.best.fst < a.fst)) (.defI (cntB true r.h1 r.h2) fun z37 => .ite (decide (z37 < 2)) (.leaf ⟨[[.b false]], [.box [.i r.who, .i r.want.fst,
  .i r.want.snd.fst, .i r.want.snd.snd, .i r.b.fst, .i r.b.snd, .b true, .b r.h1, .b r.h2, .i a.fst, .i a.snd, .i x.fst, .i x.snd.fst, .i x.snd.snd, .b true, .i r.value.fst, .i r.value.snd.fst, .i r.value.snd.snd, .b
  r.valued, .b r.a0, .b r.a1, .b r.a2, .b r.told, .i r.dec.fst, .i r.dec.snd.fst, .i r.dec.snd.snd, .b r.ever]]⟩) (.leaf ⟨[[.b true]], [.box [.i r.who, .i r.want.fst, .i r.want.snd.fst, .i r.want.snd.snd, .i r.b.fst, .i
  r.b.snd, .b true, .b r.h1, .b r.h2, .i a.fst, .i a.snd, .i x.fst, .i x.snd.fst, .i x.snd.snd, .b true, .i x.fst, .i x.snd.fst, .i x.snd.snd, .b true, .b r.a0, .b r.a1, .b r.a2, .b r.told, .i r.dec.fst, .i r.dec.snd.fst,
  .i r.dec.snd.snd, .b r.ever]]⟩)) (.ite (r.best.fst == a.fst) (.ite (decide (r.best.snd < a.snd)) (.defI (cntB true r.h1 r.h2) fun z38 => .ite (decide (z38 < 2)) (.leaf ⟨[[.b false]], [.box [.i r.who, .i r.want.fst, .i
  r.want.snd.fst, .i r.want.snd.snd, .i r.b.fst, .i r.b.snd, .b true, .b r.h1, .b r.h2, .i a.fst, .i a.snd, .i x.fst, .i x.snd.fst, .i x.snd.snd, .b true, .i r.value.fst, .i r.value.snd.fst, .i r.value.snd.snd, .b
  r.valued, .b r.a0, .b r.a1, .b r.a2, .b r.told, .i r.dec.fst, .i r.dec.snd.fst, .i r.dec.snd.snd, .b r.ever]]⟩) (.leaf ⟨[[.b true]], [.box [.i r.who, .i r.want.fst, .i r.want.snd.fst, .i r.want.snd.snd, .i r.b.fst, .i
  r.b.snd, .b true, .b r.h1, .b r.h2, .i a.fst, .i a.snd, .i x.fst, .i x.snd.fst, .i x.snd.snd, .b true, .i x.fst, .i x.snd.fst, .i x.snd.snd, .b true, .b r.a0, .b r.a1, .b r.a2, .b r.told, .i r.dec.fst, .i r.dec.snd.fst,
  .i r.dec.snd.snd, .b r.ever]]⟩)) (.defI (cntB true r.h1 r.h2) fun z39 => .ite (decide (z39 < 2)) (.leaf ⟨[[.b false]], [.box [.i r.who, .i r.want.fst, .i r.want.snd.fst, .i r.want.snd.snd, .i r.b.fst, .i r.b.snd, .b
  true, .b r.h1, .b r.h2, .i r.best.fst, .i r.best.snd, .i r.bestX.fst, .i r.bestX.snd.fst, .i r.bestX.snd.snd, .b r.has, .i r.value.fst, .i r.value.snd.fst, .i r.value.snd.snd, .b r.valued, .b r.a0, .b r.a1, .b r.a2, .b
  r.told, .i r.dec.fst, .i r.dec.snd.fst, .i r.dec.snd.snd, .b r.ever]]⟩) (.ite r.has (.leaf ⟨[[.b true]], [.box [.i r.who, .i r.want.fst, .i r.want.snd.fst, .i r.want.snd.snd, .i r.b.fst, .i r.b.snd, .b true, .b r.h1, .b
  r.h2, .i r.best.fst, .i r.best.snd, .i r.bestX.fst, .i r.bestX.snd.fst, .i r.bestX.snd.snd, .b r.has, .i r.bestX.fst, .i r.bestX.snd.fst, .i r.bestX.snd.snd, .b true, .b r.a0, .b r.a1, .b r.a2, .b r.told, .i r.dec.fst,
  .i r.dec.snd.fst, .i r.dec.snd.snd, .b r.ever]]⟩) (.leaf ⟨[[.b true]], [.box [.i r.who, .i r.want.fst, .i r.want.snd.fst, .i r.want.snd.snd, .i r.b.fst, .i r.b.snd, .b true, .b r.h1, .b r.h2, .i r.best.fst, .i
  r.best.snd, .i r.bestX.fst, .i r.bestX.snd.fst, .i r.bestX.snd.snd, .b r.has, .i r.want.fst, .i r.want.snd.fst, .i r.want.snd.snd, .b true, .b r.a0, .b r.a1, .b r.a2, .b r.told, .i r.dec.fst, .i r.dec.snd.fst, .i
  r.dec.snd.snd, .b r.ever]]⟩)))) (.defI (cntB true r.h1 r.h2) fun z40 => .ite (decide (z40 < 2)) (.leaf ⟨[[.b false]], [.box [.i r.who, .i r.want.fst, .i r.want.snd.fst, .i r.want.snd.snd, .i r.b.fst, .i r.b.snd, .b true,
  .b r.h1, .b r.h2, .i r.best.fst, .i r.best.snd, .i r.bestX.fst, .i r.bestX.snd.fst, .i r.bestX.snd.snd, .b r.has, .i r.value.fst, .i r.value.snd.fst, .i r.value.snd.snd, .b r.valued, .b r.a0, .b r.a1, .b r.a2, .b r.told,
  .i r.dec.fst, .i r.dec.snd.fst, .i r.dec.snd.snd, .b r.ever]]⟩) (.ite r.has (.leaf ⟨[[.b true]], [.box [.i r.who, .i r.want.fst, .i r.want.snd.fst, .i r.want.snd.snd, .i r.b.fst, .i r.b.snd, .b true, .b r.h1, .b r.h2, .i
  r.best.fst, .i r.best.snd, .i r.bestX.fst, .i r.bestX.snd.fst, .i r.bestX.snd.snd, .b r.has, .i r.bestX.fst, .i r.bestX.snd.fst, .i r.bestX.snd.snd, .b true, .b r.a0, .b r.a1, .b r.a2, .b r.told, .i r.dec.fst, .i
  r.dec.snd.fst, .i r.dec.snd.snd, .b r.ever]]⟩) (.leaf ⟨[[.b true]], [.box [.i r.who, .i r.want.fst, .i r.want.snd.fst, .i r.want.snd.snd, .i r.b.fst, .i r.b.snd, .b true, .b r.h1, .b r.h2, .i r.best.fst, .i r.best.snd,
  .i r.bestX.fst, .i r.bestX.snd.fst, .i r.bestX.snd.snd, .b r.has, .i r.want.fst, .i r.want.snd.fst, .i r.want.snd.snd, .b true, .b r.a0, .b r.a1, .b r.a2, .b r.told, .i r.dec.fst, .i r.dec.snd.fst, .i r.dec.snd.snd, .b
  r.ever]]⟩)))))) (.defI (cntB true r.h1 r.h2) fun z41 => .ite (decide (z41 < 2)) (.leaf ⟨[[.b false]], [.box [.i r.who, .i r.want.fst, .i r.want.snd.fst, .i r.want.snd.snd, .i r.b.fst, .i r.b.snd, .b true, .b r.h1, .b
  r.h2, .i r.best.fst, .i r.best.snd, .i r.bestX.fst, .i r.bestX.snd.fst, .i r.bestX.snd.snd, .b r.has, .i r.value.fst, .i r.value.snd.fst, .i r.value.snd.snd, .b r.valued, .b r.a0, .b r.a1, .b r.a2, .b r.told, .i
  r.dec.fst, .i r.dec.snd.fst, .i r.dec.snd.snd, .b r.ever]]⟩) (.ite r.has (.leaf ⟨[[.b true]], [.box [.i r.who, .i r.want.fst, .i r.want.snd.fst, .i r.want.snd.snd, .i r.b.fst, .i r.b.snd, .b true, .b r.h1, .b r.h2, .i
  r.best.fst, .i r.best.snd, .i r.bestX.fst, .i r.bestX.snd.fst, .i r.bestX.snd.snd, .b r.has, .i r.bestX.fst, .i r.bestX.snd.fst, .i r.bestX.snd.snd, .b true, .b r.a0, .b r.a1, .b r.a2, .b r.told, .i r.dec.fst, .i
  r.dec.snd.fst, .i r.dec.snd.snd, .b r.ever]]⟩) (.leaf ⟨[[.b true]], [.box [.i r.who, .i r.want.fst, .i r.want.snd.fst, .i r.want.snd.snd, .i r.b.fst, .i r.b.snd, .b true, .b r.h1, .b r.h2, .i r.best.fst, .i r.best.snd,
  .i r.bestX.fst, .i r.bestX.snd.fst, .i r.bestX.snd.snd, .b r.has, .i r.want.fst, .i r.want.snd.fst, .i r.want.snd.snd, .b true, .b r.a0, .b r.a1, .b r.a2, .b r.told, .i r.dec.fst, .i r.dec.snd.fst, .i r.dec.snd.snd, .b
  r.ever]]⟩)))) (.ite (decide (f = 1)) (.ite h (.ite (!r.has) (.defI (cntB r.h0 true r.h2) fun z42 => .ite (decide (z42 < 2)) (.leaf ⟨[[.b false]], [.box [.i r.who, .i r.want.fst, .i r.want.snd.fst, .i r.want.snd.snd, .i
  r.b.fst, .i r.b.snd, .b r.h0, .b true, .b r.h2, .i a.fst, .i a.snd, .i x.fst, .i x.snd.fst, .i x.snd.snd, .b true, .i r.value.fst, .i r.value.snd.fst, .i r.value.snd.snd, .b r.valued, .b r.a0, .b r.a1, .b r.a2, .b
  r.told, .i r.dec.fst, .i r.dec.snd.fst, .i r.dec.snd.snd, .b r.ever]]⟩) (.leaf ⟨[[.b true]], [.box [.i r.who, .i r.want.fst, .i r.want.snd.fst, .i r.want.snd.snd, .i r.b.fst, .i r.b.snd, .b r.h0, .b true, .b r.h2, .i
  a.fst, .i a.snd, .i x.fst, .i x.snd.fst, .i x.snd.snd, .b true, .i x.fst, .i x.snd.fst, .i x.snd.snd, .b true, .b r.a0, .b r.a1, .b r.a2, .b r.told, .i r.dec.fst, .i r.dec.snd.fst, .i r.dec.snd.snd, .b r.ever]]⟩)) (.ite
  (decide (r.best.fst < a.fst)) (.defI (cntB r.h0 true r.h2) fun z43 => .ite (decide (z43 < 2)) (.leaf ⟨[[.b false]], [.box [.i r.who, .i r.want.fst, .i r.want.snd.fst, .i r.want.snd.snd, .i r.b.fst, .i r.b.snd, .b r.h0,
  .b true, .b r.h2, .i a.fst, .i a.snd, .i x.fst, .i x.snd.fst, .i x.snd.snd, .b true, .i r.value.fst, .i r.value.snd.fst, .i r.value.snd.snd, .b r.valued, .b r.a0, .b r.a1, .b r.a2, .b r.told, .i r.dec.fst, .i
  r.dec.snd.fst, .i r.dec.snd.snd, .b r.ever]]⟩) (.leaf ⟨[[.b true]], [.box [.i r.who, .i r.want.fst, .i r.want.snd.fst, .i r.want.snd.snd, .i r.b.fst, .i r.b.snd, .b r.h0, .b true, .b r.h2, .i a.fst, .i a.snd, .i x.fst,
  .i x.snd.fst, .i x.snd.snd, .b true, .i x.fst, .i x.snd.fst, .i x.snd.snd, .b true, .b r.a0, .b r.a1, .b r.a2, .b r.told, .i r.dec.fst, .i r.dec.snd.fst, .i r.dec.snd.snd, .b r.ever]]⟩)) (.ite (r.best.fst == a.fst) (.ite
  (decide (r.best.snd < a.snd)) (.defI (cntB r.h0 true r.h2) fun z44 => .ite (decide (z44 < 2)) (.leaf ⟨[[.b false]], [.box [.i r.who, .i r.want.fst, .i r.want.snd.fst, .i r.want.snd.snd, .i r.b.fst, .i r.b.snd, .b r.h0,
  .b true, .b r.h2, .i a.fst, .i a.snd, .i x.fst, .i x.snd.fst, .i x.snd.snd, .b true, .i r.value.fst, .i r.value.snd.fst, .i r.value.snd.snd, .b r.valued, .b r.a0, .b r.a1, .b r.a2, .b r.told, .i r.dec.fst, .i
  r.dec.snd.fst, .i r.dec.snd.snd, .b r.ever]]⟩) (.leaf ⟨[[.b true]], [.box [.i r.who, .i r.want.fst, .i r.want.snd.fst, .i r.want.snd.snd, .i r.b.fst, .i r.b.snd, .b r.h0, .b true, .b r.h2, .i a.fst, .i a.snd, .i x.fst,
  .i x.snd.fst, .i x.snd.snd, .b true, .i x.fst, .i x.snd.fst, .i x.snd.snd, .b true, .b r.a0, .b r.a1, .b r.a2, .b r.told, .i r.dec.fst, .i r.dec.snd.fst, .i r.dec.snd.snd, .b r.ever]]⟩)) (.defI (cntB r.h0 true r.h2) fun
  z45 => .ite (decide (z45 < 2)) (.leaf ⟨[[.b false]], [.box [.i r.who, .i r.want.fst, .i r.want.snd.fst, .i r.want.snd.snd, .i r.b.fst, .i r.b.snd, .b r.h0, .b true, .b r.h2, .i r.best.fst, .i r.best.snd, .i r.bestX.fst,
  .i r.bestX.snd.fst, .i r.bestX.snd.snd, .b r.has, .i r.value.fst, .i r.value.snd.fst, .i r.value.snd.snd, .b r.valued, .b r.a0, .b r.a1, .b r.a2, .b r.told, .i r.dec.fst, .i r.dec.snd.fst, .i r.dec.snd.snd, .b r.ever]]⟩)
  (.ite r.has (.leaf ⟨[[.b true]], [.box [.i r.who, .i r.want.fst, .i r.want.snd.fst, .i r.want.snd.snd, .i r.b.fst, .i r.b.snd, .b r.h0, .b true, .b r.h2, .i r.best.fst, .i r.best.snd, .i r.bestX.fst, .i r.bestX.snd.fst,
  .i r.bestX.snd.snd, .b r.has, .i r.bestX.fst, .i r.bestX.snd.fst, .i r.bestX.snd.snd, .b true, .b r.a0, .b r.a1, .b r.a2, .b r.told, .i r.dec.fst, .i r.dec.snd.fst, .i r.dec.snd.snd, .b r.ever]]⟩) (.leaf ⟨[[.b true]],
  [.box [.i r.who, .i r.want.fst, .i r.want.snd.fst, .i r.want.snd.snd, .i r.b.fst, .i r.b.snd, .b r.h0, .b true, .b r.h2, .i r.best.fst, .i r.best.snd, .i r.bestX.fst, .i r.bestX.snd.fst, .i r.bestX.snd.snd, .b r.has, .i
  r.want.fst, .i r.want.snd.fst, .i r.want.snd.snd, .b true, .b r.a0, .b r.a1, .b r.a2, .b r.told, .i r.dec.fst, .i r.dec.snd.fst, .i r.dec.snd.snd, .b r.ever]]⟩)))) (.defI (cntB r.h0 true r.h2) fun z46 => .ite (decide
  (z46 < 2)) (.leaf ⟨[[.b false]], [.box [.i r.who, .i r.want.fst, .i r.want.snd.fst, .i r.want.snd.snd, .i r.b.fst, .i r.b.snd, .b r.h0, .b true, .b r.h2, .i r.best.fst, .i r.best.snd, .i r.bestX.fst, .i r.bestX.snd.fst,
  .i r.bestX.snd.snd, .b r.has, .i r.value.fst, .i r.value.snd.fst, .i r.value.snd.snd, .b r.valued, .b r.a0, .b r.a1, .b r.a2, .b r.told, .i r.dec.fst, .i r.dec.snd.fst, .i r.dec.snd.snd, .b r.ever]]⟩) (.ite r.has (.leaf
  ⟨[[.b true]], [.box [.i r.who, .i r.want.fst, .i r.want.snd.fst, .i r.want.snd.snd, .i r.b.fst, .i r.b.snd, .b r.h0, .b true, .b r.h2, .i r.best.fst, .i r.best.snd, .i r.bestX.fst, .i r.bestX.snd.fst, .i r.bestX.snd.snd,
  .b r.has, .i r.bestX.fst, .i r.bestX.snd.fst, .i r.bestX.snd.snd, .b true, .b r.a0, .b r.a1, .b r.a2, .b r.told, .i r.dec.fst, .i r.dec.snd.fst, .i r.dec.snd.snd, .b r.ever]]⟩) (.leaf ⟨[[.b true]], [.box [.i r.who, .i
  r.want.fst, .i r.want.snd.fst, .i r.want.snd.snd, .i r.b.fst, .i r.b.snd, .b r.h0, .b true, .b r.h2, .i r.best.fst, .i r.best.snd, .i r.bestX.fst, .i r.bestX.snd.fst, .i r.bestX.snd.snd, .b r.has, .i r.want.fst, .i
  r.want.snd.fst, .i r.want.snd.snd, .b true, .b r.a0, .b r.a1, .b r.a2, .b r.told, .i r.dec.fst, .i r.dec.snd.fst, .i r.dec.snd.snd, .b r.ever]]⟩)))))) (.defI (cntB r.h0 true r.h2) fun z47 => .ite (decide (z47 < 2))
  (.leaf ⟨[[.b false]], [.box [.i r.who, .i r.want.fst, .i r.want.snd.fst, .i r.want.snd.snd, .i r.b.fst, .i r.b.snd, .b r.h0, .b true, .b r.h2, .i r.best.fst, .i r.best.snd, .i r.bestX.fst, .i r.bestX.snd.fst, .i
  r.bestX.snd.snd, .b r.has, .i r.value.fst, .i r.value.snd.fst, .i r.value.snd.snd, .b r.valued, .b r.a0, .b r.a1, .b r.a2, .b r.told, .i r.dec.fst, .i r.dec.snd.fst, .i r.dec.snd.snd, .b r.ever]]⟩) (.ite r.has (.leaf
  ⟨[[.b true]], [.box [.i r.who, .i r.want.fst, .i r.want.snd.fst, .i r.want.snd.snd, .i r.b.fst, .i r.b.snd, .b r.h0, .b true, .b r.h2, .i r.best.fst, .i r.best.snd, .i r.bestX.fst, .i r.bestX.snd.fst, .i r.bestX.snd.snd,
  .b r.has, .i r.bestX.fst, .i r.bestX.snd.fst, .i r.bestX.snd.snd, .b true, .b r.a0, .b r.a1, .b r.a2, .b r.told, .i r.dec.fst, .i r.dec.snd.fst, .i r.dec.snd.snd, .b r.ever]]⟩) (.leaf ⟨[[.b true]], [.box [.i r.who, .i
  r.want.fst, .i r.want.snd.fst, .i r.want.snd.snd, .i r.b.fst, .i r.b.snd, .b r.h0, .b true, .b r.h2, .i r.best.fst, .i r.best.snd, .i r.bestX.fst, .i r.bestX.snd.fst, .i r.bestX.snd.snd, .b r.has, .i r.want.fst, .i
  r.want.snd.fst, .i r.want.snd.snd, .b true, .b r.a0, .b r.a1, .b r.a2, .b r.told, .i r.dec.fst, .i r.dec.snd.fst, .i r.dec.snd.snd, .b r.ever]]⟩)))) (.ite (decide (f = 2)) (.ite h (.ite (!r.has) (.defI (cntB r.h0 r.h1
  true) fun z48 => .ite (decide (z48 < 2)) (.leaf ⟨[[.b false]], [.box [.i r.who, .i r.want.fst, .i r.want.snd.fst, .i r.want.snd.snd, .i r.b.fst, .i r.b.snd, .b r.h0, .b r.h1, .b true, .i a.fst, .i a.snd, .i x.fst, .i
  x.snd.fst, .i x.snd.snd, .b true, .i r.value.fst, .i r.value.snd.fst, .i r.value.snd.snd, .b r.valued, .b r.a0, .b r.a1, .b r.a2, .b r.told, .i r.dec.fst, .i r.dec.snd.fst, .i r.dec.snd.snd, .b r.ever]]⟩) (.leaf ⟨[[.b
  true]], [.box [.i r.who, .i r.want.fst, .i r.want.snd.fst, .i r.want.snd.snd, .i r.b.fst, .i r.b.snd, .b r.h0, .b r.h1, .b true, .i a.fst, .i a.snd, .i x.fst, .i x.snd.fst, .i x.snd.snd, .b true, .i x.fst, .i x.snd.fst,
  .i x.snd.snd, .b true, .b r.a0, .b r.a1, .b r.a2, .b r.told, .i r.dec.fst, .i r.dec.snd.fst, .i r.dec.snd.snd, .b r.ever]]⟩)) (.ite (decide (r.best.fst < a.fst)) (.defI (cntB r.h0 r.h1 true) fun z49 => .ite (decide (z49
  < 2)) (.leaf ⟨[[.b false]], [.box [.i r.who, .i r.want.fst, .i r.want.snd.fst, .i r.want.snd.snd, .i r.b.fst, .i r.b.snd, .b r.h0, .b r.h1, .b true, .i a.fst, .i a.snd, .i x.fst, .i x.snd.fst, .i x.snd.snd, .b true, .i
  r.value.fst, .i r.value.snd.fst, .i r.value.snd.snd, .b r.valued, .b r.a0, .b r.a1, .b r.a2, .b r.told, .i r.dec.fst, .i r.dec.snd.fst, .i r.dec.snd.snd, .b r.ever]]⟩) (.leaf ⟨[[.b true]], [.box [.i r.who, .i r.want.fst,
  .i r.want.snd.fst, .i r.want.snd.snd, .i r.b.fst, .i r.b.snd, .b r.h0, .b r.h1, .b true, .i a.fst, .i a.snd, .i x.fst, .i x.snd.fst, .i x.snd.snd, .b true, .i x.fst, .i x.snd.fst, .i x.snd.snd, .b true, .b r.a0, .b r.a1,
  .b r.a2, .b r.told, .i r.dec.fst, .i r.dec.snd.fst, .i r.dec.snd.snd, .b r.ever]]⟩)) (.ite (r.best.fst == a.fst) (.ite (decide (r.best.snd < a.snd)) (.defI (cntB r.h0 r.h1 true) fun z50 => .ite (decide (z50 < 2)) (.leaf
  ⟨[[.b false]], [.box [.i r.who, .i r.want.fst, .i r.want.snd.fst, .i r.want.snd.snd, .i r.b.fst, .i r.b.snd, .b r.h0, .b r.h1, .b true, .i a.fst, .i a.snd, .i x.fst, .i x.snd.fst, .i x.snd.snd, .b true, .i r.value.fst,
  .i r.value.snd.fst, .i r.value.snd.snd, .b r.valued, .b r.a0, .b r.a1, .b r.a2, .b r.told, .i r.dec.fst, .i r.dec.snd.fst, .i r.dec.snd.snd, .b r.ever]]⟩) (.leaf ⟨[[.b true]], [.box [.i r.who, .i r.want.fst, .i
  r.want.snd.fst, .i r.want.snd.snd, .i r.b.fst, .i r.b.snd, .b r.h0, .b r.h1, .b true, .i a.fst, .i a.snd, .i x.fst, .i x.snd.fst, .i x.snd.snd, .b true, .i x.fst, .i x.snd.fst, .i x.snd.snd, .b true, .b r.a0, .b r.a1, .b
  r.a2, .b r.told, .i r.dec.fst, .i r.dec.snd.fst, .i r.dec.snd.snd, .b r.ever]]⟩)) (.defI (cntB r.h0 r.h1 true) fun z51 => .ite (decide (z51 < 2)) (.leaf ⟨[[.b false]], [.box [.i r.who, .i r.want.fst, .i r.want.snd.fst,
  .i r.want.snd.snd, .i r.b.fst, .i r.b.snd, .b r.h0, .b r.h1, .b true, .i r.best.fst, .i r.best.snd, .i r.bestX.fst, .i r.bestX.snd.fst, .i r.bestX.snd.snd, .b r.has, .i r.value.fst, .i r.value.snd.fst, .i
  r.value.snd.snd, .b r.valued, .b r.a0, .b r.a1, .b r.a2, .b r.told, .i r.dec.fst, .i r.dec.snd.fst, .i r.dec.snd.snd, .b r.ever]]⟩) (.ite r.has (.leaf ⟨[[.b true]], [.box [.i r.who, .i r.want.fst, .i r.want.snd.fst, .i
  r.want.snd.snd, .i r.b.fst, .i r.b.snd, .b r.h0, .b r.h1, .b true, .i r.best.fst, .i r.best.snd, .i r.bestX.fst, .i r.bestX.snd.fst, .i r.bestX.snd.snd, .b r.has, .i r.bestX.fst, .i r.bestX.snd.fst, .i r.bestX.snd.snd,
  .b true, .b r.a0, .b r.a1, .b r.a2, .b r.told, .i r.dec.fst, .i r.dec.snd.fst, .i r.dec.snd.snd, .b r.ever]]⟩) (.leaf ⟨[[.b true]], [.box [.i r.who, .i r.want.fst, .i r.want.snd.fst, .i r.want.snd.snd, .i r.b.fst, .i
  r.b.snd, .b r.h0, .b r.h1, .b true, .i r.best.fst, .i r.best.snd, .i r.bestX.fst, .i r.bestX.snd.fst, .i r.bestX.snd.snd, .b r.has, .i r.want.fst, .i r.want.snd.fst, .i r.want.snd.snd, .b true, .b r.a0, .b r.a1, .b r.a2,
  .b r.told, .i r.dec.fst, .i r.dec.snd.fst, .i r.dec.snd.snd, .b r.ever]]⟩)))) (.defI (cntB r.h0 r.h1 true) fun z52 => .ite (decide (z52 < 2)) (.leaf ⟨[[.b false]], [.box [.i r.who, .i r.want.fst, .i r.want.snd.fst, .i
  r.want.snd.snd, .i r.b.fst, .i r.b.snd, .b r.h0, .b r.h1, .b true, .i r.best.fst, .i r.best.snd, .i r.bestX.fst, .i r.bestX.snd.fst, .i r.bestX.snd.snd, .b r.has, .i r.value.fst, .i r.value.snd.fst, .i r.value.snd.snd,
  .b r.valued, .b r.a0, .b r.a1, .b r.a2, .b r.told, .i r.dec.fst, .i r.dec.snd.fst, .i r.dec.snd.snd, .b r.ever]]⟩) (.ite r.has (.leaf ⟨[[.b true]], [.box [.i r.who, .i r.want.fst, .i r.want.snd.fst, .i r.want.snd.snd, .i
  r.b.fst, .i r.b.snd, .b r.h0, .b r.h1, .b true, .i r.best.fst, .i r.best.snd, .i r.bestX.fst, .i r.bestX.snd.fst, .i r.bestX.snd.snd, .b r.has, .i r.bestX.fst, .i r.bestX.snd.fst, .i r.bestX.snd.snd, .b true, .b r.a0, .b
  r.a1, .b r.a2, .b r.told, .i r.dec.fst, .i r.dec.snd.fst, .i r.dec.snd.snd, .b r.ever]]⟩) (.leaf ⟨[[.b true]], [.box [.i r.who, .i r.want.fst, .i r.want.snd.fst, .i r.want.snd.snd, .i r.b.fst, .i r.b.snd, .b r.h0, .b
  r.h1, .b true, .i r.best.fst, .i r.best.snd, .i r.bestX.fst, .i r.bestX.snd.fst, .i r.bestX.snd.snd, .b r.has, .i r.want.fst, .i r.want.snd.fst, .i r.want.snd.snd, .b true, .b r.a0, .b r.a1, .b r.a2, .b r.told, .i
  r.dec.fst, .i r.dec.snd.fst, .i r.dec.snd.snd, .b r.ever]]⟩)))))) (.defI (cntB r.h0 r.h1 true) fun z53 => .ite (decide (z53 < 2)) (.leaf ⟨[[.b false]], [.box [.i r.who, .i r.want.fst, .i r.want.snd.fst, .i
  r.want.snd.snd, .i r.b.fst, .i r.b.snd, .b r.h0, .b r.h1, .b true, .i r.best.fst, .i r.best.snd, .i r.bestX.fst, .i r.bestX.snd.fst, .i r.bestX.snd.snd, .b r.has, .i r.value.fst, .i r.value.snd.fst, .i r.value.snd.snd,
  .b r.valued, .b r.a0, .b r.a1, .b r.a2, .b r.told, .i r.dec.fst, .i r.dec.snd.fst, .i r.dec.snd.snd, .b r.ever]]⟩) (.ite r.has (.leaf ⟨[[.b true]], [.box [.i r.who, .i r.want.fst, .i r.want.snd.fst, .i r.want.snd.snd, .i
  r.b.fst, .i r.b.snd, .b r.h0, .b r.h1, .b true, .i r.best.fst, .i r.best.snd, .i r.bestX.fst, .i r.bestX.snd.fst, .i r.bestX.snd.snd, .b r.has, .i r.bestX.fst, .i r.bestX.snd.fst, .i r.bestX.snd.snd, .b true, .b r.a0, .b
  r.a1, .b r.a2, .b r.told, .i r.dec.fst, .i r.dec.snd.fst, .i r.dec.snd.snd, .b r.ever]]⟩) (.leaf ⟨[[.b true]], [.box [.i r.who, .i r.want.fst, .i r.want.snd.fst, .i r.want.snd.snd, .i r.b.fst, .i r.b.snd, .b r.h0, .b
  r.h1, .b true, .i r.best.fst, .i r.best.snd, .i r.bestX.fst, .i r.bestX.snd.fst, .i r.bestX.snd.snd, .b r.has, .i r.want.fst, .i r.want.snd.fst, .i r.want.snd.snd, .b true, .b r.a0, .b r.a1, .b r.a2, .b r.told, .i
  r.dec.fst, .i r.dec.snd.fst, .i r.dec.snd.snd, .b r.ever]]⟩)))) (.must false (.fail "index"))))))) (.must false (.fail "index"))))))) := by kernel_rfl
theorem t21 (r : RfS) (f : Int) (b : B2) : callW Try.prog (codeT Try.prog sbT 300) 21 (rfAccT.vals ⟨[[], [.i f], [.i b.1, .i b.2]], r.on⟩) (rfAccT.heap ⟨[[], [.i f], [.i b.1, .i b.2]], r.on⟩) 1 (outV 1 rfBoolR) =
  .ite (r.b.fst == 0 && r.b.snd == 0) (.leaf ⟨[[.b false]], r.on⟩) (.ite (!(b.fst == r.b.fst && b.snd == r.b.snd)) (.leaf ⟨[[.b false]], r.on⟩) (.ite (decide (f ≥ 3)) (.leaf ⟨[[.b false]], r.on⟩) (.ite (decide (f = 0))
  (.ite r.a0 (.leaf ⟨[[.b false]], r.on⟩) (.ite (!r.valued) (.leaf ⟨[[.b false]], r.on⟩) (.ite (decide (f = 0)) (.defI (cntB true r.a1 r.a2) fun z0 => .ite (decide (z0 < 2)) (.leaf ⟨[[.b false]], [.box [.i r.who, .i
  r.want.fst, .i r.want.snd.fst, .i r.want.snd.snd, .i r.b.fst, .i r.b.snd, .b r.h0, .b r.h1, .b r.h2, .i r.best.fst, .i r.best.snd, .i r.bestX.fst, .i r.bestX.snd.fst, .i r.bestX.snd.snd, .b r.has, .i r.value.fst, .i
  r.value.snd.fst, .i r.value.snd.snd, .b r.valued, .b true, .b r.a1, .b r.a2, .b r.told, .i r.dec.fst, .i r.dec.snd.fst, .i r.dec.snd.snd, .b r.ever]]⟩) (.ite r.told (.leaf ⟨[[.b false]], [.box [.i r.who, .i r.want.fst,
  .i r.want.snd.fst, .i r.want.snd.snd, .i r.b.fst, .i r.b.snd, .b r.h0, .b r.h1, .b r.h2, .i r.best.fst, .i r.best.snd, .i r.bestX.fst, .i r.bestX.snd.fst, .i r.bestX.snd.snd, .b r.has, .i r.value.fst, .i r.value.snd.fst,
  .i r.value.snd.snd, .b r.valued, .b true, .b r.a1, .b r.a2, .b r.told, .i r.dec.fst, .i r.dec.snd.fst, .i r.dec.snd.snd, .b r.ever]]⟩) (.leaf ⟨[[.b true]], [.box [.i r.who, .i r.want.fst, .i r.want.snd.fst, .i
  r.want.snd.snd, .i r.b.fst, .i r.b.snd, .b r.h0, .b r.h1, .b r.h2, .i r.best.fst, .i r.best.snd, .i r.bestX.fst, .i r.bestX.snd.fst, .i r.bestX.snd.snd, .b r.has, .i r.value.fst, .i r.value.snd.fst, .i r.value.snd.snd,
  .b r.valued, .b true, .b r.a1, .b r.a2, .b true, .i r.value.fst, .i r.value.snd.fst, .i r.value.snd.snd, .b true]]⟩))) (.ite (decide (f = 1)) (.defI (cntB r.a0 true r.a2) fun z1 => .ite (decide (z1 < 2)) (.leaf ⟨[[.b
  false]], [.box [.i r.who, .i r.want.fst, .i r.want.snd.fst, .i r.want.snd.snd, .i r.b.fst, .i r.b.snd, .b r.h0, .b r.h1, .b r.h2, .i r.best.fst, .i r.best.snd, .i r.bestX.fst, .i r.bestX.snd.fst, .i r.bestX.snd.snd, .b
  r.has, .i r.value.fst, .i r.value.snd.fst, .i r.value.snd.snd, .b r.valued, .b r.a0, .b true, .b r.a2, .b r.told, .i r.dec.fst, .i r.dec.snd.fst, .i r.dec.snd.snd, .b r.ever]]⟩) (.ite r.told (.leaf ⟨[[.b false]], [.box
  [.i r.who, .i r.want.fst, .i r.want.snd.fst, .i r.want.snd.snd, .i r.b.fst, .i r.b.snd, .b r.h0, .b r.h1, .b r.h2, .i r.best.fst, .i r.best.snd, .i r.bestX.fst, .i r.bestX.snd.fst, .i r.bestX.snd.snd, .b r.has, .i
  r.value.fst, .i r.value.snd.fst, .i r.value.snd.snd, .b r.valued, .b r.a0, .b true, .b r.a2, .b r.told, .i r.dec.fst, .i r.dec.snd.fst, .i r.dec.snd.snd, .b r.ever]]⟩) (.leaf ⟨[[.b true]], [.box [.i r.who, .i r.want.fst,
  .i r.want.snd.fst, .i r.want.snd.snd, .i r.b.fst, .i r.b.snd, .b r.h0, .b r.h1, .b r.h2, .i r.best.fst, .i r.best.snd, .i r.bestX.fst, .i r.bestX.snd.fst, .i r.bestX.snd.snd, .b r.has, .i r.value.fst, .i r.value.snd.fst,
  .i r.value.snd.snd, .b r.valued, .b r.a0, .b true, .b r.a2, .b true, .i r.value.fst, .i r.value.snd.fst, .i r.value.snd.snd, .b true]]⟩))) (.ite (decide (f = 2)) (.defI (cntB r.a0 r.a1 true) fun z2 => .ite (decide (z2 <
  2)) (.leaf ⟨[[.b false]], [.box [.i r.who, .i r.want.fst, .i r.want.snd.fst, .i r.want.snd.snd, .i r.b.fst, .i r.b.snd, .b r.h0, .b r.h1, .b r.h2, .i r.best.fst, .i r.best.snd, .i r.bestX.fst, .i r.bestX.snd.fst, .i
  r.bestX.snd.snd, .b r.has, .i r.value.fst, .i r.value.snd.fst, .i r.value.snd.snd, .b r.valued, .b r.a0, .b r.a1, .b true, .b r.told, .i r.dec.fst, .i r.dec.snd.fst, .i r.dec.snd.snd, .b r.ever]]⟩) (.ite r.told (.leaf
  ⟨[[.b false]], [.box [.i r.who, .i r.want.fst, .i r.want.snd.fst, .i r.want.snd.snd, .i r.b.fst, .i r.b.snd, .b r.h0, .b r.h1, .b r.h2, .i r.best.fst, .i r.best.snd, .i r.bestX.fst, .i r.bestX.snd.fst, .i
  r.bestX.snd.snd, .b r.has, .i r.value.fst, .i r.value.snd.fst, .i r.value.snd.snd, .b r.valued, .b r.a0, .b r.a1, .b true, .b r.told, .i r.dec.fst, .i r.dec.snd.fst, .i r.dec.snd.snd, .b r.ever]]⟩) (.leaf ⟨[[.b true]],
  [.box [.i r.who, .i r.want.fst, .i r.want.snd.fst, .i r.want.snd.snd, .i r.b.fst, .i r.b.snd, .b r.h0, .b r.h1, .b r.h2, .i r.best.fst, .i r.best.snd, .i r.bestX.fst, .i r.bestX.snd.fst, .i r.bestX.snd.snd, .b r.has, .i
  r.value.fst, .i r.value.snd.fst, .i r.value.snd.snd, .b r.valued, .b r.a0, .b r.a1, .b true, .b true, .i r.value.fst, .i r.value.snd.fst, .i r.value.snd.snd, .b true]]⟩))) (.must false (.fail "index"))))))) (.ite (decide
  (f = 1)) (.ite r.a1 (.leaf ⟨[[.b false]], r.on⟩) (.ite (!r.valued) (.leaf ⟨[[.b false]], r.on⟩) (.ite (decide (f = 0)) (.defI (cntB true r.a1 r.a2) fun z3 => .ite (decide (z3 < 2)) (.leaf ⟨[[.b false]], [.box [.i r.who,
  .i r.want.fst, .i r.want.snd.fst, .i r.want.snd.snd, .i r.b.fst, .i r.b.snd, .b r.h0, .b r.h1, .b r.h2, .i r.best.fst, .i r.best.snd, .i r.bestX.fst, .i r.bestX.snd.fst, .i r.bestX.snd.snd, .b r.has, .i r.value.fst, .i
  r.value.snd.fst, .i r.value.snd.snd, .b r.valued, .b true, .b r.a1, .b r.a2, .b r.told, .i r.dec.fst, .i r.dec.snd.fst, .i r.dec.snd.snd, .b r.ever]]⟩) (.ite r.told (.leaf ⟨[[.b false]], [.box [.i r.who, .i r.want.fst,
  .i r.want.snd.fst, .i r.want.snd.snd, .i r.b.fst, .i r.b.snd, .b r.h0, .b r.h1, .b r.h2, .i r.best.fst, .i r.best.snd, .i r.bestX.fst, .i r.bestX.snd.fst, .i r.bestX.snd.snd, .b r.has, .i r.value.fst, .i r.value.snd.fst,
  .i r.value.snd.snd, .b r.valued, .b true, .b r.a1, .b r.a2, .b r.told, .i r.dec.fst, .i r.dec.snd.fst, .i r.dec.snd.snd, .b r.ever]]⟩) (.leaf ⟨[[.b true]], [.box [.i r.who, .i r.want.fst, .i r.want.snd.fst, .i
  r.want.snd.snd, .i r.b.fst, .i r.b.snd, .b r.h0, .b r.h1, .b r.h2, .i r.best.fst, .i r.best.snd, .i r.bestX.fst, .i r.bestX.snd.fst, .i r.bestX.snd.snd, .b r.has, .i r.value.fst, .i r.value.snd.fst, .i r.value.snd.snd,
  .b r.valued, .b true, .b r.a1, .b r.a2, .b true, .i r.value.fst, .i r.value.snd.fst, .i r.value.snd.snd, .b true]]⟩))) (.ite (decide (f = 1)) (.defI (cntB r.a0 true r.a2) fun z4 => .ite (decide (z4 < 2)) (.leaf ⟨[[.b
  false]], [.box [.i r.who, .i r.want.fst, .i r.want.snd.fst, .i r.want.snd.snd, .i r.b.fst, .i r.b.snd, .b r.h0, .b r.h1, .b r.h2, .i r.best.fst, .i r.best.snd, .i r.bestX.fst, .i r.bestX.snd.fst, .i r.bestX.snd.snd, .b
  r.has, .i r.value.fst, .i r.value.snd.fst, .i r.value.snd.snd, .b r.valued, .b r.a0, .b true, .b r.a2, .b r.told, .i r.dec.fst, .i r.dec.snd.fst, .i r.dec.snd.snd, .b r.ever]]⟩) (.ite r.told (.leaf ⟨[[.b false]], [.box
  [.i r.who, .i r.want.fst, .i r.want.snd.fst, .i r.want.snd.snd, .i r.b.fst, .i r.b.snd, .b r.h0, .b r.h1, .b r.h2, .i r.best.fst, .i r.best.snd, .i r.bestX.fst, .i r.bestX.snd.fst, .i r.bestX.snd.snd, .b r.has, .i
  r.value.fst, .i r.value.snd.fst, .i r.value.snd.snd, .b r.valued, .b r.a0, .b true, .b r.a2, .b r.told, .i r.dec.fst, .i r.dec.snd.fst, .i r.dec.snd.snd, .b r.ever]]⟩) (.leaf ⟨[[.b true]], [.box [.i r.who, .i r.want.fst,
  .i r.want.snd.fst, .i r.want.snd.snd, .i r.b.fst, .i r.b.snd, .b r.h0, .b r.h1, .b r.h2, .i r.best.fst, .i r.best.snd, .i r.bestX.fst, .i r.bestX.snd.fst, .i r.bestX.snd.snd, .b r.has, .i r.value.fst, .i r.value.snd.fst,
  .i r.value.snd.snd, .b r.valued, .b r.a0, .b true, .b r.a2, .b true, .i r.value.fst, .i r.value.snd.fst, .i r.value.snd.snd, .b true]]⟩))) (.ite (decide (f = 2)) (.defI (cntB r.a0 r.a1 true) fun z5 => .ite (decide (z5 <
  2)) (.leaf ⟨[[.b false]], [.box [.i r.who, .i r.want.fst, .i r.want.snd.fst, .i r.want.snd.snd, .i r.b.fst, .i r.b.snd, .b r.h0, .b r.h1, .b r.h2, .i r.best.fst, .i r.best.snd, .i r.bestX.fst, .i r.bestX.snd.fst, .i
  r.bestX.snd.snd, .b r.has, .i r.value.fst, .i r.value.snd.fst, .i r.value.snd.snd, .b r.valued, .b r.a0, .b r.a1, .b true, .b r.told, .i r.dec.fst, .i r.dec.snd.fst, .i r.dec.snd.snd, .b r.ever]]⟩) (.ite r.told (.leaf
  ⟨[[.b false]], [.box [.i r.who, .i r.want.fst, .i r.want.snd.fst, .i r.want.snd.snd, .i r.b.fst, .i r.b.snd, .b r.h0, .b r.h1, .b r.h2, .i r.best.fst, .i r.best.snd, .i r.bestX.fst, .i r.bestX.snd.fst, .i
  r.bestX.snd.snd, .b r.has, .i r.value.fst, .i r.value.snd.fst, .i r.value.snd.snd, .b r.valued, .b r.a0, .b r.a1, .b true, .b r.told, .i r.dec.fst, .i r.dec.snd.fst, .i r.dec.snd.snd, .b r.ever]]⟩) (.leaf ⟨[[.b true]],
  [.box [.i r.who, .i r.want.fst, .i r.want.snd.fst, .i r.want.snd.snd, .i r.b.fst, .i r.b.snd, .b r.h0, .b r.h1, .b r.h2, .i r.best.fst, .i r.best.snd, .i r.bestX.fst, .i r.bestX.snd.fst, .i r.bestX.snd.snd, .b r.has, .i
  r.value.fst, .i r.value.snd.fst, .i r.value.snd.snd, .b r.valued, .b r.a0, .b r.a1, .b true, .b true, .i r.value.fst, .i r.value.snd.fst, .i r.value.snd.snd, .b true]]⟩))) (.must false (.fail "index"))))))) (.ite (decide
  (f = 2)) (.ite r.a2 (.leaf ⟨[[.b false]], r.on⟩) (.ite (!r.valued) (.leaf ⟨[[.b false]], r.on⟩) (.ite (decide (f = 0)) (.defI (cntB true r.a1 r.a2) fun z6 => .ite (decide (z6 < 2)) (.leaf ⟨[[.b false]], [.box [.i r.who,
  .i r.want.fst, .i r.want.snd.fst, .i r.want.snd.snd, .i r.b.fst, .i r.b.snd, .b r.h0, .b r.h1, .b r.h2, .i r.best.fst, .i r.best.snd, .i r.bestX.fst, .i r.bestX.snd.fst, .i r.bestX.snd.snd, .b r.has, .i r.value.fst, .i
  r.value.snd.fst, .i r.value.snd.snd, .b r.valued, .b true, .b r.a1, .b r.a2, .b r.told, .i r.dec.fst, .i r.dec.snd.fst, .i r.dec.snd.snd, .b r.ever]]⟩) (.ite r.told (.leaf ⟨[[.b false]], [.box [.i r.who, .i r.want.fst,
  .i r.want.snd.fst, .i r.want.snd.snd, .i r.b.fst, .i r.b.snd, .b r.h0, .b r.h1, .b r.h2, .i r.best.fst, .i r.best.snd, .i r.bestX.fst, .i r.bestX.snd.fst, .i r.bestX.snd.snd, .b r.has, .i r.value.fst, .i r.value.snd.fst,
  .i r.value.snd.snd, .b r.valued, .b true, .b r.a1, .b r.a2, .b r.told, .i r.dec.fst, .i r.dec.snd.fst, .i r.dec.snd.snd, .b r.ever]]⟩) (.leaf ⟨[[.b true]], [.box [.i r.who, .i r.want.fst, .i r.want.snd.fst, .i
  r.want.snd.snd, .i r.b.fst, .i r.b.snd, .b r.h0, .b r.h1, .b r.h2, .i r.best.fst, .i r.best.snd, .i r.bestX.fst, .i r.bestX.snd.fst, .i r.bestX.snd.snd, .b r.has, .i r.value.fst, .i r.value.snd.fst, .i r.value.snd.snd,
  .b r.valued, .b true, .b r.a1, .b r.a2, .b true, .i r.value.fst, .i r.value.snd.fst, .i r.value.snd.snd, .b true]]⟩))) (.ite (decide (f = 1)) (.defI (cntB r.a0 true r.a2) fun z7 => .ite (decide (z7 < 2)) (.leaf ⟨[[.b
  false]], [.box [.i r.who, .i r.want.fst, .i r.want.snd.fst, .i r.want.snd.snd, .i r.b.fst, .i r.b.snd, .b r.h0, .b r.h1, .b r.h2, .i r.best.fst, .i r.best.snd, .i r.bestX.fst, .i r.bestX.snd.fst, .i r.bestX.snd.snd, .b
  r.has, .i r.value.fst, .i r.value.snd.fst, .i r.value.snd.snd, .b r.valued, .b r.a0, .b true, .b r.a2, .b r.told, .i r.dec.fst, .i r.dec.snd.fst, .i r.dec.snd.snd, .b r.ever]]⟩) (.ite r.told (.leaf ⟨[[.b false]], [.box
  [.i r.who, .i r.want.fst, .i r.want.snd.fst, .i r.want.snd.snd, .i r.b.fst, .i r.b.snd, .b r.h0, .b r.h1, .b r.h2, .i r.best.fst, .i r.best.snd, .i r.bestX.fst, .i r.bestX.snd.fst, .i r.bestX.snd.snd, .b r.has, .i
  r.value.fst, .i r.value.snd.fst, .i r.value.snd.snd, .b r.valued, .b r.a0, .b true, .b r.a2, .b r.told, .i r.dec.fst, .i r.dec.snd.fst, .i r.dec.snd.snd, .b r.ever]]⟩) (.leaf ⟨[[.b true]], [.box [.i r.who, .i r.want.fst,
  .i r.want.snd.fst, .i r.want.snd.snd, .i r.b.fst, .i r.b.snd, .b r.h0, .b r.h1, .b r.h2, .i r.best.fst, .i r.best.snd, .i r.bestX.fst, .i r.bestX.snd.fst, .i r.bestX.snd.snd, .b r.has, .i r.value.fst, .i r.value.snd.fst,
  .i r.value.snd.snd, .b r.valued, .b r.a0, .b true, .b r.a2, .b true, .i r.value.fst, .i r.value.snd.fst, .i r.value.snd.snd, .b true]]⟩))) (.ite (decide (f = 2)) (.defI (cntB r.a0 r.a1 true) fun z8 => .ite (decide (z8 <
  2)) (.leaf ⟨[[.b false]], [.box [.i r.who, .i r.want.fst, .i r.want.snd.fst, .i r.want.snd.snd, .i r.b.fst, .i r.b.snd, .b r.h0, .b r.h1, .b r.h2, .i r.best.fst, .i r.best.snd, .i r.bestX.fst, .i r.bestX.snd.fst, .i
  r.bestX.snd.snd, .b r.has, .i r.value.fst, .i r.value.snd.fst, .i r.value.snd.snd, .b r.valued, .b r.a0, .b r.a1, .b true, .b r.told, .i r.dec.fst, .i r.dec.snd.fst, .i r.dec.snd.snd, .b r.ever]]⟩) (.ite r.told (.leaf
  ⟨[[.b false]], [.box [.i r.who, .i r.want.fst, .i r.want.snd.fst, .i r.want.snd.snd, .i r.b.fst, .i r.b.snd, .b r.h0, .b r.h1, .b r.h2, .i r.best.fst, .i r.best.snd, .i r.bestX.fst, .i r.bestX.snd.fst, .i
  r.bestX.snd.snd, .b r.has, .i r.value.fst, .i r.value.snd.fst, .i r.value.snd.snd, .b r.valued, .b r.a0, .b r.a1, .b true, .b r.told, .i r.dec.fst, .i r.dec.snd.fst, .i r.dec.snd.snd, .b r.ever]]⟩) (.leaf ⟨[[.b true]],
  [.box [.i r.who, .i r.want.fst, .i r.want.snd.fst, .i r.want.snd.snd, .i r.b.fst, .i r.b.snd, .b r.h0, .b r.h1, .b r.h2, .i r.best.fst, .i r.best.snd, .i r.bestX.fst, .i r.bestX.snd.fst, .i r.bestX.snd.snd, .b r.has, .i
  r.value.fst, .i r.value.snd.fst, .i r.value.snd.snd, .b r.valued, .b r.a0, .b r.a1, .b true, .b true, .i r.value.fst, .i r.value.snd.fst, .i r.value.snd.snd, .b true]]⟩))) (.must false (.fail "index"))))))) (.must false
  (.fail "index"))))))) := by kernel_rfl
def lessB (a b : B2) : Bool := decide (a.1 < b.1) || ((a.1 == b.1) && decide (a.2 < b.2))
def inL (l : List Int) (v : Int) : Bool := anyN (ixP v (rowI l)) l.length
def PrS.promise (p : PrS) (f : Int) (b a : B2) (x : I3) (h : Bool) : Bool × PrS :=
  bif p.valued then (false, p) else bif decide (p.b.1 > 0) then bif b.1 == p.b.1 && b.2 == p.b.2 then bif decide (f ≥ 3) then (false, p) else bif inL p.pl f then (false, p) else
    let p1 : PrS := bif h && (!p.has || lessB p.acc a) then { p with has := true, acc := a, best := x, pl := p.pl ++ [f] } else { p with pl := p.pl ++ [f] }
    bif !((p.pl.length : Int) + 1 == 2) then (false, p1) else (true, { p1 with valued := true, value := bif p1.has then p1.best else p1.wants })
  else (false, p) else (false, p)
theorem prom_std (p : PrS) (f : Int) (b a : B2) (x : I3) (h : Bool) (hl : p.pl.length ≤ 1000) : StdX Try.prog 15 prPromT ⟨[[], [.i f], [.i b.1, .i b.2], [.i a.1, .i a.2], [.i x.1, .i x.2.1, .i x.2.2], [.b h]], p.on⟩ prBoolR ⟨[[.b (p.promise f b a x h).1]], (p.promise f b a x h).2.on⟩ := by
  refine stdX_tree sbTab mixed rfl (holds_of_eq (t15 p f b a x h) ?_)
  repeat' with_reducible (first | refine holds_must (rowsB_i _ _ _) ?_ | refine holds_must (rowsB_app (by omega)) ?_ | refine holds_must (decide_eq_true (by omega)) ?_ | refine holds_inE ?_ | refine holds_ite (fun _ => ?_) (fun _ => ?_))
  all_goals refine holds_leaf ?_
  all_goals first
    | (simp only [PrS.promise, lessB, inL, *, cond_true, cond_false, Bool.true_and, Bool.and_true, Bool.false_and, Bool.and_false, Bool.true_or, Bool.or_true, Bool.false_or, Bool.or_false]; (repeat' (first | exact trivial | exact rfl | exact TS.eqv_refl _ _ | exact len_app _ _ | exact rows_appI | exact fun _ _ => eqvL_refl _ _ | exact fun i _ => eqvL_rowNums rfl _ i | apply And.intro)); done)
    | (exfalso; simp_all; done)
def topN (a b : Int) : Int := bif decide ((bif decide (a > b) then a else b) < 4294967295) then IntKind.u32.wrap ((bif decide (a > b) then a else b) + 1) else bif decide (a > b) then a else b
def PrS.start (p : PrS) (o : B2) : PrS := ⟨p.who, p.wants, (0, 0, 0), (0, 0, 0), (topN o.1 p.b.1, p.who), (0, 0), [], [], false, false, p.dec, false, p.ever⟩
def PrS.accept (p : PrS) (f : Int) (b : B2) : Bool × PrS :=
  bif !p.valued then (false, p) else bif p.done then (false, p) else bif decide (p.b.1 > 0) then bif b.1 == p.b.1 && b.2 == p.b.2 then bif decide (f ≥ 3) then (false, p) else bif inL p.al f then (false, p) else
    bif !((p.al.length : Int) + 1 == 2) then (false, { p with al := p.al ++ [f] }) else (true, { p with al := p.al ++ [f], done := true, ever := true, dec := p.value })
  else (false, p) else (false, p)
def RfS.start (r : RfS) (o : B2) : RfS := ⟨r.who, r.want, (topN o.1 r.b.1, r.who), false, false, false, (0, 0), (0, 0, 0), false, (0, 0, 0), false, false, false, false, false, r.dec, r.ever⟩
def at3 (f : Int) (a b c : Bool) : Bool := bif f == 0 then a else bif f == 1 then b else c
def RfS.promise (r : RfS) (f : Int) (b a : B2) (x : I3) (h : Bool) : Bool × RfS :=
  bif r.b.1 == 0 && r.b.2 == 0 then (false, r) else bif !(b.1 == r.b.1 && b.2 == r.b.2) then (false, r) else bif decide (f ≥ 3) then (false, r) else bif at3 f r.h0 r.h1 r.h2 then (false, r) else bif r.valued then (false, r) else
    let r1 : RfS := { r with h0 := bif f == 0 then true else r.h0, h1 := bif f == 1 then true else r.h1, h2 := bif f == 2 then true else r.h2 }
    let r2 : RfS := bif h && (!r.has || lessB r.best a) then { r1 with has := true, best := a, bestX := x } else r1
    bif decide (cntB r1.h0 r1.h1 r1.h2 < 2) then (false, r2) else (true, { r2 with valued := true, value := bif r2.has then r2.bestX else r2.want })
def RfS.accept (r : RfS) (f : Int) (b : B2) : Bool × RfS :=
  bif r.b.1 == 0 && r.b.2 == 0 then (false, r) else bif !(b.1 == r.b.1 && b.2 == r.b.2) then (false, r) else bif decide (f ≥ 3) then (false, r) else bif at3 f r.a0 r.a1 r.a2 then (false, r) else bif !r.valued then (false, r) else
    let r1 : RfS := { r with a0 := bif f == 0 then true else r.a0, a1 := bif f == 1 then true else r.a1, a2 := bif f == 2 then true else r.a2 }
    bif decide (cntB r1.a0 r1.a1 r1.a2 < 2) then (false, r1) else bif r.told then (false, r1) else (true, { r1 with told := true, dec := r.value, ever := true })
theorem start_std (p : PrS) (o : B2) : StdX Try.prog 14 prStartT ⟨[[], [.i o.1, .i o.2]], p.on⟩ prStartR ⟨[[.i (topN o.1 p.b.1), .i p.who]], (p.start o).on⟩ := by
  refine stdX_tree sbTab mixed rfl (holds_of_eq (t14 p o) (holds_inI (holds_ite (fun h => holds_inI (holds_leaf ?_)) (fun h => holds_leaf ?_))))
  all_goals (simp only [PrS.start, topN, h, cond_true, cond_false]; (repeat' (first | exact trivial | exact rfl | exact TS.eqv_refl _ _ | exact len_app _ _ | exact rows_appI | exact fun _ _ => eqvL_refl _ _ | exact fun i _ => eqvL_rowNums rfl _ i | apply And.intro)); all_goals exact fun i hi => absurd hi (by simp [lnS, ON.len, hdO, tlO, PrS.on]))
theorem acc_std (p : PrS) (f : Int) (b : B2) (hl : p.al.length ≤ 1000) : StdX Try.prog 17 prAccT ⟨[[], [.i f], [.i b.1, .i b.2]], p.on⟩ prBoolR ⟨[[.b (p.accept f b).1]], (p.accept f b).2.on⟩ := by
  refine stdX_tree sbTab mixed rfl (holds_of_eq (t17 p f b) ?_)
  repeat' with_reducible (first | refine holds_must (rowsB_i _ _ _) ?_ | refine holds_must (rowsB_app (by omega)) ?_ | refine holds_must (decide_eq_true (by omega)) ?_ | refine holds_inE ?_ | refine holds_ite (fun _ => ?_) (fun _ => ?_))
  all_goals refine holds_leaf ?_
  all_goals first
    | (simp only [PrS.accept, inL, *, cond_true, cond_false, Bool.true_and, Bool.and_true, Bool.false_and, Bool.and_false, Bool.true_or, Bool.or_true, Bool.false_or, Bool.or_false]; (repeat' (first | exact trivial | exact rfl | exact TS.eqv_refl _ _ | exact len_app _ _ | exact rows_appI | exact fun _ _ => eqvL_refl _ _ | exact fun i _ => eqvL_rowNums rfl _ i | apply And.intro)); done)
    | (exfalso; simp_all; done)
theorem rstart_std (r : RfS) (o : B2) : StdX Try.prog 19 rfStartT ⟨[[], [.i o.1, .i o.2]], r.on⟩ rfStartR ⟨[[.i (topN o.1 r.b.1), .i r.who]], (r.start o).on⟩ := by
  refine stdX_tree sbTab mixed rfl (holds_of_eq (t19 r o) (holds_inI (holds_ite (fun h => holds_inI (holds_leaf ?_)) (fun h => holds_leaf ?_))))
  all_goals (simp only [RfS.start, topN, h, cond_true, cond_false]; (repeat' (first | exact trivial | exact rfl | exact TS.eqv_refl _ _ | exact len_app _ _ | exact rows_appI | exact fun _ _ => eqvL_refl _ _ | exact fun i _ => eqvL_rowNums rfl _ i | apply And.intro)))
theorem three {f : Int} (h : 0 ≤ f) (h3 : ¬ f ≥ 3) : f = 0 ∨ f = 1 ∨ f = 2 := by omega
set_option maxHeartbeats 4000000 in
theorem rprom_std (r : RfS) (f : Int) (b a : B2) (x : I3) (h : Bool) (hf : 0 ≤ f) : StdX Try.prog 20 rfPromT ⟨[[], [.i f], [.i b.1, .i b.2], [.i a.1, .i a.2], [.i x.1, .i x.2.1, .i x.2.2], [.b h]], r.on⟩ rfBoolR ⟨[[.b (r.promise f b a x h).1]], (r.promise f b a x h).2.on⟩ := by
  refine stdX_tree sbTab mixed rfl (holds_of_eq (t20 r f b a x h) ?_)
  refine holds_ite (fun c1 => holds_leaf ?_) (fun c1 => holds_ite (fun c2 => holds_leaf ?_) (fun c2 => holds_ite (fun c3 => holds_leaf ?_) (fun c3 => ?_)))
  · simp only [RfS.promise, c1, cond_true, cond_false]; exact rfBoolR.eqv_refl _
  · simp only [RfS.promise, c1, c2, cond_true, cond_false]; exact rfBoolR.eqv_refl _
  · simp only [RfS.promise, c1, c2, c3, cond_true, cond_false]; exact rfBoolR.eqv_refl _
  rcases three hf (of_decide_eq_false c3) with rfl | rfl | rfl
  all_goals repeat' with_reducible (first | refine holds_ite (fun h => absurd h (by decide)) (fun _ => ?_) | refine holds_ite (fun _ => ?_) (fun h => absurd h (by decide)) | refine holds_inI ?_ | refine holds_inE ?_ | refine holds_ite (fun _ => ?_) (fun _ => ?_))
  all_goals first
    | (refine holds_leaf ?_; simp only [RfS.promise, lessB, at3, *, show ((0 : Int) == 0) = true from rfl, show ((0 : Int) == 1) = false from rfl, show ((0 : Int) == 2) = false from rfl, show ((1 : Int) == 0) = false from rfl, show ((1 : Int) == 1) = true from rfl, show ((1 : Int) == 2) = false from rfl, show ((2 : Int) == 0) = false from rfl, show ((2 : Int) == 1) = false from rfl, show ((2 : Int) == 2) = true from rfl, cond_true, cond_false, Bool.true_and, Bool.and_true, Bool.false_and, Bool.and_false, Bool.true_or, Bool.or_true, Bool.false_or, Bool.or_false]; (repeat' (first | exact trivial | exact rfl | exact TS.eqv_refl _ _ | exact len_app _ _ | exact rows_appI | exact fun _ _ => eqvL_refl _ _ | exact fun i _ => eqvL_rowNums rfl _ i | apply And.intro)); done)
    | (exfalso; simp_all; done)
set_option maxHeartbeats 4000000 in
theorem racc_std (r : RfS) (f : Int) (b : B2) (hf : 0 ≤ f) : StdX Try.prog 21 rfAccT ⟨[[], [.i f], [.i b.1, .i b.2]], r.on⟩ rfBoolR ⟨[[.b (r.accept f b).1]], (r.accept f b).2.on⟩ := by
  refine stdX_tree sbTab mixed rfl (holds_of_eq (t21 r f b) ?_)
  refine holds_ite (fun c1 => holds_leaf ?_) (fun c1 => holds_ite (fun c2 => holds_leaf ?_) (fun c2 => holds_ite (fun c3 => holds_leaf ?_) (fun c3 => ?_)))
  · simp only [RfS.accept, c1, cond_true, cond_false]; exact rfBoolR.eqv_refl _
  · simp only [RfS.accept, c1, c2, cond_true, cond_false]; exact rfBoolR.eqv_refl _
  · simp only [RfS.accept, c1, c2, c3, cond_true, cond_false]; exact rfBoolR.eqv_refl _
  rcases three hf (of_decide_eq_false c3) with rfl | rfl | rfl
  all_goals repeat' with_reducible (first | refine holds_ite (fun h => absurd h (by decide)) (fun _ => ?_) | refine holds_ite (fun _ => ?_) (fun h => absurd h (by decide)) | refine holds_inI ?_ | refine holds_inE ?_ | refine holds_ite (fun _ => ?_) (fun _ => ?_))
  all_goals first
    | (refine holds_leaf ?_; simp only [RfS.accept, lessB, at3, *, show ((0 : Int) == 0) = true from rfl, show ((0 : Int) == 1) = false from rfl, show ((0 : Int) == 2) = false from rfl, show ((1 : Int) == 0) = false from rfl, show ((1 : Int) == 1) = true from rfl, show ((1 : Int) == 2) = false from rfl, show ((2 : Int) == 0) = false from rfl, show ((2 : Int) == 1) = false from rfl, show ((2 : Int) == 2) = true from rfl, cond_true, cond_false, Bool.true_and, Bool.and_true, Bool.false_and, Bool.and_false, Bool.true_or, Bool.or_true, Bool.false_or, Bool.or_false]; (repeat' (first | exact trivial | exact rfl | exact TS.eqv_refl _ _ | exact len_app _ _ | exact rows_appI | exact fun _ _ => eqvL_refl _ _ | exact fun i _ => eqvL_rowNums rfl _ i | apply And.intro)); done)
    | (exfalso; simp_all; done)
end Go.Proofs.Ytlcgnjcfihablaa
