/-
  No cell of these rows narrows 'for every input' (looked for: loops, veiled, ifaces, maps, wideKeys, modest, calm, conditions, laid).
  DERIVED. THE GIVEN ROWS OF THIS SEAT. 13 by the template 'for every input the law returns true; each argument reads behind the call as it read before'; 0 by the template 'total and deterministic' (their statements: YtobknnmalnfknaaTotals.lean).
  GIVEN WITH THE SEED: the statements are not yours to turn. If you find one false, say at which input.
  Laid BY PROGRAM, IN A SANDBOX (cutbox-rows.mjs): the forced cells as the released guide's own fill.sh prints them over the translation 50a1c85862f8271c… (all of the seat's roots in one cut). By AI agents, Wed Nov 11 2026. No macro, syntax, notation, axiom, sorry.
-/
import Derived.Test.YtobknnmalnfknaaChecked
import GoSem.Claim
import GoSem.ClaimJoined
import GoSem.ClaimMapViews
import Derived.JoinedTies
import Derived.KernelRfl
namespace Go.Proofs.Ytobknnmalnfknaa
/- THE CELL 'sum', in the pinned program and in every row, IS THE sha256 OF THE DUMP (.gsa) THAT YtobknnmalnfknaaProg.lean LOADS. Nothing in Lean hashes anything: it is a label: what it is worth is what the hold of that sum in a sandbox is worth. -/
noncomputable def Try.pinned : Pinned := { name := "ytobknnmalnfknaa", sum := "50a1c85862f8271c58be237d4b4c3a0bf2c1ad624d13b211ef21a157e23c1972", checked := Try.checked }
namespace Rows
def none {H : Type} : Left H := { results := [], args := [] }

/-- 'paddocklaw10.BallotPlays': WHATEVER THE INPUT: true; the input reads as it did. -/
def ballotPlaysSpec : ChangeSpec := { name := "ballotPlays", fn := fun _ => fun
  | [d] => { results := [.lit (.bool true)], args := [d] }
  | _ => none }
def ballotPlaysRow : OpenClaim := { program := "ytobknnmalnfknaa", sum := "50a1c85862f8271c58be237d4b4c3a0bf2c1ad624d13b211ef21a157e23c1972", func := "paddock/paddocklaw10.BallotPlays", spec := "ballotPlays", apart := false }
def BallotPlaysSaid : Prop := ballotPlaysRow.holds Try.pinned (OpenSpec.ofChange ballotPlaysSpec)

/-- ITS FALSE NEIGHBOUR: 'it returns false'. Refute it at one input. -/
def ballotPlaysWrong : ChangeSpec := { name := "ballotPlays", fn := fun _ => fun
  | [d] => { results := [.lit (.bool false)], args := [d] }
  | _ => none }
def BallotPlaysWrongFalsely : Prop := ballotPlaysRow.holds Try.pinned (OpenSpec.ofChange ballotPlaysWrong)

/-- 'paddocklaw10.BallotOrder': WHATEVER THE INPUT: true; the input reads as it did. -/
def ballotOrderSpec : ChangeSpec := { name := "ballotOrder", fn := fun _ => fun
  | [d1, d2, d3] => { results := [.lit (.bool true)], args := [d1, d2, d3] }
  | _ => none }
def ballotOrderRow : OpenClaim := { program := "ytobknnmalnfknaa", sum := "50a1c85862f8271c58be237d4b4c3a0bf2c1ad624d13b211ef21a157e23c1972", func := "paddock/paddocklaw10.BallotOrder", spec := "ballotOrder", apart := false }
def BallotOrderSaid : Prop := ballotOrderRow.holds Try.pinned (OpenSpec.ofChange ballotOrderSpec)

/-- ITS FALSE NEIGHBOUR: 'it returns false'. Refute it at one input. -/
def ballotOrderWrong : ChangeSpec := { name := "ballotOrder", fn := fun _ => fun
  | [d1, d2, d3] => { results := [.lit (.bool false)], args := [d1, d2, d3] }
  | _ => none }
def BallotOrderWrongFalsely : Prop := ballotOrderRow.holds Try.pinned (OpenSpec.ofChange ballotOrderWrong)

/-- 'paddocklaw10.BallotRises': WHATEVER THE INPUT: true; the input reads as it did. -/
def ballotRisesSpec : ChangeSpec := { name := "ballotRises", fn := fun _ => fun
  | [d] => { results := [.lit (.bool true)], args := [d] }
  | _ => none }
def ballotRisesRow : OpenClaim := { program := "ytobknnmalnfknaa", sum := "50a1c85862f8271c58be237d4b4c3a0bf2c1ad624d13b211ef21a157e23c1972", func := "paddock/paddocklaw10.BallotRises", spec := "ballotRises", apart := false }
def BallotRisesSaid : Prop := ballotRisesRow.holds Try.pinned (OpenSpec.ofChange ballotRisesSpec)

/-- ITS FALSE NEIGHBOUR: 'it returns false'. Refute it at one input. -/
def ballotRisesWrong : ChangeSpec := { name := "ballotRises", fn := fun _ => fun
  | [d] => { results := [.lit (.bool false)], args := [d] }
  | _ => none }
def BallotRisesWrongFalsely : Prop := ballotRisesRow.holds Try.pinned (OpenSpec.ofChange ballotRisesWrong)

/-- 'paddocklaw10.BallotKeeps': WHATEVER THE INPUT: true; the input reads as it did. -/
def ballotKeepsSpec : ChangeSpec := { name := "ballotKeeps", fn := fun _ => fun
  | [d1, d2, d3, d4] => { results := [.lit (.bool true)], args := [d1, d2, d3, d4] }
  | _ => none }
def ballotKeepsRow : OpenClaim := { program := "ytobknnmalnfknaa", sum := "50a1c85862f8271c58be237d4b4c3a0bf2c1ad624d13b211ef21a157e23c1972", func := "paddock/paddocklaw10.BallotKeeps", spec := "ballotKeeps", apart := false }
def BallotKeepsSaid : Prop := ballotKeepsRow.holds Try.pinned (OpenSpec.ofChange ballotKeepsSpec)

/-- ITS FALSE NEIGHBOUR: 'it returns false'. Refute it at one input. -/
def ballotKeepsWrong : ChangeSpec := { name := "ballotKeeps", fn := fun _ => fun
  | [d1, d2, d3, d4] => { results := [.lit (.bool false)], args := [d1, d2, d3, d4] }
  | _ => none }
def BallotKeepsWrongFalsely : Prop := ballotKeepsRow.holds Try.pinned (OpenSpec.ofChange ballotKeepsWrong)

/-- 'paddocklaw10.BallotNone': WHATEVER THE INPUT: true; the input reads as it did. -/
def ballotNoneSpec : ChangeSpec := { name := "ballotNone", fn := fun _ => fun
  | [d1, d2, d3] => { results := [.lit (.bool true)], args := [d1, d2, d3] }
  | _ => none }
def ballotNoneRow : OpenClaim := { program := "ytobknnmalnfknaa", sum := "50a1c85862f8271c58be237d4b4c3a0bf2c1ad624d13b211ef21a157e23c1972", func := "paddock/paddocklaw10.BallotNone", spec := "ballotNone", apart := false }
def BallotNoneSaid : Prop := ballotNoneRow.holds Try.pinned (OpenSpec.ofChange ballotNoneSpec)

/-- ITS FALSE NEIGHBOUR: 'it returns false'. Refute it at one input. -/
def ballotNoneWrong : ChangeSpec := { name := "ballotNone", fn := fun _ => fun
  | [d1, d2, d3] => { results := [.lit (.bool false)], args := [d1, d2, d3] }
  | _ => none }
def BallotNoneWrongFalsely : Prop := ballotNoneRow.holds Try.pinned (OpenSpec.ofChange ballotNoneWrong)

/-- 'paddocklaw10.BallotMajorities': WHATEVER THE INPUT: true; the input reads as it did. -/
def ballotMajoritiesSpec : ChangeSpec := { name := "ballotMajorities", fn := fun _ => fun
  | [d1, d2, d3] => { results := [.lit (.bool true)], args := [d1, d2, d3] }
  | _ => none }
def ballotMajoritiesRow : OpenClaim := { program := "ytobknnmalnfknaa", sum := "50a1c85862f8271c58be237d4b4c3a0bf2c1ad624d13b211ef21a157e23c1972", func := "paddock/paddocklaw10.BallotMajorities", spec := "ballotMajorities", apart := false }
def BallotMajoritiesSaid : Prop := ballotMajoritiesRow.holds Try.pinned (OpenSpec.ofChange ballotMajoritiesSpec)

/-- ITS FALSE NEIGHBOUR: 'it returns false'. Refute it at one input. -/
def ballotMajoritiesWrong : ChangeSpec := { name := "ballotMajorities", fn := fun _ => fun
  | [d1, d2, d3] => { results := [.lit (.bool false)], args := [d1, d2, d3] }
  | _ => none }
def BallotMajoritiesWrongFalsely : Prop := ballotMajoritiesRow.holds Try.pinned (OpenSpec.ofChange ballotMajoritiesWrong)

/-- 'paddocklaw3.MapsTell': WHATEVER THE INPUT: true; the input reads as it did. -/
def mapsTellSpec : ChangeSpec := { name := "mapsTell", fn := fun _ => fun
  | [d1, d2] => { results := [.lit (.bool true)], args := [d1, d2] }
  | _ => none }
def mapsTellRow : OpenClaim := { program := "ytobknnmalnfknaa", sum := "50a1c85862f8271c58be237d4b4c3a0bf2c1ad624d13b211ef21a157e23c1972", func := "paddock/paddocklaw3.MapsTell", spec := "mapsTell", unfollowed := true, recurses := true, apart := false }
def MapsTellSaid : Prop := mapsTellRow.holds Try.pinned (OpenSpec.ofChange mapsTellSpec)

/-- ITS FALSE NEIGHBOUR: 'it returns false'. Refute it at one input. -/
def mapsTellWrong : ChangeSpec := { name := "mapsTell", fn := fun _ => fun
  | [d1, d2] => { results := [.lit (.bool false)], args := [d1, d2] }
  | _ => none }
def MapsTellWrongFalsely : Prop := mapsTellRow.holds Try.pinned (OpenSpec.ofChange mapsTellWrong)

/-- 'paddocklaw3.MapsTouch': WHATEVER THE INPUT: true; the input reads as it did. -/
def mapsTouchSpec : ChangeSpec := { name := "mapsTouch", fn := fun _ => fun
  | [d1, d2] => { results := [.lit (.bool true)], args := [d1, d2] }
  | _ => none }
def mapsTouchRow : OpenClaim := { program := "ytobknnmalnfknaa", sum := "50a1c85862f8271c58be237d4b4c3a0bf2c1ad624d13b211ef21a157e23c1972", func := "paddock/paddocklaw3.MapsTouch", spec := "mapsTouch", unfollowed := true, recurses := true, apart := false }
def MapsTouchSaid : Prop := mapsTouchRow.holds Try.pinned (OpenSpec.ofChange mapsTouchSpec)

/-- ITS FALSE NEIGHBOUR: 'it returns false'. Refute it at one input. -/
def mapsTouchWrong : ChangeSpec := { name := "mapsTouch", fn := fun _ => fun
  | [d1, d2] => { results := [.lit (.bool false)], args := [d1, d2] }
  | _ => none }
def MapsTouchWrongFalsely : Prop := mapsTouchRow.holds Try.pinned (OpenSpec.ofChange mapsTouchWrong)

/-- 'paddocklaw3.MapsBounds': WHATEVER THE INPUT: true; the input reads as it did. -/
def mapsBoundsSpec : ChangeSpec := { name := "mapsBounds", fn := fun _ => fun
  | [d1, d2, d3, d4] => { results := [.lit (.bool true)], args := [d1, d2, d3, d4] }
  | _ => none }
def mapsBoundsRow : OpenClaim := { program := "ytobknnmalnfknaa", sum := "50a1c85862f8271c58be237d4b4c3a0bf2c1ad624d13b211ef21a157e23c1972", func := "paddock/paddocklaw3.MapsBounds", spec := "mapsBounds", unfollowed := true, recurses := true, apart := false }
def MapsBoundsSaid : Prop := mapsBoundsRow.holds Try.pinned (OpenSpec.ofChange mapsBoundsSpec)

/-- ITS FALSE NEIGHBOUR: 'it returns false'. Refute it at one input. -/
def mapsBoundsWrong : ChangeSpec := { name := "mapsBounds", fn := fun _ => fun
  | [d1, d2, d3, d4] => { results := [.lit (.bool false)], args := [d1, d2, d3, d4] }
  | _ => none }
def MapsBoundsWrongFalsely : Prop := mapsBoundsRow.holds Try.pinned (OpenSpec.ofChange mapsBoundsWrong)

/-- 'paddocklaw3.MapsFold': WHATEVER THE INPUT: true; the input reads as it did. -/
def mapsFoldSpec : ChangeSpec := { name := "mapsFold", fn := fun _ => fun
  | [d] => { results := [.lit (.bool true)], args := [d] }
  | _ => none }
def mapsFoldRow : OpenClaim := { program := "ytobknnmalnfknaa", sum := "50a1c85862f8271c58be237d4b4c3a0bf2c1ad624d13b211ef21a157e23c1972", func := "paddock/paddocklaw3.MapsFold", spec := "mapsFold", unfollowed := true, recurses := true, apart := false }
def MapsFoldSaid : Prop := mapsFoldRow.holds Try.pinned (OpenSpec.ofChange mapsFoldSpec)

/-- ITS FALSE NEIGHBOUR: 'it returns false'. Refute it at one input. -/
def mapsFoldWrong : ChangeSpec := { name := "mapsFold", fn := fun _ => fun
  | [d] => { results := [.lit (.bool false)], args := [d] }
  | _ => none }
def MapsFoldWrongFalsely : Prop := mapsFoldRow.holds Try.pinned (OpenSpec.ofChange mapsFoldWrong)

/-- 'paddocklaw3.MapsMany': WHATEVER THE INPUT: true; the input reads as it did. -/
def mapsManySpec : ChangeSpec := { name := "mapsMany", fn := fun _ => fun
  | [d1, d2] => { results := [.lit (.bool true)], args := [d1, d2] }
  | _ => none }
def mapsManyRow : OpenClaim := { program := "ytobknnmalnfknaa", sum := "50a1c85862f8271c58be237d4b4c3a0bf2c1ad624d13b211ef21a157e23c1972", func := "paddock/paddocklaw3.MapsMany", spec := "mapsMany", unfollowed := true, recurses := true, apart := false }
def MapsManySaid : Prop := mapsManyRow.holds Try.pinned (OpenSpec.ofChange mapsManySpec)

/-- ITS FALSE NEIGHBOUR: 'it returns false'. Refute it at one input. -/
def mapsManyWrong : ChangeSpec := { name := "mapsMany", fn := fun _ => fun
  | [d1, d2] => { results := [.lit (.bool false)], args := [d1, d2] }
  | _ => none }
def MapsManyWrongFalsely : Prop := mapsManyRow.holds Try.pinned (OpenSpec.ofChange mapsManyWrong)

/-- 'paddocklaw3.MapsIncs': WHATEVER THE INPUT: true; the input reads as it did. -/
def mapsIncsSpec : ChangeSpec := { name := "mapsIncs", fn := fun _ => fun
  | [d1, d2, d3] => { results := [.lit (.bool true)], args := [d1, d2, d3] }
  | _ => none }
def mapsIncsRow : OpenClaim := { program := "ytobknnmalnfknaa", sum := "50a1c85862f8271c58be237d4b4c3a0bf2c1ad624d13b211ef21a157e23c1972", func := "paddock/paddocklaw3.MapsIncs", spec := "mapsIncs", unfollowed := true, recurses := true, apart := false }
def MapsIncsSaid : Prop := mapsIncsRow.holds Try.pinned (OpenSpec.ofChange mapsIncsSpec)

/-- ITS FALSE NEIGHBOUR: 'it returns false'. Refute it at one input. -/
def mapsIncsWrong : ChangeSpec := { name := "mapsIncs", fn := fun _ => fun
  | [d1, d2, d3] => { results := [.lit (.bool false)], args := [d1, d2, d3] }
  | _ => none }
def MapsIncsWrongFalsely : Prop := mapsIncsRow.holds Try.pinned (OpenSpec.ofChange mapsIncsWrong)

/-- 'paddocklaw3.MapsEither': WHATEVER THE INPUT: true; the input reads as it did. -/
def mapsEitherSpec : ChangeSpec := { name := "mapsEither", fn := fun _ => fun
  | [d1, d2] => { results := [.lit (.bool true)], args := [d1, d2] }
  | _ => none }
def mapsEitherRow : OpenClaim := { program := "ytobknnmalnfknaa", sum := "50a1c85862f8271c58be237d4b4c3a0bf2c1ad624d13b211ef21a157e23c1972", func := "paddock/paddocklaw3.MapsEither", spec := "mapsEither", unfollowed := true, recurses := true, apart := false }
def MapsEitherSaid : Prop := mapsEitherRow.holds Try.pinned (OpenSpec.ofChange mapsEitherSpec)

/-- ITS FALSE NEIGHBOUR: 'it returns false'. Refute it at one input. -/
def mapsEitherWrong : ChangeSpec := { name := "mapsEither", fn := fun _ => fun
  | [d1, d2] => { results := [.lit (.bool false)], args := [d1, d2] }
  | _ => none }
def MapsEitherWrongFalsely : Prop := mapsEitherRow.holds Try.pinned (OpenSpec.ofChange mapsEitherWrong)

/- THE SECOND FORM. 'bulk': how many values and letters a reading holds, each counted each time it is reached (what is shared counts as often as it is met; a slice's spare places count too). A statement '..UptoSaid' is the law's where the arguments, and the package variables that the reading takes, are together of bulk at most 1048576: NARROWER than '..Said'. Prove '..Said' where nothing that the law and all that it calls make is longer than what came in: it says more and counts as full. Else prove '..UptoSaid'. A law counts once. -/
mutual
def uptoBulk {H : Type} : DataW H → Nat
  | .lit (.string bytes) => bytes.length + 1
  | .lit _ => 1
  | .nil => 1
  | .ptr d => uptoBulk d + 1
  | .slice elems spare => uptoBulkAll elems + uptoBulkAll spare + 1
  | .agg parts => uptoBulkAll parts + 1
  | .iface _ d => uptoBulk d + 1
  | .map entries => uptoBulkEntries entries + 1
  | .held _ => 1
def uptoBulkAll {H : Type} : List (DataW H) → Nat
  | [] => 0
  | d :: r => uptoBulk d + uptoBulkAll r
def uptoBulkEntries {H : Type} : List (Lit × DataW H) → Nat
  | [] => 0
  | x :: r => uptoBulkEntry x + uptoBulkEntries r
def uptoBulkEntry {H : Type} : Lit × DataW H → Nat
  | (.string bytes, d) => bytes.length + uptoBulk d + 1
  | (_, d) => uptoBulk d + 1
 end
def uptoSmall : (H : Type) → List (DataW H) → Bool := fun _ ds => decide (uptoBulkAll ds ≤ 1048576)
def OpenSpec.upto (s : _root_.Go.ChangeSpec) : _root_.Go.OpenSpec := { _root_.Go.OpenSpec.ofChange s with cond := some uptoSmall }

/-- 'paddocklaw10.BallotPlays', WHERE WHAT IT READS IS OF BULK AT MOST 1048576: true; the input reads as it did. -/
def ballotPlaysUptoRow : OpenClaim := { program := "ytobknnmalnfknaa", sum := "50a1c85862f8271c58be237d4b4c3a0bf2c1ad624d13b211ef21a157e23c1972", func := "paddock/paddocklaw10.BallotPlays", spec := "ballotPlays", apart := false, narrowed := true }
def BallotPlaysUptoSaid : Prop := ballotPlaysUptoRow.holds Try.pinned (OpenSpec.upto ballotPlaysSpec)

/-- 'paddocklaw10.BallotOrder', WHERE WHAT IT READS IS OF BULK AT MOST 1048576: true; the input reads as it did. -/
def ballotOrderUptoRow : OpenClaim := { program := "ytobknnmalnfknaa", sum := "50a1c85862f8271c58be237d4b4c3a0bf2c1ad624d13b211ef21a157e23c1972", func := "paddock/paddocklaw10.BallotOrder", spec := "ballotOrder", apart := false, narrowed := true }
def BallotOrderUptoSaid : Prop := ballotOrderUptoRow.holds Try.pinned (OpenSpec.upto ballotOrderSpec)

/-- 'paddocklaw10.BallotRises', WHERE WHAT IT READS IS OF BULK AT MOST 1048576: true; the input reads as it did. -/
def ballotRisesUptoRow : OpenClaim := { program := "ytobknnmalnfknaa", sum := "50a1c85862f8271c58be237d4b4c3a0bf2c1ad624d13b211ef21a157e23c1972", func := "paddock/paddocklaw10.BallotRises", spec := "ballotRises", apart := false, narrowed := true }
def BallotRisesUptoSaid : Prop := ballotRisesUptoRow.holds Try.pinned (OpenSpec.upto ballotRisesSpec)

/-- 'paddocklaw10.BallotKeeps', WHERE WHAT IT READS IS OF BULK AT MOST 1048576: true; the input reads as it did. -/
def ballotKeepsUptoRow : OpenClaim := { program := "ytobknnmalnfknaa", sum := "50a1c85862f8271c58be237d4b4c3a0bf2c1ad624d13b211ef21a157e23c1972", func := "paddock/paddocklaw10.BallotKeeps", spec := "ballotKeeps", apart := false, narrowed := true }
def BallotKeepsUptoSaid : Prop := ballotKeepsUptoRow.holds Try.pinned (OpenSpec.upto ballotKeepsSpec)

/-- 'paddocklaw10.BallotNone', WHERE WHAT IT READS IS OF BULK AT MOST 1048576: true; the input reads as it did. -/
def ballotNoneUptoRow : OpenClaim := { program := "ytobknnmalnfknaa", sum := "50a1c85862f8271c58be237d4b4c3a0bf2c1ad624d13b211ef21a157e23c1972", func := "paddock/paddocklaw10.BallotNone", spec := "ballotNone", apart := false, narrowed := true }
def BallotNoneUptoSaid : Prop := ballotNoneUptoRow.holds Try.pinned (OpenSpec.upto ballotNoneSpec)

/-- 'paddocklaw10.BallotMajorities', WHERE WHAT IT READS IS OF BULK AT MOST 1048576: true; the input reads as it did. -/
def ballotMajoritiesUptoRow : OpenClaim := { program := "ytobknnmalnfknaa", sum := "50a1c85862f8271c58be237d4b4c3a0bf2c1ad624d13b211ef21a157e23c1972", func := "paddock/paddocklaw10.BallotMajorities", spec := "ballotMajorities", apart := false, narrowed := true }
def BallotMajoritiesUptoSaid : Prop := ballotMajoritiesUptoRow.holds Try.pinned (OpenSpec.upto ballotMajoritiesSpec)

/-- 'paddocklaw3.MapsTell', WHERE WHAT IT READS IS OF BULK AT MOST 1048576: true; the input reads as it did. -/
def mapsTellUptoRow : OpenClaim := { program := "ytobknnmalnfknaa", sum := "50a1c85862f8271c58be237d4b4c3a0bf2c1ad624d13b211ef21a157e23c1972", func := "paddock/paddocklaw3.MapsTell", spec := "mapsTell", unfollowed := true, recurses := true, apart := false, narrowed := true }
def MapsTellUptoSaid : Prop := mapsTellUptoRow.holds Try.pinned (OpenSpec.upto mapsTellSpec)

/-- 'paddocklaw3.MapsTouch', WHERE WHAT IT READS IS OF BULK AT MOST 1048576: true; the input reads as it did. -/
def mapsTouchUptoRow : OpenClaim := { program := "ytobknnmalnfknaa", sum := "50a1c85862f8271c58be237d4b4c3a0bf2c1ad624d13b211ef21a157e23c1972", func := "paddock/paddocklaw3.MapsTouch", spec := "mapsTouch", unfollowed := true, recurses := true, apart := false, narrowed := true }
def MapsTouchUptoSaid : Prop := mapsTouchUptoRow.holds Try.pinned (OpenSpec.upto mapsTouchSpec)

/-- 'paddocklaw3.MapsBounds', WHERE WHAT IT READS IS OF BULK AT MOST 1048576: true; the input reads as it did. -/
def mapsBoundsUptoRow : OpenClaim := { program := "ytobknnmalnfknaa", sum := "50a1c85862f8271c58be237d4b4c3a0bf2c1ad624d13b211ef21a157e23c1972", func := "paddock/paddocklaw3.MapsBounds", spec := "mapsBounds", unfollowed := true, recurses := true, apart := false, narrowed := true }
def MapsBoundsUptoSaid : Prop := mapsBoundsUptoRow.holds Try.pinned (OpenSpec.upto mapsBoundsSpec)

/-- 'paddocklaw3.MapsFold', WHERE WHAT IT READS IS OF BULK AT MOST 1048576: true; the input reads as it did. -/
def mapsFoldUptoRow : OpenClaim := { program := "ytobknnmalnfknaa", sum := "50a1c85862f8271c58be237d4b4c3a0bf2c1ad624d13b211ef21a157e23c1972", func := "paddock/paddocklaw3.MapsFold", spec := "mapsFold", unfollowed := true, recurses := true, apart := false, narrowed := true }
def MapsFoldUptoSaid : Prop := mapsFoldUptoRow.holds Try.pinned (OpenSpec.upto mapsFoldSpec)

/-- 'paddocklaw3.MapsMany', WHERE WHAT IT READS IS OF BULK AT MOST 1048576: true; the input reads as it did. -/
def mapsManyUptoRow : OpenClaim := { program := "ytobknnmalnfknaa", sum := "50a1c85862f8271c58be237d4b4c3a0bf2c1ad624d13b211ef21a157e23c1972", func := "paddock/paddocklaw3.MapsMany", spec := "mapsMany", unfollowed := true, recurses := true, apart := false, narrowed := true }
def MapsManyUptoSaid : Prop := mapsManyUptoRow.holds Try.pinned (OpenSpec.upto mapsManySpec)

/-- 'paddocklaw3.MapsIncs', WHERE WHAT IT READS IS OF BULK AT MOST 1048576: true; the input reads as it did. -/
def mapsIncsUptoRow : OpenClaim := { program := "ytobknnmalnfknaa", sum := "50a1c85862f8271c58be237d4b4c3a0bf2c1ad624d13b211ef21a157e23c1972", func := "paddock/paddocklaw3.MapsIncs", spec := "mapsIncs", unfollowed := true, recurses := true, apart := false, narrowed := true }
def MapsIncsUptoSaid : Prop := mapsIncsUptoRow.holds Try.pinned (OpenSpec.upto mapsIncsSpec)

/-- 'paddocklaw3.MapsEither', WHERE WHAT IT READS IS OF BULK AT MOST 1048576: true; the input reads as it did. -/
def mapsEitherUptoRow : OpenClaim := { program := "ytobknnmalnfknaa", sum := "50a1c85862f8271c58be237d4b4c3a0bf2c1ad624d13b211ef21a157e23c1972", func := "paddock/paddocklaw3.MapsEither", spec := "mapsEither", unfollowed := true, recurses := true, apart := false, narrowed := true }
def MapsEitherUptoSaid : Prop := mapsEitherUptoRow.holds Try.pinned (OpenSpec.upto mapsEitherSpec)

end Rows
end Go.Proofs.Ytobknnmalnfknaa
