/-
  No cell of these rows narrows 'for every input' (looked for: loops, veiled, ifaces, maps, wideKeys, modest, calm, conditions, laid).
  DERIVED. THE GIVEN ROWS OF THIS SEAT. 9 by the template 'for every input the law returns true; each argument reads behind the call as it read before'; 0 by the template 'total and deterministic' (their statements: YtlcgnjcfihablaaTotals.lean).
  GIVEN WITH THE SEED: the statements are not yours to turn. If you find one false, say at which input.
  Laid BY PROGRAM, IN A SANDBOX (cutbox-rows.mjs): the forced cells as the released guide's own fill.sh prints them over the translation 7100ee67e10a1f61… (all of the seat's roots in one cut). By AI agents, Wed Nov 11 2026. No macro, syntax, notation, axiom, sorry.
-/
import Derived.Test.YtlcgnjcfihablaaChecked
import GoSem.Claim
import GoSem.ClaimJoined
import GoSem.ClaimMapViews
import Derived.JoinedTies
import Derived.KernelRfl
namespace Go.Proofs.Ytlcgnjcfihablaa
/- THE CELL 'sum', in the pinned program and in every row, IS THE sha256 OF THE DUMP (.gsa) THAT YtlcgnjcfihablaaProg.lean LOADS. Nothing in Lean hashes anything: it is a label: what it is worth is what the hold of that sum in a sandbox is worth. -/
noncomputable def Try.pinned : Pinned := { name := "ytlcgnjcfihablaa", sum := "7100ee67e10a1f617387c821d29b5112f1b73be0f142787a0269022889cfe177", checked := Try.checked }
namespace Rows
def none {H : Type} : Left H := { results := [], args := [] }

/-- 'paddocklaw11.SynodTakes': WHATEVER THE INPUT: true; the input reads as it did. -/
def synodTakesSpec : ChangeSpec := { name := "synodTakes", fn := fun _ => fun
  | [d1, d2, d3, d4] => { results := [.lit (.bool true)], args := [d1, d2, d3, d4] }
  | _ => none }
def synodTakesRow : OpenClaim := { program := "ytlcgnjcfihablaa", sum := "7100ee67e10a1f617387c821d29b5112f1b73be0f142787a0269022889cfe177", func := "paddock/paddocklaw11.SynodTakes", spec := "synodTakes", unfollowed := true, recurses := true, apart := false }
def SynodTakesSaid : Prop := synodTakesRow.holds Try.pinned (OpenSpec.ofChange synodTakesSpec)

/-- ITS FALSE NEIGHBOUR: 'it returns false'. Refute it at one input. -/
def synodTakesWrong : ChangeSpec := { name := "synodTakes", fn := fun _ => fun
  | [d1, d2, d3, d4] => { results := [.lit (.bool false)], args := [d1, d2, d3, d4] }
  | _ => none }
def SynodTakesWrongFalsely : Prop := synodTakesRow.holds Try.pinned (OpenSpec.ofChange synodTakesWrong)

/-- 'paddocklaw11.SynodHears': WHATEVER THE INPUT: true; the input reads as it did. -/
def synodHearsSpec : ChangeSpec := { name := "synodHears", fn := fun _ => fun
  | [d1, d2, d3] => { results := [.lit (.bool true)], args := [d1, d2, d3] }
  | _ => none }
def synodHearsRow : OpenClaim := { program := "ytlcgnjcfihablaa", sum := "7100ee67e10a1f617387c821d29b5112f1b73be0f142787a0269022889cfe177", func := "paddock/paddocklaw11.SynodHears", spec := "synodHears", unfollowed := true, recurses := true, apart := false }
def SynodHearsSaid : Prop := synodHearsRow.holds Try.pinned (OpenSpec.ofChange synodHearsSpec)

/-- ITS FALSE NEIGHBOUR: 'it returns false'. Refute it at one input. -/
def synodHearsWrong : ChangeSpec := { name := "synodHears", fn := fun _ => fun
  | [d1, d2, d3] => { results := [.lit (.bool false)], args := [d1, d2, d3] }
  | _ => none }
def SynodHearsWrongFalsely : Prop := synodHearsRow.holds Try.pinned (OpenSpec.ofChange synodHearsWrong)

/-- 'paddocklaw11.SynodPlays': WHATEVER THE INPUT: true; the input reads as it did. -/
def synodPlaysSpec : ChangeSpec := { name := "synodPlays", fn := fun _ => fun
  | [d1, d2, d3] => { results := [.lit (.bool true)], args := [d1, d2, d3] }
  | _ => none }
def synodPlaysRow : OpenClaim := { program := "ytlcgnjcfihablaa", sum := "7100ee67e10a1f617387c821d29b5112f1b73be0f142787a0269022889cfe177", func := "paddock/paddocklaw11.SynodPlays", spec := "synodPlays", unfollowed := true, recurses := true, apart := false }
def SynodPlaysSaid : Prop := synodPlaysRow.holds Try.pinned (OpenSpec.ofChange synodPlaysSpec)

/-- ITS FALSE NEIGHBOUR: 'it returns false'. Refute it at one input. -/
def synodPlaysWrong : ChangeSpec := { name := "synodPlays", fn := fun _ => fun
  | [d1, d2, d3] => { results := [.lit (.bool false)], args := [d1, d2, d3] }
  | _ => none }
def SynodPlaysWrongFalsely : Prop := synodPlaysRow.holds Try.pinned (OpenSpec.ofChange synodPlaysWrong)

/-- 'paddocklaw11.SynodStarts': WHATEVER THE INPUT: true; the input reads as it did. -/
def synodStartsSpec : ChangeSpec := { name := "synodStarts", fn := fun _ => fun
  | [d1, d2] => { results := [.lit (.bool true)], args := [d1, d2] }
  | _ => none }
def synodStartsRow : OpenClaim := { program := "ytlcgnjcfihablaa", sum := "7100ee67e10a1f617387c821d29b5112f1b73be0f142787a0269022889cfe177", func := "paddock/paddocklaw11.SynodStarts", spec := "synodStarts", unfollowed := true, recurses := true, apart := false }
def SynodStartsSaid : Prop := synodStartsRow.holds Try.pinned (OpenSpec.ofChange synodStartsSpec)

/-- ITS FALSE NEIGHBOUR: 'it returns false'. Refute it at one input. -/
def synodStartsWrong : ChangeSpec := { name := "synodStarts", fn := fun _ => fun
  | [d1, d2] => { results := [.lit (.bool false)], args := [d1, d2] }
  | _ => none }
def SynodStartsWrongFalsely : Prop := synodStartsRow.holds Try.pinned (OpenSpec.ofChange synodStartsWrong)

/-- 'paddocklaw17.WatchPlays': WHATEVER THE INPUT: true; the input reads as it did. -/
def watchPlaysSpec : ChangeSpec := { name := "watchPlays", fn := fun _ => fun
  | [d] => { results := [.lit (.bool true)], args := [d] }
  | _ => none }
def watchPlaysRow : OpenClaim := { program := "ytlcgnjcfihablaa", sum := "7100ee67e10a1f617387c821d29b5112f1b73be0f142787a0269022889cfe177", func := "paddock/paddocklaw17.WatchPlays", spec := "watchPlays", unfollowed := true, recurses := true, apart := false }
def WatchPlaysSaid : Prop := watchPlaysRow.holds Try.pinned (OpenSpec.ofChange watchPlaysSpec)

/-- ITS FALSE NEIGHBOUR: 'it returns false'. Refute it at one input. -/
def watchPlaysWrong : ChangeSpec := { name := "watchPlays", fn := fun _ => fun
  | [d] => { results := [.lit (.bool false)], args := [d] }
  | _ => none }
def WatchPlaysWrongFalsely : Prop := watchPlaysRow.holds Try.pinned (OpenSpec.ofChange watchPlaysWrong)

/-- 'paddocklaw17.ReportsPlay': WHATEVER THE INPUT: true; the input reads as it did. -/
def reportsPlaySpec : ChangeSpec := { name := "reportsPlay", fn := fun _ => fun
  | [d] => { results := [.lit (.bool true)], args := [d] }
  | _ => none }
def reportsPlayRow : OpenClaim := { program := "ytlcgnjcfihablaa", sum := "7100ee67e10a1f617387c821d29b5112f1b73be0f142787a0269022889cfe177", func := "paddock/paddocklaw17.ReportsPlay", spec := "reportsPlay", unfollowed := true, recurses := true, apart := false }
def ReportsPlaySaid : Prop := reportsPlayRow.holds Try.pinned (OpenSpec.ofChange reportsPlaySpec)

/-- ITS FALSE NEIGHBOUR: 'it returns false'. Refute it at one input. -/
def reportsPlayWrong : ChangeSpec := { name := "reportsPlay", fn := fun _ => fun
  | [d] => { results := [.lit (.bool false)], args := [d] }
  | _ => none }
def ReportsPlayWrongFalsely : Prop := reportsPlayRow.holds Try.pinned (OpenSpec.ofChange reportsPlayWrong)

/-- 'paddocklaw17.ReportsAlone': WHATEVER THE INPUT: true; the input reads as it did. -/
def reportsAloneSpec : ChangeSpec := { name := "reportsAlone", fn := fun _ => fun
  | [d1, d2, d3] => { results := [.lit (.bool true)], args := [d1, d2, d3] }
  | _ => none }
def reportsAloneRow : OpenClaim := { program := "ytlcgnjcfihablaa", sum := "7100ee67e10a1f617387c821d29b5112f1b73be0f142787a0269022889cfe177", func := "paddock/paddocklaw17.ReportsAlone", spec := "reportsAlone", unfollowed := true, recurses := true, apart := false }
def ReportsAloneSaid : Prop := reportsAloneRow.holds Try.pinned (OpenSpec.ofChange reportsAloneSpec)

/-- ITS FALSE NEIGHBOUR: 'it returns false'. Refute it at one input. -/
def reportsAloneWrong : ChangeSpec := { name := "reportsAlone", fn := fun _ => fun
  | [d1, d2, d3] => { results := [.lit (.bool false)], args := [d1, d2, d3] }
  | _ => none }
def ReportsAloneWrongFalsely : Prop := reportsAloneRow.holds Try.pinned (OpenSpec.ofChange reportsAloneWrong)

/-- 'paddocklaw17.WatchResets': WHATEVER THE INPUT: true; the input reads as it did. -/
def watchResetsSpec : ChangeSpec := { name := "watchResets", fn := fun _ => fun
  | [d1, d2] => { results := [.lit (.bool true)], args := [d1, d2] }
  | _ => none }
def watchResetsRow : OpenClaim := { program := "ytlcgnjcfihablaa", sum := "7100ee67e10a1f617387c821d29b5112f1b73be0f142787a0269022889cfe177", func := "paddock/paddocklaw17.WatchResets", spec := "watchResets", unfollowed := true, recurses := true, apart := false }
def WatchResetsSaid : Prop := watchResetsRow.holds Try.pinned (OpenSpec.ofChange watchResetsSpec)

/-- ITS FALSE NEIGHBOUR: 'it returns false'. Refute it at one input. -/
def watchResetsWrong : ChangeSpec := { name := "watchResets", fn := fun _ => fun
  | [d1, d2] => { results := [.lit (.bool false)], args := [d1, d2] }
  | _ => none }
def WatchResetsWrongFalsely : Prop := watchResetsRow.holds Try.pinned (OpenSpec.ofChange watchResetsWrong)

/-- 'paddocklaw11.SynodAgrees': WHATEVER THE INPUT: true; the input reads as it did. -/
def synodAgreesSpec : ChangeSpec := { name := "synodAgrees", fn := fun _ => fun
  | [d1, d2] => { results := [.lit (.bool true)], args := [d1, d2] }
  | _ => none }
def synodAgreesRow : OpenClaim := { program := "ytlcgnjcfihablaa", sum := "7100ee67e10a1f617387c821d29b5112f1b73be0f142787a0269022889cfe177", func := "paddock/paddocklaw11.SynodAgrees", spec := "synodAgrees", unfollowed := true, recurses := true, apart := false }
def SynodAgreesSaid : Prop := synodAgreesRow.holds Try.pinned (OpenSpec.ofChange synodAgreesSpec)

/-- ITS FALSE NEIGHBOUR: 'it returns false'. Refute it at one input. -/
def synodAgreesWrong : ChangeSpec := { name := "synodAgrees", fn := fun _ => fun
  | [d1, d2] => { results := [.lit (.bool false)], args := [d1, d2] }
  | _ => none }
def SynodAgreesWrongFalsely : Prop := synodAgreesRow.holds Try.pinned (OpenSpec.ofChange synodAgreesWrong)

/- THE SECOND FORM. 'bulk': how many values and letters a reading holds, each counted each time it is reached (what is shared counts as often as it is met; a slice's spare places count too). A statement '..UptoSaid' is the law's where the arguments, and the package variables that the reading takes, are together of bulk at most 1048576: NARROWER than '..Said'. Prove '..Said' where nothing that the law and all that it calls make is longer than what came in: it says more and counts as full. Else prove '..UptoSaid'. A law counts once. -/
mutual
def uptoBulk {H : Type} : DataW H → Nat
  | .lit (.string bytes) => bytes.length + 1
  | .lit _ => 1
  | .nil => 1
  | .ptr d => uptoBulk d + 1
  | .slice elems spare => uptoBulkAll elems + uptoBulkAll spare + 1
  | .agg parts => uptoBulkAll parts + 1
  | .iface _ d => uptoBulk d + 1
  | .map entries => uptoBulkEntries entries + 1
  | .held _ => 1
def uptoBulkAll {H : Type} : List (DataW H) → Nat
  | [] => 0
  | d :: r => uptoBulk d + uptoBulkAll r
def uptoBulkEntries {H : Type} : List (Lit × DataW H) → Nat
  | [] => 0
  | x :: r => uptoBulkEntry x + uptoBulkEntries r
def uptoBulkEntry {H : Type} : Lit × DataW H → Nat
  | (.string bytes, d) => bytes.length + uptoBulk d + 1
  | (_, d) => uptoBulk d + 1
 end
def uptoSmall : (H : Type) → List (DataW H) → Bool := fun _ ds => decide (uptoBulkAll ds ≤ 1048576)
def OpenSpec.upto (s : _root_.Go.ChangeSpec) : _root_.Go.OpenSpec := { _root_.Go.OpenSpec.ofChange s with cond := some uptoSmall }

/-- 'paddocklaw11.SynodTakes', WHERE WHAT IT READS IS OF BULK AT MOST 1048576: true; the input reads as it did. -/
def synodTakesUptoRow : OpenClaim := { program := "ytlcgnjcfihablaa", sum := "7100ee67e10a1f617387c821d29b5112f1b73be0f142787a0269022889cfe177", func := "paddock/paddocklaw11.SynodTakes", spec := "synodTakes", unfollowed := true, recurses := true, apart := false, narrowed := true }
def SynodTakesUptoSaid : Prop := synodTakesUptoRow.holds Try.pinned (OpenSpec.upto synodTakesSpec)

/-- 'paddocklaw11.SynodHears', WHERE WHAT IT READS IS OF BULK AT MOST 1048576: true; the input reads as it did. -/
def synodHearsUptoRow : OpenClaim := { program := "ytlcgnjcfihablaa", sum := "7100ee67e10a1f617387c821d29b5112f1b73be0f142787a0269022889cfe177", func := "paddock/paddocklaw11.SynodHears", spec := "synodHears", unfollowed := true, recurses := true, apart := false, narrowed := true }
def SynodHearsUptoSaid : Prop := synodHearsUptoRow.holds Try.pinned (OpenSpec.upto synodHearsSpec)

/-- 'paddocklaw11.SynodPlays', WHERE WHAT IT READS IS OF BULK AT MOST 1048576: true; the input reads as it did. -/
def synodPlaysUptoRow : OpenClaim := { program := "ytlcgnjcfihablaa", sum := "7100ee67e10a1f617387c821d29b5112f1b73be0f142787a0269022889cfe177", func := "paddock/paddocklaw11.SynodPlays", spec := "synodPlays", unfollowed := true, recurses := true, apart := false, narrowed := true }
def SynodPlaysUptoSaid : Prop := synodPlaysUptoRow.holds Try.pinned (OpenSpec.upto synodPlaysSpec)

/-- 'paddocklaw11.SynodStarts', WHERE WHAT IT READS IS OF BULK AT MOST 1048576: true; the input reads as it did. -/
def synodStartsUptoRow : OpenClaim := { program := "ytlcgnjcfihablaa", sum := "7100ee67e10a1f617387c821d29b5112f1b73be0f142787a0269022889cfe177", func := "paddock/paddocklaw11.SynodStarts", spec := "synodStarts", unfollowed := true, recurses := true, apart := false, narrowed := true }
def SynodStartsUptoSaid : Prop := synodStartsUptoRow.holds Try.pinned (OpenSpec.upto synodStartsSpec)

/-- 'paddocklaw17.WatchPlays', WHERE WHAT IT READS IS OF BULK AT MOST 1048576: true; the input reads as it did. -/
def watchPlaysUptoRow : OpenClaim := { program := "ytlcgnjcfihablaa", sum := "7100ee67e10a1f617387c821d29b5112f1b73be0f142787a0269022889cfe177", func := "paddock/paddocklaw17.WatchPlays", spec := "watchPlays", unfollowed := true, recurses := true, apart := false, narrowed := true }
def WatchPlaysUptoSaid : Prop := watchPlaysUptoRow.holds Try.pinned (OpenSpec.upto watchPlaysSpec)

/-- 'paddocklaw17.ReportsPlay', WHERE WHAT IT READS IS OF BULK AT MOST 1048576: true; the input reads as it did. -/
def reportsPlayUptoRow : OpenClaim := { program := "ytlcgnjcfihablaa", sum := "7100ee67e10a1f617387c821d29b5112f1b73be0f142787a0269022889cfe177", func := "paddock/paddocklaw17.ReportsPlay", spec := "reportsPlay", unfollowed := true, recurses := true, apart := false, narrowed := true }
def ReportsPlayUptoSaid : Prop := reportsPlayUptoRow.holds Try.pinned (OpenSpec.upto reportsPlaySpec)

/-- 'paddocklaw17.ReportsAlone', WHERE WHAT IT READS IS OF BULK AT MOST 1048576: true; the input reads as it did. -/
def reportsAloneUptoRow : OpenClaim := { program := "ytlcgnjcfihablaa", sum := "7100ee67e10a1f617387c821d29b5112f1b73be0f142787a0269022889cfe177", func := "paddock/paddocklaw17.ReportsAlone", spec := "reportsAlone", unfollowed := true, recurses := true, apart := false, narrowed := true }
def ReportsAloneUptoSaid : Prop := reportsAloneUptoRow.holds Try.pinned (OpenSpec.upto reportsAloneSpec)

/-- 'paddocklaw17.WatchResets', WHERE WHAT IT READS IS OF BULK AT MOST 1048576: true; the input reads as it did. -/
def watchResetsUptoRow : OpenClaim := { program := "ytlcgnjcfihablaa", sum := "7100ee67e10a1f617387c821d29b5112f1b73be0f142787a0269022889cfe177", func := "paddock/paddocklaw17.WatchResets", spec := "watchResets", unfollowed := true, recurses := true, apart := false, narrowed := true }
def WatchResetsUptoSaid : Prop := watchResetsUptoRow.holds Try.pinned (OpenSpec.upto watchResetsSpec)

/-- 'paddocklaw11.SynodAgrees', WHERE WHAT IT READS IS OF BULK AT MOST 1048576: true; the input reads as it did. -/
def synodAgreesUptoRow : OpenClaim := { program := "ytlcgnjcfihablaa", sum := "7100ee67e10a1f617387c821d29b5112f1b73be0f142787a0269022889cfe177", func := "paddock/paddocklaw11.SynodAgrees", spec := "synodAgrees", unfollowed := true, recurses := true, apart := false, narrowed := true }
def SynodAgreesUptoSaid : Prop := synodAgreesUptoRow.holds Try.pinned (OpenSpec.upto synodAgreesSpec)

end Rows
end Go.Proofs.Ytlcgnjcfihablaa
