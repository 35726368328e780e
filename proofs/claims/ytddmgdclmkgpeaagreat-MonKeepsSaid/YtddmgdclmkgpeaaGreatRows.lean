/-
  No cell of these rows narrows 'for every input' (looked for: loops, veiled, ifaces, maps, wideKeys, modest, calm, conditions, laid).
  DERIVED. THE GIVEN ROWS OF THIS SEAT. 9 by the template 'for every input the law returns true; each argument reads behind the call as it read before'; 0 by the template 'total and deterministic' (their statements: YtddmgdclmkgpeaaGreatTotals.lean).
  GIVEN WITH THE SEED: the statements are not yours to turn. If you find one false, say at which input.
  Laid BY PROGRAM, IN A SANDBOX (cutbox-rows.mjs): the forced cells as the released guide's own fill.sh prints them over the translation a539f6354f030cda… (all of the seat's roots in one cut). By AI agents, Wed Nov 11 2026. No macro, syntax, notation, axiom, sorry.
-/
import Derived.Test.YtddmgdclmkgpeaaGreatChecked
import GoSem.Claim
import GoSem.ClaimJoined
import GoSem.ClaimMapViews
import Derived.JoinedTies
import Derived.KernelRfl
namespace Go.Proofs.YtddmgdclmkgpeaaGreat
/- THE CELL 'sum', in the pinned program and in every row, IS THE sha256 OF THE DUMP (.gsa) THAT YtddmgdclmkgpeaaGreatProg.lean LOADS. Nothing in Lean hashes anything: it is a label: what it is worth is what the hold of that sum in a sandbox is worth. -/
noncomputable def Tryz.pinned : Pinned := { name := "ytddmgdclmkgpeaagreat", sum := "a539f6354f030cda151a5b6cd020398110eeb213ba7397f7e1f08a233b89fe10", checked := Tryz.checked }
namespace Rows
def none {H : Type} : Left H := { results := [], args := [] }

/-- 'paddocklaw18.MonKeeps': WHATEVER THE INPUT: true; the input reads as it did. -/
def monKeepsSpec : ChangeSpec := { name := "monKeeps", fn := fun _ => fun
  | [d1, d2] => { results := [.lit (.bool true)], args := [d1, d2] }
  | _ => none }
def monKeepsRow : OpenClaim := { program := "ytddmgdclmkgpeaagreat", sum := "a539f6354f030cda151a5b6cd020398110eeb213ba7397f7e1f08a233b89fe10", func := "paddock/paddocklaw18.MonKeeps", spec := "monKeeps", unfollowed := true, recurses := true, apart := false }
def MonKeepsSaid : Prop := monKeepsRow.holds Tryz.pinned (OpenSpec.ofChange monKeepsSpec)

/-- ITS FALSE NEIGHBOUR: 'it returns false'. Refute it at one input. -/
def monKeepsWrong : ChangeSpec := { name := "monKeeps", fn := fun _ => fun
  | [d1, d2] => { results := [.lit (.bool false)], args := [d1, d2] }
  | _ => none }
def MonKeepsWrongFalsely : Prop := monKeepsRow.holds Tryz.pinned (OpenSpec.ofChange monKeepsWrong)

/-- 'paddocklaw18.MonWish': WHATEVER THE INPUT: true; the input reads as it did. -/
def monWishSpec : ChangeSpec := { name := "monWish", fn := fun _ => fun
  | [d1, d2] => { results := [.lit (.bool true)], args := [d1, d2] }
  | _ => none }
def monWishRow : OpenClaim := { program := "ytddmgdclmkgpeaagreat", sum := "a539f6354f030cda151a5b6cd020398110eeb213ba7397f7e1f08a233b89fe10", func := "paddock/paddocklaw18.MonWish", spec := "monWish", unfollowed := true, recurses := true, apart := false }
def MonWishSaid : Prop := monWishRow.holds Tryz.pinned (OpenSpec.ofChange monWishSpec)

/-- ITS FALSE NEIGHBOUR: 'it returns false'. Refute it at one input. -/
def monWishWrong : ChangeSpec := { name := "monWish", fn := fun _ => fun
  | [d1, d2] => { results := [.lit (.bool false)], args := [d1, d2] }
  | _ => none }
def MonWishWrongFalsely : Prop := monWishRow.holds Tryz.pinned (OpenSpec.ofChange monWishWrong)

/-- 'paddocklaw18.MonReports': WHATEVER THE INPUT: true; the input reads as it did. -/
def monReportsSpec : ChangeSpec := { name := "monReports", fn := fun _ => fun
  | [d1, d2, d3] => { results := [.lit (.bool true)], args := [d1, d2, d3] }
  | _ => none }
def monReportsRow : OpenClaim := { program := "ytddmgdclmkgpeaagreat", sum := "a539f6354f030cda151a5b6cd020398110eeb213ba7397f7e1f08a233b89fe10", func := "paddock/paddocklaw18.MonReports", spec := "monReports", unfollowed := true, recurses := true, apart := false }
def MonReportsSaid : Prop := monReportsRow.holds Tryz.pinned (OpenSpec.ofChange monReportsSpec)

/-- ITS FALSE NEIGHBOUR: 'it returns false'. Refute it at one input. -/
def monReportsWrong : ChangeSpec := { name := "monReports", fn := fun _ => fun
  | [d1, d2, d3] => { results := [.lit (.bool false)], args := [d1, d2, d3] }
  | _ => none }
def MonReportsWrongFalsely : Prop := monReportsRow.holds Tryz.pinned (OpenSpec.ofChange monReportsWrong)

/-- 'paddocklaw18.MonTells': WHATEVER THE INPUT: true; the input reads as it did. -/
def monTellsSpec : ChangeSpec := { name := "monTells", fn := fun _ => fun
  | [d1, d2, d3] => { results := [.lit (.bool true)], args := [d1, d2, d3] }
  | _ => none }
def monTellsRow : OpenClaim := { program := "ytddmgdclmkgpeaagreat", sum := "a539f6354f030cda151a5b6cd020398110eeb213ba7397f7e1f08a233b89fe10", func := "paddock/paddocklaw18.MonTells", spec := "monTells", unfollowed := true, recurses := true, apart := false }
def MonTellsSaid : Prop := monTellsRow.holds Tryz.pinned (OpenSpec.ofChange monTellsSpec)

/-- ITS FALSE NEIGHBOUR: 'it returns false'. Refute it at one input. -/
def monTellsWrong : ChangeSpec := { name := "monTells", fn := fun _ => fun
  | [d1, d2, d3] => { results := [.lit (.bool false)], args := [d1, d2, d3] }
  | _ => none }
def MonTellsWrongFalsely : Prop := monTellsRow.holds Tryz.pinned (OpenSpec.ofChange monTellsWrong)

/-- 'paddocklaw18.MonsAgree': WHATEVER THE INPUT: true; the input reads as it did. -/
def monsAgreeSpec : ChangeSpec := { name := "monsAgree", fn := fun _ => fun
  | [d] => { results := [.lit (.bool true)], args := [d] }
  | _ => none }
def monsAgreeRow : OpenClaim := { program := "ytddmgdclmkgpeaagreat", sum := "a539f6354f030cda151a5b6cd020398110eeb213ba7397f7e1f08a233b89fe10", func := "paddock/paddocklaw18.MonsAgree", spec := "monsAgree", unfollowed := true, recurses := true, apart := false }
def MonsAgreeSaid : Prop := monsAgreeRow.holds Tryz.pinned (OpenSpec.ofChange monsAgreeSpec)

/-- ITS FALSE NEIGHBOUR: 'it returns false'. Refute it at one input. -/
def monsAgreeWrong : ChangeSpec := { name := "monsAgree", fn := fun _ => fun
  | [d] => { results := [.lit (.bool false)], args := [d] }
  | _ => none }
def MonsAgreeWrongFalsely : Prop := monsAgreeRow.holds Tryz.pinned (OpenSpec.ofChange monsAgreeWrong)

/-- 'paddocklaw18.MonLoads': WHATEVER THE INPUT: true; the input reads as it did. -/
def monLoadsSpec : ChangeSpec := { name := "monLoads", fn := fun _ => fun
  | [d1, d2, d3, d4] => { results := [.lit (.bool true)], args := [d1, d2, d3, d4] }
  | _ => none }
def monLoadsRow : OpenClaim := { program := "ytddmgdclmkgpeaagreat", sum := "a539f6354f030cda151a5b6cd020398110eeb213ba7397f7e1f08a233b89fe10", func := "paddock/paddocklaw18.MonLoads", spec := "monLoads", unfollowed := true, recurses := true, apart := false }
def MonLoadsSaid : Prop := monLoadsRow.holds Tryz.pinned (OpenSpec.ofChange monLoadsSpec)

/-- ITS FALSE NEIGHBOUR: 'it returns false'. Refute it at one input. -/
def monLoadsWrong : ChangeSpec := { name := "monLoads", fn := fun _ => fun
  | [d1, d2, d3, d4] => { results := [.lit (.bool false)], args := [d1, d2, d3, d4] }
  | _ => none }
def MonLoadsWrongFalsely : Prop := monLoadsRow.holds Tryz.pinned (OpenSpec.ofChange monLoadsWrong)

/-- 'paddocklaw18.MonsRace': WHATEVER THE INPUT: true; the input reads as it did. -/
def monsRaceSpec : ChangeSpec := { name := "monsRace", fn := fun _ => fun
  | [d] => { results := [.lit (.bool true)], args := [d] }
  | _ => none }
def monsRaceRow : OpenClaim := { program := "ytddmgdclmkgpeaagreat", sum := "a539f6354f030cda151a5b6cd020398110eeb213ba7397f7e1f08a233b89fe10", func := "paddock/paddocklaw18.MonsRace", spec := "monsRace", unfollowed := true, recurses := true, apart := false }
def MonsRaceSaid : Prop := monsRaceRow.holds Tryz.pinned (OpenSpec.ofChange monsRaceSpec)

/-- ITS FALSE NEIGHBOUR: 'it returns false'. Refute it at one input. -/
def monsRaceWrong : ChangeSpec := { name := "monsRace", fn := fun _ => fun
  | [d] => { results := [.lit (.bool false)], args := [d] }
  | _ => none }
def MonsRaceWrongFalsely : Prop := monsRaceRow.holds Tryz.pinned (OpenSpec.ofChange monsRaceWrong)

/-- 'paddocklaw18.MonLate': WHATEVER THE INPUT: true; the input reads as it did. -/
def monLateSpec : ChangeSpec := { name := "monLate", fn := fun _ => fun
  | [d1, d2] => { results := [.lit (.bool true)], args := [d1, d2] }
  | _ => none }
def monLateRow : OpenClaim := { program := "ytddmgdclmkgpeaagreat", sum := "a539f6354f030cda151a5b6cd020398110eeb213ba7397f7e1f08a233b89fe10", func := "paddock/paddocklaw18.MonLate", spec := "monLate", unfollowed := true, recurses := true, apart := false }
def MonLateSaid : Prop := monLateRow.holds Tryz.pinned (OpenSpec.ofChange monLateSpec)

/-- ITS FALSE NEIGHBOUR: 'it returns false'. Refute it at one input. -/
def monLateWrong : ChangeSpec := { name := "monLate", fn := fun _ => fun
  | [d1, d2] => { results := [.lit (.bool false)], args := [d1, d2] }
  | _ => none }
def MonLateWrongFalsely : Prop := monLateRow.holds Tryz.pinned (OpenSpec.ofChange monLateWrong)

/-- 'paddocklaw18.MonPlays': WHATEVER THE INPUT: true; the input reads as it did. -/
def monPlaysSpec : ChangeSpec := { name := "monPlays", fn := fun _ => fun
  | [d1, d2] => { results := [.lit (.bool true)], args := [d1, d2] }
  | _ => none }
def monPlaysRow : OpenClaim := { program := "ytddmgdclmkgpeaagreat", sum := "a539f6354f030cda151a5b6cd020398110eeb213ba7397f7e1f08a233b89fe10", func := "paddock/paddocklaw18.MonPlays", spec := "monPlays", inPlace := ["maps.clone"], unfollowed := true, recurses := true, apart := false }
def MonPlaysSaid : Prop := monPlaysRow.holds Tryz.pinned (OpenSpec.ofChange monPlaysSpec)

/-- ITS FALSE NEIGHBOUR: 'it returns false'. Refute it at one input. -/
def monPlaysWrong : ChangeSpec := { name := "monPlays", fn := fun _ => fun
  | [d1, d2] => { results := [.lit (.bool false)], args := [d1, d2] }
  | _ => none }
def MonPlaysWrongFalsely : Prop := monPlaysRow.holds Tryz.pinned (OpenSpec.ofChange monPlaysWrong)

/- THE SECOND FORM. 'bulk': how many values and letters a reading holds, each counted each time it is reached (what is shared counts as often as it is met; a slice's spare places count too). A statement '..UptoSaid' is the law's where the arguments, and the package variables that the reading takes, are together of bulk at most 1048576: NARROWER than '..Said'. Prove '..Said' where nothing that the law and all that it calls make is longer than what came in: it says more and counts as full. Else prove '..UptoSaid'. A law counts once. -/
mutual
def uptoBulk {H : Type} : DataW H → Nat
  | .lit (.string bytes) => bytes.length + 1
  | .lit _ => 1
  | .nil => 1
  | .ptr d => uptoBulk d + 1
  | .slice elems spare => uptoBulkAll elems + uptoBulkAll spare + 1
  | .agg parts => uptoBulkAll parts + 1
  | .iface _ d => uptoBulk d + 1
  | .map entries => uptoBulkEntries entries + 1
  | .held _ => 1
def uptoBulkAll {H : Type} : List (DataW H) → Nat
  | [] => 0
  | d :: r => uptoBulk d + uptoBulkAll r
def uptoBulkEntries {H : Type} : List (Lit × DataW H) → Nat
  | [] => 0
  | x :: r => uptoBulkEntry x + uptoBulkEntries r
def uptoBulkEntry {H : Type} : Lit × DataW H → Nat
  | (.string bytes, d) => bytes.length + uptoBulk d + 1
  | (_, d) => uptoBulk d + 1
 end
def uptoSmall : (H : Type) → List (DataW H) → Bool := fun _ ds => decide (uptoBulkAll ds ≤ 1048576)
def OpenSpec.upto (s : _root_.Go.ChangeSpec) : _root_.Go.OpenSpec := { _root_.Go.OpenSpec.ofChange s with cond := some uptoSmall }

/-- 'paddocklaw18.MonKeeps', WHERE WHAT IT READS IS OF BULK AT MOST 1048576: true; the input reads as it did. -/
def monKeepsUptoRow : OpenClaim := { program := "ytddmgdclmkgpeaagreat", sum := "a539f6354f030cda151a5b6cd020398110eeb213ba7397f7e1f08a233b89fe10", func := "paddock/paddocklaw18.MonKeeps", spec := "monKeeps", unfollowed := true, recurses := true, apart := false, narrowed := true }
def MonKeepsUptoSaid : Prop := monKeepsUptoRow.holds Tryz.pinned (OpenSpec.upto monKeepsSpec)

/-- 'paddocklaw18.MonWish', WHERE WHAT IT READS IS OF BULK AT MOST 1048576: true; the input reads as it did. -/
def monWishUptoRow : OpenClaim := { program := "ytddmgdclmkgpeaagreat", sum := "a539f6354f030cda151a5b6cd020398110eeb213ba7397f7e1f08a233b89fe10", func := "paddock/paddocklaw18.MonWish", spec := "monWish", unfollowed := true, recurses := true, apart := false, narrowed := true }
def MonWishUptoSaid : Prop := monWishUptoRow.holds Tryz.pinned (OpenSpec.upto monWishSpec)

/-- 'paddocklaw18.MonReports', WHERE WHAT IT READS IS OF BULK AT MOST 1048576: true; the input reads as it did. -/
def monReportsUptoRow : OpenClaim := { program := "ytddmgdclmkgpeaagreat", sum := "a539f6354f030cda151a5b6cd020398110eeb213ba7397f7e1f08a233b89fe10", func := "paddock/paddocklaw18.MonReports", spec := "monReports", unfollowed := true, recurses := true, apart := false, narrowed := true }
def MonReportsUptoSaid : Prop := monReportsUptoRow.holds Tryz.pinned (OpenSpec.upto monReportsSpec)

/-- 'paddocklaw18.MonTells', WHERE WHAT IT READS IS OF BULK AT MOST 1048576: true; the input reads as it did. -/
def monTellsUptoRow : OpenClaim := { program := "ytddmgdclmkgpeaagreat", sum := "a539f6354f030cda151a5b6cd020398110eeb213ba7397f7e1f08a233b89fe10", func := "paddock/paddocklaw18.MonTells", spec := "monTells", unfollowed := true, recurses := true, apart := false, narrowed := true }
def MonTellsUptoSaid : Prop := monTellsUptoRow.holds Tryz.pinned (OpenSpec.upto monTellsSpec)

/-- 'paddocklaw18.MonsAgree', WHERE WHAT IT READS IS OF BULK AT MOST 1048576: true; the input reads as it did. -/
def monsAgreeUptoRow : OpenClaim := { program := "ytddmgdclmkgpeaagreat", sum := "a539f6354f030cda151a5b6cd020398110eeb213ba7397f7e1f08a233b89fe10", func := "paddock/paddocklaw18.MonsAgree", spec := "monsAgree", unfollowed := true, recurses := true, apart := false, narrowed := true }
def MonsAgreeUptoSaid : Prop := monsAgreeUptoRow.holds Tryz.pinned (OpenSpec.upto monsAgreeSpec)

/-- 'paddocklaw18.MonLoads', WHERE WHAT IT READS IS OF BULK AT MOST 1048576: true; the input reads as it did. -/
def monLoadsUptoRow : OpenClaim := { program := "ytddmgdclmkgpeaagreat", sum := "a539f6354f030cda151a5b6cd020398110eeb213ba7397f7e1f08a233b89fe10", func := "paddock/paddocklaw18.MonLoads", spec := "monLoads", unfollowed := true, recurses := true, apart := false, narrowed := true }
def MonLoadsUptoSaid : Prop := monLoadsUptoRow.holds Tryz.pinned (OpenSpec.upto monLoadsSpec)

/-- 'paddocklaw18.MonsRace', WHERE WHAT IT READS IS OF BULK AT MOST 1048576: true; the input reads as it did. -/
def monsRaceUptoRow : OpenClaim := { program := "ytddmgdclmkgpeaagreat", sum := "a539f6354f030cda151a5b6cd020398110eeb213ba7397f7e1f08a233b89fe10", func := "paddock/paddocklaw18.MonsRace", spec := "monsRace", unfollowed := true, recurses := true, apart := false, narrowed := true }
def MonsRaceUptoSaid : Prop := monsRaceUptoRow.holds Tryz.pinned (OpenSpec.upto monsRaceSpec)

/-- 'paddocklaw18.MonLate', WHERE WHAT IT READS IS OF BULK AT MOST 1048576: true; the input reads as it did. -/
def monLateUptoRow : OpenClaim := { program := "ytddmgdclmkgpeaagreat", sum := "a539f6354f030cda151a5b6cd020398110eeb213ba7397f7e1f08a233b89fe10", func := "paddock/paddocklaw18.MonLate", spec := "monLate", unfollowed := true, recurses := true, apart := false, narrowed := true }
def MonLateUptoSaid : Prop := monLateUptoRow.holds Tryz.pinned (OpenSpec.upto monLateSpec)

/-- 'paddocklaw18.MonPlays', WHERE WHAT IT READS IS OF BULK AT MOST 1048576: true; the input reads as it did. -/
def monPlaysUptoRow : OpenClaim := { program := "ytddmgdclmkgpeaagreat", sum := "a539f6354f030cda151a5b6cd020398110eeb213ba7397f7e1f08a233b89fe10", func := "paddock/paddocklaw18.MonPlays", spec := "monPlays", inPlace := ["maps.clone"], unfollowed := true, recurses := true, apart := false, narrowed := true }
def MonPlaysUptoSaid : Prop := monPlaysUptoRow.holds Tryz.pinned (OpenSpec.upto monPlaysSpec)

end Rows
end Go.Proofs.YtddmgdclmkgpeaaGreat
