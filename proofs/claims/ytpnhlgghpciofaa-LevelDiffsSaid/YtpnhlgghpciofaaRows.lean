/-
  No cell of these rows narrows 'for every input' (looked for: loops, veiled, ifaces, maps, wideKeys, modest, calm, conditions, laid).
  DERIVED. THE GIVEN ROWS OF THIS SEAT. 12 by the template 'for every input the law returns true; each argument reads behind the call as it read before'; 0 by the template 'total and deterministic' (their statements: YtpnhlgghpciofaaTotals.lean).
  GIVEN WITH THE SEED: the statements are not yours to turn. If you find one false, say at which input.
  Laid BY PROGRAM, IN A SANDBOX (cutbox-rows.mjs): the forced cells as the released guide's own fill.sh prints them over the translation eb619d9a2081dbca… (all of the seat's roots in one cut). By AI agents, Wed Nov 11 2026. No macro, syntax, notation, axiom, sorry.
-/
import Derived.Test.YtpnhlgghpciofaaChecked
import GoSem.Claim
import GoSem.ClaimJoined
import GoSem.ClaimMapViews
import Derived.JoinedTies
import Derived.KernelRfl
namespace Go.Proofs.Ytpnhlgghpciofaa
/- THE CELL 'sum', in the pinned program and in every row, IS THE sha256 OF THE DUMP (.gsa) THAT YtpnhlgghpciofaaProg.lean LOADS. Nothing in Lean hashes anything: it is a label: what it is worth is what the hold of that sum in a sandbox is worth. -/
noncomputable def Try.pinned : Pinned := { name := "ytpnhlgghpciofaa", sum := "eb619d9a2081dbca77f8cb8c8f82807ee753d2484570fa7b467f24a83a8957f3", checked := Try.checked }
namespace Rows
def none {H : Type} : Left H := { results := [], args := [] }

/-- 'halyardlaw17.PickSplits': WHATEVER THE INPUT: true; the input reads as it did. -/
def pickSplitsSpec : ChangeSpec := { name := "pickSplits", fn := fun _ => fun
  | [d] => { results := [.lit (.bool true)], args := [d] }
  | _ => none }
def pickSplitsRow : OpenClaim := { program := "ytpnhlgghpciofaa", sum := "eb619d9a2081dbca77f8cb8c8f82807ee753d2484570fa7b467f24a83a8957f3", func := "halyard/halyardlaw17.PickSplits", spec := "pickSplits", apart := false }
def PickSplitsSaid : Prop := pickSplitsRow.holds Try.pinned (OpenSpec.ofChange pickSplitsSpec)

/-- ITS FALSE NEIGHBOUR: 'it returns false'. Refute it at one input. -/
def pickSplitsWrong : ChangeSpec := { name := "pickSplits", fn := fun _ => fun
  | [d] => { results := [.lit (.bool false)], args := [d] }
  | _ => none }
def PickSplitsWrongFalsely : Prop := pickSplitsRow.holds Try.pinned (OpenSpec.ofChange pickSplitsWrong)

/-- 'halyardlaw17.PickSums': WHATEVER THE INPUT: true; the input reads as it did. -/
def pickSumsSpec : ChangeSpec := { name := "pickSums", fn := fun _ => fun
  | [d] => { results := [.lit (.bool true)], args := [d] }
  | _ => none }
def pickSumsRow : OpenClaim := { program := "ytpnhlgghpciofaa", sum := "eb619d9a2081dbca77f8cb8c8f82807ee753d2484570fa7b467f24a83a8957f3", func := "halyard/halyardlaw17.PickSums", spec := "pickSums", apart := false }
def PickSumsSaid : Prop := pickSumsRow.holds Try.pinned (OpenSpec.ofChange pickSumsSpec)

/-- ITS FALSE NEIGHBOUR: 'it returns false'. Refute it at one input. -/
def pickSumsWrong : ChangeSpec := { name := "pickSums", fn := fun _ => fun
  | [d] => { results := [.lit (.bool false)], args := [d] }
  | _ => none }
def PickSumsWrongFalsely : Prop := pickSumsRow.holds Try.pinned (OpenSpec.ofChange pickSumsWrong)

/-- 'halyardlaw17.PickFull': WHATEVER THE INPUT: true; the input reads as it did. -/
def pickFullSpec : ChangeSpec := { name := "pickFull", fn := fun _ => fun
  | [d1, d2] => { results := [.lit (.bool true)], args := [d1, d2] }
  | _ => none }
def pickFullRow : OpenClaim := { program := "ytpnhlgghpciofaa", sum := "eb619d9a2081dbca77f8cb8c8f82807ee753d2484570fa7b467f24a83a8957f3", func := "halyard/halyardlaw17.PickFull", spec := "pickFull", apart := false }
def PickFullSaid : Prop := pickFullRow.holds Try.pinned (OpenSpec.ofChange pickFullSpec)

/-- ITS FALSE NEIGHBOUR: 'it returns false'. Refute it at one input. -/
def pickFullWrong : ChangeSpec := { name := "pickFull", fn := fun _ => fun
  | [d1, d2] => { results := [.lit (.bool false)], args := [d1, d2] }
  | _ => none }
def PickFullWrongFalsely : Prop := pickFullRow.holds Try.pinned (OpenSpec.ofChange pickFullWrong)

/-- 'halyardlaw17.PickApart': WHATEVER THE INPUT: true; the input reads as it did. -/
def pickApartSpec : ChangeSpec := { name := "pickApart", fn := fun _ => fun
  | [d] => { results := [.lit (.bool true)], args := [d] }
  | _ => none }
def pickApartRow : OpenClaim := { program := "ytpnhlgghpciofaa", sum := "eb619d9a2081dbca77f8cb8c8f82807ee753d2484570fa7b467f24a83a8957f3", func := "halyard/halyardlaw17.PickApart", spec := "pickApart", inPlace := ["internal/bytealg.Compare"], unfollowed := true, recurses := true, apart := false }
def PickApartSaid : Prop := pickApartRow.holds Try.pinned (OpenSpec.ofChange pickApartSpec)

/-- ITS FALSE NEIGHBOUR: 'it returns false'. Refute it at one input. -/
def pickApartWrong : ChangeSpec := { name := "pickApart", fn := fun _ => fun
  | [d] => { results := [.lit (.bool false)], args := [d] }
  | _ => none }
def PickApartWrongFalsely : Prop := pickApartRow.holds Try.pinned (OpenSpec.ofChange pickApartWrong)

/-- 'halyardlaw17.PickNext': WHATEVER THE INPUT: true; the input reads as it did. -/
def pickNextSpec : ChangeSpec := { name := "pickNext", fn := fun _ => fun
  | [d1, d2] => { results := [.lit (.bool true)], args := [d1, d2] }
  | _ => none }
def pickNextRow : OpenClaim := { program := "ytpnhlgghpciofaa", sum := "eb619d9a2081dbca77f8cb8c8f82807ee753d2484570fa7b467f24a83a8957f3", func := "halyard/halyardlaw17.PickNext", spec := "pickNext", inPlace := ["internal/bytealg.Compare"], apart := false }
def PickNextSaid : Prop := pickNextRow.holds Try.pinned (OpenSpec.ofChange pickNextSpec)

/-- ITS FALSE NEIGHBOUR: 'it returns false'. Refute it at one input. -/
def pickNextWrong : ChangeSpec := { name := "pickNext", fn := fun _ => fun
  | [d1, d2] => { results := [.lit (.bool false)], args := [d1, d2] }
  | _ => none }
def PickNextWrongFalsely : Prop := pickNextRow.holds Try.pinned (OpenSpec.ofChange pickNextWrong)

/-- 'halyardlaw15.LevelMay': WHATEVER THE INPUT: true; the input reads as it did. -/
def levelMaySpec : ChangeSpec := { name := "levelMay", fn := fun _ => fun
  | [d] => { results := [.lit (.bool true)], args := [d] }
  | _ => none }
def levelMayRow : OpenClaim := { program := "ytpnhlgghpciofaa", sum := "eb619d9a2081dbca77f8cb8c8f82807ee753d2484570fa7b467f24a83a8957f3", func := "halyard/halyardlaw15.LevelMay", spec := "levelMay", inPlace := ["internal/bytealg.Compare"], unfollowed := true, recurses := true, apart := false }
def LevelMaySaid : Prop := levelMayRow.holds Try.pinned (OpenSpec.ofChange levelMaySpec)

/-- ITS FALSE NEIGHBOUR: 'it returns false'. Refute it at one input. -/
def levelMayWrong : ChangeSpec := { name := "levelMay", fn := fun _ => fun
  | [d] => { results := [.lit (.bool false)], args := [d] }
  | _ => none }
def LevelMayWrongFalsely : Prop := levelMayRow.holds Try.pinned (OpenSpec.ofChange levelMayWrong)

/-- 'halyardlaw15.LevelApplies': WHATEVER THE INPUT: true; the input reads as it did. -/
def levelAppliesSpec : ChangeSpec := { name := "levelApplies", fn := fun _ => fun
  | [d1, d2] => { results := [.lit (.bool true)], args := [d1, d2] }
  | _ => none }
def levelAppliesRow : OpenClaim := { program := "ytpnhlgghpciofaa", sum := "eb619d9a2081dbca77f8cb8c8f82807ee753d2484570fa7b467f24a83a8957f3", func := "halyard/halyardlaw15.LevelApplies", spec := "levelApplies", inPlace := ["internal/bytealg.Compare"], unfollowed := true, recurses := true, apart := false }
def LevelAppliesSaid : Prop := levelAppliesRow.holds Try.pinned (OpenSpec.ofChange levelAppliesSpec)

/-- ITS FALSE NEIGHBOUR: 'it returns false'. Refute it at one input. -/
def levelAppliesWrong : ChangeSpec := { name := "levelApplies", fn := fun _ => fun
  | [d1, d2] => { results := [.lit (.bool false)], args := [d1, d2] }
  | _ => none }
def LevelAppliesWrongFalsely : Prop := levelAppliesRow.holds Try.pinned (OpenSpec.ofChange levelAppliesWrong)

/-- 'halyardlaw15.LevelPlays': WHATEVER THE INPUT: true; the input reads as it did. -/
def levelPlaysSpec : ChangeSpec := { name := "levelPlays", fn := fun _ => fun
  | [d] => { results := [.lit (.bool true)], args := [d] }
  | _ => none }
def levelPlaysRow : OpenClaim := { program := "ytpnhlgghpciofaa", sum := "eb619d9a2081dbca77f8cb8c8f82807ee753d2484570fa7b467f24a83a8957f3", func := "halyard/halyardlaw15.LevelPlays", spec := "levelPlays", inPlace := ["internal/bytealg.Compare"], unfollowed := true, recurses := true, apart := false }
def LevelPlaysSaid : Prop := levelPlaysRow.holds Try.pinned (OpenSpec.ofChange levelPlaysSpec)

/-- ITS FALSE NEIGHBOUR: 'it returns false'. Refute it at one input. -/
def levelPlaysWrong : ChangeSpec := { name := "levelPlays", fn := fun _ => fun
  | [d] => { results := [.lit (.bool false)], args := [d] }
  | _ => none }
def LevelPlaysWrongFalsely : Prop := levelPlaysRow.holds Try.pinned (OpenSpec.ofChange levelPlaysWrong)

/-- 'halyardlaw15.LevelLooks': WHATEVER THE INPUT: true; the input reads as it did. -/
def levelLooksSpec : ChangeSpec := { name := "levelLooks", fn := fun _ => fun
  | [d1, d2, d3, d4] => { results := [.lit (.bool true)], args := [d1, d2, d3, d4] }
  | _ => none }
def levelLooksRow : OpenClaim := { program := "ytpnhlgghpciofaa", sum := "eb619d9a2081dbca77f8cb8c8f82807ee753d2484570fa7b467f24a83a8957f3", func := "halyard/halyardlaw15.LevelLooks", spec := "levelLooks", inPlace := ["internal/bytealg.Compare"], unfollowed := true, recurses := true, apart := false }
def LevelLooksSaid : Prop := levelLooksRow.holds Try.pinned (OpenSpec.ofChange levelLooksSpec)

/-- ITS FALSE NEIGHBOUR: 'it returns false'. Refute it at one input. -/
def levelLooksWrong : ChangeSpec := { name := "levelLooks", fn := fun _ => fun
  | [d1, d2, d3, d4] => { results := [.lit (.bool false)], args := [d1, d2, d3, d4] }
  | _ => none }
def LevelLooksWrongFalsely : Prop := levelLooksRow.holds Try.pinned (OpenSpec.ofChange levelLooksWrong)

/-- 'halyardlaw15.LevelFinds': WHATEVER THE INPUT: true; the input reads as it did. -/
def levelFindsSpec : ChangeSpec := { name := "levelFinds", fn := fun _ => fun
  | [d1, d2] => { results := [.lit (.bool true)], args := [d1, d2] }
  | _ => none }
def levelFindsRow : OpenClaim := { program := "ytpnhlgghpciofaa", sum := "eb619d9a2081dbca77f8cb8c8f82807ee753d2484570fa7b467f24a83a8957f3", func := "halyard/halyardlaw15.LevelFinds", spec := "levelFinds", inPlace := ["internal/bytealg.Compare"], unfollowed := true, recurses := true, apart := false }
def LevelFindsSaid : Prop := levelFindsRow.holds Try.pinned (OpenSpec.ofChange levelFindsSpec)

/-- ITS FALSE NEIGHBOUR: 'it returns false'. Refute it at one input. -/
def levelFindsWrong : ChangeSpec := { name := "levelFinds", fn := fun _ => fun
  | [d1, d2] => { results := [.lit (.bool false)], args := [d1, d2] }
  | _ => none }
def LevelFindsWrongFalsely : Prop := levelFindsRow.holds Try.pinned (OpenSpec.ofChange levelFindsWrong)

/-- 'halyardlaw15.LevelDiffs': WHATEVER THE INPUT: true; the input reads as it did. -/
def levelDiffsSpec : ChangeSpec := { name := "levelDiffs", fn := fun _ => fun
  | [d1, d2, d3, d4] => { results := [.lit (.bool true)], args := [d1, d2, d3, d4] }
  | _ => none }
def levelDiffsRow : OpenClaim := { program := "ytpnhlgghpciofaa", sum := "eb619d9a2081dbca77f8cb8c8f82807ee753d2484570fa7b467f24a83a8957f3", func := "halyard/halyardlaw15.LevelDiffs", spec := "levelDiffs", inPlace := ["internal/bytealg.Compare"], unfollowed := true, recurses := true, apart := false }
def LevelDiffsSaid : Prop := levelDiffsRow.holds Try.pinned (OpenSpec.ofChange levelDiffsSpec)

/-- ITS FALSE NEIGHBOUR: 'it returns false'. Refute it at one input. -/
def levelDiffsWrong : ChangeSpec := { name := "levelDiffs", fn := fun _ => fun
  | [d1, d2, d3, d4] => { results := [.lit (.bool false)], args := [d1, d2, d3, d4] }
  | _ => none }
def LevelDiffsWrongFalsely : Prop := levelDiffsRow.holds Try.pinned (OpenSpec.ofChange levelDiffsWrong)

/-- 'halyardlaw15.LevelBack': WHATEVER THE INPUT: true; the input reads as it did. -/
def levelBackSpec : ChangeSpec := { name := "levelBack", fn := fun _ => fun
  | [d1, d2] => { results := [.lit (.bool true)], args := [d1, d2] }
  | _ => none }
def levelBackRow : OpenClaim := { program := "ytpnhlgghpciofaa", sum := "eb619d9a2081dbca77f8cb8c8f82807ee753d2484570fa7b467f24a83a8957f3", func := "halyard/halyardlaw15.LevelBack", spec := "levelBack", inPlace := ["internal/bytealg.Compare"], unfollowed := true, recurses := true, apart := false }
def LevelBackSaid : Prop := levelBackRow.holds Try.pinned (OpenSpec.ofChange levelBackSpec)

/-- ITS FALSE NEIGHBOUR: 'it returns false'. Refute it at one input. -/
def levelBackWrong : ChangeSpec := { name := "levelBack", fn := fun _ => fun
  | [d1, d2] => { results := [.lit (.bool false)], args := [d1, d2] }
  | _ => none }
def LevelBackWrongFalsely : Prop := levelBackRow.holds Try.pinned (OpenSpec.ofChange levelBackWrong)

/- THE SECOND FORM. 'bulk': how many values and letters a reading holds, each counted each time it is reached (what is shared counts as often as it is met; a slice's spare places count too). A statement '..UptoSaid' is the law's where the arguments, and the package variables that the reading takes, are together of bulk at most 1048576: NARROWER than '..Said'. Prove '..Said' where nothing that the law and all that it calls make is longer than what came in: it says more and counts as full. Else prove '..UptoSaid'. A law counts once. -/
mutual
def uptoBulk {H : Type} : DataW H → Nat
  | .lit (.string bytes) => bytes.length + 1
  | .lit _ => 1
  | .nil => 1
  | .ptr d => uptoBulk d + 1
  | .slice elems spare => uptoBulkAll elems + uptoBulkAll spare + 1
  | .agg parts => uptoBulkAll parts + 1
  | .iface _ d => uptoBulk d + 1
  | .map entries => uptoBulkEntries entries + 1
  | .held _ => 1
def uptoBulkAll {H : Type} : List (DataW H) → Nat
  | [] => 0
  | d :: r => uptoBulk d + uptoBulkAll r
def uptoBulkEntries {H : Type} : List (Lit × DataW H) → Nat
  | [] => 0
  | x :: r => uptoBulkEntry x + uptoBulkEntries r
def uptoBulkEntry {H : Type} : Lit × DataW H → Nat
  | (.string bytes, d) => bytes.length + uptoBulk d + 1
  | (_, d) => uptoBulk d + 1
 end
def uptoSmall : (H : Type) → List (DataW H) → Bool := fun _ ds => decide (uptoBulkAll ds ≤ 1048576)
def OpenSpec.upto (s : _root_.Go.ChangeSpec) : _root_.Go.OpenSpec := { _root_.Go.OpenSpec.ofChange s with cond := some uptoSmall }

/-- 'halyardlaw17.PickSplits', WHERE WHAT IT READS IS OF BULK AT MOST 1048576: true; the input reads as it did. -/
def pickSplitsUptoRow : OpenClaim := { program := "ytpnhlgghpciofaa", sum := "eb619d9a2081dbca77f8cb8c8f82807ee753d2484570fa7b467f24a83a8957f3", func := "halyard/halyardlaw17.PickSplits", spec := "pickSplits", apart := false, narrowed := true }
def PickSplitsUptoSaid : Prop := pickSplitsUptoRow.holds Try.pinned (OpenSpec.upto pickSplitsSpec)

/-- 'halyardlaw17.PickSums', WHERE WHAT IT READS IS OF BULK AT MOST 1048576: true; the input reads as it did. -/
def pickSumsUptoRow : OpenClaim := { program := "ytpnhlgghpciofaa", sum := "eb619d9a2081dbca77f8cb8c8f82807ee753d2484570fa7b467f24a83a8957f3", func := "halyard/halyardlaw17.PickSums", spec := "pickSums", apart := false, narrowed := true }
def PickSumsUptoSaid : Prop := pickSumsUptoRow.holds Try.pinned (OpenSpec.upto pickSumsSpec)

/-- 'halyardlaw17.PickFull', WHERE WHAT IT READS IS OF BULK AT MOST 1048576: true; the input reads as it did. -/
def pickFullUptoRow : OpenClaim := { program := "ytpnhlgghpciofaa", sum := "eb619d9a2081dbca77f8cb8c8f82807ee753d2484570fa7b467f24a83a8957f3", func := "halyard/halyardlaw17.PickFull", spec := "pickFull", apart := false, narrowed := true }
def PickFullUptoSaid : Prop := pickFullUptoRow.holds Try.pinned (OpenSpec.upto pickFullSpec)

/-- 'halyardlaw17.PickApart', WHERE WHAT IT READS IS OF BULK AT MOST 1048576: true; the input reads as it did. -/
def pickApartUptoRow : OpenClaim := { program := "ytpnhlgghpciofaa", sum := "eb619d9a2081dbca77f8cb8c8f82807ee753d2484570fa7b467f24a83a8957f3", func := "halyard/halyardlaw17.PickApart", spec := "pickApart", inPlace := ["internal/bytealg.Compare"], unfollowed := true, recurses := true, apart := false, narrowed := true }
def PickApartUptoSaid : Prop := pickApartUptoRow.holds Try.pinned (OpenSpec.upto pickApartSpec)

/-- 'halyardlaw17.PickNext', WHERE WHAT IT READS IS OF BULK AT MOST 1048576: true; the input reads as it did. -/
def pickNextUptoRow : OpenClaim := { program := "ytpnhlgghpciofaa", sum := "eb619d9a2081dbca77f8cb8c8f82807ee753d2484570fa7b467f24a83a8957f3", func := "halyard/halyardlaw17.PickNext", spec := "pickNext", inPlace := ["internal/bytealg.Compare"], apart := false, narrowed := true }
def PickNextUptoSaid : Prop := pickNextUptoRow.holds Try.pinned (OpenSpec.upto pickNextSpec)

/-- 'halyardlaw15.LevelMay', WHERE WHAT IT READS IS OF BULK AT MOST 1048576: true; the input reads as it did. -/
def levelMayUptoRow : OpenClaim := { program := "ytpnhlgghpciofaa", sum := "eb619d9a2081dbca77f8cb8c8f82807ee753d2484570fa7b467f24a83a8957f3", func := "halyard/halyardlaw15.LevelMay", spec := "levelMay", inPlace := ["internal/bytealg.Compare"], unfollowed := true, recurses := true, apart := false, narrowed := true }
def LevelMayUptoSaid : Prop := levelMayUptoRow.holds Try.pinned (OpenSpec.upto levelMaySpec)

/-- 'halyardlaw15.LevelApplies', WHERE WHAT IT READS IS OF BULK AT MOST 1048576: true; the input reads as it did. -/
def levelAppliesUptoRow : OpenClaim := { program := "ytpnhlgghpciofaa", sum := "eb619d9a2081dbca77f8cb8c8f82807ee753d2484570fa7b467f24a83a8957f3", func := "halyard/halyardlaw15.LevelApplies", spec := "levelApplies", inPlace := ["internal/bytealg.Compare"], unfollowed := true, recurses := true, apart := false, narrowed := true }
def LevelAppliesUptoSaid : Prop := levelAppliesUptoRow.holds Try.pinned (OpenSpec.upto levelAppliesSpec)

/-- 'halyardlaw15.LevelPlays', WHERE WHAT IT READS IS OF BULK AT MOST 1048576: true; the input reads as it did. -/
def levelPlaysUptoRow : OpenClaim := { program := "ytpnhlgghpciofaa", sum := "eb619d9a2081dbca77f8cb8c8f82807ee753d2484570fa7b467f24a83a8957f3", func := "halyard/halyardlaw15.LevelPlays", spec := "levelPlays", inPlace := ["internal/bytealg.Compare"], unfollowed := true, recurses := true, apart := false, narrowed := true }
def LevelPlaysUptoSaid : Prop := levelPlaysUptoRow.holds Try.pinned (OpenSpec.upto levelPlaysSpec)

/-- 'halyardlaw15.LevelLooks', WHERE WHAT IT READS IS OF BULK AT MOST 1048576: true; the input reads as it did. -/
def levelLooksUptoRow : OpenClaim := { program := "ytpnhlgghpciofaa", sum := "eb619d9a2081dbca77f8cb8c8f82807ee753d2484570fa7b467f24a83a8957f3", func := "halyard/halyardlaw15.LevelLooks", spec := "levelLooks", inPlace := ["internal/bytealg.Compare"], unfollowed := true, recurses := true, apart := false, narrowed := true }
def LevelLooksUptoSaid : Prop := levelLooksUptoRow.holds Try.pinned (OpenSpec.upto levelLooksSpec)

/-- 'halyardlaw15.LevelFinds', WHERE WHAT IT READS IS OF BULK AT MOST 1048576: true; the input reads as it did. -/
def levelFindsUptoRow : OpenClaim := { program := "ytpnhlgghpciofaa", sum := "eb619d9a2081dbca77f8cb8c8f82807ee753d2484570fa7b467f24a83a8957f3", func := "halyard/halyardlaw15.LevelFinds", spec := "levelFinds", inPlace := ["internal/bytealg.Compare"], unfollowed := true, recurses := true, apart := false, narrowed := true }
def LevelFindsUptoSaid : Prop := levelFindsUptoRow.holds Try.pinned (OpenSpec.upto levelFindsSpec)

/-- 'halyardlaw15.LevelDiffs', WHERE WHAT IT READS IS OF BULK AT MOST 1048576: true; the input reads as it did. -/
def levelDiffsUptoRow : OpenClaim := { program := "ytpnhlgghpciofaa", sum := "eb619d9a2081dbca77f8cb8c8f82807ee753d2484570fa7b467f24a83a8957f3", func := "halyard/halyardlaw15.LevelDiffs", spec := "levelDiffs", inPlace := ["internal/bytealg.Compare"], unfollowed := true, recurses := true, apart := false, narrowed := true }
def LevelDiffsUptoSaid : Prop := levelDiffsUptoRow.holds Try.pinned (OpenSpec.upto levelDiffsSpec)

/-- 'halyardlaw15.LevelBack', WHERE WHAT IT READS IS OF BULK AT MOST 1048576: true; the input reads as it did. -/
def levelBackUptoRow : OpenClaim := { program := "ytpnhlgghpciofaa", sum := "eb619d9a2081dbca77f8cb8c8f82807ee753d2484570fa7b467f24a83a8957f3", func := "halyard/halyardlaw15.LevelBack", spec := "levelBack", inPlace := ["internal/bytealg.Compare"], unfollowed := true, recurses := true, apart := false, narrowed := true }
def LevelBackUptoSaid : Prop := levelBackUptoRow.holds Try.pinned (OpenSpec.upto levelBackSpec)

end Rows
end Go.Proofs.Ytpnhlgghpciofaa
