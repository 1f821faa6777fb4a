/-
  No cell of these rows narrows 'for every input' (looked for: loops, veiled, ifaces, maps, wideKeys, modest, calm, conditions, laid).
  DERIVED. THE GIVEN ROWS OF THIS SEAT. 6 by the template 'for every input the law returns true; each argument reads behind the call as it read before'; 0 by the template 'total and deterministic' (their statements: YtlghmjehibikeaaTotals.lean).
  GIVEN WITH THE SEED: the statements are not yours to turn. If you find one false, say at which input.
  Laid BY PROGRAM, IN A SANDBOX (cutbox-rows.mjs): the forced cells as the released guide's own fill.sh prints them over the translation 379ae19672ea56c8… (all of the seat's roots in one cut). By AI agents, Wed Nov 11 2026. No macro, syntax, notation, axiom, sorry.
-/
import Derived.Test.YtlghmjehibikeaaChecked
import GoSem.Claim
import GoSem.ClaimJoined
import GoSem.ClaimMapViews
import Derived.JoinedTies
import Derived.KernelRfl
namespace Go.Proofs.Ytlghmjehibikeaa
/- THE CELL 'sum', in the pinned program and in every row, IS THE sha256 OF THE DUMP (.gsa) THAT YtlghmjehibikeaaProg.lean LOADS. Nothing in Lean hashes anything: it is a label: what it is worth is what the hold of that sum in a sandbox is worth. -/
noncomputable def Try.pinned : Pinned := { name := "ytlghmjehibikeaa", sum := "379ae19672ea56c8f51b0b284895097cb0c1024a38931c2b3caf15777138a9f2", checked := Try.checked }
namespace Rows
def none {H : Type} : Left H := { results := [], args := [] }

/-- 'halyardlaw13.WalNames': WHATEVER THE INPUT: true; the input reads as it did. -/
def walNamesSpec : ChangeSpec := { name := "walNames", fn := fun _ => fun
  | [d1, d2] => { results := [.lit (.bool true)], args := [d1, d2] }
  | _ => none }
def walNamesRow : OpenClaim := { program := "ytlghmjehibikeaa", sum := "379ae19672ea56c8f51b0b284895097cb0c1024a38931c2b3caf15777138a9f2", func := "halyard/halyardlaw13.WalNames", spec := "walNames", inPlace := ["internal/bytealg.IndexByteString", "maps.clone"], apart := false }
def WalNamesSaid : Prop := walNamesRow.holds Try.pinned (OpenSpec.ofChange walNamesSpec)

/-- ITS FALSE NEIGHBOUR: 'it returns false'. Refute it at one input. -/
def walNamesWrong : ChangeSpec := { name := "walNames", fn := fun _ => fun
  | [d1, d2] => { results := [.lit (.bool false)], args := [d1, d2] }
  | _ => none }
def WalNamesWrongFalsely : Prop := walNamesRow.holds Try.pinned (OpenSpec.ofChange walNamesWrong)

/-- 'halyardlaw13.WalTwo': WHATEVER THE INPUT: true; the input reads as it did. -/
def walTwoSpec : ChangeSpec := { name := "walTwo", fn := fun _ => fun
  | [d1, d2] => { results := [.lit (.bool true)], args := [d1, d2] }
  | _ => none }
def walTwoRow : OpenClaim := { program := "ytlghmjehibikeaa", sum := "379ae19672ea56c8f51b0b284895097cb0c1024a38931c2b3caf15777138a9f2", func := "halyard/halyardlaw13.WalTwo", spec := "walTwo", inPlace := ["internal/bytealg.IndexByteString", "maps.clone"], apart := false }
def WalTwoSaid : Prop := walTwoRow.holds Try.pinned (OpenSpec.ofChange walTwoSpec)

/-- ITS FALSE NEIGHBOUR: 'it returns false'. Refute it at one input. -/
def walTwoWrong : ChangeSpec := { name := "walTwo", fn := fun _ => fun
  | [d1, d2] => { results := [.lit (.bool false)], args := [d1, d2] }
  | _ => none }
def WalTwoWrongFalsely : Prop := walTwoRow.holds Try.pinned (OpenSpec.ofChange walTwoWrong)

/-- 'halyardlaw13.WalEntries': WHATEVER THE INPUT: true; the input reads as it did. -/
def walEntriesSpec : ChangeSpec := { name := "walEntries", fn := fun _ => fun
  | [d1, d2] => { results := [.lit (.bool true)], args := [d1, d2] }
  | _ => none }
def walEntriesRow : OpenClaim := { program := "ytlghmjehibikeaa", sum := "379ae19672ea56c8f51b0b284895097cb0c1024a38931c2b3caf15777138a9f2", func := "halyard/halyardlaw13.WalEntries", spec := "walEntries", inPlace := ["internal/bytealg.IndexByteString", "maps.clone"], apart := false }
def WalEntriesSaid : Prop := walEntriesRow.holds Try.pinned (OpenSpec.ofChange walEntriesSpec)

/-- ITS FALSE NEIGHBOUR: 'it returns false'. Refute it at one input. -/
def walEntriesWrong : ChangeSpec := { name := "walEntries", fn := fun _ => fun
  | [d1, d2] => { results := [.lit (.bool false)], args := [d1, d2] }
  | _ => none }
def WalEntriesWrongFalsely : Prop := walEntriesRow.holds Try.pinned (OpenSpec.ofChange walEntriesWrong)

/-- 'halyardlaw13.WalPlays': WHATEVER THE INPUT: true; the input reads as it did. -/
def walPlaysSpec : ChangeSpec := { name := "walPlays", fn := fun _ => fun
  | [d1, d2, d3] => { results := [.lit (.bool true)], args := [d1, d2, d3] }
  | _ => none }
def walPlaysRow : OpenClaim := { program := "ytlghmjehibikeaa", sum := "379ae19672ea56c8f51b0b284895097cb0c1024a38931c2b3caf15777138a9f2", func := "halyard/halyardlaw13.WalPlays", spec := "walPlays", inPlace := ["internal/bytealg.IndexByteString", "maps.clone"], apart := false }
def WalPlaysSaid : Prop := walPlaysRow.holds Try.pinned (OpenSpec.ofChange walPlaysSpec)

/-- ITS FALSE NEIGHBOUR: 'it returns false'. Refute it at one input. -/
def walPlaysWrong : ChangeSpec := { name := "walPlays", fn := fun _ => fun
  | [d1, d2, d3] => { results := [.lit (.bool false)], args := [d1, d2, d3] }
  | _ => none }
def WalPlaysWrongFalsely : Prop := walPlaysRow.holds Try.pinned (OpenSpec.ofChange walPlaysWrong)

/-- 'halyardlaw13.WalCrashes': WHATEVER THE INPUT: true; the input reads as it did. -/
def walCrashesSpec : ChangeSpec := { name := "walCrashes", fn := fun _ => fun
  | [d1, d2, d3] => { results := [.lit (.bool true)], args := [d1, d2, d3] }
  | _ => none }
def walCrashesRow : OpenClaim := { program := "ytlghmjehibikeaa", sum := "379ae19672ea56c8f51b0b284895097cb0c1024a38931c2b3caf15777138a9f2", func := "halyard/halyardlaw13.WalCrashes", spec := "walCrashes", inPlace := ["internal/bytealg.IndexByteString", "maps.clone"], unfollowed := true, recurses := true, apart := false }
def WalCrashesSaid : Prop := walCrashesRow.holds Try.pinned (OpenSpec.ofChange walCrashesSpec)

/-- ITS FALSE NEIGHBOUR: 'it returns false'. Refute it at one input. -/
def walCrashesWrong : ChangeSpec := { name := "walCrashes", fn := fun _ => fun
  | [d1, d2, d3] => { results := [.lit (.bool false)], args := [d1, d2, d3] }
  | _ => none }
def WalCrashesWrongFalsely : Prop := walCrashesRow.holds Try.pinned (OpenSpec.ofChange walCrashesWrong)

/-- 'halyardlaw13.WalFaults': WHATEVER THE INPUT: true; the input reads as it did. -/
def walFaultsSpec : ChangeSpec := { name := "walFaults", fn := fun _ => fun
  | [d1, d2, d3] => { results := [.lit (.bool true)], args := [d1, d2, d3] }
  | _ => none }
def walFaultsRow : OpenClaim := { program := "ytlghmjehibikeaa", sum := "379ae19672ea56c8f51b0b284895097cb0c1024a38931c2b3caf15777138a9f2", func := "halyard/halyardlaw13.WalFaults", spec := "walFaults", inPlace := ["internal/bytealg.IndexByteString", "maps.clone"], unfollowed := true, recurses := true, apart := false }
def WalFaultsSaid : Prop := walFaultsRow.holds Try.pinned (OpenSpec.ofChange walFaultsSpec)

/-- ITS FALSE NEIGHBOUR: 'it returns false'. Refute it at one input. -/
def walFaultsWrong : ChangeSpec := { name := "walFaults", fn := fun _ => fun
  | [d1, d2, d3] => { results := [.lit (.bool false)], args := [d1, d2, d3] }
  | _ => none }
def WalFaultsWrongFalsely : Prop := walFaultsRow.holds Try.pinned (OpenSpec.ofChange walFaultsWrong)

/- THE SECOND FORM. 'bulk': how many values and letters a reading holds, each counted each time it is reached (what is shared counts as often as it is met; a slice's spare places count too). A statement '..UptoSaid' is the law's where the arguments, and the package variables that the reading takes, are together of bulk at most 1048576: NARROWER than '..Said'. Prove '..Said' where nothing that the law and all that it calls make is longer than what came in: it says more and counts as full. Else prove '..UptoSaid'. A law counts once. -/
mutual
def uptoBulk {H : Type} : DataW H → Nat
  | .lit (.string bytes) => bytes.length + 1
  | .lit _ => 1
  | .nil => 1
  | .ptr d => uptoBulk d + 1
  | .slice elems spare => uptoBulkAll elems + uptoBulkAll spare + 1
  | .agg parts => uptoBulkAll parts + 1
  | .iface _ d => uptoBulk d + 1
  | .map entries => uptoBulkEntries entries + 1
  | .held _ => 1
def uptoBulkAll {H : Type} : List (DataW H) → Nat
  | [] => 0
  | d :: r => uptoBulk d + uptoBulkAll r
def uptoBulkEntries {H : Type} : List (Lit × DataW H) → Nat
  | [] => 0
  | x :: r => uptoBulkEntry x + uptoBulkEntries r
def uptoBulkEntry {H : Type} : Lit × DataW H → Nat
  | (.string bytes, d) => bytes.length + uptoBulk d + 1
  | (_, d) => uptoBulk d + 1
 end
def uptoSmall : (H : Type) → List (DataW H) → Bool := fun _ ds => decide (uptoBulkAll ds ≤ 1048576)
def OpenSpec.upto (s : _root_.Go.ChangeSpec) : _root_.Go.OpenSpec := { _root_.Go.OpenSpec.ofChange s with cond := some uptoSmall }

/-- 'halyardlaw13.WalNames', WHERE WHAT IT READS IS OF BULK AT MOST 1048576: true; the input reads as it did. -/
def walNamesUptoRow : OpenClaim := { program := "ytlghmjehibikeaa", sum := "379ae19672ea56c8f51b0b284895097cb0c1024a38931c2b3caf15777138a9f2", func := "halyard/halyardlaw13.WalNames", spec := "walNames", inPlace := ["internal/bytealg.IndexByteString", "maps.clone"], apart := false, narrowed := true }
def WalNamesUptoSaid : Prop := walNamesUptoRow.holds Try.pinned (OpenSpec.upto walNamesSpec)

/-- 'halyardlaw13.WalTwo', WHERE WHAT IT READS IS OF BULK AT MOST 1048576: true; the input reads as it did. -/
def walTwoUptoRow : OpenClaim := { program := "ytlghmjehibikeaa", sum := "379ae19672ea56c8f51b0b284895097cb0c1024a38931c2b3caf15777138a9f2", func := "halyard/halyardlaw13.WalTwo", spec := "walTwo", inPlace := ["internal/bytealg.IndexByteString", "maps.clone"], apart := false, narrowed := true }
def WalTwoUptoSaid : Prop := walTwoUptoRow.holds Try.pinned (OpenSpec.upto walTwoSpec)

/-- 'halyardlaw13.WalEntries', WHERE WHAT IT READS IS OF BULK AT MOST 1048576: true; the input reads as it did. -/
def walEntriesUptoRow : OpenClaim := { program := "ytlghmjehibikeaa", sum := "379ae19672ea56c8f51b0b284895097cb0c1024a38931c2b3caf15777138a9f2", func := "halyard/halyardlaw13.WalEntries", spec := "walEntries", inPlace := ["internal/bytealg.IndexByteString", "maps.clone"], apart := false, narrowed := true }
def WalEntriesUptoSaid : Prop := walEntriesUptoRow.holds Try.pinned (OpenSpec.upto walEntriesSpec)

/-- 'halyardlaw13.WalPlays', WHERE WHAT IT READS IS OF BULK AT MOST 1048576: true; the input reads as it did. -/
def walPlaysUptoRow : OpenClaim := { program := "ytlghmjehibikeaa", sum := "379ae19672ea56c8f51b0b284895097cb0c1024a38931c2b3caf15777138a9f2", func := "halyard/halyardlaw13.WalPlays", spec := "walPlays", inPlace := ["internal/bytealg.IndexByteString", "maps.clone"], apart := false, narrowed := true }
def WalPlaysUptoSaid : Prop := walPlaysUptoRow.holds Try.pinned (OpenSpec.upto walPlaysSpec)

/-- 'halyardlaw13.WalCrashes', WHERE WHAT IT READS IS OF BULK AT MOST 1048576: true; the input reads as it did. -/
def walCrashesUptoRow : OpenClaim := { program := "ytlghmjehibikeaa", sum := "379ae19672ea56c8f51b0b284895097cb0c1024a38931c2b3caf15777138a9f2", func := "halyard/halyardlaw13.WalCrashes", spec := "walCrashes", inPlace := ["internal/bytealg.IndexByteString", "maps.clone"], unfollowed := true, recurses := true, apart := false, narrowed := true }
def WalCrashesUptoSaid : Prop := walCrashesUptoRow.holds Try.pinned (OpenSpec.upto walCrashesSpec)

/-- 'halyardlaw13.WalFaults', WHERE WHAT IT READS IS OF BULK AT MOST 1048576: true; the input reads as it did. -/
def walFaultsUptoRow : OpenClaim := { program := "ytlghmjehibikeaa", sum := "379ae19672ea56c8f51b0b284895097cb0c1024a38931c2b3caf15777138a9f2", func := "halyard/halyardlaw13.WalFaults", spec := "walFaults", inPlace := ["internal/bytealg.IndexByteString", "maps.clone"], unfollowed := true, recurses := true, apart := false, narrowed := true }
def WalFaultsUptoSaid : Prop := walFaultsUptoRow.holds Try.pinned (OpenSpec.upto walFaultsSpec)

end Rows
end Go.Proofs.Ytlghmjehibikeaa
