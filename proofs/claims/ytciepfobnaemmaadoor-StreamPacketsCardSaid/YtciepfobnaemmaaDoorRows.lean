/-
  NARROWER THAN 'FOR EVERY INPUT', by the rows' own cells (each row's printed sentence says how): PacketDecodes: laid · PacketTurned: laid · PacketEncodes: laid · PacketBack: laid · PacketAgain: laid · PacketNames: laid · PacketFlags: laid · StreamFeeds: laid · StreamNil: laid · StreamPieces: laid · StreamPackets: laid.
  DERIVED. THE GIVEN ROWS OF THIS SEAT. 11 by the template 'for every input the law returns true; each argument reads behind the call as it read before'; 0 by the template 'total and deterministic' (their statements: YtciepfobnaemmaaDoorTotals.lean).
  GIVEN WITH THE SEED: the statements are not yours to turn. If you find one false, say at which input.
  Laid BY PROGRAM, IN A SANDBOX (cutbox-rows.mjs): the forced cells as the released guide's own fill.sh prints them over the translation ea2d4c77ccb14f14… (all of the seat's roots in one cut). By AI agents, Wed Nov 11 2026. No macro, syntax, notation, axiom, sorry.
-/
import Derived.Test.YtciepfobnaemmaaDoorChecked
import GoSem.PinnedTables
import GoSem.Claim
import GoSem.ClaimJoined
import GoSem.ClaimMapViews
import Derived.JoinedTies
import Derived.KernelRfl
namespace Go.Proofs.YtciepfobnaemmaaDoor
/- THE CELL 'sum', in the pinned program and in every row, IS THE sha256 OF THE DUMP (.gsa) THAT YtciepfobnaemmaaDoorProg.lean LOADS. Nothing in Lean hashes anything: it is a label: what it is worth is what the hold of that sum in a sandbox is worth. -/
noncomputable def Tryd.pinned : Pinned := { name := "ytciepfobnaemmaadoor", sum := "ea2d4c77ccb14f14d5f469fed342237f5758e2ede25147e4cd8beb1bab27b758", checked := Tryd.checked }
namespace Rows
def none {H : Type} : Left H := { results := [], args := [] }

/- WHAT THE LISTED PACKAGE-LEVEL VARIABLES READ AS WHEN THE CALL BEGINS. Each datum BY PROGRAM (the guide's laid-datum.mjs) off the statement by which the dump's own 'gosem.cut.vars' lays the variable. In a bare row this is a premise. The card (YtciepfobnaemmaaDoorCards.lean) ties it to the program's text. -/
def laid_unicode_utf8_acceptRanges {H : Type} : DataW H := .agg [.agg [.lit (.int .u8 128), .lit (.int .u8 191)], .agg [.lit (.int .u8 160), .lit (.int .u8 191)], .agg [.lit (.int .u8 128), .lit (.int .u8 159)], .agg [.lit (.int .u8 144), .lit (.int .u8 191)], .agg [.lit (.int .u8 128), .lit (.int .u8 143)], .agg [.lit (.int .u8 0), .lit (.int .u8 0)], .agg [.lit (.int .u8 0), .lit (.int .u8 0)], .agg [.lit (.int .u8 0), .lit (.int .u8 0)], .agg [.lit (.int .u8 0), .lit (.int .u8 0)], .agg [.lit (.int .u8 0), .lit (.int .u8 0)], .agg [.lit (.int .u8 0), .lit (.int .u8 0)], .agg [.lit (.int .u8 0), .lit (.int .u8 0)], .agg [.lit (.int .u8 0), .lit (.int .u8 0)], .agg [.lit (.int .u8 0), .lit (.int .u8 0)], .agg [.lit (.int .u8 0), .lit (.int .u8 0)], .agg [.lit (.int .u8 0), .lit (.int .u8 0)]]
/-- One of Go's own tables, pinned by name: the form's constant. -/
def laid_unicode_utf8_first : DataW Unit := Go.Pinned.utf8First

/-- 'halyardlaw23.PacketDecodes': WHATEVER THE INPUT: true; the input reads as it did. -/
def packetDecodesSpec : ChangeSpec := { name := "packetDecodes", fn := fun _ => fun
  | [d] => { results := [.lit (.bool true)], args := [d] }
  | _ => none }
def packetDecodesRow : OpenClaim := { program := "ytciepfobnaemmaadoor", sum := "ea2d4c77ccb14f14d5f469fed342237f5758e2ede25147e4cd8beb1bab27b758", func := "halyard/halyardlaw23.PacketDecodes", spec := "packetDecodes", inPlace := ["internal/bytealg.IndexByte", "internal/bytealg.IndexByteString", "internal/bytealg.IndexString", "internal/bytealg.CountString"], named := ["unicode/utf8.first", "unicode/utf8.acceptRanges", "internal/bytealg.MaxLen"], apart := false, laid := [("unicode/utf8.acceptRanges", laid_unicode_utf8_acceptRanges), ("unicode/utf8.first", laid_unicode_utf8_first)] }
def PacketDecodesSaid : Prop := packetDecodesRow.holds Tryd.pinned (OpenSpec.ofChange packetDecodesSpec)

/-- ITS FALSE NEIGHBOUR: 'it returns false'. Refute it at one input. -/
def packetDecodesWrong : ChangeSpec := { name := "packetDecodes", fn := fun _ => fun
  | [d] => { results := [.lit (.bool false)], args := [d] }
  | _ => none }
def PacketDecodesWrongFalsely : Prop := packetDecodesRow.holds Tryd.pinned (OpenSpec.ofChange packetDecodesWrong)

/-- 'halyardlaw23.PacketTurned': WHATEVER THE INPUT: true; the input reads as it did. -/
def packetTurnedSpec : ChangeSpec := { name := "packetTurned", fn := fun _ => fun
  | [d1, d2, d3, d4, d5, d6] => { results := [.lit (.bool true)], args := [d1, d2, d3, d4, d5, d6] }
  | _ => none }
def packetTurnedRow : OpenClaim := { program := "ytciepfobnaemmaadoor", sum := "ea2d4c77ccb14f14d5f469fed342237f5758e2ede25147e4cd8beb1bab27b758", func := "halyard/halyardlaw23.PacketTurned", spec := "packetTurned", inPlace := ["internal/bytealg.IndexByte", "internal/bytealg.IndexByteString", "internal/bytealg.IndexString", "internal/bytealg.CountString"], named := ["unicode/utf8.first", "unicode/utf8.acceptRanges", "internal/bytealg.MaxLen"], apart := false, laid := [("unicode/utf8.acceptRanges", laid_unicode_utf8_acceptRanges), ("unicode/utf8.first", laid_unicode_utf8_first)] }
def PacketTurnedSaid : Prop := packetTurnedRow.holds Tryd.pinned (OpenSpec.ofChange packetTurnedSpec)

/-- ITS FALSE NEIGHBOUR: 'it returns false'. Refute it at one input. -/
def packetTurnedWrong : ChangeSpec := { name := "packetTurned", fn := fun _ => fun
  | [d1, d2, d3, d4, d5, d6] => { results := [.lit (.bool false)], args := [d1, d2, d3, d4, d5, d6] }
  | _ => none }
def PacketTurnedWrongFalsely : Prop := packetTurnedRow.holds Tryd.pinned (OpenSpec.ofChange packetTurnedWrong)

/-- 'halyardlaw23.PacketEncodes': WHATEVER THE INPUT: true; the input reads as it did. -/
def packetEncodesSpec : ChangeSpec := { name := "packetEncodes", fn := fun _ => fun
  | [d] => { results := [.lit (.bool true)], args := [d] }
  | _ => none }
def packetEncodesRow : OpenClaim := { program := "ytciepfobnaemmaadoor", sum := "ea2d4c77ccb14f14d5f469fed342237f5758e2ede25147e4cd8beb1bab27b758", func := "halyard/halyardlaw23.PacketEncodes", spec := "packetEncodes", inPlace := ["internal/bytealg.IndexByte", "internal/bytealg.IndexByteString", "internal/bytealg.IndexString", "internal/bytealg.CountString"], named := ["unicode/utf8.first", "unicode/utf8.acceptRanges", "internal/bytealg.MaxLen"], apart := false, laid := [("unicode/utf8.acceptRanges", laid_unicode_utf8_acceptRanges), ("unicode/utf8.first", laid_unicode_utf8_first)] }
def PacketEncodesSaid : Prop := packetEncodesRow.holds Tryd.pinned (OpenSpec.ofChange packetEncodesSpec)

/-- ITS FALSE NEIGHBOUR: 'it returns false'. Refute it at one input. -/
def packetEncodesWrong : ChangeSpec := { name := "packetEncodes", fn := fun _ => fun
  | [d] => { results := [.lit (.bool false)], args := [d] }
  | _ => none }
def PacketEncodesWrongFalsely : Prop := packetEncodesRow.holds Tryd.pinned (OpenSpec.ofChange packetEncodesWrong)

/-- 'halyardlaw23.PacketBack': WHATEVER THE INPUT: true; the input reads as it did. -/
def packetBackSpec : ChangeSpec := { name := "packetBack", fn := fun _ => fun
  | [d1, d2] => { results := [.lit (.bool true)], args := [d1, d2] }
  | _ => none }
def packetBackRow : OpenClaim := { program := "ytciepfobnaemmaadoor", sum := "ea2d4c77ccb14f14d5f469fed342237f5758e2ede25147e4cd8beb1bab27b758", func := "halyard/halyardlaw23.PacketBack", spec := "packetBack", inPlace := ["internal/bytealg.IndexByte", "internal/bytealg.IndexByteString", "internal/bytealg.IndexString", "internal/bytealg.CountString"], named := ["unicode/utf8.first", "unicode/utf8.acceptRanges", "internal/bytealg.MaxLen"], apart := false, laid := [("unicode/utf8.acceptRanges", laid_unicode_utf8_acceptRanges), ("unicode/utf8.first", laid_unicode_utf8_first)] }
def PacketBackSaid : Prop := packetBackRow.holds Tryd.pinned (OpenSpec.ofChange packetBackSpec)

/-- ITS FALSE NEIGHBOUR: 'it returns false'. Refute it at one input. -/
def packetBackWrong : ChangeSpec := { name := "packetBack", fn := fun _ => fun
  | [d1, d2] => { results := [.lit (.bool false)], args := [d1, d2] }
  | _ => none }
def PacketBackWrongFalsely : Prop := packetBackRow.holds Tryd.pinned (OpenSpec.ofChange packetBackWrong)

/-- 'halyardlaw23.PacketAgain': WHATEVER THE INPUT: true; the input reads as it did. -/
def packetAgainSpec : ChangeSpec := { name := "packetAgain", fn := fun _ => fun
  | [d] => { results := [.lit (.bool true)], args := [d] }
  | _ => none }
def packetAgainRow : OpenClaim := { program := "ytciepfobnaemmaadoor", sum := "ea2d4c77ccb14f14d5f469fed342237f5758e2ede25147e4cd8beb1bab27b758", func := "halyard/halyardlaw23.PacketAgain", spec := "packetAgain", inPlace := ["internal/bytealg.IndexByte", "internal/bytealg.IndexByteString", "internal/bytealg.IndexString", "internal/bytealg.CountString"], named := ["unicode/utf8.first", "unicode/utf8.acceptRanges", "internal/bytealg.MaxLen"], apart := false, laid := [("unicode/utf8.acceptRanges", laid_unicode_utf8_acceptRanges), ("unicode/utf8.first", laid_unicode_utf8_first)] }
def PacketAgainSaid : Prop := packetAgainRow.holds Tryd.pinned (OpenSpec.ofChange packetAgainSpec)

/-- ITS FALSE NEIGHBOUR: 'it returns false'. Refute it at one input. -/
def packetAgainWrong : ChangeSpec := { name := "packetAgain", fn := fun _ => fun
  | [d] => { results := [.lit (.bool false)], args := [d] }
  | _ => none }
def PacketAgainWrongFalsely : Prop := packetAgainRow.holds Tryd.pinned (OpenSpec.ofChange packetAgainWrong)

/-- 'halyardlaw23.PacketNames': WHATEVER THE INPUT: true; the input reads as it did. -/
def packetNamesSpec : ChangeSpec := { name := "packetNames", fn := fun _ => fun
  | [d1, d2, d3] => { results := [.lit (.bool true)], args := [d1, d2, d3] }
  | _ => none }
def packetNamesRow : OpenClaim := { program := "ytciepfobnaemmaadoor", sum := "ea2d4c77ccb14f14d5f469fed342237f5758e2ede25147e4cd8beb1bab27b758", func := "halyard/halyardlaw23.PacketNames", spec := "packetNames", inPlace := ["internal/bytealg.IndexByte", "internal/bytealg.IndexByteString", "internal/bytealg.IndexString", "internal/bytealg.CountString"], unfollowed := true, recurses := true, named := ["unicode/utf8.first", "unicode/utf8.acceptRanges", "internal/bytealg.MaxLen"], apart := false, laid := [("unicode/utf8.acceptRanges", laid_unicode_utf8_acceptRanges), ("unicode/utf8.first", laid_unicode_utf8_first)] }
def PacketNamesSaid : Prop := packetNamesRow.holds Tryd.pinned (OpenSpec.ofChange packetNamesSpec)

/-- ITS FALSE NEIGHBOUR: 'it returns false'. Refute it at one input. -/
def packetNamesWrong : ChangeSpec := { name := "packetNames", fn := fun _ => fun
  | [d1, d2, d3] => { results := [.lit (.bool false)], args := [d1, d2, d3] }
  | _ => none }
def PacketNamesWrongFalsely : Prop := packetNamesRow.holds Tryd.pinned (OpenSpec.ofChange packetNamesWrong)

/-- 'halyardlaw23.PacketFlags': WHATEVER THE INPUT: true; the input reads as it did. -/
def packetFlagsSpec : ChangeSpec := { name := "packetFlags", fn := fun _ => fun
  | [d1, d2] => { results := [.lit (.bool true)], args := [d1, d2] }
  | _ => none }
def packetFlagsRow : OpenClaim := { program := "ytciepfobnaemmaadoor", sum := "ea2d4c77ccb14f14d5f469fed342237f5758e2ede25147e4cd8beb1bab27b758", func := "halyard/halyardlaw23.PacketFlags", spec := "packetFlags", inPlace := ["internal/bytealg.IndexByte", "internal/bytealg.IndexByteString", "internal/bytealg.IndexString", "internal/bytealg.CountString"], named := ["unicode/utf8.first", "unicode/utf8.acceptRanges", "internal/bytealg.MaxLen"], apart := false, laid := [("unicode/utf8.acceptRanges", laid_unicode_utf8_acceptRanges), ("unicode/utf8.first", laid_unicode_utf8_first)] }
def PacketFlagsSaid : Prop := packetFlagsRow.holds Tryd.pinned (OpenSpec.ofChange packetFlagsSpec)

/-- ITS FALSE NEIGHBOUR: 'it returns false'. Refute it at one input. -/
def packetFlagsWrong : ChangeSpec := { name := "packetFlags", fn := fun _ => fun
  | [d1, d2] => { results := [.lit (.bool false)], args := [d1, d2] }
  | _ => none }
def PacketFlagsWrongFalsely : Prop := packetFlagsRow.holds Tryd.pinned (OpenSpec.ofChange packetFlagsWrong)

/-- 'halyardlaw24.StreamFeeds': WHATEVER THE INPUT: true; the input reads as it did. -/
def streamFeedsSpec : ChangeSpec := { name := "streamFeeds", fn := fun _ => fun
  | [d] => { results := [.lit (.bool true)], args := [d] }
  | _ => none }
def streamFeedsRow : OpenClaim := { program := "ytciepfobnaemmaadoor", sum := "ea2d4c77ccb14f14d5f469fed342237f5758e2ede25147e4cd8beb1bab27b758", func := "halyard/halyardlaw24.StreamFeeds", spec := "streamFeeds", inPlace := ["internal/bytealg.IndexByte", "internal/bytealg.IndexByteString", "internal/bytealg.IndexString", "internal/bytealg.CountString"], named := ["unicode/utf8.first", "unicode/utf8.acceptRanges", "internal/bytealg.MaxLen"], apart := false, laid := [("unicode/utf8.acceptRanges", laid_unicode_utf8_acceptRanges), ("unicode/utf8.first", laid_unicode_utf8_first)] }
def StreamFeedsSaid : Prop := streamFeedsRow.holds Tryd.pinned (OpenSpec.ofChange streamFeedsSpec)

/-- ITS FALSE NEIGHBOUR: 'it returns false'. Refute it at one input. -/
def streamFeedsWrong : ChangeSpec := { name := "streamFeeds", fn := fun _ => fun
  | [d] => { results := [.lit (.bool false)], args := [d] }
  | _ => none }
def StreamFeedsWrongFalsely : Prop := streamFeedsRow.holds Tryd.pinned (OpenSpec.ofChange streamFeedsWrong)

/-- 'halyardlaw24.StreamNil': WHATEVER THE INPUT: true; the input reads as it did. -/
def streamNilSpec : ChangeSpec := { name := "streamNil", fn := fun _ => fun
  | [d] => { results := [.lit (.bool true)], args := [d] }
  | _ => none }
def streamNilRow : OpenClaim := { program := "ytciepfobnaemmaadoor", sum := "ea2d4c77ccb14f14d5f469fed342237f5758e2ede25147e4cd8beb1bab27b758", func := "halyard/halyardlaw24.StreamNil", spec := "streamNil", inPlace := ["internal/bytealg.IndexByte", "internal/bytealg.IndexByteString", "internal/bytealg.IndexString", "internal/bytealg.CountString"], named := ["unicode/utf8.first", "unicode/utf8.acceptRanges", "internal/bytealg.MaxLen"], apart := false, laid := [("unicode/utf8.acceptRanges", laid_unicode_utf8_acceptRanges), ("unicode/utf8.first", laid_unicode_utf8_first)] }
def StreamNilSaid : Prop := streamNilRow.holds Tryd.pinned (OpenSpec.ofChange streamNilSpec)

/-- ITS FALSE NEIGHBOUR: 'it returns false'. Refute it at one input. -/
def streamNilWrong : ChangeSpec := { name := "streamNil", fn := fun _ => fun
  | [d] => { results := [.lit (.bool false)], args := [d] }
  | _ => none }
def StreamNilWrongFalsely : Prop := streamNilRow.holds Tryd.pinned (OpenSpec.ofChange streamNilWrong)

/-- 'halyardlaw24.StreamPieces': WHATEVER THE INPUT: true; the input reads as it did. -/
def streamPiecesSpec : ChangeSpec := { name := "streamPieces", fn := fun _ => fun
  | [d1, d2] => { results := [.lit (.bool true)], args := [d1, d2] }
  | _ => none }
def streamPiecesRow : OpenClaim := { program := "ytciepfobnaemmaadoor", sum := "ea2d4c77ccb14f14d5f469fed342237f5758e2ede25147e4cd8beb1bab27b758", func := "halyard/halyardlaw24.StreamPieces", spec := "streamPieces", inPlace := ["internal/bytealg.IndexByte", "internal/bytealg.IndexByteString", "internal/bytealg.IndexString", "internal/bytealg.CountString"], named := ["unicode/utf8.first", "unicode/utf8.acceptRanges", "internal/bytealg.MaxLen"], apart := false, laid := [("unicode/utf8.acceptRanges", laid_unicode_utf8_acceptRanges), ("unicode/utf8.first", laid_unicode_utf8_first)] }
def StreamPiecesSaid : Prop := streamPiecesRow.holds Tryd.pinned (OpenSpec.ofChange streamPiecesSpec)

/-- ITS FALSE NEIGHBOUR: 'it returns false'. Refute it at one input. -/
def streamPiecesWrong : ChangeSpec := { name := "streamPieces", fn := fun _ => fun
  | [d1, d2] => { results := [.lit (.bool false)], args := [d1, d2] }
  | _ => none }
def StreamPiecesWrongFalsely : Prop := streamPiecesRow.holds Tryd.pinned (OpenSpec.ofChange streamPiecesWrong)

/-- 'halyardlaw24.StreamPackets': WHATEVER THE INPUT: true; the input reads as it did. -/
def streamPacketsSpec : ChangeSpec := { name := "streamPackets", fn := fun _ => fun
  | [d1, d2] => { results := [.lit (.bool true)], args := [d1, d2] }
  | _ => none }
def streamPacketsRow : OpenClaim := { program := "ytciepfobnaemmaadoor", sum := "ea2d4c77ccb14f14d5f469fed342237f5758e2ede25147e4cd8beb1bab27b758", func := "halyard/halyardlaw24.StreamPackets", spec := "streamPackets", inPlace := ["internal/bytealg.IndexByte", "internal/bytealg.IndexByteString", "internal/bytealg.IndexString", "internal/bytealg.CountString"], named := ["unicode/utf8.first", "unicode/utf8.acceptRanges", "internal/bytealg.MaxLen"], apart := false, laid := [("unicode/utf8.acceptRanges", laid_unicode_utf8_acceptRanges), ("unicode/utf8.first", laid_unicode_utf8_first)] }
def StreamPacketsSaid : Prop := streamPacketsRow.holds Tryd.pinned (OpenSpec.ofChange streamPacketsSpec)

/-- ITS FALSE NEIGHBOUR: 'it returns false'. Refute it at one input. -/
def streamPacketsWrong : ChangeSpec := { name := "streamPackets", fn := fun _ => fun
  | [d1, d2] => { results := [.lit (.bool false)], args := [d1, d2] }
  | _ => none }
def StreamPacketsWrongFalsely : Prop := streamPacketsRow.holds Tryd.pinned (OpenSpec.ofChange streamPacketsWrong)

/- THE SECOND FORM. 'bulk': how many values and letters a reading holds, each counted each time it is reached (what is shared counts as often as it is met; a slice's spare places count too). A statement '..UptoSaid' is the law's where the arguments, and the package variables that the reading takes, are together of bulk at most 1048576: NARROWER than '..Said'. Prove '..Said' where nothing that the law and all that it calls make is longer than what came in: it says more and counts as full. Else prove '..UptoSaid'. A law counts once. -/
mutual
def uptoBulk {H : Type} : DataW H → Nat
  | .lit (.string bytes) => bytes.length + 1
  | .lit _ => 1
  | .nil => 1
  | .ptr d => uptoBulk d + 1
  | .slice elems spare => uptoBulkAll elems + uptoBulkAll spare + 1
  | .agg parts => uptoBulkAll parts + 1
  | .iface _ d => uptoBulk d + 1
  | .map entries => uptoBulkEntries entries + 1
  | .held _ => 1
def uptoBulkAll {H : Type} : List (DataW H) → Nat
  | [] => 0
  | d :: r => uptoBulk d + uptoBulkAll r
def uptoBulkEntries {H : Type} : List (Lit × DataW H) → Nat
  | [] => 0
  | x :: r => uptoBulkEntry x + uptoBulkEntries r
def uptoBulkEntry {H : Type} : Lit × DataW H → Nat
  | (.string bytes, d) => bytes.length + uptoBulk d + 1
  | (_, d) => uptoBulk d + 1
 end
def uptoSmall : (H : Type) → List (DataW H) → Bool := fun _ ds => decide (uptoBulkAll ds ≤ 1048576)
def OpenSpec.upto (s : _root_.Go.ChangeSpec) : _root_.Go.OpenSpec := { _root_.Go.OpenSpec.ofChange s with cond := some uptoSmall }

/-- 'halyardlaw23.PacketDecodes', WHERE WHAT IT READS IS OF BULK AT MOST 1048576: true; the input reads as it did. -/
def packetDecodesUptoRow : OpenClaim := { program := "ytciepfobnaemmaadoor", sum := "ea2d4c77ccb14f14d5f469fed342237f5758e2ede25147e4cd8beb1bab27b758", func := "halyard/halyardlaw23.PacketDecodes", spec := "packetDecodes", inPlace := ["internal/bytealg.IndexByte", "internal/bytealg.IndexByteString", "internal/bytealg.IndexString", "internal/bytealg.CountString"], named := ["unicode/utf8.first", "unicode/utf8.acceptRanges", "internal/bytealg.MaxLen"], apart := false, laid := [("unicode/utf8.acceptRanges", laid_unicode_utf8_acceptRanges), ("unicode/utf8.first", laid_unicode_utf8_first)], narrowed := true }
def PacketDecodesUptoSaid : Prop := packetDecodesUptoRow.holds Tryd.pinned (OpenSpec.upto packetDecodesSpec)

/-- 'halyardlaw23.PacketTurned', WHERE WHAT IT READS IS OF BULK AT MOST 1048576: true; the input reads as it did. -/
def packetTurnedUptoRow : OpenClaim := { program := "ytciepfobnaemmaadoor", sum := "ea2d4c77ccb14f14d5f469fed342237f5758e2ede25147e4cd8beb1bab27b758", func := "halyard/halyardlaw23.PacketTurned", spec := "packetTurned", inPlace := ["internal/bytealg.IndexByte", "internal/bytealg.IndexByteString", "internal/bytealg.IndexString", "internal/bytealg.CountString"], named := ["unicode/utf8.first", "unicode/utf8.acceptRanges", "internal/bytealg.MaxLen"], apart := false, laid := [("unicode/utf8.acceptRanges", laid_unicode_utf8_acceptRanges), ("unicode/utf8.first", laid_unicode_utf8_first)], narrowed := true }
def PacketTurnedUptoSaid : Prop := packetTurnedUptoRow.holds Tryd.pinned (OpenSpec.upto packetTurnedSpec)

/-- 'halyardlaw23.PacketEncodes', WHERE WHAT IT READS IS OF BULK AT MOST 1048576: true; the input reads as it did. -/
def packetEncodesUptoRow : OpenClaim := { program := "ytciepfobnaemmaadoor", sum := "ea2d4c77ccb14f14d5f469fed342237f5758e2ede25147e4cd8beb1bab27b758", func := "halyard/halyardlaw23.PacketEncodes", spec := "packetEncodes", inPlace := ["internal/bytealg.IndexByte", "internal/bytealg.IndexByteString", "internal/bytealg.IndexString", "internal/bytealg.CountString"], named := ["unicode/utf8.first", "unicode/utf8.acceptRanges", "internal/bytealg.MaxLen"], apart := false, laid := [("unicode/utf8.acceptRanges", laid_unicode_utf8_acceptRanges), ("unicode/utf8.first", laid_unicode_utf8_first)], narrowed := true }
def PacketEncodesUptoSaid : Prop := packetEncodesUptoRow.holds Tryd.pinned (OpenSpec.upto packetEncodesSpec)

/-- 'halyardlaw23.PacketBack', WHERE WHAT IT READS IS OF BULK AT MOST 1048576: true; the input reads as it did. -/
def packetBackUptoRow : OpenClaim := { program := "ytciepfobnaemmaadoor", sum := "ea2d4c77ccb14f14d5f469fed342237f5758e2ede25147e4cd8beb1bab27b758", func := "halyard/halyardlaw23.PacketBack", spec := "packetBack", inPlace := ["internal/bytealg.IndexByte", "internal/bytealg.IndexByteString", "internal/bytealg.IndexString", "internal/bytealg.CountString"], named := ["unicode/utf8.first", "unicode/utf8.acceptRanges", "internal/bytealg.MaxLen"], apart := false, laid := [("unicode/utf8.acceptRanges", laid_unicode_utf8_acceptRanges), ("unicode/utf8.first", laid_unicode_utf8_first)], narrowed := true }
def PacketBackUptoSaid : Prop := packetBackUptoRow.holds Tryd.pinned (OpenSpec.upto packetBackSpec)

/-- 'halyardlaw23.PacketAgain', WHERE WHAT IT READS IS OF BULK AT MOST 1048576: true; the input reads as it did. -/
def packetAgainUptoRow : OpenClaim := { program := "ytciepfobnaemmaadoor", sum := "ea2d4c77ccb14f14d5f469fed342237f5758e2ede25147e4cd8beb1bab27b758", func := "halyard/halyardlaw23.PacketAgain", spec := "packetAgain", inPlace := ["internal/bytealg.IndexByte", "internal/bytealg.IndexByteString", "internal/bytealg.IndexString", "internal/bytealg.CountString"], named := ["unicode/utf8.first", "unicode/utf8.acceptRanges", "internal/bytealg.MaxLen"], apart := false, laid := [("unicode/utf8.acceptRanges", laid_unicode_utf8_acceptRanges), ("unicode/utf8.first", laid_unicode_utf8_first)], narrowed := true }
def PacketAgainUptoSaid : Prop := packetAgainUptoRow.holds Tryd.pinned (OpenSpec.upto packetAgainSpec)

/-- 'halyardlaw23.PacketNames', WHERE WHAT IT READS IS OF BULK AT MOST 1048576: true; the input reads as it did. -/
def packetNamesUptoRow : OpenClaim := { program := "ytciepfobnaemmaadoor", sum := "ea2d4c77ccb14f14d5f469fed342237f5758e2ede25147e4cd8beb1bab27b758", func := "halyard/halyardlaw23.PacketNames", spec := "packetNames", inPlace := ["internal/bytealg.IndexByte", "internal/bytealg.IndexByteString", "internal/bytealg.IndexString", "internal/bytealg.CountString"], unfollowed := true, recurses := true, named := ["unicode/utf8.first", "unicode/utf8.acceptRanges", "internal/bytealg.MaxLen"], apart := false, laid := [("unicode/utf8.acceptRanges", laid_unicode_utf8_acceptRanges), ("unicode/utf8.first", laid_unicode_utf8_first)], narrowed := true }
def PacketNamesUptoSaid : Prop := packetNamesUptoRow.holds Tryd.pinned (OpenSpec.upto packetNamesSpec)

/-- 'halyardlaw23.PacketFlags', WHERE WHAT IT READS IS OF BULK AT MOST 1048576: true; the input reads as it did. -/
def packetFlagsUptoRow : OpenClaim := { program := "ytciepfobnaemmaadoor", sum := "ea2d4c77ccb14f14d5f469fed342237f5758e2ede25147e4cd8beb1bab27b758", func := "halyard/halyardlaw23.PacketFlags", spec := "packetFlags", inPlace := ["internal/bytealg.IndexByte", "internal/bytealg.IndexByteString", "internal/bytealg.IndexString", "internal/bytealg.CountString"], named := ["unicode/utf8.first", "unicode/utf8.acceptRanges", "internal/bytealg.MaxLen"], apart := false, laid := [("unicode/utf8.acceptRanges", laid_unicode_utf8_acceptRanges), ("unicode/utf8.first", laid_unicode_utf8_first)], narrowed := true }
def PacketFlagsUptoSaid : Prop := packetFlagsUptoRow.holds Tryd.pinned (OpenSpec.upto packetFlagsSpec)

/-- 'halyardlaw24.StreamFeeds', WHERE WHAT IT READS IS OF BULK AT MOST 1048576: true; the input reads as it did. -/
def streamFeedsUptoRow : OpenClaim := { program := "ytciepfobnaemmaadoor", sum := "ea2d4c77ccb14f14d5f469fed342237f5758e2ede25147e4cd8beb1bab27b758", func := "halyard/halyardlaw24.StreamFeeds", spec := "streamFeeds", inPlace := ["internal/bytealg.IndexByte", "internal/bytealg.IndexByteString", "internal/bytealg.IndexString", "internal/bytealg.CountString"], named := ["unicode/utf8.first", "unicode/utf8.acceptRanges", "internal/bytealg.MaxLen"], apart := false, laid := [("unicode/utf8.acceptRanges", laid_unicode_utf8_acceptRanges), ("unicode/utf8.first", laid_unicode_utf8_first)], narrowed := true }
def StreamFeedsUptoSaid : Prop := streamFeedsUptoRow.holds Tryd.pinned (OpenSpec.upto streamFeedsSpec)

/-- 'halyardlaw24.StreamNil', WHERE WHAT IT READS IS OF BULK AT MOST 1048576: true; the input reads as it did. -/
def streamNilUptoRow : OpenClaim := { program := "ytciepfobnaemmaadoor", sum := "ea2d4c77ccb14f14d5f469fed342237f5758e2ede25147e4cd8beb1bab27b758", func := "halyard/halyardlaw24.StreamNil", spec := "streamNil", inPlace := ["internal/bytealg.IndexByte", "internal/bytealg.IndexByteString", "internal/bytealg.IndexString", "internal/bytealg.CountString"], named := ["unicode/utf8.first", "unicode/utf8.acceptRanges", "internal/bytealg.MaxLen"], apart := false, laid := [("unicode/utf8.acceptRanges", laid_unicode_utf8_acceptRanges), ("unicode/utf8.first", laid_unicode_utf8_first)], narrowed := true }
def StreamNilUptoSaid : Prop := streamNilUptoRow.holds Tryd.pinned (OpenSpec.upto streamNilSpec)

/-- 'halyardlaw24.StreamPieces', WHERE WHAT IT READS IS OF BULK AT MOST 1048576: true; the input reads as it did. -/
def streamPiecesUptoRow : OpenClaim := { program := "ytciepfobnaemmaadoor", sum := "ea2d4c77ccb14f14d5f469fed342237f5758e2ede25147e4cd8beb1bab27b758", func := "halyard/halyardlaw24.StreamPieces", spec := "streamPieces", inPlace := ["internal/bytealg.IndexByte", "internal/bytealg.IndexByteString", "internal/bytealg.IndexString", "internal/bytealg.CountString"], named := ["unicode/utf8.first", "unicode/utf8.acceptRanges", "internal/bytealg.MaxLen"], apart := false, laid := [("unicode/utf8.acceptRanges", laid_unicode_utf8_acceptRanges), ("unicode/utf8.first", laid_unicode_utf8_first)], narrowed := true }
def StreamPiecesUptoSaid : Prop := streamPiecesUptoRow.holds Tryd.pinned (OpenSpec.upto streamPiecesSpec)

/-- 'halyardlaw24.StreamPackets', WHERE WHAT IT READS IS OF BULK AT MOST 1048576: true; the input reads as it did. -/
def streamPacketsUptoRow : OpenClaim := { program := "ytciepfobnaemmaadoor", sum := "ea2d4c77ccb14f14d5f469fed342237f5758e2ede25147e4cd8beb1bab27b758", func := "halyard/halyardlaw24.StreamPackets", spec := "streamPackets", inPlace := ["internal/bytealg.IndexByte", "internal/bytealg.IndexByteString", "internal/bytealg.IndexString", "internal/bytealg.CountString"], named := ["unicode/utf8.first", "unicode/utf8.acceptRanges", "internal/bytealg.MaxLen"], apart := false, laid := [("unicode/utf8.acceptRanges", laid_unicode_utf8_acceptRanges), ("unicode/utf8.first", laid_unicode_utf8_first)], narrowed := true }
def StreamPacketsUptoSaid : Prop := streamPacketsUptoRow.holds Tryd.pinned (OpenSpec.upto streamPacketsSpec)

end Rows
end Go.Proofs.YtciepfobnaemmaaDoor
