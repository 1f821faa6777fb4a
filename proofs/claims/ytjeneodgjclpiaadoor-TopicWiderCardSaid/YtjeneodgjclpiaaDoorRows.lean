/-
  NARROWER THAN 'FOR EVERY INPUT', by the rows' own cells (each row's printed sentence says how): TopicFilters: laid · TopicWider: laid · TopicLevels: laid · TopicTexts: laid · TopicMatches: laid · TopicItself: laid · TopicCovers: laid · TopicBelow: laid.
  DERIVED. THE GIVEN ROWS OF THIS SEAT. 8 by the template 'for every input the law returns true; each argument reads behind the call as it read before'; 0 by the template 'total and deterministic' (their statements: YtjeneodgjclpiaaDoorTotals.lean).
  GIVEN WITH THE SEED: the statements are not yours to turn. If you find one false, say at which input.
  Laid BY PROGRAM, IN A SANDBOX (cutbox-rows.mjs): the forced cells as the released guide's own fill.sh prints them over the translation 879960bb013efcd5… (all of the seat's roots in one cut). By AI agents, Wed Nov 11 2026. No macro, syntax, notation, axiom, sorry.
-/
import Derived.Test.YtjeneodgjclpiaaDoorChecked
import GoSem.PinnedTables
import GoSem.Claim
import GoSem.ClaimJoined
import GoSem.ClaimMapViews
import Derived.JoinedTies
import Derived.KernelRfl
namespace Go.Proofs.YtjeneodgjclpiaaDoor
/- THE CELL 'sum', in the pinned program and in every row, IS THE sha256 OF THE DUMP (.gsa) THAT YtjeneodgjclpiaaDoorProg.lean LOADS. Nothing in Lean hashes anything: it is a label: what it is worth is what the hold of that sum in a sandbox is worth. -/
noncomputable def Tryd.pinned : Pinned := { name := "ytjeneodgjclpiaadoor", sum := "879960bb013efcd5290e6481fd452bd05648fcb0c9a1c2182a2e44ca973e417b", checked := Tryd.checked }
namespace Rows
def none {H : Type} : Left H := { results := [], args := [] }

/- WHAT THE LISTED PACKAGE-LEVEL VARIABLES READ AS WHEN THE CALL BEGINS. Each datum BY PROGRAM (the guide's laid-datum.mjs) off the statement by which the dump's own 'gosem.cut.vars' lays the variable. In a bare row this is a premise. The card (YtjeneodgjclpiaaDoorCards.lean) ties it to the program's text. -/
def laid_unicode_utf8_acceptRanges {H : Type} : DataW H := .agg [.agg [.lit (.int .u8 128), .lit (.int .u8 191)], .agg [.lit (.int .u8 160), .lit (.int .u8 191)], .agg [.lit (.int .u8 128), .lit (.int .u8 159)], .agg [.lit (.int .u8 144), .lit (.int .u8 191)], .agg [.lit (.int .u8 128), .lit (.int .u8 143)], .agg [.lit (.int .u8 0), .lit (.int .u8 0)], .agg [.lit (.int .u8 0), .lit (.int .u8 0)], .agg [.lit (.int .u8 0), .lit (.int .u8 0)], .agg [.lit (.int .u8 0), .lit (.int .u8 0)], .agg [.lit (.int .u8 0), .lit (.int .u8 0)], .agg [.lit (.int .u8 0), .lit (.int .u8 0)], .agg [.lit (.int .u8 0), .lit (.int .u8 0)], .agg [.lit (.int .u8 0), .lit (.int .u8 0)], .agg [.lit (.int .u8 0), .lit (.int .u8 0)], .agg [.lit (.int .u8 0), .lit (.int .u8 0)], .agg [.lit (.int .u8 0), .lit (.int .u8 0)]]
/-- One of Go's own tables, pinned by name: the form's constant. -/
def laid_unicode_utf8_first : DataW Unit := Go.Pinned.utf8First

/-- 'halyardlaw4.TopicFilters': WHATEVER THE INPUT: true; the input reads as it did. -/
def topicFiltersSpec : ChangeSpec := { name := "topicFilters", fn := fun _ => fun
  | [d] => { results := [.lit (.bool true)], args := [d] }
  | _ => none }
def topicFiltersRow : OpenClaim := { program := "ytjeneodgjclpiaadoor", sum := "879960bb013efcd5290e6481fd452bd05648fcb0c9a1c2182a2e44ca973e417b", func := "halyard/halyardlaw4.TopicFilters", spec := "topicFilters", inPlace := ["internal/bytealg.IndexByte", "internal/bytealg.CountString", "internal/bytealg.IndexByteString", "internal/bytealg.IndexString"], unfollowed := true, recurses := true, named := ["unicode/utf8.first", "unicode/utf8.acceptRanges", "internal/bytealg.MaxLen"], apart := false, laid := [("unicode/utf8.acceptRanges", laid_unicode_utf8_acceptRanges), ("unicode/utf8.first", laid_unicode_utf8_first)] }
def TopicFiltersSaid : Prop := topicFiltersRow.holds Tryd.pinned (OpenSpec.ofChange topicFiltersSpec)

/-- ITS FALSE NEIGHBOUR: 'it returns false'. Refute it at one input. -/
def topicFiltersWrong : ChangeSpec := { name := "topicFilters", fn := fun _ => fun
  | [d] => { results := [.lit (.bool false)], args := [d] }
  | _ => none }
def TopicFiltersWrongFalsely : Prop := topicFiltersRow.holds Tryd.pinned (OpenSpec.ofChange topicFiltersWrong)

/-- 'halyardlaw4.TopicWider': WHATEVER THE INPUT: true; the input reads as it did. -/
def topicWiderSpec : ChangeSpec := { name := "topicWider", fn := fun _ => fun
  | [d1, d2, d3] => { results := [.lit (.bool true)], args := [d1, d2, d3] }
  | _ => none }
def topicWiderRow : OpenClaim := { program := "ytjeneodgjclpiaadoor", sum := "879960bb013efcd5290e6481fd452bd05648fcb0c9a1c2182a2e44ca973e417b", func := "halyard/halyardlaw4.TopicWider", spec := "topicWider", inPlace := ["internal/bytealg.IndexByte", "internal/bytealg.CountString", "internal/bytealg.IndexByteString", "internal/bytealg.IndexString"], unfollowed := true, recurses := true, named := ["unicode/utf8.first", "unicode/utf8.acceptRanges", "internal/bytealg.MaxLen"], apart := false, laid := [("unicode/utf8.acceptRanges", laid_unicode_utf8_acceptRanges), ("unicode/utf8.first", laid_unicode_utf8_first)] }
def TopicWiderSaid : Prop := topicWiderRow.holds Tryd.pinned (OpenSpec.ofChange topicWiderSpec)

/-- ITS FALSE NEIGHBOUR: 'it returns false'. Refute it at one input. -/
def topicWiderWrong : ChangeSpec := { name := "topicWider", fn := fun _ => fun
  | [d1, d2, d3] => { results := [.lit (.bool false)], args := [d1, d2, d3] }
  | _ => none }
def TopicWiderWrongFalsely : Prop := topicWiderRow.holds Tryd.pinned (OpenSpec.ofChange topicWiderWrong)

/-- 'halyardlaw4.TopicLevels': WHATEVER THE INPUT: true; the input reads as it did. -/
def topicLevelsSpec : ChangeSpec := { name := "topicLevels", fn := fun _ => fun
  | [d] => { results := [.lit (.bool true)], args := [d] }
  | _ => none }
def topicLevelsRow : OpenClaim := { program := "ytjeneodgjclpiaadoor", sum := "879960bb013efcd5290e6481fd452bd05648fcb0c9a1c2182a2e44ca973e417b", func := "halyard/halyardlaw4.TopicLevels", spec := "topicLevels", inPlace := ["internal/bytealg.CountString", "internal/bytealg.IndexByteString", "internal/bytealg.IndexString", "internal/bytealg.IndexByte"], unfollowed := true, recurses := true, named := ["unicode/utf8.first", "unicode/utf8.acceptRanges", "internal/bytealg.MaxLen"], apart := false, laid := [("unicode/utf8.acceptRanges", laid_unicode_utf8_acceptRanges), ("unicode/utf8.first", laid_unicode_utf8_first)] }
def TopicLevelsSaid : Prop := topicLevelsRow.holds Tryd.pinned (OpenSpec.ofChange topicLevelsSpec)

/-- ITS FALSE NEIGHBOUR: 'it returns false'. Refute it at one input. -/
def topicLevelsWrong : ChangeSpec := { name := "topicLevels", fn := fun _ => fun
  | [d] => { results := [.lit (.bool false)], args := [d] }
  | _ => none }
def TopicLevelsWrongFalsely : Prop := topicLevelsRow.holds Tryd.pinned (OpenSpec.ofChange topicLevelsWrong)

/-- 'halyardlaw4.TopicTexts': WHATEVER THE INPUT: true; the input reads as it did. -/
def topicTextsSpec : ChangeSpec := { name := "topicTexts", fn := fun _ => fun
  | [d] => { results := [.lit (.bool true)], args := [d] }
  | _ => none }
def topicTextsRow : OpenClaim := { program := "ytjeneodgjclpiaadoor", sum := "879960bb013efcd5290e6481fd452bd05648fcb0c9a1c2182a2e44ca973e417b", func := "halyard/halyardlaw4.TopicTexts", spec := "topicTexts", inPlace := ["internal/bytealg.IndexByte", "internal/bytealg.IndexByteString", "internal/bytealg.IndexString", "internal/bytealg.CountString"], unfollowed := true, recurses := true, named := ["unicode/utf8.first", "unicode/utf8.acceptRanges", "internal/bytealg.MaxLen"], apart := false, laid := [("unicode/utf8.acceptRanges", laid_unicode_utf8_acceptRanges), ("unicode/utf8.first", laid_unicode_utf8_first)] }
def TopicTextsSaid : Prop := topicTextsRow.holds Tryd.pinned (OpenSpec.ofChange topicTextsSpec)

/-- ITS FALSE NEIGHBOUR: 'it returns false'. Refute it at one input. -/
def topicTextsWrong : ChangeSpec := { name := "topicTexts", fn := fun _ => fun
  | [d] => { results := [.lit (.bool false)], args := [d] }
  | _ => none }
def TopicTextsWrongFalsely : Prop := topicTextsRow.holds Tryd.pinned (OpenSpec.ofChange topicTextsWrong)

/-- 'halyardlaw4.TopicMatches': WHATEVER THE INPUT: true; the input reads as it did. -/
def topicMatchesSpec : ChangeSpec := { name := "topicMatches", fn := fun _ => fun
  | [d1, d2] => { results := [.lit (.bool true)], args := [d1, d2] }
  | _ => none }
def topicMatchesRow : OpenClaim := { program := "ytjeneodgjclpiaadoor", sum := "879960bb013efcd5290e6481fd452bd05648fcb0c9a1c2182a2e44ca973e417b", func := "halyard/halyardlaw4.TopicMatches", spec := "topicMatches", inPlace := ["internal/bytealg.IndexByte", "internal/bytealg.CountString", "internal/bytealg.IndexByteString", "internal/bytealg.IndexString"], unfollowed := true, recurses := true, named := ["unicode/utf8.first", "unicode/utf8.acceptRanges", "internal/bytealg.MaxLen"], apart := false, laid := [("unicode/utf8.acceptRanges", laid_unicode_utf8_acceptRanges), ("unicode/utf8.first", laid_unicode_utf8_first)] }
def TopicMatchesSaid : Prop := topicMatchesRow.holds Tryd.pinned (OpenSpec.ofChange topicMatchesSpec)

/-- ITS FALSE NEIGHBOUR: 'it returns false'. Refute it at one input. -/
def topicMatchesWrong : ChangeSpec := { name := "topicMatches", fn := fun _ => fun
  | [d1, d2] => { results := [.lit (.bool false)], args := [d1, d2] }
  | _ => none }
def TopicMatchesWrongFalsely : Prop := topicMatchesRow.holds Tryd.pinned (OpenSpec.ofChange topicMatchesWrong)

/-- 'halyardlaw4.TopicItself': WHATEVER THE INPUT: true; the input reads as it did. -/
def topicItselfSpec : ChangeSpec := { name := "topicItself", fn := fun _ => fun
  | [d1, d2] => { results := [.lit (.bool true)], args := [d1, d2] }
  | _ => none }
def topicItselfRow : OpenClaim := { program := "ytjeneodgjclpiaadoor", sum := "879960bb013efcd5290e6481fd452bd05648fcb0c9a1c2182a2e44ca973e417b", func := "halyard/halyardlaw4.TopicItself", spec := "topicItself", inPlace := ["internal/bytealg.IndexByte", "internal/bytealg.IndexByteString", "internal/bytealg.IndexString", "internal/bytealg.CountString"], unfollowed := true, recurses := true, named := ["unicode/utf8.first", "unicode/utf8.acceptRanges", "internal/bytealg.MaxLen"], apart := false, laid := [("unicode/utf8.acceptRanges", laid_unicode_utf8_acceptRanges), ("unicode/utf8.first", laid_unicode_utf8_first)] }
def TopicItselfSaid : Prop := topicItselfRow.holds Tryd.pinned (OpenSpec.ofChange topicItselfSpec)

/-- ITS FALSE NEIGHBOUR: 'it returns false'. Refute it at one input. -/
def topicItselfWrong : ChangeSpec := { name := "topicItself", fn := fun _ => fun
  | [d1, d2] => { results := [.lit (.bool false)], args := [d1, d2] }
  | _ => none }
def TopicItselfWrongFalsely : Prop := topicItselfRow.holds Tryd.pinned (OpenSpec.ofChange topicItselfWrong)

/-- 'halyardlaw4.TopicCovers': WHATEVER THE INPUT: true; the input reads as it did. -/
def topicCoversSpec : ChangeSpec := { name := "topicCovers", fn := fun _ => fun
  | [d1, d2, d3, d4] => { results := [.lit (.bool true)], args := [d1, d2, d3, d4] }
  | _ => none }
def topicCoversRow : OpenClaim := { program := "ytjeneodgjclpiaadoor", sum := "879960bb013efcd5290e6481fd452bd05648fcb0c9a1c2182a2e44ca973e417b", func := "halyard/halyardlaw4.TopicCovers", spec := "topicCovers", inPlace := ["internal/bytealg.IndexByte", "internal/bytealg.CountString", "internal/bytealg.IndexByteString", "internal/bytealg.IndexString"], unfollowed := true, recurses := true, named := ["unicode/utf8.first", "unicode/utf8.acceptRanges", "internal/bytealg.MaxLen"], apart := false, laid := [("unicode/utf8.acceptRanges", laid_unicode_utf8_acceptRanges), ("unicode/utf8.first", laid_unicode_utf8_first)] }
def TopicCoversSaid : Prop := topicCoversRow.holds Tryd.pinned (OpenSpec.ofChange topicCoversSpec)

/-- ITS FALSE NEIGHBOUR: 'it returns false'. Refute it at one input. -/
def topicCoversWrong : ChangeSpec := { name := "topicCovers", fn := fun _ => fun
  | [d1, d2, d3, d4] => { results := [.lit (.bool false)], args := [d1, d2, d3, d4] }
  | _ => none }
def TopicCoversWrongFalsely : Prop := topicCoversRow.holds Tryd.pinned (OpenSpec.ofChange topicCoversWrong)

/-- 'halyardlaw4.TopicBelow': WHATEVER THE INPUT: true; the input reads as it did. -/
def topicBelowSpec : ChangeSpec := { name := "topicBelow", fn := fun _ => fun
  | [d1, d2] => { results := [.lit (.bool true)], args := [d1, d2] }
  | _ => none }
def topicBelowRow : OpenClaim := { program := "ytjeneodgjclpiaadoor", sum := "879960bb013efcd5290e6481fd452bd05648fcb0c9a1c2182a2e44ca973e417b", func := "halyard/halyardlaw4.TopicBelow", spec := "topicBelow", inPlace := ["internal/bytealg.IndexByte", "internal/bytealg.IndexByteString", "internal/bytealg.IndexString", "internal/bytealg.CountString"], unfollowed := true, recurses := true, named := ["unicode/utf8.first", "unicode/utf8.acceptRanges", "internal/bytealg.MaxLen"], apart := false, laid := [("unicode/utf8.acceptRanges", laid_unicode_utf8_acceptRanges), ("unicode/utf8.first", laid_unicode_utf8_first)] }
def TopicBelowSaid : Prop := topicBelowRow.holds Tryd.pinned (OpenSpec.ofChange topicBelowSpec)

/-- ITS FALSE NEIGHBOUR: 'it returns false'. Refute it at one input. -/
def topicBelowWrong : ChangeSpec := { name := "topicBelow", fn := fun _ => fun
  | [d1, d2] => { results := [.lit (.bool false)], args := [d1, d2] }
  | _ => none }
def TopicBelowWrongFalsely : Prop := topicBelowRow.holds Tryd.pinned (OpenSpec.ofChange topicBelowWrong)

/- THE SECOND FORM. 'bulk': how many values and letters a reading holds, each counted each time it is reached (what is shared counts as often as it is met; a slice's spare places count too). A statement '..UptoSaid' is the law's where the arguments, and the package variables that the reading takes, are together of bulk at most 1048576: NARROWER than '..Said'. Prove '..Said' where nothing that the law and all that it calls make is longer than what came in: it says more and counts as full. Else prove '..UptoSaid'. A law counts once. -/
mutual
def uptoBulk {H : Type} : DataW H → Nat
  | .lit (.string bytes) => bytes.length + 1
  | .lit _ => 1
  | .nil => 1
  | .ptr d => uptoBulk d + 1
  | .slice elems spare => uptoBulkAll elems + uptoBulkAll spare + 1
  | .agg parts => uptoBulkAll parts + 1
  | .iface _ d => uptoBulk d + 1
  | .map entries => uptoBulkEntries entries + 1
  | .held _ => 1
def uptoBulkAll {H : Type} : List (DataW H) → Nat
  | [] => 0
  | d :: r => uptoBulk d + uptoBulkAll r
def uptoBulkEntries {H : Type} : List (Lit × DataW H) → Nat
  | [] => 0
  | x :: r => uptoBulkEntry x + uptoBulkEntries r
def uptoBulkEntry {H : Type} : Lit × DataW H → Nat
  | (.string bytes, d) => bytes.length + uptoBulk d + 1
  | (_, d) => uptoBulk d + 1
 end
def uptoSmall : (H : Type) → List (DataW H) → Bool := fun _ ds => decide (uptoBulkAll ds ≤ 1048576)
def OpenSpec.upto (s : _root_.Go.ChangeSpec) : _root_.Go.OpenSpec := { _root_.Go.OpenSpec.ofChange s with cond := some uptoSmall }

/-- 'halyardlaw4.TopicFilters', WHERE WHAT IT READS IS OF BULK AT MOST 1048576: true; the input reads as it did. -/
def topicFiltersUptoRow : OpenClaim := { program := "ytjeneodgjclpiaadoor", sum := "879960bb013efcd5290e6481fd452bd05648fcb0c9a1c2182a2e44ca973e417b", func := "halyard/halyardlaw4.TopicFilters", spec := "topicFilters", inPlace := ["internal/bytealg.IndexByte", "internal/bytealg.CountString", "internal/bytealg.IndexByteString", "internal/bytealg.IndexString"], unfollowed := true, recurses := true, named := ["unicode/utf8.first", "unicode/utf8.acceptRanges", "internal/bytealg.MaxLen"], apart := false, laid := [("unicode/utf8.acceptRanges", laid_unicode_utf8_acceptRanges), ("unicode/utf8.first", laid_unicode_utf8_first)], narrowed := true }
def TopicFiltersUptoSaid : Prop := topicFiltersUptoRow.holds Tryd.pinned (OpenSpec.upto topicFiltersSpec)

/-- 'halyardlaw4.TopicWider', WHERE WHAT IT READS IS OF BULK AT MOST 1048576: true; the input reads as it did. -/
def topicWiderUptoRow : OpenClaim := { program := "ytjeneodgjclpiaadoor", sum := "879960bb013efcd5290e6481fd452bd05648fcb0c9a1c2182a2e44ca973e417b", func := "halyard/halyardlaw4.TopicWider", spec := "topicWider", inPlace := ["internal/bytealg.IndexByte", "internal/bytealg.CountString", "internal/bytealg.IndexByteString", "internal/bytealg.IndexString"], unfollowed := true, recurses := true, named := ["unicode/utf8.first", "unicode/utf8.acceptRanges", "internal/bytealg.MaxLen"], apart := false, laid := [("unicode/utf8.acceptRanges", laid_unicode_utf8_acceptRanges), ("unicode/utf8.first", laid_unicode_utf8_first)], narrowed := true }
def TopicWiderUptoSaid : Prop := topicWiderUptoRow.holds Tryd.pinned (OpenSpec.upto topicWiderSpec)

/-- 'halyardlaw4.TopicLevels', WHERE WHAT IT READS IS OF BULK AT MOST 1048576: true; the input reads as it did. -/
def topicLevelsUptoRow : OpenClaim := { program := "ytjeneodgjclpiaadoor", sum := "879960bb013efcd5290e6481fd452bd05648fcb0c9a1c2182a2e44ca973e417b", func := "halyard/halyardlaw4.TopicLevels", spec := "topicLevels", inPlace := ["internal/bytealg.CountString", "internal/bytealg.IndexByteString", "internal/bytealg.IndexString", "internal/bytealg.IndexByte"], unfollowed := true, recurses := true, named := ["unicode/utf8.first", "unicode/utf8.acceptRanges", "internal/bytealg.MaxLen"], apart := false, laid := [("unicode/utf8.acceptRanges", laid_unicode_utf8_acceptRanges), ("unicode/utf8.first", laid_unicode_utf8_first)], narrowed := true }
def TopicLevelsUptoSaid : Prop := topicLevelsUptoRow.holds Tryd.pinned (OpenSpec.upto topicLevelsSpec)

/-- 'halyardlaw4.TopicTexts', WHERE WHAT IT READS IS OF BULK AT MOST 1048576: true; the input reads as it did. -/
def topicTextsUptoRow : OpenClaim := { program := "ytjeneodgjclpiaadoor", sum := "879960bb013efcd5290e6481fd452bd05648fcb0c9a1c2182a2e44ca973e417b", func := "halyard/halyardlaw4.TopicTexts", spec := "topicTexts", inPlace := ["internal/bytealg.IndexByte", "internal/bytealg.IndexByteString", "internal/bytealg.IndexString", "internal/bytealg.CountString"], unfollowed := true, recurses := true, named := ["unicode/utf8.first", "unicode/utf8.acceptRanges", "internal/bytealg.MaxLen"], apart := false, laid := [("unicode/utf8.acceptRanges", laid_unicode_utf8_acceptRanges), ("unicode/utf8.first", laid_unicode_utf8_first)], narrowed := true }
def TopicTextsUptoSaid : Prop := topicTextsUptoRow.holds Tryd.pinned (OpenSpec.upto topicTextsSpec)

/-- 'halyardlaw4.TopicMatches', WHERE WHAT IT READS IS OF BULK AT MOST 1048576: true; the input reads as it did. -/
def topicMatchesUptoRow : OpenClaim := { program := "ytjeneodgjclpiaadoor", sum := "879960bb013efcd5290e6481fd452bd05648fcb0c9a1c2182a2e44ca973e417b", func := "halyard/halyardlaw4.TopicMatches", spec := "topicMatches", inPlace := ["internal/bytealg.IndexByte", "internal/bytealg.CountString", "internal/bytealg.IndexByteString", "internal/bytealg.IndexString"], unfollowed := true, recurses := true, named := ["unicode/utf8.first", "unicode/utf8.acceptRanges", "internal/bytealg.MaxLen"], apart := false, laid := [("unicode/utf8.acceptRanges", laid_unicode_utf8_acceptRanges), ("unicode/utf8.first", laid_unicode_utf8_first)], narrowed := true }
def TopicMatchesUptoSaid : Prop := topicMatchesUptoRow.holds Tryd.pinned (OpenSpec.upto topicMatchesSpec)

/-- 'halyardlaw4.TopicItself', WHERE WHAT IT READS IS OF BULK AT MOST 1048576: true; the input reads as it did. -/
def topicItselfUptoRow : OpenClaim := { program := "ytjeneodgjclpiaadoor", sum := "879960bb013efcd5290e6481fd452bd05648fcb0c9a1c2182a2e44ca973e417b", func := "halyard/halyardlaw4.TopicItself", spec := "topicItself", inPlace := ["internal/bytealg.IndexByte", "internal/bytealg.IndexByteString", "internal/bytealg.IndexString", "internal/bytealg.CountString"], unfollowed := true, recurses := true, named := ["unicode/utf8.first", "unicode/utf8.acceptRanges", "internal/bytealg.MaxLen"], apart := false, laid := [("unicode/utf8.acceptRanges", laid_unicode_utf8_acceptRanges), ("unicode/utf8.first", laid_unicode_utf8_first)], narrowed := true }
def TopicItselfUptoSaid : Prop := topicItselfUptoRow.holds Tryd.pinned (OpenSpec.upto topicItselfSpec)

/-- 'halyardlaw4.TopicCovers', WHERE WHAT IT READS IS OF BULK AT MOST 1048576: true; the input reads as it did. -/
def topicCoversUptoRow : OpenClaim := { program := "ytjeneodgjclpiaadoor", sum := "879960bb013efcd5290e6481fd452bd05648fcb0c9a1c2182a2e44ca973e417b", func := "halyard/halyardlaw4.TopicCovers", spec := "topicCovers", inPlace := ["internal/bytealg.IndexByte", "internal/bytealg.CountString", "internal/bytealg.IndexByteString", "internal/bytealg.IndexString"], unfollowed := true, recurses := true, named := ["unicode/utf8.first", "unicode/utf8.acceptRanges", "internal/bytealg.MaxLen"], apart := false, laid := [("unicode/utf8.acceptRanges", laid_unicode_utf8_acceptRanges), ("unicode/utf8.first", laid_unicode_utf8_first)], narrowed := true }
def TopicCoversUptoSaid : Prop := topicCoversUptoRow.holds Tryd.pinned (OpenSpec.upto topicCoversSpec)

/-- 'halyardlaw4.TopicBelow', WHERE WHAT IT READS IS OF BULK AT MOST 1048576: true; the input reads as it did. -/
def topicBelowUptoRow : OpenClaim := { program := "ytjeneodgjclpiaadoor", sum := "879960bb013efcd5290e6481fd452bd05648fcb0c9a1c2182a2e44ca973e417b", func := "halyard/halyardlaw4.TopicBelow", spec := "topicBelow", inPlace := ["internal/bytealg.IndexByte", "internal/bytealg.IndexByteString", "internal/bytealg.IndexString", "internal/bytealg.CountString"], unfollowed := true, recurses := true, named := ["unicode/utf8.first", "unicode/utf8.acceptRanges", "internal/bytealg.MaxLen"], apart := false, laid := [("unicode/utf8.acceptRanges", laid_unicode_utf8_acceptRanges), ("unicode/utf8.first", laid_unicode_utf8_first)], narrowed := true }
def TopicBelowUptoSaid : Prop := topicBelowUptoRow.holds Tryd.pinned (OpenSpec.upto topicBelowSpec)

end Rows
end Go.Proofs.YtjeneodgjclpiaaDoor
