/-
  NARROWER THAN 'FOR EVERY INPUT', by the rows' own cells (each row's printed sentence says how): TrieTurned: laid · TrieCovers: laid · TriePlays: laid · TrieNil: laid · TrieDrops: laid · TrieGone: laid.
  DERIVED. THE GIVEN ROWS OF THIS SEAT. 6 by the template 'for every input the law returns true; each argument reads behind the call as it read before'; 0 by the template 'total and deterministic' (their statements: YtnmngjffebbbnaaDoorTotals.lean).
  GIVEN WITH THE SEED: the statements are not yours to turn. If you find one false, say at which input.
  Laid BY PROGRAM, IN A SANDBOX (cutbox-rows.mjs): the forced cells as the released guide's own fill.sh prints them over the translation 2cd0991bd1b08c15… (all of the seat's roots in one cut). By AI agents, Wed Nov 11 2026. No macro, syntax, notation, axiom, sorry.
-/
import Derived.Test.YtnmngjffebbbnaaDoorChecked
import GoSem.PinnedTables
import GoSem.Claim
import GoSem.ClaimJoined
import GoSem.ClaimMapViews
import Derived.JoinedTies
import Derived.KernelRfl
namespace Go.Proofs.YtnmngjffebbbnaaDoor
/- THE CELL 'sum', in the pinned program and in every row, IS THE sha256 OF THE DUMP (.gsa) THAT YtnmngjffebbbnaaDoorProg.lean LOADS. Nothing in Lean hashes anything: it is a label: what it is worth is what the hold of that sum in a sandbox is worth. -/
noncomputable def Tryd.pinned : Pinned := { name := "ytnmngjffebbbnaadoor", sum := "2cd0991bd1b08c15a1cad967965e6135daa8c2cdd19885a5de55e050f2cc65c0", checked := Tryd.checked }
namespace Rows
def none {H : Type} : Left H := { results := [], args := [] }

/- WHAT THE LISTED PACKAGE-LEVEL VARIABLES READ AS WHEN THE CALL BEGINS. Each datum BY PROGRAM (the guide's laid-datum.mjs) off the statement by which the dump's own 'gosem.cut.vars' lays the variable. In a bare row this is a premise. The card (YtnmngjffebbbnaaDoorCards.lean) ties it to the program's text. -/
def laid_unicode_utf8_acceptRanges {H : Type} : DataW H := .agg [.agg [.lit (.int .u8 128), .lit (.int .u8 191)], .agg [.lit (.int .u8 160), .lit (.int .u8 191)], .agg [.lit (.int .u8 128), .lit (.int .u8 159)], .agg [.lit (.int .u8 144), .lit (.int .u8 191)], .agg [.lit (.int .u8 128), .lit (.int .u8 143)], .agg [.lit (.int .u8 0), .lit (.int .u8 0)], .agg [.lit (.int .u8 0), .lit (.int .u8 0)], .agg [.lit (.int .u8 0), .lit (.int .u8 0)], .agg [.lit (.int .u8 0), .lit (.int .u8 0)], .agg [.lit (.int .u8 0), .lit (.int .u8 0)], .agg [.lit (.int .u8 0), .lit (.int .u8 0)], .agg [.lit (.int .u8 0), .lit (.int .u8 0)], .agg [.lit (.int .u8 0), .lit (.int .u8 0)], .agg [.lit (.int .u8 0), .lit (.int .u8 0)], .agg [.lit (.int .u8 0), .lit (.int .u8 0)], .agg [.lit (.int .u8 0), .lit (.int .u8 0)]]
/-- One of Go's own tables, pinned by name: the form's constant. -/
def laid_unicode_utf8_first : DataW Unit := Go.Pinned.utf8First

/-- 'halyardlaw22.TrieTurned': WHATEVER THE INPUT: true; the input reads as it did. -/
def trieTurnedSpec : ChangeSpec := { name := "trieTurned", fn := fun _ => fun
  | [d1, d2] => { results := [.lit (.bool true)], args := [d1, d2] }
  | _ => none }
def trieTurnedRow : OpenClaim := { program := "ytnmngjffebbbnaadoor", sum := "2cd0991bd1b08c15a1cad967965e6135daa8c2cdd19885a5de55e050f2cc65c0", func := "halyard/halyardlaw22.TrieTurned", spec := "trieTurned", inPlace := ["internal/bytealg.IndexByte", "internal/bytealg.CountString", "internal/bytealg.IndexByteString", "internal/bytealg.IndexString"], unfollowed := true, recurses := true, named := ["unicode/utf8.first", "unicode/utf8.acceptRanges", "internal/bytealg.MaxLen"], apart := false, laid := [("unicode/utf8.acceptRanges", laid_unicode_utf8_acceptRanges), ("unicode/utf8.first", laid_unicode_utf8_first)] }
def TrieTurnedSaid : Prop := trieTurnedRow.holds Tryd.pinned (OpenSpec.ofChange trieTurnedSpec)

/-- ITS FALSE NEIGHBOUR: 'it returns false'. Refute it at one input. -/
def trieTurnedWrong : ChangeSpec := { name := "trieTurned", fn := fun _ => fun
  | [d1, d2] => { results := [.lit (.bool false)], args := [d1, d2] }
  | _ => none }
def TrieTurnedWrongFalsely : Prop := trieTurnedRow.holds Tryd.pinned (OpenSpec.ofChange trieTurnedWrong)

/-- 'halyardlaw22.TrieCovers': WHATEVER THE INPUT: true; the input reads as it did. -/
def trieCoversSpec : ChangeSpec := { name := "trieCovers", fn := fun _ => fun
  | [d1, d2, d3, d4, d5] => { results := [.lit (.bool true)], args := [d1, d2, d3, d4, d5] }
  | _ => none }
def trieCoversRow : OpenClaim := { program := "ytnmngjffebbbnaadoor", sum := "2cd0991bd1b08c15a1cad967965e6135daa8c2cdd19885a5de55e050f2cc65c0", func := "halyard/halyardlaw22.TrieCovers", spec := "trieCovers", inPlace := ["internal/bytealg.IndexByte", "internal/bytealg.CountString", "internal/bytealg.IndexByteString", "internal/bytealg.IndexString"], unfollowed := true, recurses := true, named := ["unicode/utf8.first", "unicode/utf8.acceptRanges", "internal/bytealg.MaxLen"], apart := false, laid := [("unicode/utf8.acceptRanges", laid_unicode_utf8_acceptRanges), ("unicode/utf8.first", laid_unicode_utf8_first)] }
def TrieCoversSaid : Prop := trieCoversRow.holds Tryd.pinned (OpenSpec.ofChange trieCoversSpec)

/-- ITS FALSE NEIGHBOUR: 'it returns false'. Refute it at one input. -/
def trieCoversWrong : ChangeSpec := { name := "trieCovers", fn := fun _ => fun
  | [d1, d2, d3, d4, d5] => { results := [.lit (.bool false)], args := [d1, d2, d3, d4, d5] }
  | _ => none }
def TrieCoversWrongFalsely : Prop := trieCoversRow.holds Tryd.pinned (OpenSpec.ofChange trieCoversWrong)

/-- 'halyardlaw22.TriePlays': WHATEVER THE INPUT: true; the input reads as it did. -/
def triePlaysSpec : ChangeSpec := { name := "triePlays", fn := fun _ => fun
  | [d1, d2, d3] => { results := [.lit (.bool true)], args := [d1, d2, d3] }
  | _ => none }
def triePlaysRow : OpenClaim := { program := "ytnmngjffebbbnaadoor", sum := "2cd0991bd1b08c15a1cad967965e6135daa8c2cdd19885a5de55e050f2cc65c0", func := "halyard/halyardlaw22.TriePlays", spec := "triePlays", inPlace := ["internal/bytealg.IndexByte", "internal/bytealg.CountString", "internal/bytealg.IndexByteString", "internal/bytealg.IndexString"], unfollowed := true, recurses := true, named := ["unicode/utf8.first", "unicode/utf8.acceptRanges", "internal/bytealg.MaxLen"], apart := false, laid := [("unicode/utf8.acceptRanges", laid_unicode_utf8_acceptRanges), ("unicode/utf8.first", laid_unicode_utf8_first)] }
def TriePlaysSaid : Prop := triePlaysRow.holds Tryd.pinned (OpenSpec.ofChange triePlaysSpec)

/-- ITS FALSE NEIGHBOUR: 'it returns false'. Refute it at one input. -/
def triePlaysWrong : ChangeSpec := { name := "triePlays", fn := fun _ => fun
  | [d1, d2, d3] => { results := [.lit (.bool false)], args := [d1, d2, d3] }
  | _ => none }
def TriePlaysWrongFalsely : Prop := triePlaysRow.holds Tryd.pinned (OpenSpec.ofChange triePlaysWrong)

/-- 'halyardlaw22.TrieNil': WHATEVER THE INPUT: true; the input reads as it did. -/
def trieNilSpec : ChangeSpec := { name := "trieNil", fn := fun _ => fun
  | [d1, d2] => { results := [.lit (.bool true)], args := [d1, d2] }
  | _ => none }
def trieNilRow : OpenClaim := { program := "ytnmngjffebbbnaadoor", sum := "2cd0991bd1b08c15a1cad967965e6135daa8c2cdd19885a5de55e050f2cc65c0", func := "halyard/halyardlaw22.TrieNil", spec := "trieNil", inPlace := ["internal/bytealg.IndexByte", "internal/bytealg.CountString", "internal/bytealg.IndexByteString", "internal/bytealg.IndexString"], unfollowed := true, recurses := true, named := ["unicode/utf8.first", "unicode/utf8.acceptRanges", "internal/bytealg.MaxLen"], apart := false, laid := [("unicode/utf8.acceptRanges", laid_unicode_utf8_acceptRanges), ("unicode/utf8.first", laid_unicode_utf8_first)] }
def TrieNilSaid : Prop := trieNilRow.holds Tryd.pinned (OpenSpec.ofChange trieNilSpec)

/-- ITS FALSE NEIGHBOUR: 'it returns false'. Refute it at one input. -/
def trieNilWrong : ChangeSpec := { name := "trieNil", fn := fun _ => fun
  | [d1, d2] => { results := [.lit (.bool false)], args := [d1, d2] }
  | _ => none }
def TrieNilWrongFalsely : Prop := trieNilRow.holds Tryd.pinned (OpenSpec.ofChange trieNilWrong)

/-- 'halyardlaw22.TrieDrops': WHATEVER THE INPUT: true; the input reads as it did. -/
def trieDropsSpec : ChangeSpec := { name := "trieDrops", fn := fun _ => fun
  | [d1, d2, d3] => { results := [.lit (.bool true)], args := [d1, d2, d3] }
  | _ => none }
def trieDropsRow : OpenClaim := { program := "ytnmngjffebbbnaadoor", sum := "2cd0991bd1b08c15a1cad967965e6135daa8c2cdd19885a5de55e050f2cc65c0", func := "halyard/halyardlaw22.TrieDrops", spec := "trieDrops", inPlace := ["internal/bytealg.IndexByte", "internal/bytealg.CountString", "internal/bytealg.IndexByteString", "internal/bytealg.IndexString"], unfollowed := true, recurses := true, named := ["unicode/utf8.first", "unicode/utf8.acceptRanges", "internal/bytealg.MaxLen"], apart := false, laid := [("unicode/utf8.acceptRanges", laid_unicode_utf8_acceptRanges), ("unicode/utf8.first", laid_unicode_utf8_first)] }
def TrieDropsSaid : Prop := trieDropsRow.holds Tryd.pinned (OpenSpec.ofChange trieDropsSpec)

/-- ITS FALSE NEIGHBOUR: 'it returns false'. Refute it at one input. -/
def trieDropsWrong : ChangeSpec := { name := "trieDrops", fn := fun _ => fun
  | [d1, d2, d3] => { results := [.lit (.bool false)], args := [d1, d2, d3] }
  | _ => none }
def TrieDropsWrongFalsely : Prop := trieDropsRow.holds Tryd.pinned (OpenSpec.ofChange trieDropsWrong)

/-- 'halyardlaw22.TrieGone': WHATEVER THE INPUT: true; the input reads as it did. -/
def trieGoneSpec : ChangeSpec := { name := "trieGone", fn := fun _ => fun
  | [d1, d2, d3, d4] => { results := [.lit (.bool true)], args := [d1, d2, d3, d4] }
  | _ => none }
def trieGoneRow : OpenClaim := { program := "ytnmngjffebbbnaadoor", sum := "2cd0991bd1b08c15a1cad967965e6135daa8c2cdd19885a5de55e050f2cc65c0", func := "halyard/halyardlaw22.TrieGone", spec := "trieGone", inPlace := ["internal/bytealg.IndexByte", "internal/bytealg.CountString", "internal/bytealg.IndexByteString", "internal/bytealg.IndexString"], unfollowed := true, recurses := true, named := ["unicode/utf8.first", "unicode/utf8.acceptRanges", "internal/bytealg.MaxLen"], apart := false, laid := [("unicode/utf8.acceptRanges", laid_unicode_utf8_acceptRanges), ("unicode/utf8.first", laid_unicode_utf8_first)] }
def TrieGoneSaid : Prop := trieGoneRow.holds Tryd.pinned (OpenSpec.ofChange trieGoneSpec)

/-- ITS FALSE NEIGHBOUR: 'it returns false'. Refute it at one input. -/
def trieGoneWrong : ChangeSpec := { name := "trieGone", fn := fun _ => fun
  | [d1, d2, d3, d4] => { results := [.lit (.bool false)], args := [d1, d2, d3, d4] }
  | _ => none }
def TrieGoneWrongFalsely : Prop := trieGoneRow.holds Tryd.pinned (OpenSpec.ofChange trieGoneWrong)

/- THE SECOND FORM. 'bulk': how many values and letters a reading holds, each counted each time it is reached (what is shared counts as often as it is met; a slice's spare places count too). A statement '..UptoSaid' is the law's where the arguments, and the package variables that the reading takes, are together of bulk at most 1048576: NARROWER than '..Said'. Prove '..Said' where nothing that the law and all that it calls make is longer than what came in: it says more and counts as full. Else prove '..UptoSaid'. A law counts once. -/
mutual
def uptoBulk {H : Type} : DataW H → Nat
  | .lit (.string bytes) => bytes.length + 1
  | .lit _ => 1
  | .nil => 1
  | .ptr d => uptoBulk d + 1
  | .slice elems spare => uptoBulkAll elems + uptoBulkAll spare + 1
  | .agg parts => uptoBulkAll parts + 1
  | .iface _ d => uptoBulk d + 1
  | .map entries => uptoBulkEntries entries + 1
  | .held _ => 1
def uptoBulkAll {H : Type} : List (DataW H) → Nat
  | [] => 0
  | d :: r => uptoBulk d + uptoBulkAll r
def uptoBulkEntries {H : Type} : List (Lit × DataW H) → Nat
  | [] => 0
  | x :: r => uptoBulkEntry x + uptoBulkEntries r
def uptoBulkEntry {H : Type} : Lit × DataW H → Nat
  | (.string bytes, d) => bytes.length + uptoBulk d + 1
  | (_, d) => uptoBulk d + 1
 end
def uptoSmall : (H : Type) → List (DataW H) → Bool := fun _ ds => decide (uptoBulkAll ds ≤ 1048576)
def OpenSpec.upto (s : _root_.Go.ChangeSpec) : _root_.Go.OpenSpec := { _root_.Go.OpenSpec.ofChange s with cond := some uptoSmall }

/-- 'halyardlaw22.TrieTurned', WHERE WHAT IT READS IS OF BULK AT MOST 1048576: true; the input reads as it did. -/
def trieTurnedUptoRow : OpenClaim := { program := "ytnmngjffebbbnaadoor", sum := "2cd0991bd1b08c15a1cad967965e6135daa8c2cdd19885a5de55e050f2cc65c0", func := "halyard/halyardlaw22.TrieTurned", spec := "trieTurned", inPlace := ["internal/bytealg.IndexByte", "internal/bytealg.CountString", "internal/bytealg.IndexByteString", "internal/bytealg.IndexString"], unfollowed := true, recurses := true, named := ["unicode/utf8.first", "unicode/utf8.acceptRanges", "internal/bytealg.MaxLen"], apart := false, laid := [("unicode/utf8.acceptRanges", laid_unicode_utf8_acceptRanges), ("unicode/utf8.first", laid_unicode_utf8_first)], narrowed := true }
def TrieTurnedUptoSaid : Prop := trieTurnedUptoRow.holds Tryd.pinned (OpenSpec.upto trieTurnedSpec)

/-- 'halyardlaw22.TrieCovers', WHERE WHAT IT READS IS OF BULK AT MOST 1048576: true; the input reads as it did. -/
def trieCoversUptoRow : OpenClaim := { program := "ytnmngjffebbbnaadoor", sum := "2cd0991bd1b08c15a1cad967965e6135daa8c2cdd19885a5de55e050f2cc65c0", func := "halyard/halyardlaw22.TrieCovers", spec := "trieCovers", inPlace := ["internal/bytealg.IndexByte", "internal/bytealg.CountString", "internal/bytealg.IndexByteString", "internal/bytealg.IndexString"], unfollowed := true, recurses := true, named := ["unicode/utf8.first", "unicode/utf8.acceptRanges", "internal/bytealg.MaxLen"], apart := false, laid := [("unicode/utf8.acceptRanges", laid_unicode_utf8_acceptRanges), ("unicode/utf8.first", laid_unicode_utf8_first)], narrowed := true }
def TrieCoversUptoSaid : Prop := trieCoversUptoRow.holds Tryd.pinned (OpenSpec.upto trieCoversSpec)

/-- 'halyardlaw22.TriePlays', WHERE WHAT IT READS IS OF BULK AT MOST 1048576: true; the input reads as it did. -/
def triePlaysUptoRow : OpenClaim := { program := "ytnmngjffebbbnaadoor", sum := "2cd0991bd1b08c15a1cad967965e6135daa8c2cdd19885a5de55e050f2cc65c0", func := "halyard/halyardlaw22.TriePlays", spec := "triePlays", inPlace := ["internal/bytealg.IndexByte", "internal/bytealg.CountString", "internal/bytealg.IndexByteString", "internal/bytealg.IndexString"], unfollowed := true, recurses := true, named := ["unicode/utf8.first", "unicode/utf8.acceptRanges", "internal/bytealg.MaxLen"], apart := false, laid := [("unicode/utf8.acceptRanges", laid_unicode_utf8_acceptRanges), ("unicode/utf8.first", laid_unicode_utf8_first)], narrowed := true }
def TriePlaysUptoSaid : Prop := triePlaysUptoRow.holds Tryd.pinned (OpenSpec.upto triePlaysSpec)

/-- 'halyardlaw22.TrieNil', WHERE WHAT IT READS IS OF BULK AT MOST 1048576: true; the input reads as it did. -/
def trieNilUptoRow : OpenClaim := { program := "ytnmngjffebbbnaadoor", sum := "2cd0991bd1b08c15a1cad967965e6135daa8c2cdd19885a5de55e050f2cc65c0", func := "halyard/halyardlaw22.TrieNil", spec := "trieNil", inPlace := ["internal/bytealg.IndexByte", "internal/bytealg.CountString", "internal/bytealg.IndexByteString", "internal/bytealg.IndexString"], unfollowed := true, recurses := true, named := ["unicode/utf8.first", "unicode/utf8.acceptRanges", "internal/bytealg.MaxLen"], apart := false, laid := [("unicode/utf8.acceptRanges", laid_unicode_utf8_acceptRanges), ("unicode/utf8.first", laid_unicode_utf8_first)], narrowed := true }
def TrieNilUptoSaid : Prop := trieNilUptoRow.holds Tryd.pinned (OpenSpec.upto trieNilSpec)

/-- 'halyardlaw22.TrieDrops', WHERE WHAT IT READS IS OF BULK AT MOST 1048576: true; the input reads as it did. -/
def trieDropsUptoRow : OpenClaim := { program := "ytnmngjffebbbnaadoor", sum := "2cd0991bd1b08c15a1cad967965e6135daa8c2cdd19885a5de55e050f2cc65c0", func := "halyard/halyardlaw22.TrieDrops", spec := "trieDrops", inPlace := ["internal/bytealg.IndexByte", "internal/bytealg.CountString", "internal/bytealg.IndexByteString", "internal/bytealg.IndexString"], unfollowed := true, recurses := true, named := ["unicode/utf8.first", "unicode/utf8.acceptRanges", "internal/bytealg.MaxLen"], apart := false, laid := [("unicode/utf8.acceptRanges", laid_unicode_utf8_acceptRanges), ("unicode/utf8.first", laid_unicode_utf8_first)], narrowed := true }
def TrieDropsUptoSaid : Prop := trieDropsUptoRow.holds Tryd.pinned (OpenSpec.upto trieDropsSpec)

/-- 'halyardlaw22.TrieGone', WHERE WHAT IT READS IS OF BULK AT MOST 1048576: true; the input reads as it did. -/
def trieGoneUptoRow : OpenClaim := { program := "ytnmngjffebbbnaadoor", sum := "2cd0991bd1b08c15a1cad967965e6135daa8c2cdd19885a5de55e050f2cc65c0", func := "halyard/halyardlaw22.TrieGone", spec := "trieGone", inPlace := ["internal/bytealg.IndexByte", "internal/bytealg.CountString", "internal/bytealg.IndexByteString", "internal/bytealg.IndexString"], unfollowed := true, recurses := true, named := ["unicode/utf8.first", "unicode/utf8.acceptRanges", "internal/bytealg.MaxLen"], apart := false, laid := [("unicode/utf8.acceptRanges", laid_unicode_utf8_acceptRanges), ("unicode/utf8.first", laid_unicode_utf8_first)], narrowed := true }
def TrieGoneUptoSaid : Prop := trieGoneUptoRow.holds Tryd.pinned (OpenSpec.upto trieGoneSpec)

end Rows
end Go.Proofs.YtnmngjffebbbnaaDoor
