/-
  NARROWER THAN 'FOR EVERY INPUT', by the rows' own cells (each row's printed sentence says how): SchemaKeys: laid · SchemaSweeps: laid · SchemaSweepsOn: laid · SchemaChanges: laid · SchemaLess: laid · SchemaQuiet: laid · SchemaBack: laid.
  DERIVED. THE GIVEN ROWS OF THIS SEAT. 7 by the template 'for every input the law returns true; each argument reads behind the call as it read before'; 0 by the template 'total and deterministic' (their statements: YtilifcggegabfaaDoorTotals.lean).
  GIVEN WITH THE SEED: the statements are not yours to turn. If you find one false, say at which input.
  Laid BY PROGRAM, IN A SANDBOX (cutbox-rows.mjs): the forced cells as the released guide's own fill.sh prints them over the translation 8ecba6e1fff3046a… (all of the seat's roots in one cut). By AI agents, Wed Nov 11 2026. No macro, syntax, notation, axiom, sorry.
-/
import Derived.Test.YtilifcggegabfaaDoorChecked
import GoSem.PinnedTables
import GoSem.Claim
import GoSem.ClaimJoined
import GoSem.ClaimMapViews
import Derived.JoinedTies
import Derived.KernelRfl
namespace Go.Proofs.YtilifcggegabfaaDoor
/- THE CELL 'sum', in the pinned program and in every row, IS THE sha256 OF THE DUMP (.gsa) THAT YtilifcggegabfaaDoorProg.lean LOADS. Nothing in Lean hashes anything: it is a label: what it is worth is what the hold of that sum in a sandbox is worth. -/
noncomputable def Tryd.pinned : Pinned := { name := "ytilifcggegabfaadoor", sum := "8ecba6e1fff3046a694d505b7922a9fde6903784edafa86201a49dd3996dfd02", checked := Tryd.checked }
namespace Rows
def none {H : Type} : Left H := { results := [], args := [] }

/- WHAT THE LISTED PACKAGE-LEVEL VARIABLES READ AS WHEN THE CALL BEGINS. Each datum BY PROGRAM (the guide's laid-datum.mjs) off the statement by which the dump's own 'gosem.cut.vars' lays the variable. In a bare row this is a premise. The card (YtilifcggegabfaaDoorCards.lean) ties it to the program's text. -/
def laid_unicode_utf8_acceptRanges {H : Type} : DataW H := .agg [.agg [.lit (.int .u8 128), .lit (.int .u8 191)], .agg [.lit (.int .u8 160), .lit (.int .u8 191)], .agg [.lit (.int .u8 128), .lit (.int .u8 159)], .agg [.lit (.int .u8 144), .lit (.int .u8 191)], .agg [.lit (.int .u8 128), .lit (.int .u8 143)], .agg [.lit (.int .u8 0), .lit (.int .u8 0)], .agg [.lit (.int .u8 0), .lit (.int .u8 0)], .agg [.lit (.int .u8 0), .lit (.int .u8 0)], .agg [.lit (.int .u8 0), .lit (.int .u8 0)], .agg [.lit (.int .u8 0), .lit (.int .u8 0)], .agg [.lit (.int .u8 0), .lit (.int .u8 0)], .agg [.lit (.int .u8 0), .lit (.int .u8 0)], .agg [.lit (.int .u8 0), .lit (.int .u8 0)], .agg [.lit (.int .u8 0), .lit (.int .u8 0)], .agg [.lit (.int .u8 0), .lit (.int .u8 0)], .agg [.lit (.int .u8 0), .lit (.int .u8 0)]]
/-- One of Go's own tables, pinned by name: the form's constant. -/
def laid_unicode_utf8_first : DataW Unit := Go.Pinned.utf8First

/-- 'halyardlaw20.SchemaKeys': WHATEVER THE INPUT: true; the input reads as it did. -/
def schemaKeysSpec : ChangeSpec := { name := "schemaKeys", fn := fun _ => fun
  | [d] => { results := [.lit (.bool true)], args := [d] }
  | _ => none }
def schemaKeysRow : OpenClaim := { program := "ytilifcggegabfaadoor", sum := "8ecba6e1fff3046a694d505b7922a9fde6903784edafa86201a49dd3996dfd02", func := "halyard/halyardlaw20.SchemaKeys", spec := "schemaKeys", inPlace := ["internal/bytealg.IndexByte", "internal/bytealg.IndexByteString", "internal/bytealg.IndexString", "internal/bytealg.CountString"], unfollowed := true, recurses := true, named := ["unicode/utf8.first", "unicode/utf8.acceptRanges", "internal/bytealg.MaxLen"], apart := false, laid := [("unicode/utf8.acceptRanges", laid_unicode_utf8_acceptRanges), ("unicode/utf8.first", laid_unicode_utf8_first)] }
def SchemaKeysSaid : Prop := schemaKeysRow.holds Tryd.pinned (OpenSpec.ofChange schemaKeysSpec)

/-- ITS FALSE NEIGHBOUR: 'it returns false'. Refute it at one input. -/
def schemaKeysWrong : ChangeSpec := { name := "schemaKeys", fn := fun _ => fun
  | [d] => { results := [.lit (.bool false)], args := [d] }
  | _ => none }
def SchemaKeysWrongFalsely : Prop := schemaKeysRow.holds Tryd.pinned (OpenSpec.ofChange schemaKeysWrong)

/-- 'halyardlaw20.SchemaSweeps': WHATEVER THE INPUT: true; the input reads as it did. -/
def schemaSweepsSpec : ChangeSpec := { name := "schemaSweeps", fn := fun _ => fun
  | [d1, d2] => { results := [.lit (.bool true)], args := [d1, d2] }
  | _ => none }
def schemaSweepsRow : OpenClaim := { program := "ytilifcggegabfaadoor", sum := "8ecba6e1fff3046a694d505b7922a9fde6903784edafa86201a49dd3996dfd02", func := "halyard/halyardlaw20.SchemaSweeps", spec := "schemaSweeps", inPlace := ["internal/bytealg.IndexByte", "internal/bytealg.IndexByteString", "internal/bytealg.IndexString", "internal/bytealg.CountString"], unfollowed := true, recurses := true, named := ["unicode/utf8.first", "unicode/utf8.acceptRanges", "internal/bytealg.MaxLen"], apart := false, laid := [("unicode/utf8.acceptRanges", laid_unicode_utf8_acceptRanges), ("unicode/utf8.first", laid_unicode_utf8_first)] }
def SchemaSweepsSaid : Prop := schemaSweepsRow.holds Tryd.pinned (OpenSpec.ofChange schemaSweepsSpec)

/-- ITS FALSE NEIGHBOUR: 'it returns false'. Refute it at one input. -/
def schemaSweepsWrong : ChangeSpec := { name := "schemaSweeps", fn := fun _ => fun
  | [d1, d2] => { results := [.lit (.bool false)], args := [d1, d2] }
  | _ => none }
def SchemaSweepsWrongFalsely : Prop := schemaSweepsRow.holds Tryd.pinned (OpenSpec.ofChange schemaSweepsWrong)

/-- 'halyardlaw20.SchemaSweepsOn': WHATEVER THE INPUT: true; the input reads as it did. -/
def schemaSweepsOnSpec : ChangeSpec := { name := "schemaSweepsOn", fn := fun _ => fun
  | [d1, d2, d3] => { results := [.lit (.bool true)], args := [d1, d2, d3] }
  | _ => none }
def schemaSweepsOnRow : OpenClaim := { program := "ytilifcggegabfaadoor", sum := "8ecba6e1fff3046a694d505b7922a9fde6903784edafa86201a49dd3996dfd02", func := "halyard/halyardlaw20.SchemaSweepsOn", spec := "schemaSweepsOn", inPlace := ["internal/bytealg.IndexByte", "internal/bytealg.IndexByteString", "internal/bytealg.IndexString", "internal/bytealg.CountString"], unfollowed := true, recurses := true, named := ["unicode/utf8.first", "unicode/utf8.acceptRanges", "internal/bytealg.MaxLen"], apart := false, laid := [("unicode/utf8.acceptRanges", laid_unicode_utf8_acceptRanges), ("unicode/utf8.first", laid_unicode_utf8_first)] }
def SchemaSweepsOnSaid : Prop := schemaSweepsOnRow.holds Tryd.pinned (OpenSpec.ofChange schemaSweepsOnSpec)

/-- ITS FALSE NEIGHBOUR: 'it returns false'. Refute it at one input. -/
def schemaSweepsOnWrong : ChangeSpec := { name := "schemaSweepsOn", fn := fun _ => fun
  | [d1, d2, d3] => { results := [.lit (.bool false)], args := [d1, d2, d3] }
  | _ => none }
def SchemaSweepsOnWrongFalsely : Prop := schemaSweepsOnRow.holds Tryd.pinned (OpenSpec.ofChange schemaSweepsOnWrong)

/-- 'halyardlaw20.SchemaChanges': WHATEVER THE INPUT: true; the input reads as it did. -/
def schemaChangesSpec : ChangeSpec := { name := "schemaChanges", fn := fun _ => fun
  | [d1, d2] => { results := [.lit (.bool true)], args := [d1, d2] }
  | _ => none }
def schemaChangesRow : OpenClaim := { program := "ytilifcggegabfaadoor", sum := "8ecba6e1fff3046a694d505b7922a9fde6903784edafa86201a49dd3996dfd02", func := "halyard/halyardlaw20.SchemaChanges", spec := "schemaChanges", inPlace := ["internal/bytealg.IndexByte", "internal/bytealg.IndexByteString", "internal/bytealg.IndexString", "internal/bytealg.CountString", "internal/bytealg.Compare"], unfollowed := true, recurses := true, named := ["unicode/utf8.first", "unicode/utf8.acceptRanges", "internal/bytealg.MaxLen"], apart := false, laid := [("unicode/utf8.acceptRanges", laid_unicode_utf8_acceptRanges), ("unicode/utf8.first", laid_unicode_utf8_first)] }
def SchemaChangesSaid : Prop := schemaChangesRow.holds Tryd.pinned (OpenSpec.ofChange schemaChangesSpec)

/-- ITS FALSE NEIGHBOUR: 'it returns false'. Refute it at one input. -/
def schemaChangesWrong : ChangeSpec := { name := "schemaChanges", fn := fun _ => fun
  | [d1, d2] => { results := [.lit (.bool false)], args := [d1, d2] }
  | _ => none }
def SchemaChangesWrongFalsely : Prop := schemaChangesRow.holds Tryd.pinned (OpenSpec.ofChange schemaChangesWrong)

/-- 'halyardlaw20.SchemaLess': WHATEVER THE INPUT: true; the input reads as it did. -/
def schemaLessSpec : ChangeSpec := { name := "schemaLess", fn := fun _ => fun
  | [d1, d2] => { results := [.lit (.bool true)], args := [d1, d2] }
  | _ => none }
def schemaLessRow : OpenClaim := { program := "ytilifcggegabfaadoor", sum := "8ecba6e1fff3046a694d505b7922a9fde6903784edafa86201a49dd3996dfd02", func := "halyard/halyardlaw20.SchemaLess", spec := "schemaLess", inPlace := ["internal/bytealg.IndexByte", "internal/bytealg.IndexByteString", "internal/bytealg.IndexString", "internal/bytealg.CountString", "internal/bytealg.Compare"], unfollowed := true, recurses := true, named := ["unicode/utf8.first", "unicode/utf8.acceptRanges", "internal/bytealg.MaxLen"], apart := false, laid := [("unicode/utf8.acceptRanges", laid_unicode_utf8_acceptRanges), ("unicode/utf8.first", laid_unicode_utf8_first)] }
def SchemaLessSaid : Prop := schemaLessRow.holds Tryd.pinned (OpenSpec.ofChange schemaLessSpec)

/-- ITS FALSE NEIGHBOUR: 'it returns false'. Refute it at one input. -/
def schemaLessWrong : ChangeSpec := { name := "schemaLess", fn := fun _ => fun
  | [d1, d2] => { results := [.lit (.bool false)], args := [d1, d2] }
  | _ => none }
def SchemaLessWrongFalsely : Prop := schemaLessRow.holds Tryd.pinned (OpenSpec.ofChange schemaLessWrong)

/-- 'halyardlaw20.SchemaQuiet': WHATEVER THE INPUT: true; the input reads as it did. -/
def schemaQuietSpec : ChangeSpec := { name := "schemaQuiet", fn := fun _ => fun
  | [d1, d2] => { results := [.lit (.bool true)], args := [d1, d2] }
  | _ => none }
def schemaQuietRow : OpenClaim := { program := "ytilifcggegabfaadoor", sum := "8ecba6e1fff3046a694d505b7922a9fde6903784edafa86201a49dd3996dfd02", func := "halyard/halyardlaw20.SchemaQuiet", spec := "schemaQuiet", inPlace := ["internal/bytealg.IndexByte", "internal/bytealg.IndexByteString", "internal/bytealg.IndexString", "internal/bytealg.CountString", "internal/bytealg.Compare"], unfollowed := true, recurses := true, named := ["unicode/utf8.first", "unicode/utf8.acceptRanges", "internal/bytealg.MaxLen"], apart := false, laid := [("unicode/utf8.acceptRanges", laid_unicode_utf8_acceptRanges), ("unicode/utf8.first", laid_unicode_utf8_first)] }
def SchemaQuietSaid : Prop := schemaQuietRow.holds Tryd.pinned (OpenSpec.ofChange schemaQuietSpec)

/-- ITS FALSE NEIGHBOUR: 'it returns false'. Refute it at one input. -/
def schemaQuietWrong : ChangeSpec := { name := "schemaQuiet", fn := fun _ => fun
  | [d1, d2] => { results := [.lit (.bool false)], args := [d1, d2] }
  | _ => none }
def SchemaQuietWrongFalsely : Prop := schemaQuietRow.holds Tryd.pinned (OpenSpec.ofChange schemaQuietWrong)

/-- 'halyardlaw20.SchemaBack': WHATEVER THE INPUT: true; the input reads as it did. -/
def schemaBackSpec : ChangeSpec := { name := "schemaBack", fn := fun _ => fun
  | [d1, d2] => { results := [.lit (.bool true)], args := [d1, d2] }
  | _ => none }
def schemaBackRow : OpenClaim := { program := "ytilifcggegabfaadoor", sum := "8ecba6e1fff3046a694d505b7922a9fde6903784edafa86201a49dd3996dfd02", func := "halyard/halyardlaw20.SchemaBack", spec := "schemaBack", inPlace := ["internal/bytealg.IndexByte", "internal/bytealg.IndexByteString", "internal/bytealg.IndexString", "internal/bytealg.CountString", "internal/bytealg.Compare"], unfollowed := true, recurses := true, named := ["unicode/utf8.first", "unicode/utf8.acceptRanges", "internal/bytealg.MaxLen"], apart := false, laid := [("unicode/utf8.acceptRanges", laid_unicode_utf8_acceptRanges), ("unicode/utf8.first", laid_unicode_utf8_first)] }
def SchemaBackSaid : Prop := schemaBackRow.holds Tryd.pinned (OpenSpec.ofChange schemaBackSpec)

/-- ITS FALSE NEIGHBOUR: 'it returns false'. Refute it at one input. -/
def schemaBackWrong : ChangeSpec := { name := "schemaBack", fn := fun _ => fun
  | [d1, d2] => { results := [.lit (.bool false)], args := [d1, d2] }
  | _ => none }
def SchemaBackWrongFalsely : Prop := schemaBackRow.holds Tryd.pinned (OpenSpec.ofChange schemaBackWrong)

/- THE SECOND FORM. 'bulk': how many values and letters a reading holds, each counted each time it is reached (what is shared counts as often as it is met; a slice's spare places count too). A statement '..UptoSaid' is the law's where the arguments, and the package variables that the reading takes, are together of bulk at most 1048576: NARROWER than '..Said'. Prove '..Said' where nothing that the law and all that it calls make is longer than what came in: it says more and counts as full. Else prove '..UptoSaid'. A law counts once. -/
mutual
def uptoBulk {H : Type} : DataW H → Nat
  | .lit (.string bytes) => bytes.length + 1
  | .lit _ => 1
  | .nil => 1
  | .ptr d => uptoBulk d + 1
  | .slice elems spare => uptoBulkAll elems + uptoBulkAll spare + 1
  | .agg parts => uptoBulkAll parts + 1
  | .iface _ d => uptoBulk d + 1
  | .map entries => uptoBulkEntries entries + 1
  | .held _ => 1
def uptoBulkAll {H : Type} : List (DataW H) → Nat
  | [] => 0
  | d :: r => uptoBulk d + uptoBulkAll r
def uptoBulkEntries {H : Type} : List (Lit × DataW H) → Nat
  | [] => 0
  | x :: r => uptoBulkEntry x + uptoBulkEntries r
def uptoBulkEntry {H : Type} : Lit × DataW H → Nat
  | (.string bytes, d) => bytes.length + uptoBulk d + 1
  | (_, d) => uptoBulk d + 1
 end
def uptoSmall : (H : Type) → List (DataW H) → Bool := fun _ ds => decide (uptoBulkAll ds ≤ 1048576)
def OpenSpec.upto (s : _root_.Go.ChangeSpec) : _root_.Go.OpenSpec := { _root_.Go.OpenSpec.ofChange s with cond := some uptoSmall }

/-- 'halyardlaw20.SchemaKeys', WHERE WHAT IT READS IS OF BULK AT MOST 1048576: true; the input reads as it did. -/
def schemaKeysUptoRow : OpenClaim := { program := "ytilifcggegabfaadoor", sum := "8ecba6e1fff3046a694d505b7922a9fde6903784edafa86201a49dd3996dfd02", func := "halyard/halyardlaw20.SchemaKeys", spec := "schemaKeys", inPlace := ["internal/bytealg.IndexByte", "internal/bytealg.IndexByteString", "internal/bytealg.IndexString", "internal/bytealg.CountString"], unfollowed := true, recurses := true, named := ["unicode/utf8.first", "unicode/utf8.acceptRanges", "internal/bytealg.MaxLen"], apart := false, laid := [("unicode/utf8.acceptRanges", laid_unicode_utf8_acceptRanges), ("unicode/utf8.first", laid_unicode_utf8_first)], narrowed := true }
def SchemaKeysUptoSaid : Prop := schemaKeysUptoRow.holds Tryd.pinned (OpenSpec.upto schemaKeysSpec)

/-- 'halyardlaw20.SchemaSweeps', WHERE WHAT IT READS IS OF BULK AT MOST 1048576: true; the input reads as it did. -/
def schemaSweepsUptoRow : OpenClaim := { program := "ytilifcggegabfaadoor", sum := "8ecba6e1fff3046a694d505b7922a9fde6903784edafa86201a49dd3996dfd02", func := "halyard/halyardlaw20.SchemaSweeps", spec := "schemaSweeps", inPlace := ["internal/bytealg.IndexByte", "internal/bytealg.IndexByteString", "internal/bytealg.IndexString", "internal/bytealg.CountString"], unfollowed := true, recurses := true, named := ["unicode/utf8.first", "unicode/utf8.acceptRanges", "internal/bytealg.MaxLen"], apart := false, laid := [("unicode/utf8.acceptRanges", laid_unicode_utf8_acceptRanges), ("unicode/utf8.first", laid_unicode_utf8_first)], narrowed := true }
def SchemaSweepsUptoSaid : Prop := schemaSweepsUptoRow.holds Tryd.pinned (OpenSpec.upto schemaSweepsSpec)

/-- 'halyardlaw20.SchemaSweepsOn', WHERE WHAT IT READS IS OF BULK AT MOST 1048576: true; the input reads as it did. -/
def schemaSweepsOnUptoRow : OpenClaim := { program := "ytilifcggegabfaadoor", sum := "8ecba6e1fff3046a694d505b7922a9fde6903784edafa86201a49dd3996dfd02", func := "halyard/halyardlaw20.SchemaSweepsOn", spec := "schemaSweepsOn", inPlace := ["internal/bytealg.IndexByte", "internal/bytealg.IndexByteString", "internal/bytealg.IndexString", "internal/bytealg.CountString"], unfollowed := true, recurses := true, named := ["unicode/utf8.first", "unicode/utf8.acceptRanges", "internal/bytealg.MaxLen"], apart := false, laid := [("unicode/utf8.acceptRanges", laid_unicode_utf8_acceptRanges), ("unicode/utf8.first", laid_unicode_utf8_first)], narrowed := true }
def SchemaSweepsOnUptoSaid : Prop := schemaSweepsOnUptoRow.holds Tryd.pinned (OpenSpec.upto schemaSweepsOnSpec)

/-- 'halyardlaw20.SchemaChanges', WHERE WHAT IT READS IS OF BULK AT MOST 1048576: true; the input reads as it did. -/
def schemaChangesUptoRow : OpenClaim := { program := "ytilifcggegabfaadoor", sum := "8ecba6e1fff3046a694d505b7922a9fde6903784edafa86201a49dd3996dfd02", func := "halyard/halyardlaw20.SchemaChanges", spec := "schemaChanges", inPlace := ["internal/bytealg.IndexByte", "internal/bytealg.IndexByteString", "internal/bytealg.IndexString", "internal/bytealg.CountString", "internal/bytealg.Compare"], unfollowed := true, recurses := true, named := ["unicode/utf8.first", "unicode/utf8.acceptRanges", "internal/bytealg.MaxLen"], apart := false, laid := [("unicode/utf8.acceptRanges", laid_unicode_utf8_acceptRanges), ("unicode/utf8.first", laid_unicode_utf8_first)], narrowed := true }
def SchemaChangesUptoSaid : Prop := schemaChangesUptoRow.holds Tryd.pinned (OpenSpec.upto schemaChangesSpec)

/-- 'halyardlaw20.SchemaLess', WHERE WHAT IT READS IS OF BULK AT MOST 1048576: true; the input reads as it did. -/
def schemaLessUptoRow : OpenClaim := { program := "ytilifcggegabfaadoor", sum := "8ecba6e1fff3046a694d505b7922a9fde6903784edafa86201a49dd3996dfd02", func := "halyard/halyardlaw20.SchemaLess", spec := "schemaLess", inPlace := ["internal/bytealg.IndexByte", "internal/bytealg.IndexByteString", "internal/bytealg.IndexString", "internal/bytealg.CountString", "internal/bytealg.Compare"], unfollowed := true, recurses := true, named := ["unicode/utf8.first", "unicode/utf8.acceptRanges", "internal/bytealg.MaxLen"], apart := false, laid := [("unicode/utf8.acceptRanges", laid_unicode_utf8_acceptRanges), ("unicode/utf8.first", laid_unicode_utf8_first)], narrowed := true }
def SchemaLessUptoSaid : Prop := schemaLessUptoRow.holds Tryd.pinned (OpenSpec.upto schemaLessSpec)

/-- 'halyardlaw20.SchemaQuiet', WHERE WHAT IT READS IS OF BULK AT MOST 1048576: true; the input reads as it did. -/
def schemaQuietUptoRow : OpenClaim := { program := "ytilifcggegabfaadoor", sum := "8ecba6e1fff3046a694d505b7922a9fde6903784edafa86201a49dd3996dfd02", func := "halyard/halyardlaw20.SchemaQuiet", spec := "schemaQuiet", inPlace := ["internal/bytealg.IndexByte", "internal/bytealg.IndexByteString", "internal/bytealg.IndexString", "internal/bytealg.CountString", "internal/bytealg.Compare"], unfollowed := true, recurses := true, named := ["unicode/utf8.first", "unicode/utf8.acceptRanges", "internal/bytealg.MaxLen"], apart := false, laid := [("unicode/utf8.acceptRanges", laid_unicode_utf8_acceptRanges), ("unicode/utf8.first", laid_unicode_utf8_first)], narrowed := true }
def SchemaQuietUptoSaid : Prop := schemaQuietUptoRow.holds Tryd.pinned (OpenSpec.upto schemaQuietSpec)

/-- 'halyardlaw20.SchemaBack', WHERE WHAT IT READS IS OF BULK AT MOST 1048576: true; the input reads as it did. -/
def schemaBackUptoRow : OpenClaim := { program := "ytilifcggegabfaadoor", sum := "8ecba6e1fff3046a694d505b7922a9fde6903784edafa86201a49dd3996dfd02", func := "halyard/halyardlaw20.SchemaBack", spec := "schemaBack", inPlace := ["internal/bytealg.IndexByte", "internal/bytealg.IndexByteString", "internal/bytealg.IndexString", "internal/bytealg.CountString", "internal/bytealg.Compare"], unfollowed := true, recurses := true, named := ["unicode/utf8.first", "unicode/utf8.acceptRanges", "internal/bytealg.MaxLen"], apart := false, laid := [("unicode/utf8.acceptRanges", laid_unicode_utf8_acceptRanges), ("unicode/utf8.first", laid_unicode_utf8_first)], narrowed := true }
def SchemaBackUptoSaid : Prop := schemaBackUptoRow.holds Tryd.pinned (OpenSpec.upto schemaBackSpec)

end Rows
end Go.Proofs.YtilifcggegabfaaDoor
