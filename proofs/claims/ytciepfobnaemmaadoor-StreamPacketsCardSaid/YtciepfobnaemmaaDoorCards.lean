/-
  DERIVED. GIVEN WITH THE SEED: THE CARDS: each row of YtciepfobnaemmaaDoorRows.lean that lists a variable, with what it lists TIED to the program's text (the seventh form; the later family's looks); each row that meets fmt, with fmt's text TOLD by the authors' own Lean function (tested against real Go, not proved from fmt's source: count such statements apart). THE CARD IS WHAT COUNTS. Prove the row's statement (the work); the ties are given (YtciepfobnaemmaaDoorTie.lean); close each card by the builder's one call (the guide's Derived/Test/ToyasCard.lean, 'card_holds'). Laid BY PROGRAM, IN A SANDBOX (cutbox-door.mjs). By AI agents, Wed Nov 11 2026. No macro, syntax, notation, axiom, sorry.
-/
import Derived.Test.YtciepfobnaemmaaDoorRows
import GoSem.ClaimSeven
namespace Go.Proofs.YtciepfobnaemmaaDoor
namespace Rows

/-- THE TIED CARD OF 'halyardlaw23.PacketDecodes'. -/
def packetDecodesCard : Claim7 := { stood := { row := packetDecodesRow, standIns := [], harness := (true, "984a2a7fdcfb67d5aad7c231d34745481983440e5941f697502ff8febecd2071"), looks := false }, kinds := [], alts := [], laidByText := true, laidKinds := [.data, .pinned], laidTests := true, laidLooks := .later }
def PacketDecodesCardSaid : Prop := Claim7.holds Tryd.pinned (.plain (OpenSpec.ofChange packetDecodesSpec)) packetDecodesCard

/-- THE TIED CARD OF 'halyardlaw23.PacketTurned'. -/
def packetTurnedCard : Claim7 := { stood := { row := packetTurnedRow, standIns := [], harness := (true, "984a2a7fdcfb67d5aad7c231d34745481983440e5941f697502ff8febecd2071"), looks := false }, kinds := [], alts := [], laidByText := true, laidKinds := [.data, .pinned], laidTests := true, laidLooks := .later }
def PacketTurnedCardSaid : Prop := Claim7.holds Tryd.pinned (.plain (OpenSpec.ofChange packetTurnedSpec)) packetTurnedCard

/-- THE TIED CARD OF 'halyardlaw23.PacketEncodes'. -/
def packetEncodesCard : Claim7 := { stood := { row := packetEncodesRow, standIns := [], harness := (true, "984a2a7fdcfb67d5aad7c231d34745481983440e5941f697502ff8febecd2071"), looks := false }, kinds := [], alts := [], laidByText := true, laidKinds := [.data, .pinned], laidTests := true, laidLooks := .later }
def PacketEncodesCardSaid : Prop := Claim7.holds Tryd.pinned (.plain (OpenSpec.ofChange packetEncodesSpec)) packetEncodesCard

/-- THE TIED CARD OF 'halyardlaw23.PacketBack'. -/
def packetBackCard : Claim7 := { stood := { row := packetBackRow, standIns := [], harness := (true, "984a2a7fdcfb67d5aad7c231d34745481983440e5941f697502ff8febecd2071"), looks := false }, kinds := [], alts := [], laidByText := true, laidKinds := [.data, .pinned], laidTests := true, laidLooks := .later }
def PacketBackCardSaid : Prop := Claim7.holds Tryd.pinned (.plain (OpenSpec.ofChange packetBackSpec)) packetBackCard

/-- THE TIED CARD OF 'halyardlaw23.PacketAgain'. -/
def packetAgainCard : Claim7 := { stood := { row := packetAgainRow, standIns := [], harness := (true, "984a2a7fdcfb67d5aad7c231d34745481983440e5941f697502ff8febecd2071"), looks := false }, kinds := [], alts := [], laidByText := true, laidKinds := [.data, .pinned], laidTests := true, laidLooks := .later }
def PacketAgainCardSaid : Prop := Claim7.holds Tryd.pinned (.plain (OpenSpec.ofChange packetAgainSpec)) packetAgainCard

/-- THE TIED CARD OF 'halyardlaw23.PacketNames'. -/
def packetNamesCard : Claim7 := { stood := { row := packetNamesRow, standIns := [], harness := (true, "984a2a7fdcfb67d5aad7c231d34745481983440e5941f697502ff8febecd2071"), looks := false }, kinds := [], alts := [], laidByText := true, laidKinds := [.data, .pinned], laidTests := true, laidLooks := .later }
def PacketNamesCardSaid : Prop := Claim7.holds Tryd.pinned (.plain (OpenSpec.ofChange packetNamesSpec)) packetNamesCard

/-- THE TIED CARD OF 'halyardlaw23.PacketFlags'. -/
def packetFlagsCard : Claim7 := { stood := { row := packetFlagsRow, standIns := [], harness := (true, "984a2a7fdcfb67d5aad7c231d34745481983440e5941f697502ff8febecd2071"), looks := false }, kinds := [], alts := [], laidByText := true, laidKinds := [.data, .pinned], laidTests := true, laidLooks := .later }
def PacketFlagsCardSaid : Prop := Claim7.holds Tryd.pinned (.plain (OpenSpec.ofChange packetFlagsSpec)) packetFlagsCard

/-- THE TIED CARD OF 'halyardlaw24.StreamFeeds'. -/
def streamFeedsCard : Claim7 := { stood := { row := streamFeedsRow, standIns := [], harness := (true, "984a2a7fdcfb67d5aad7c231d34745481983440e5941f697502ff8febecd2071"), looks := false }, kinds := [], alts := [], laidByText := true, laidKinds := [.data, .pinned], laidTests := true, laidLooks := .later }
def StreamFeedsCardSaid : Prop := Claim7.holds Tryd.pinned (.plain (OpenSpec.ofChange streamFeedsSpec)) streamFeedsCard

/-- THE TIED CARD OF 'halyardlaw24.StreamNil'. -/
def streamNilCard : Claim7 := { stood := { row := streamNilRow, standIns := [], harness := (true, "984a2a7fdcfb67d5aad7c231d34745481983440e5941f697502ff8febecd2071"), looks := false }, kinds := [], alts := [], laidByText := true, laidKinds := [.data, .pinned], laidTests := true, laidLooks := .later }
def StreamNilCardSaid : Prop := Claim7.holds Tryd.pinned (.plain (OpenSpec.ofChange streamNilSpec)) streamNilCard

/-- THE TIED CARD OF 'halyardlaw24.StreamPieces'. -/
def streamPiecesCard : Claim7 := { stood := { row := streamPiecesRow, standIns := [], harness := (true, "984a2a7fdcfb67d5aad7c231d34745481983440e5941f697502ff8febecd2071"), looks := false }, kinds := [], alts := [], laidByText := true, laidKinds := [.data, .pinned], laidTests := true, laidLooks := .later }
def StreamPiecesCardSaid : Prop := Claim7.holds Tryd.pinned (.plain (OpenSpec.ofChange streamPiecesSpec)) streamPiecesCard

/-- THE TIED CARD OF 'halyardlaw24.StreamPackets'. -/
def streamPacketsCard : Claim7 := { stood := { row := streamPacketsRow, standIns := [], harness := (true, "984a2a7fdcfb67d5aad7c231d34745481983440e5941f697502ff8febecd2071"), looks := false }, kinds := [], alts := [], laidByText := true, laidKinds := [.data, .pinned], laidTests := true, laidLooks := .later }
def StreamPacketsCardSaid : Prop := Claim7.holds Tryd.pinned (.plain (OpenSpec.ofChange streamPacketsSpec)) streamPacketsCard

/-- THE SECOND FORM's CARD OF 'halyardlaw23.PacketDecodes'. -/
def packetDecodesUptoCard : Claim7 := { stood := { row := packetDecodesUptoRow, standIns := [], harness := (true, "984a2a7fdcfb67d5aad7c231d34745481983440e5941f697502ff8febecd2071"), looks := false }, kinds := [], alts := [], laidByText := true, laidKinds := [.data, .pinned], laidTests := true, laidLooks := .later }
def PacketDecodesUptoCardSaid : Prop := Claim7.holds Tryd.pinned (.plain (OpenSpec.upto packetDecodesSpec)) packetDecodesUptoCard

/-- THE SECOND FORM's CARD OF 'halyardlaw23.PacketTurned'. -/
def packetTurnedUptoCard : Claim7 := { stood := { row := packetTurnedUptoRow, standIns := [], harness := (true, "984a2a7fdcfb67d5aad7c231d34745481983440e5941f697502ff8febecd2071"), looks := false }, kinds := [], alts := [], laidByText := true, laidKinds := [.data, .pinned], laidTests := true, laidLooks := .later }
def PacketTurnedUptoCardSaid : Prop := Claim7.holds Tryd.pinned (.plain (OpenSpec.upto packetTurnedSpec)) packetTurnedUptoCard

/-- THE SECOND FORM's CARD OF 'halyardlaw23.PacketEncodes'. -/
def packetEncodesUptoCard : Claim7 := { stood := { row := packetEncodesUptoRow, standIns := [], harness := (true, "984a2a7fdcfb67d5aad7c231d34745481983440e5941f697502ff8febecd2071"), looks := false }, kinds := [], alts := [], laidByText := true, laidKinds := [.data, .pinned], laidTests := true, laidLooks := .later }
def PacketEncodesUptoCardSaid : Prop := Claim7.holds Tryd.pinned (.plain (OpenSpec.upto packetEncodesSpec)) packetEncodesUptoCard

/-- THE SECOND FORM's CARD OF 'halyardlaw23.PacketBack'. -/
def packetBackUptoCard : Claim7 := { stood := { row := packetBackUptoRow, standIns := [], harness := (true, "984a2a7fdcfb67d5aad7c231d34745481983440e5941f697502ff8febecd2071"), looks := false }, kinds := [], alts := [], laidByText := true, laidKinds := [.data, .pinned], laidTests := true, laidLooks := .later }
def PacketBackUptoCardSaid : Prop := Claim7.holds Tryd.pinned (.plain (OpenSpec.upto packetBackSpec)) packetBackUptoCard

/-- THE SECOND FORM's CARD OF 'halyardlaw23.PacketAgain'. -/
def packetAgainUptoCard : Claim7 := { stood := { row := packetAgainUptoRow, standIns := [], harness := (true, "984a2a7fdcfb67d5aad7c231d34745481983440e5941f697502ff8febecd2071"), looks := false }, kinds := [], alts := [], laidByText := true, laidKinds := [.data, .pinned], laidTests := true, laidLooks := .later }
def PacketAgainUptoCardSaid : Prop := Claim7.holds Tryd.pinned (.plain (OpenSpec.upto packetAgainSpec)) packetAgainUptoCard

/-- THE SECOND FORM's CARD OF 'halyardlaw23.PacketNames'. -/
def packetNamesUptoCard : Claim7 := { stood := { row := packetNamesUptoRow, standIns := [], harness := (true, "984a2a7fdcfb67d5aad7c231d34745481983440e5941f697502ff8febecd2071"), looks := false }, kinds := [], alts := [], laidByText := true, laidKinds := [.data, .pinned], laidTests := true, laidLooks := .later }
def PacketNamesUptoCardSaid : Prop := Claim7.holds Tryd.pinned (.plain (OpenSpec.upto packetNamesSpec)) packetNamesUptoCard

/-- THE SECOND FORM's CARD OF 'halyardlaw23.PacketFlags'. -/
def packetFlagsUptoCard : Claim7 := { stood := { row := packetFlagsUptoRow, standIns := [], harness := (true, "984a2a7fdcfb67d5aad7c231d34745481983440e5941f697502ff8febecd2071"), looks := false }, kinds := [], alts := [], laidByText := true, laidKinds := [.data, .pinned], laidTests := true, laidLooks := .later }
def PacketFlagsUptoCardSaid : Prop := Claim7.holds Tryd.pinned (.plain (OpenSpec.upto packetFlagsSpec)) packetFlagsUptoCard

/-- THE SECOND FORM's CARD OF 'halyardlaw24.StreamFeeds'. -/
def streamFeedsUptoCard : Claim7 := { stood := { row := streamFeedsUptoRow, standIns := [], harness := (true, "984a2a7fdcfb67d5aad7c231d34745481983440e5941f697502ff8febecd2071"), looks := false }, kinds := [], alts := [], laidByText := true, laidKinds := [.data, .pinned], laidTests := true, laidLooks := .later }
def StreamFeedsUptoCardSaid : Prop := Claim7.holds Tryd.pinned (.plain (OpenSpec.upto streamFeedsSpec)) streamFeedsUptoCard

/-- THE SECOND FORM's CARD OF 'halyardlaw24.StreamNil'. -/
def streamNilUptoCard : Claim7 := { stood := { row := streamNilUptoRow, standIns := [], harness := (true, "984a2a7fdcfb67d5aad7c231d34745481983440e5941f697502ff8febecd2071"), looks := false }, kinds := [], alts := [], laidByText := true, laidKinds := [.data, .pinned], laidTests := true, laidLooks := .later }
def StreamNilUptoCardSaid : Prop := Claim7.holds Tryd.pinned (.plain (OpenSpec.upto streamNilSpec)) streamNilUptoCard

/-- THE SECOND FORM's CARD OF 'halyardlaw24.StreamPieces'. -/
def streamPiecesUptoCard : Claim7 := { stood := { row := streamPiecesUptoRow, standIns := [], harness := (true, "984a2a7fdcfb67d5aad7c231d34745481983440e5941f697502ff8febecd2071"), looks := false }, kinds := [], alts := [], laidByText := true, laidKinds := [.data, .pinned], laidTests := true, laidLooks := .later }
def StreamPiecesUptoCardSaid : Prop := Claim7.holds Tryd.pinned (.plain (OpenSpec.upto streamPiecesSpec)) streamPiecesUptoCard

/-- THE SECOND FORM's CARD OF 'halyardlaw24.StreamPackets'. -/
def streamPacketsUptoCard : Claim7 := { stood := { row := streamPacketsUptoRow, standIns := [], harness := (true, "984a2a7fdcfb67d5aad7c231d34745481983440e5941f697502ff8febecd2071"), looks := false }, kinds := [], alts := [], laidByText := true, laidKinds := [.data, .pinned], laidTests := true, laidLooks := .later }
def StreamPacketsUptoCardSaid : Prop := Claim7.holds Tryd.pinned (.plain (OpenSpec.upto streamPacketsSpec)) streamPacketsUptoCard
end Rows
end Go.Proofs.YtciepfobnaemmaaDoor
