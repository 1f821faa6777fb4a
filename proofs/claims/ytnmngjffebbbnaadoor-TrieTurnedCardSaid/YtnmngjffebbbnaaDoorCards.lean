/-
  DERIVED. GIVEN WITH THE SEED: THE CARDS: each row of YtnmngjffebbbnaaDoorRows.lean that lists a variable, with what it lists TIED to the program's text (the seventh form; the later family's looks); each row that meets fmt, with fmt's text TOLD by the authors' own Lean function (tested against real Go, not proved from fmt's source: count such statements apart). THE CARD IS WHAT COUNTS. Prove the row's statement (the work); the ties are given (YtnmngjffebbbnaaDoorTie.lean); close each card by the builder's one call (the guide's Derived/Test/ToyasCard.lean, 'card_holds'). Laid BY PROGRAM, IN A SANDBOX (cutbox-door.mjs). By AI agents, Wed Nov 11 2026. No macro, syntax, notation, axiom, sorry.
-/
import Derived.Test.YtnmngjffebbbnaaDoorRows
import GoSem.ClaimSeven
namespace Go.Proofs.YtnmngjffebbbnaaDoor
namespace Rows

/-- THE TIED CARD OF 'halyardlaw22.TrieTurned'. -/
def trieTurnedCard : Claim7 := { stood := { row := trieTurnedRow, standIns := [], harness := (true, "077bb4ee311e4e12f670baa190a16d91e993ef83ccc181d6a24d8e661ba11a92"), looks := false }, kinds := [], alts := [], laidByText := true, laidKinds := [.data, .pinned], laidTests := true, laidLooks := .later }
def TrieTurnedCardSaid : Prop := Claim7.holds Tryd.pinned (.plain (OpenSpec.ofChange trieTurnedSpec)) trieTurnedCard

/-- THE TIED CARD OF 'halyardlaw22.TrieCovers'. -/
def trieCoversCard : Claim7 := { stood := { row := trieCoversRow, standIns := [], harness := (true, "077bb4ee311e4e12f670baa190a16d91e993ef83ccc181d6a24d8e661ba11a92"), looks := false }, kinds := [], alts := [], laidByText := true, laidKinds := [.data, .pinned], laidTests := true, laidLooks := .later }
def TrieCoversCardSaid : Prop := Claim7.holds Tryd.pinned (.plain (OpenSpec.ofChange trieCoversSpec)) trieCoversCard

/-- THE TIED CARD OF 'halyardlaw22.TriePlays'. -/
def triePlaysCard : Claim7 := { stood := { row := triePlaysRow, standIns := [], harness := (true, "077bb4ee311e4e12f670baa190a16d91e993ef83ccc181d6a24d8e661ba11a92"), looks := false }, kinds := [], alts := [], laidByText := true, laidKinds := [.data, .pinned], laidTests := true, laidLooks := .later }
def TriePlaysCardSaid : Prop := Claim7.holds Tryd.pinned (.plain (OpenSpec.ofChange triePlaysSpec)) triePlaysCard

/-- THE TIED CARD OF 'halyardlaw22.TrieNil'. -/
def trieNilCard : Claim7 := { stood := { row := trieNilRow, standIns := [], harness := (true, "077bb4ee311e4e12f670baa190a16d91e993ef83ccc181d6a24d8e661ba11a92"), looks := false }, kinds := [], alts := [], laidByText := true, laidKinds := [.data, .pinned], laidTests := true, laidLooks := .later }
def TrieNilCardSaid : Prop := Claim7.holds Tryd.pinned (.plain (OpenSpec.ofChange trieNilSpec)) trieNilCard

/-- THE TIED CARD OF 'halyardlaw22.TrieDrops'. -/
def trieDropsCard : Claim7 := { stood := { row := trieDropsRow, standIns := [], harness := (true, "077bb4ee311e4e12f670baa190a16d91e993ef83ccc181d6a24d8e661ba11a92"), looks := false }, kinds := [], alts := [], laidByText := true, laidKinds := [.data, .pinned], laidTests := true, laidLooks := .later }
def TrieDropsCardSaid : Prop := Claim7.holds Tryd.pinned (.plain (OpenSpec.ofChange trieDropsSpec)) trieDropsCard

/-- THE TIED CARD OF 'halyardlaw22.TrieGone'. -/
def trieGoneCard : Claim7 := { stood := { row := trieGoneRow, standIns := [], harness := (true, "077bb4ee311e4e12f670baa190a16d91e993ef83ccc181d6a24d8e661ba11a92"), looks := false }, kinds := [], alts := [], laidByText := true, laidKinds := [.data, .pinned], laidTests := true, laidLooks := .later }
def TrieGoneCardSaid : Prop := Claim7.holds Tryd.pinned (.plain (OpenSpec.ofChange trieGoneSpec)) trieGoneCard

/-- THE SECOND FORM's CARD OF 'halyardlaw22.TrieTurned'. -/
def trieTurnedUptoCard : Claim7 := { stood := { row := trieTurnedUptoRow, standIns := [], harness := (true, "077bb4ee311e4e12f670baa190a16d91e993ef83ccc181d6a24d8e661ba11a92"), looks := false }, kinds := [], alts := [], laidByText := true, laidKinds := [.data, .pinned], laidTests := true, laidLooks := .later }
def TrieTurnedUptoCardSaid : Prop := Claim7.holds Tryd.pinned (.plain (OpenSpec.upto trieTurnedSpec)) trieTurnedUptoCard

/-- THE SECOND FORM's CARD OF 'halyardlaw22.TrieCovers'. -/
def trieCoversUptoCard : Claim7 := { stood := { row := trieCoversUptoRow, standIns := [], harness := (true, "077bb4ee311e4e12f670baa190a16d91e993ef83ccc181d6a24d8e661ba11a92"), looks := false }, kinds := [], alts := [], laidByText := true, laidKinds := [.data, .pinned], laidTests := true, laidLooks := .later }
def TrieCoversUptoCardSaid : Prop := Claim7.holds Tryd.pinned (.plain (OpenSpec.upto trieCoversSpec)) trieCoversUptoCard

/-- THE SECOND FORM's CARD OF 'halyardlaw22.TriePlays'. -/
def triePlaysUptoCard : Claim7 := { stood := { row := triePlaysUptoRow, standIns := [], harness := (true, "077bb4ee311e4e12f670baa190a16d91e993ef83ccc181d6a24d8e661ba11a92"), looks := false }, kinds := [], alts := [], laidByText := true, laidKinds := [.data, .pinned], laidTests := true, laidLooks := .later }
def TriePlaysUptoCardSaid : Prop := Claim7.holds Tryd.pinned (.plain (OpenSpec.upto triePlaysSpec)) triePlaysUptoCard

/-- THE SECOND FORM's CARD OF 'halyardlaw22.TrieNil'. -/
def trieNilUptoCard : Claim7 := { stood := { row := trieNilUptoRow, standIns := [], harness := (true, "077bb4ee311e4e12f670baa190a16d91e993ef83ccc181d6a24d8e661ba11a92"), looks := false }, kinds := [], alts := [], laidByText := true, laidKinds := [.data, .pinned], laidTests := true, laidLooks := .later }
def TrieNilUptoCardSaid : Prop := Claim7.holds Tryd.pinned (.plain (OpenSpec.upto trieNilSpec)) trieNilUptoCard

/-- THE SECOND FORM's CARD OF 'halyardlaw22.TrieDrops'. -/
def trieDropsUptoCard : Claim7 := { stood := { row := trieDropsUptoRow, standIns := [], harness := (true, "077bb4ee311e4e12f670baa190a16d91e993ef83ccc181d6a24d8e661ba11a92"), looks := false }, kinds := [], alts := [], laidByText := true, laidKinds := [.data, .pinned], laidTests := true, laidLooks := .later }
def TrieDropsUptoCardSaid : Prop := Claim7.holds Tryd.pinned (.plain (OpenSpec.upto trieDropsSpec)) trieDropsUptoCard

/-- THE SECOND FORM's CARD OF 'halyardlaw22.TrieGone'. -/
def trieGoneUptoCard : Claim7 := { stood := { row := trieGoneUptoRow, standIns := [], harness := (true, "077bb4ee311e4e12f670baa190a16d91e993ef83ccc181d6a24d8e661ba11a92"), looks := false }, kinds := [], alts := [], laidByText := true, laidKinds := [.data, .pinned], laidTests := true, laidLooks := .later }
def TrieGoneUptoCardSaid : Prop := Claim7.holds Tryd.pinned (.plain (OpenSpec.upto trieGoneSpec)) trieGoneUptoCard
end Rows
end Go.Proofs.YtnmngjffebbbnaaDoor
