/-
  DERIVED. GIVEN WITH THE SEED: THE CARDS: each row of YtjeneodgjclpiaaDoorRows.lean that lists a variable, with what it lists TIED to the program's text (the seventh form; the later family's looks); each row that meets fmt, with fmt's text TOLD by the authors' own Lean function (tested against real Go, not proved from fmt's source: count such statements apart). THE CARD IS WHAT COUNTS. Prove the row's statement (the work); the ties are given (YtjeneodgjclpiaaDoorTie.lean); close each card by the builder's one call (the guide's Derived/Test/ToyasCard.lean, 'card_holds'). Laid BY PROGRAM, IN A SANDBOX (cutbox-door.mjs). By AI agents, Wed Nov 11 2026. No macro, syntax, notation, axiom, sorry.
-/
import Derived.Test.YtjeneodgjclpiaaDoorRows
import GoSem.ClaimSeven
namespace Go.Proofs.YtjeneodgjclpiaaDoor
namespace Rows

/-- THE TIED CARD OF 'halyardlaw4.TopicFilters'. -/
def topicFiltersCard : Claim7 := { stood := { row := topicFiltersRow, standIns := [], harness := (true, "6262f6b94dc12841c3cab848c5284519410b90538aa0db5da7d82b3ed3094aa3"), looks := false }, kinds := [], alts := [], laidByText := true, laidKinds := [.data, .pinned], laidTests := true, laidLooks := .later }
def TopicFiltersCardSaid : Prop := Claim7.holds Tryd.pinned (.plain (OpenSpec.ofChange topicFiltersSpec)) topicFiltersCard

/-- THE TIED CARD OF 'halyardlaw4.TopicWider'. -/
def topicWiderCard : Claim7 := { stood := { row := topicWiderRow, standIns := [], harness := (true, "6262f6b94dc12841c3cab848c5284519410b90538aa0db5da7d82b3ed3094aa3"), looks := false }, kinds := [], alts := [], laidByText := true, laidKinds := [.data, .pinned], laidTests := true, laidLooks := .later }
def TopicWiderCardSaid : Prop := Claim7.holds Tryd.pinned (.plain (OpenSpec.ofChange topicWiderSpec)) topicWiderCard

/-- THE TIED CARD OF 'halyardlaw4.TopicLevels'. -/
def topicLevelsCard : Claim7 := { stood := { row := topicLevelsRow, standIns := [], harness := (true, "6262f6b94dc12841c3cab848c5284519410b90538aa0db5da7d82b3ed3094aa3"), looks := false }, kinds := [], alts := [], laidByText := true, laidKinds := [.data, .pinned], laidTests := true, laidLooks := .later }
def TopicLevelsCardSaid : Prop := Claim7.holds Tryd.pinned (.plain (OpenSpec.ofChange topicLevelsSpec)) topicLevelsCard

/-- THE TIED CARD OF 'halyardlaw4.TopicTexts'. -/
def topicTextsCard : Claim7 := { stood := { row := topicTextsRow, standIns := [], harness := (true, "6262f6b94dc12841c3cab848c5284519410b90538aa0db5da7d82b3ed3094aa3"), looks := false }, kinds := [], alts := [], laidByText := true, laidKinds := [.data, .pinned], laidTests := true, laidLooks := .later }
def TopicTextsCardSaid : Prop := Claim7.holds Tryd.pinned (.plain (OpenSpec.ofChange topicTextsSpec)) topicTextsCard

/-- THE TIED CARD OF 'halyardlaw4.TopicMatches'. -/
def topicMatchesCard : Claim7 := { stood := { row := topicMatchesRow, standIns := [], harness := (true, "6262f6b94dc12841c3cab848c5284519410b90538aa0db5da7d82b3ed3094aa3"), looks := false }, kinds := [], alts := [], laidByText := true, laidKinds := [.data, .pinned], laidTests := true, laidLooks := .later }
def TopicMatchesCardSaid : Prop := Claim7.holds Tryd.pinned (.plain (OpenSpec.ofChange topicMatchesSpec)) topicMatchesCard

/-- THE TIED CARD OF 'halyardlaw4.TopicItself'. -/
def topicItselfCard : Claim7 := { stood := { row := topicItselfRow, standIns := [], harness := (true, "6262f6b94dc12841c3cab848c5284519410b90538aa0db5da7d82b3ed3094aa3"), looks := false }, kinds := [], alts := [], laidByText := true, laidKinds := [.data, .pinned], laidTests := true, laidLooks := .later }
def TopicItselfCardSaid : Prop := Claim7.holds Tryd.pinned (.plain (OpenSpec.ofChange topicItselfSpec)) topicItselfCard

/-- THE TIED CARD OF 'halyardlaw4.TopicCovers'. -/
def topicCoversCard : Claim7 := { stood := { row := topicCoversRow, standIns := [], harness := (true, "6262f6b94dc12841c3cab848c5284519410b90538aa0db5da7d82b3ed3094aa3"), looks := false }, kinds := [], alts := [], laidByText := true, laidKinds := [.data, .pinned], laidTests := true, laidLooks := .later }
def TopicCoversCardSaid : Prop := Claim7.holds Tryd.pinned (.plain (OpenSpec.ofChange topicCoversSpec)) topicCoversCard

/-- THE TIED CARD OF 'halyardlaw4.TopicBelow'. -/
def topicBelowCard : Claim7 := { stood := { row := topicBelowRow, standIns := [], harness := (true, "6262f6b94dc12841c3cab848c5284519410b90538aa0db5da7d82b3ed3094aa3"), looks := false }, kinds := [], alts := [], laidByText := true, laidKinds := [.data, .pinned], laidTests := true, laidLooks := .later }
def TopicBelowCardSaid : Prop := Claim7.holds Tryd.pinned (.plain (OpenSpec.ofChange topicBelowSpec)) topicBelowCard

/-- THE SECOND FORM's CARD OF 'halyardlaw4.TopicFilters'. -/
def topicFiltersUptoCard : Claim7 := { stood := { row := topicFiltersUptoRow, standIns := [], harness := (true, "6262f6b94dc12841c3cab848c5284519410b90538aa0db5da7d82b3ed3094aa3"), looks := false }, kinds := [], alts := [], laidByText := true, laidKinds := [.data, .pinned], laidTests := true, laidLooks := .later }
def TopicFiltersUptoCardSaid : Prop := Claim7.holds Tryd.pinned (.plain (OpenSpec.upto topicFiltersSpec)) topicFiltersUptoCard

/-- THE SECOND FORM's CARD OF 'halyardlaw4.TopicWider'. -/
def topicWiderUptoCard : Claim7 := { stood := { row := topicWiderUptoRow, standIns := [], harness := (true, "6262f6b94dc12841c3cab848c5284519410b90538aa0db5da7d82b3ed3094aa3"), looks := false }, kinds := [], alts := [], laidByText := true, laidKinds := [.data, .pinned], laidTests := true, laidLooks := .later }
def TopicWiderUptoCardSaid : Prop := Claim7.holds Tryd.pinned (.plain (OpenSpec.upto topicWiderSpec)) topicWiderUptoCard

/-- THE SECOND FORM's CARD OF 'halyardlaw4.TopicLevels'. -/
def topicLevelsUptoCard : Claim7 := { stood := { row := topicLevelsUptoRow, standIns := [], harness := (true, "6262f6b94dc12841c3cab848c5284519410b90538aa0db5da7d82b3ed3094aa3"), looks := false }, kinds := [], alts := [], laidByText := true, laidKinds := [.data, .pinned], laidTests := true, laidLooks := .later }
def TopicLevelsUptoCardSaid : Prop := Claim7.holds Tryd.pinned (.plain (OpenSpec.upto topicLevelsSpec)) topicLevelsUptoCard

/-- THE SECOND FORM's CARD OF 'halyardlaw4.TopicTexts'. -/
def topicTextsUptoCard : Claim7 := { stood := { row := topicTextsUptoRow, standIns := [], harness := (true, "6262f6b94dc12841c3cab848c5284519410b90538aa0db5da7d82b3ed3094aa3"), looks := false }, kinds := [], alts := [], laidByText := true, laidKinds := [.data, .pinned], laidTests := true, laidLooks := .later }
def TopicTextsUptoCardSaid : Prop := Claim7.holds Tryd.pinned (.plain (OpenSpec.upto topicTextsSpec)) topicTextsUptoCard

/-- THE SECOND FORM's CARD OF 'halyardlaw4.TopicMatches'. -/
def topicMatchesUptoCard : Claim7 := { stood := { row := topicMatchesUptoRow, standIns := [], harness := (true, "6262f6b94dc12841c3cab848c5284519410b90538aa0db5da7d82b3ed3094aa3"), looks := false }, kinds := [], alts := [], laidByText := true, laidKinds := [.data, .pinned], laidTests := true, laidLooks := .later }
def TopicMatchesUptoCardSaid : Prop := Claim7.holds Tryd.pinned (.plain (OpenSpec.upto topicMatchesSpec)) topicMatchesUptoCard

/-- THE SECOND FORM's CARD OF 'halyardlaw4.TopicItself'. -/
def topicItselfUptoCard : Claim7 := { stood := { row := topicItselfUptoRow, standIns := [], harness := (true, "6262f6b94dc12841c3cab848c5284519410b90538aa0db5da7d82b3ed3094aa3"), looks := false }, kinds := [], alts := [], laidByText := true, laidKinds := [.data, .pinned], laidTests := true, laidLooks := .later }
def TopicItselfUptoCardSaid : Prop := Claim7.holds Tryd.pinned (.plain (OpenSpec.upto topicItselfSpec)) topicItselfUptoCard

/-- THE SECOND FORM's CARD OF 'halyardlaw4.TopicCovers'. -/
def topicCoversUptoCard : Claim7 := { stood := { row := topicCoversUptoRow, standIns := [], harness := (true, "6262f6b94dc12841c3cab848c5284519410b90538aa0db5da7d82b3ed3094aa3"), looks := false }, kinds := [], alts := [], laidByText := true, laidKinds := [.data, .pinned], laidTests := true, laidLooks := .later }
def TopicCoversUptoCardSaid : Prop := Claim7.holds Tryd.pinned (.plain (OpenSpec.upto topicCoversSpec)) topicCoversUptoCard

/-- THE SECOND FORM's CARD OF 'halyardlaw4.TopicBelow'. -/
def topicBelowUptoCard : Claim7 := { stood := { row := topicBelowUptoRow, standIns := [], harness := (true, "6262f6b94dc12841c3cab848c5284519410b90538aa0db5da7d82b3ed3094aa3"), looks := false }, kinds := [], alts := [], laidByText := true, laidKinds := [.data, .pinned], laidTests := true, laidLooks := .later }
def TopicBelowUptoCardSaid : Prop := Claim7.holds Tryd.pinned (.plain (OpenSpec.upto topicBelowSpec)) topicBelowUptoCard
end Rows
end Go.Proofs.YtjeneodgjclpiaaDoor
