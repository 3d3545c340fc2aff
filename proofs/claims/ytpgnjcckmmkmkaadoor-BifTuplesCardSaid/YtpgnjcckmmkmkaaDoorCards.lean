/-
  DERIVED. GIVEN WITH THE SEED: THE CARDS: each row of YtpgnjcckmmkmkaaDoorRows.lean that lists a variable, with what it lists TIED to the program's text (the seventh form; the later family's looks); each row that meets fmt, with fmt's text TOLD by the authors' own Lean function (tested against real Go, not proved from fmt's source: count such statements apart). THE CARD IS WHAT COUNTS. Prove the row's statement (the work); the ties are given (YtpgnjcckmmkmkaaDoorTie.lean); close each card by the builder's one call (the guide's Derived/Test/ToyasCard.lean, 'card_holds'). Laid BY PROGRAM, IN A SANDBOX (cutbox-door.mjs). By AI agents, Wed Nov 11 2026. No macro, syntax, notation, axiom, sorry.
-/
import Derived.Test.YtpgnjcckmmkmkaaDoorRows
import GoSem.ClaimSeven
namespace Go.Proofs.YtpgnjcckmmkmkaaDoor
namespace Rows

/-- THE TIED CARD OF 'relictlaw19.BifLists'. -/
def bifListsCard : Claim7 := { stood := { row := bifListsRow, standIns := [], harness := (true, "ebba4fb0a51725ff7054cbd60cc0321a50c2337ed898329b60de1af610c13b4d"), looks := false }, kinds := [], alts := [], laidByText := true, laidKinds := [.data, .pinned], laidTests := true, laidLooks := .later }
def BifListsCardSaid : Prop := Claim7.holds Tryd.pinned (.plain (OpenSpec.ofChange bifListsSpec)) bifListsCard

/-- THE TIED CARD OF 'relictlaw19.BifTuples'. -/
def bifTuplesCard : Claim7 := { stood := { row := bifTuplesRow, standIns := [], harness := (true, "ebba4fb0a51725ff7054cbd60cc0321a50c2337ed898329b60de1af610c13b4d"), looks := false }, kinds := [], alts := [], laidByText := true, laidKinds := [.data, .pinned], laidTests := true, laidLooks := .later }
def BifTuplesCardSaid : Prop := Claim7.holds Tryd.pinned (.plain (OpenSpec.ofChange bifTuplesSpec)) bifTuplesCard

/-- THE TIED CARD OF 'relictlaw19.BifTexts'. -/
def bifTextsCard : Claim7 := { stood := { row := bifTextsRow, standIns := [], harness := (true, "ebba4fb0a51725ff7054cbd60cc0321a50c2337ed898329b60de1af610c13b4d"), looks := false }, kinds := [], alts := [], laidByText := true, laidKinds := [.data, .pinned], laidTests := true, laidLooks := .later }
def BifTextsCardSaid : Prop := Claim7.holds Tryd.pinned (.plain (OpenSpec.ofChange bifTextsSpec)) bifTextsCard

/-- THE SECOND FORM's CARD OF 'relictlaw19.BifLists'. -/
def bifListsUptoCard : Claim7 := { stood := { row := bifListsUptoRow, standIns := [], harness := (true, "ebba4fb0a51725ff7054cbd60cc0321a50c2337ed898329b60de1af610c13b4d"), looks := false }, kinds := [], alts := [], laidByText := true, laidKinds := [.data, .pinned], laidTests := true, laidLooks := .later }
def BifListsUptoCardSaid : Prop := Claim7.holds Tryd.pinned (.plain (OpenSpec.upto bifListsSpec)) bifListsUptoCard

/-- THE SECOND FORM's CARD OF 'relictlaw19.BifTuples'. -/
def bifTuplesUptoCard : Claim7 := { stood := { row := bifTuplesUptoRow, standIns := [], harness := (true, "ebba4fb0a51725ff7054cbd60cc0321a50c2337ed898329b60de1af610c13b4d"), looks := false }, kinds := [], alts := [], laidByText := true, laidKinds := [.data, .pinned], laidTests := true, laidLooks := .later }
def BifTuplesUptoCardSaid : Prop := Claim7.holds Tryd.pinned (.plain (OpenSpec.upto bifTuplesSpec)) bifTuplesUptoCard

/-- THE SECOND FORM's CARD OF 'relictlaw19.BifTexts'. -/
def bifTextsUptoCard : Claim7 := { stood := { row := bifTextsUptoRow, standIns := [], harness := (true, "ebba4fb0a51725ff7054cbd60cc0321a50c2337ed898329b60de1af610c13b4d"), looks := false }, kinds := [], alts := [], laidByText := true, laidKinds := [.data, .pinned], laidTests := true, laidLooks := .later }
def BifTextsUptoCardSaid : Prop := Claim7.holds Tryd.pinned (.plain (OpenSpec.upto bifTextsSpec)) bifTextsUptoCard
end Rows
end Go.Proofs.YtpgnjcckmmkmkaaDoor
