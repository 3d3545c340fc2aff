/-
  DERIVED. GIVEN WITH THE SEED: THE CARDS: each row of YtaifnpbgamookaaDoorRows.lean that lists a variable, with what it lists TIED to the program's text (the seventh form; the later family's looks); each row that meets fmt, with fmt's text TOLD by the authors' own Lean function (tested against real Go, not proved from fmt's source: count such statements apart). THE CARD IS WHAT COUNTS. Prove the row's statement (the work); the ties are given (YtaifnpbgamookaaDoorTie.lean); close each card by the builder's one call (the guide's Derived/Test/ToyasCard.lean, 'card_holds'). Laid BY PROGRAM, IN A SANDBOX (cutbox-door.mjs). By AI agents, Wed Nov 11 2026. No macro, syntax, notation, axiom, sorry.
-/
import Derived.Test.YtaifnpbgamookaaDoorRows
import GoSem.ClaimSeven
namespace Go.Proofs.YtaifnpbgamookaaDoor
namespace Rows

/-- THE TIED CARD OF 'relictlaw03.TermDeep'. -/
def termDeepCard : Claim7 := { stood := { row := termDeepRow, standIns := [], harness := (true, "fb7b76449d74d696801876161613d20e8688047b3fa7e72fc13e17eab9cdf008"), looks := false }, kinds := [], alts := [], laidByText := true, laidKinds := [.data, .data, .data, .data, .pinned], laidTests := true, laidLooks := .later }
def TermDeepCardSaid : Prop := Claim7.holds Tryd.pinned (.plain (OpenSpec.ofChange termDeepSpec)) termDeepCard

/-- THE TIED CARD OF 'relictlaw03.TermTexts'. -/
def termTextsCard : Claim7 := { stood := { row := termTextsRow, standIns := [], harness := (true, "fb7b76449d74d696801876161613d20e8688047b3fa7e72fc13e17eab9cdf008"), looks := false }, kinds := [], alts := [], laidByText := true, laidKinds := [.data, .data, .data, .data, .pinned], laidTests := true, laidLooks := .later }
def TermTextsCardSaid : Prop := Claim7.holds Tryd.pinned (.plain (OpenSpec.ofChange termTextsSpec)) termTextsCard

/-- THE TIED CARD OF 'relictlaw03.TermLists'. -/
def termListsCard : Claim7 := { stood := { row := termListsRow, standIns := [], harness := (true, "fb7b76449d74d696801876161613d20e8688047b3fa7e72fc13e17eab9cdf008"), looks := false }, kinds := [], alts := [], laidByText := true, laidKinds := [.data, .data, .data, .data, .pinned], laidTests := true, laidLooks := .later }
def TermListsCardSaid : Prop := Claim7.holds Tryd.pinned (.plain (OpenSpec.ofChange termListsSpec)) termListsCard

/-- THE TIED CARD OF 'relictlaw03.TermTuples'. -/
def termTuplesCard : Claim7 := { stood := { row := termTuplesRow, standIns := [], harness := (true, "fb7b76449d74d696801876161613d20e8688047b3fa7e72fc13e17eab9cdf008"), looks := false }, kinds := [], alts := [], laidByText := true, laidKinds := [.data, .data, .data, .data, .pinned], laidTests := true, laidLooks := .later }
def TermTuplesCardSaid : Prop := Claim7.holds Tryd.pinned (.plain (OpenSpec.ofChange termTuplesSpec)) termTuplesCard

/-- THE TIED CARD OF 'relictlaw03.TermOrders'. -/
def termOrdersCard : Claim7 := { stood := { row := termOrdersRow, standIns := [], harness := (true, "fb7b76449d74d696801876161613d20e8688047b3fa7e72fc13e17eab9cdf008"), looks := false }, kinds := [], alts := [], laidByText := true, laidKinds := [.data, .data, .data, .data, .pinned], laidTests := true, laidLooks := .later }
def TermOrdersCardSaid : Prop := Claim7.holds Tryd.pinned (.plain (OpenSpec.ofChange termOrdersSpec)) termOrdersCard

/-- THE TIED CARD OF 'relictlaw03.TermKinds'. -/
def termKindsCard : Claim7 := { stood := { row := termKindsRow, standIns := [], harness := (true, "fb7b76449d74d696801876161613d20e8688047b3fa7e72fc13e17eab9cdf008"), looks := false }, kinds := [], alts := [], laidByText := true, laidKinds := [.data, .data, .data, .data, .pinned], laidTests := true, laidLooks := .later }
def TermKindsCardSaid : Prop := Claim7.holds Tryd.pinned (.plain (OpenSpec.ofChange termKindsSpec)) termKindsCard

/-- THE SECOND FORM's CARD OF 'relictlaw03.TermDeep'. -/
def termDeepUptoCard : Claim7 := { stood := { row := termDeepUptoRow, standIns := [], harness := (true, "fb7b76449d74d696801876161613d20e8688047b3fa7e72fc13e17eab9cdf008"), looks := false }, kinds := [], alts := [], laidByText := true, laidKinds := [.data, .data, .data, .data, .pinned], laidTests := true, laidLooks := .later }
def TermDeepUptoCardSaid : Prop := Claim7.holds Tryd.pinned (.plain (OpenSpec.upto termDeepSpec)) termDeepUptoCard

/-- THE SECOND FORM's CARD OF 'relictlaw03.TermTexts'. -/
def termTextsUptoCard : Claim7 := { stood := { row := termTextsUptoRow, standIns := [], harness := (true, "fb7b76449d74d696801876161613d20e8688047b3fa7e72fc13e17eab9cdf008"), looks := false }, kinds := [], alts := [], laidByText := true, laidKinds := [.data, .data, .data, .data, .pinned], laidTests := true, laidLooks := .later }
def TermTextsUptoCardSaid : Prop := Claim7.holds Tryd.pinned (.plain (OpenSpec.upto termTextsSpec)) termTextsUptoCard

/-- THE SECOND FORM's CARD OF 'relictlaw03.TermLists'. -/
def termListsUptoCard : Claim7 := { stood := { row := termListsUptoRow, standIns := [], harness := (true, "fb7b76449d74d696801876161613d20e8688047b3fa7e72fc13e17eab9cdf008"), looks := false }, kinds := [], alts := [], laidByText := true, laidKinds := [.data, .data, .data, .data, .pinned], laidTests := true, laidLooks := .later }
def TermListsUptoCardSaid : Prop := Claim7.holds Tryd.pinned (.plain (OpenSpec.upto termListsSpec)) termListsUptoCard

/-- THE SECOND FORM's CARD OF 'relictlaw03.TermTuples'. -/
def termTuplesUptoCard : Claim7 := { stood := { row := termTuplesUptoRow, standIns := [], harness := (true, "fb7b76449d74d696801876161613d20e8688047b3fa7e72fc13e17eab9cdf008"), looks := false }, kinds := [], alts := [], laidByText := true, laidKinds := [.data, .data, .data, .data, .pinned], laidTests := true, laidLooks := .later }
def TermTuplesUptoCardSaid : Prop := Claim7.holds Tryd.pinned (.plain (OpenSpec.upto termTuplesSpec)) termTuplesUptoCard

/-- THE SECOND FORM's CARD OF 'relictlaw03.TermOrders'. -/
def termOrdersUptoCard : Claim7 := { stood := { row := termOrdersUptoRow, standIns := [], harness := (true, "fb7b76449d74d696801876161613d20e8688047b3fa7e72fc13e17eab9cdf008"), looks := false }, kinds := [], alts := [], laidByText := true, laidKinds := [.data, .data, .data, .data, .pinned], laidTests := true, laidLooks := .later }
def TermOrdersUptoCardSaid : Prop := Claim7.holds Tryd.pinned (.plain (OpenSpec.upto termOrdersSpec)) termOrdersUptoCard

/-- THE SECOND FORM's CARD OF 'relictlaw03.TermKinds'. -/
def termKindsUptoCard : Claim7 := { stood := { row := termKindsUptoRow, standIns := [], harness := (true, "fb7b76449d74d696801876161613d20e8688047b3fa7e72fc13e17eab9cdf008"), looks := false }, kinds := [], alts := [], laidByText := true, laidKinds := [.data, .data, .data, .data, .pinned], laidTests := true, laidLooks := .later }
def TermKindsUptoCardSaid : Prop := Claim7.holds Tryd.pinned (.plain (OpenSpec.upto termKindsSpec)) termKindsUptoCard
end Rows
end Go.Proofs.YtaifnpbgamookaaDoor
