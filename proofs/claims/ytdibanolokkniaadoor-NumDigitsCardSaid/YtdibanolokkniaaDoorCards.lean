/-
  DERIVED. GIVEN WITH THE SEED: THE CARDS: each row of YtdibanolokkniaaDoorRows.lean that lists a variable, with what it lists TIED to the program's text (the seventh form; the later family's looks); each row that meets fmt, with fmt's text TOLD by the authors' own Lean function (tested against real Go, not proved from fmt's source: count such statements apart). THE CARD IS WHAT COUNTS. Prove the row's statement (the work); the ties are given (YtdibanolokkniaaDoorTie.lean); close each card by the builder's one call (the guide's Derived/Test/ToyasCard.lean, 'card_holds'). Laid BY PROGRAM, IN A SANDBOX (cutbox-door.mjs). By AI agents, Wed Nov 11 2026. No macro, syntax, notation, axiom, sorry.
-/
import Derived.Test.YtdibanolokkniaaDoorRows
import GoSem.ClaimSeven
namespace Go.Proofs.YtdibanolokkniaaDoor
namespace Rows

/-- THE TIED CARD OF 'relictlaw02.NumBits'. -/
def numBitsCard : Claim7 := { stood := { row := numBitsRow, standIns := [], harness := (true, "72cbd72e4a756e170495248e3dd0e3461733d769b9e68c6b5aa8ed16b04e6ded"), looks := false }, kinds := [], alts := [], laidByText := true, laidKinds := [.data, .pinned], laidTests := true, laidLooks := .later }
def NumBitsCardSaid : Prop := Claim7.holds Tryd.pinned (.plain (OpenSpec.ofChange numBitsSpec)) numBitsCard

/-- THE TIED CARD OF 'relictlaw02.NumInts'. -/
def numIntsCard : Claim7 := { stood := { row := numIntsRow, standIns := [], harness := (true, "72cbd72e4a756e170495248e3dd0e3461733d769b9e68c6b5aa8ed16b04e6ded"), looks := false }, kinds := [], alts := [], laidByText := true, laidKinds := [.data, .pinned], laidTests := true, laidLooks := .later }
def NumIntsCardSaid : Prop := Claim7.holds Tryd.pinned (.plain (OpenSpec.ofChange numIntsSpec)) numIntsCard

/-- THE TIED CARD OF 'relictlaw02.NumOrders'. -/
def numOrdersCard : Claim7 := { stood := { row := numOrdersRow, standIns := [], harness := (true, "72cbd72e4a756e170495248e3dd0e3461733d769b9e68c6b5aa8ed16b04e6ded"), looks := false }, kinds := [], alts := [], laidByText := true, laidKinds := [.data, .pinned], laidTests := true, laidLooks := .later }
def NumOrdersCardSaid : Prop := Claim7.holds Tryd.pinned (.plain (OpenSpec.ofChange numOrdersSpec)) numOrdersCard

/-- THE TIED CARD OF 'relictlaw02.NumAll'. -/
def numAllCard : Claim7 := { stood := { row := numAllRow, standIns := [], harness := (true, "72cbd72e4a756e170495248e3dd0e3461733d769b9e68c6b5aa8ed16b04e6ded"), looks := false }, kinds := [], alts := [], laidByText := true, laidKinds := [.data, .pinned], laidTests := true, laidLooks := .later }
def NumAllCardSaid : Prop := Claim7.holds Tryd.pinned (.plain (OpenSpec.ofChange numAllSpec)) numAllCard

/-- THE TIED CARD OF 'relictlaw02.NumLaws'. -/
def numLawsCard : Claim7 := { stood := { row := numLawsRow, standIns := [], harness := (true, "72cbd72e4a756e170495248e3dd0e3461733d769b9e68c6b5aa8ed16b04e6ded"), looks := false }, kinds := [], alts := [], laidByText := true, laidKinds := [.data, .pinned], laidTests := true, laidLooks := .later }
def NumLawsCardSaid : Prop := Claim7.holds Tryd.pinned (.plain (OpenSpec.ofChange numLawsSpec)) numLawsCard

/-- THE TIED CARD OF 'relictlaw02.NumRooms'. -/
def numRoomsCard : Claim7 := { stood := { row := numRoomsRow, standIns := [], harness := (true, "72cbd72e4a756e170495248e3dd0e3461733d769b9e68c6b5aa8ed16b04e6ded"), looks := false }, kinds := [], alts := [], laidByText := true, laidKinds := [.data, .pinned], laidTests := true, laidLooks := .later }
def NumRoomsCardSaid : Prop := Claim7.holds Tryd.pinned (.plain (OpenSpec.ofChange numRoomsSpec)) numRoomsCard

/-- THE TIED CARD OF 'relictlaw02.NumTexts'. -/
def numTextsCard : Claim7 := { stood := { row := numTextsRow, standIns := [], harness := (true, "72cbd72e4a756e170495248e3dd0e3461733d769b9e68c6b5aa8ed16b04e6ded"), looks := false }, kinds := [], alts := [], laidByText := true, laidKinds := [.data, .pinned], laidTests := true, laidLooks := .later }
def NumTextsCardSaid : Prop := Claim7.holds Tryd.pinned (.plain (OpenSpec.ofChange numTextsSpec)) numTextsCard

/-- THE TIED CARD OF 'relictlaw02.NumDigits'. -/
def numDigitsCard : Claim7 := { stood := { row := numDigitsRow, standIns := [], harness := (true, "72cbd72e4a756e170495248e3dd0e3461733d769b9e68c6b5aa8ed16b04e6ded"), looks := false }, kinds := [], alts := [], laidByText := true, laidKinds := [.data, .pinned], laidTests := true, laidLooks := .later }
def NumDigitsCardSaid : Prop := Claim7.holds Tryd.pinned (.plain (OpenSpec.ofChange numDigitsSpec)) numDigitsCard

/-- THE SECOND FORM's CARD OF 'relictlaw02.NumBits'. -/
def numBitsUptoCard : Claim7 := { stood := { row := numBitsUptoRow, standIns := [], harness := (true, "72cbd72e4a756e170495248e3dd0e3461733d769b9e68c6b5aa8ed16b04e6ded"), looks := false }, kinds := [], alts := [], laidByText := true, laidKinds := [.data, .pinned], laidTests := true, laidLooks := .later }
def NumBitsUptoCardSaid : Prop := Claim7.holds Tryd.pinned (.plain (OpenSpec.upto numBitsSpec)) numBitsUptoCard

/-- THE SECOND FORM's CARD OF 'relictlaw02.NumInts'. -/
def numIntsUptoCard : Claim7 := { stood := { row := numIntsUptoRow, standIns := [], harness := (true, "72cbd72e4a756e170495248e3dd0e3461733d769b9e68c6b5aa8ed16b04e6ded"), looks := false }, kinds := [], alts := [], laidByText := true, laidKinds := [.data, .pinned], laidTests := true, laidLooks := .later }
def NumIntsUptoCardSaid : Prop := Claim7.holds Tryd.pinned (.plain (OpenSpec.upto numIntsSpec)) numIntsUptoCard

/-- THE SECOND FORM's CARD OF 'relictlaw02.NumOrders'. -/
def numOrdersUptoCard : Claim7 := { stood := { row := numOrdersUptoRow, standIns := [], harness := (true, "72cbd72e4a756e170495248e3dd0e3461733d769b9e68c6b5aa8ed16b04e6ded"), looks := false }, kinds := [], alts := [], laidByText := true, laidKinds := [.data, .pinned], laidTests := true, laidLooks := .later }
def NumOrdersUptoCardSaid : Prop := Claim7.holds Tryd.pinned (.plain (OpenSpec.upto numOrdersSpec)) numOrdersUptoCard

/-- THE SECOND FORM's CARD OF 'relictlaw02.NumAll'. -/
def numAllUptoCard : Claim7 := { stood := { row := numAllUptoRow, standIns := [], harness := (true, "72cbd72e4a756e170495248e3dd0e3461733d769b9e68c6b5aa8ed16b04e6ded"), looks := false }, kinds := [], alts := [], laidByText := true, laidKinds := [.data, .pinned], laidTests := true, laidLooks := .later }
def NumAllUptoCardSaid : Prop := Claim7.holds Tryd.pinned (.plain (OpenSpec.upto numAllSpec)) numAllUptoCard

/-- THE SECOND FORM's CARD OF 'relictlaw02.NumLaws'. -/
def numLawsUptoCard : Claim7 := { stood := { row := numLawsUptoRow, standIns := [], harness := (true, "72cbd72e4a756e170495248e3dd0e3461733d769b9e68c6b5aa8ed16b04e6ded"), looks := false }, kinds := [], alts := [], laidByText := true, laidKinds := [.data, .pinned], laidTests := true, laidLooks := .later }
def NumLawsUptoCardSaid : Prop := Claim7.holds Tryd.pinned (.plain (OpenSpec.upto numLawsSpec)) numLawsUptoCard

/-- THE SECOND FORM's CARD OF 'relictlaw02.NumRooms'. -/
def numRoomsUptoCard : Claim7 := { stood := { row := numRoomsUptoRow, standIns := [], harness := (true, "72cbd72e4a756e170495248e3dd0e3461733d769b9e68c6b5aa8ed16b04e6ded"), looks := false }, kinds := [], alts := [], laidByText := true, laidKinds := [.data, .pinned], laidTests := true, laidLooks := .later }
def NumRoomsUptoCardSaid : Prop := Claim7.holds Tryd.pinned (.plain (OpenSpec.upto numRoomsSpec)) numRoomsUptoCard

/-- THE SECOND FORM's CARD OF 'relictlaw02.NumTexts'. -/
def numTextsUptoCard : Claim7 := { stood := { row := numTextsUptoRow, standIns := [], harness := (true, "72cbd72e4a756e170495248e3dd0e3461733d769b9e68c6b5aa8ed16b04e6ded"), looks := false }, kinds := [], alts := [], laidByText := true, laidKinds := [.data, .pinned], laidTests := true, laidLooks := .later }
def NumTextsUptoCardSaid : Prop := Claim7.holds Tryd.pinned (.plain (OpenSpec.upto numTextsSpec)) numTextsUptoCard

/-- THE SECOND FORM's CARD OF 'relictlaw02.NumDigits'. -/
def numDigitsUptoCard : Claim7 := { stood := { row := numDigitsUptoRow, standIns := [], harness := (true, "72cbd72e4a756e170495248e3dd0e3461733d769b9e68c6b5aa8ed16b04e6ded"), looks := false }, kinds := [], alts := [], laidByText := true, laidKinds := [.data, .pinned], laidTests := true, laidLooks := .later }
def NumDigitsUptoCardSaid : Prop := Claim7.holds Tryd.pinned (.plain (OpenSpec.upto numDigitsSpec)) numDigitsUptoCard
end Rows
end Go.Proofs.YtdibanolokkniaaDoor
