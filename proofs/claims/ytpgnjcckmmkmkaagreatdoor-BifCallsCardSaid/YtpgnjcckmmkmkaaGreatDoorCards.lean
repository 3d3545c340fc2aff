/-
  DERIVED. GIVEN WITH THE SEED: THE CARDS: each row of YtpgnjcckmmkmkaaGreatDoorRows.lean that lists a variable, with what it lists TIED to the program's text (the seventh form; the later family's looks); each row that meets fmt, with fmt's text TOLD by the authors' own Lean function (tested against real Go, not proved from fmt's source: count such statements apart). THE CARD IS WHAT COUNTS. Prove the row's statement (the work); the ties are given (YtpgnjcckmmkmkaaGreatDoorTie.lean); close each card by the builder's one call (the guide's Derived/Test/ToyasCard.lean, 'card_holds'). Laid BY PROGRAM, IN A SANDBOX (cutbox-door.mjs). By AI agents, Wed Nov 11 2026. No macro, syntax, notation, axiom, sorry.
-/
import Derived.Test.YtpgnjcckmmkmkaaGreatDoorRows
import GoSem.ClaimSeven
namespace Go.Proofs.YtpgnjcckmmkmkaaGreatDoor
namespace Rows

/-- THE TIED CARD OF 'relictlaw19.BifCalls'. -/
def bifCallsCard : Claim7 := { stood := { row := bifCallsRow, standIns := [], harness := (true, "841cdd8fdc6ff045a7bb4f60499a36912ff9c03b3d17e1a231edb57f2fe5c8f8"), looks := false }, kinds := [], alts := [], laidByText := true, laidKinds := [.data, .pinned], laidTests := true, laidLooks := .later }
def BifCallsCardSaid : Prop := Claim7.holds Tryz.pinned (.plain (OpenSpec.ofChange bifCallsSpec)) bifCallsCard

/-- THE TIED CARD OF 'relictlaw19.BifOrders'. -/
def bifOrdersCard : Claim7 := { stood := { row := bifOrdersRow, standIns := [], harness := (true, "841cdd8fdc6ff045a7bb4f60499a36912ff9c03b3d17e1a231edb57f2fe5c8f8"), looks := false }, kinds := [], alts := [], laidByText := true, laidKinds := [.data, .pinned], laidTests := true, laidLooks := .later }
def BifOrdersCardSaid : Prop := Claim7.holds Tryz.pinned (.plain (OpenSpec.ofChange bifOrdersSpec)) bifOrdersCard

/-- THE TIED CARD OF 'relictlaw19.BifAll'. -/
def bifAllCard : Claim7 := { stood := { row := bifAllRow, standIns := [], harness := (true, "841cdd8fdc6ff045a7bb4f60499a36912ff9c03b3d17e1a231edb57f2fe5c8f8"), looks := false }, kinds := [], alts := [], laidByText := true, laidKinds := [.data, .pinned], laidTests := true, laidLooks := .later }
def BifAllCardSaid : Prop := Claim7.holds Tryz.pinned (.plain (OpenSpec.ofChange bifAllSpec)) bifAllCard

/-- THE SECOND FORM's CARD OF 'relictlaw19.BifCalls'. -/
def bifCallsUptoCard : Claim7 := { stood := { row := bifCallsUptoRow, standIns := [], harness := (true, "841cdd8fdc6ff045a7bb4f60499a36912ff9c03b3d17e1a231edb57f2fe5c8f8"), looks := false }, kinds := [], alts := [], laidByText := true, laidKinds := [.data, .pinned], laidTests := true, laidLooks := .later }
def BifCallsUptoCardSaid : Prop := Claim7.holds Tryz.pinned (.plain (OpenSpec.upto bifCallsSpec)) bifCallsUptoCard

/-- THE SECOND FORM's CARD OF 'relictlaw19.BifOrders'. -/
def bifOrdersUptoCard : Claim7 := { stood := { row := bifOrdersUptoRow, standIns := [], harness := (true, "841cdd8fdc6ff045a7bb4f60499a36912ff9c03b3d17e1a231edb57f2fe5c8f8"), looks := false }, kinds := [], alts := [], laidByText := true, laidKinds := [.data, .pinned], laidTests := true, laidLooks := .later }
def BifOrdersUptoCardSaid : Prop := Claim7.holds Tryz.pinned (.plain (OpenSpec.upto bifOrdersSpec)) bifOrdersUptoCard

/-- THE SECOND FORM's CARD OF 'relictlaw19.BifAll'. -/
def bifAllUptoCard : Claim7 := { stood := { row := bifAllUptoRow, standIns := [], harness := (true, "841cdd8fdc6ff045a7bb4f60499a36912ff9c03b3d17e1a231edb57f2fe5c8f8"), looks := false }, kinds := [], alts := [], laidByText := true, laidKinds := [.data, .pinned], laidTests := true, laidLooks := .later }
def BifAllUptoCardSaid : Prop := Claim7.holds Tryz.pinned (.plain (OpenSpec.upto bifAllSpec)) bifAllUptoCard
end Rows
end Go.Proofs.YtpgnjcckmmkmkaaGreatDoor
