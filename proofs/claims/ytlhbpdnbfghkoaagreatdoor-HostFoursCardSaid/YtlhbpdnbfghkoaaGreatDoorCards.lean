/-
  DERIVED. GIVEN WITH THE SEED: THE CARDS: each row of YtlhbpdnbfghkoaaGreatDoorRows.lean that lists a variable, with what it lists TIED to the program's text (the seventh form; the later family's looks); each row that meets fmt, with fmt's text TOLD by the authors' own Lean function (tested against real Go, not proved from fmt's source: count such statements apart). THE CARD IS WHAT COUNTS. Prove the row's statement (the work); the ties are given (YtlhbpdnbfghkoaaGreatDoorTie.lean); close each card by the builder's one call (the guide's Derived/Test/ToyasCard.lean, 'card_holds'). Laid BY PROGRAM, IN A SANDBOX (cutbox-door.mjs). By AI agents, Wed Nov 11 2026. No macro, syntax, notation, axiom, sorry.
-/
import Derived.Test.YtlhbpdnbfghkoaaGreatDoorRows
import GoSem.ClaimSeven
namespace Go.Proofs.YtlhbpdnbfghkoaaGreatDoor
namespace Rows

/-- THE TIED CARD OF 'transeptlaw07.HostFours'. -/
def hostFoursCard : Claim7 := { stood := { row := hostFoursRow, standIns := [], harness := (true, "b0199910529f012c5654e7ab69ddb4f15f203efd0c250c8147c43b35d6fc623d"), looks := true }, kinds := [], alts := [], laidByText := true, laidKinds := [.data, .data, .data, .data, .sentinel, .sentinel, .pinned], laidTests := true, laidLooks := .later }
def HostFoursCardSaid : Prop := Claim7.holds Tryz.pinned (.plain (OpenSpec.ofChange hostFoursSpec)) hostFoursCard

/-- THE TIED CARD OF 'transeptlaw07.HostNames'. -/
def hostNamesCard : Claim7 := { stood := { row := hostNamesRow, standIns := [], harness := (true, "b0199910529f012c5654e7ab69ddb4f15f203efd0c250c8147c43b35d6fc623d"), looks := true }, kinds := [], alts := [], laidByText := true, laidKinds := [.data, .data, .data, .data, .sentinel, .sentinel, .pinned], laidTests := true, laidLooks := .later }
def HostNamesCardSaid : Prop := Claim7.holds Tryz.pinned (.plain (OpenSpec.ofChange hostNamesSpec)) hostNamesCard

/-- THE TIED CARD OF 'transeptlaw07.HostShort'. -/
def hostShortCard : Claim7 := { stood := { row := hostShortRow, standIns := [], harness := (true, "b0199910529f012c5654e7ab69ddb4f15f203efd0c250c8147c43b35d6fc623d"), looks := true }, kinds := [], alts := [], laidByText := true, laidKinds := [.data, .data, .data, .data, .sentinel, .sentinel, .pinned], laidTests := true, laidLooks := .later }
def HostShortCardSaid : Prop := Claim7.holds Tryz.pinned (.plain (OpenSpec.ofChange hostShortSpec)) hostShortCard

/-- THE SECOND FORM's CARD OF 'transeptlaw07.HostFours'. -/
def hostFoursUptoCard : Claim7 := { stood := { row := hostFoursUptoRow, standIns := [], harness := (true, "b0199910529f012c5654e7ab69ddb4f15f203efd0c250c8147c43b35d6fc623d"), looks := true }, kinds := [], alts := [], laidByText := true, laidKinds := [.data, .data, .data, .data, .sentinel, .sentinel, .pinned], laidTests := true, laidLooks := .later }
def HostFoursUptoCardSaid : Prop := Claim7.holds Tryz.pinned (.plain (OpenSpec.upto hostFoursSpec)) hostFoursUptoCard

/-- THE SECOND FORM's CARD OF 'transeptlaw07.HostNames'. -/
def hostNamesUptoCard : Claim7 := { stood := { row := hostNamesUptoRow, standIns := [], harness := (true, "b0199910529f012c5654e7ab69ddb4f15f203efd0c250c8147c43b35d6fc623d"), looks := true }, kinds := [], alts := [], laidByText := true, laidKinds := [.data, .data, .data, .data, .sentinel, .sentinel, .pinned], laidTests := true, laidLooks := .later }
def HostNamesUptoCardSaid : Prop := Claim7.holds Tryz.pinned (.plain (OpenSpec.upto hostNamesSpec)) hostNamesUptoCard

/-- THE SECOND FORM's CARD OF 'transeptlaw07.HostShort'. -/
def hostShortUptoCard : Claim7 := { stood := { row := hostShortUptoRow, standIns := [], harness := (true, "b0199910529f012c5654e7ab69ddb4f15f203efd0c250c8147c43b35d6fc623d"), looks := true }, kinds := [], alts := [], laidByText := true, laidKinds := [.data, .data, .data, .data, .sentinel, .sentinel, .pinned], laidTests := true, laidLooks := .later }
def HostShortUptoCardSaid : Prop := Claim7.holds Tryz.pinned (.plain (OpenSpec.upto hostShortSpec)) hostShortUptoCard
end Rows
end Go.Proofs.YtlhbpdnbfghkoaaGreatDoor
