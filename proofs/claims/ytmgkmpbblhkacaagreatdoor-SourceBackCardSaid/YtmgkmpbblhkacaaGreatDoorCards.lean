/-
  DERIVED. GIVEN WITH THE SEED: THE CARDS: each row of YtmgkmpbblhkacaaGreatDoorRows.lean that lists a variable, with what it lists TIED to the program's text (the seventh form; the later family's looks); each row that meets fmt, with fmt's text TOLD by the authors' own Lean function (tested against real Go, not proved from fmt's source: count such statements apart). THE CARD IS WHAT COUNTS. Prove the row's statement (the work); the ties are given (YtmgkmpbblhkacaaGreatDoorTie.lean); close each card by the builder's one call (the guide's Derived/Test/ToyasCard.lean, 'card_holds'). Laid BY PROGRAM, IN A SANDBOX (cutbox-door.mjs). By AI agents, Wed Nov 11 2026. No macro, syntax, notation, axiom, sorry.
-/
import Derived.Test.YtmgkmpbblhkacaaGreatDoorRows
import GoSem.ClaimSeven
namespace Go.Proofs.YtmgkmpbblhkacaaGreatDoor
namespace Rows

/-- THE TIED CARD OF 'transeptlaw13.SourceWider'. -/
def sourceWiderCard : Claim7 := { stood := { row := sourceWiderRow, standIns := [], harness := (true, "0b12ae0a694f55ca15d5658849c88c9519aff5ea95d8519dcef62b37522992b3"), looks := true }, kinds := [], alts := [], laidByText := true, laidKinds := [.data, .data, .data, .data, .sentinel, .sentinel, .listed, .data, .pinned], laidTests := true, laidLooks := .later }
def SourceWiderCardSaid : Prop := Claim7.holds Tryz.pinned (.plain (OpenSpec.ofChange sourceWiderSpec)) sourceWiderCard

/-- THE TIED CARD OF 'transeptlaw13.SourceSelf'. -/
def sourceSelfCard : Claim7 := { stood := { row := sourceSelfRow, standIns := [], harness := (true, "0b12ae0a694f55ca15d5658849c88c9519aff5ea95d8519dcef62b37522992b3"), looks := true }, kinds := [], alts := [], laidByText := true, laidKinds := [.data, .data, .data, .data, .sentinel, .sentinel, .listed, .data, .pinned], laidTests := true, laidLooks := .later }
def SourceSelfCardSaid : Prop := Claim7.holds Tryz.pinned (.plain (OpenSpec.ofChange sourceSelfSpec)) sourceSelfCard

/-- THE TIED CARD OF 'transeptlaw13.SourcePaths'. -/
def sourcePathsCard : Claim7 := { stood := { row := sourcePathsRow, standIns := [], harness := (true, "0b12ae0a694f55ca15d5658849c88c9519aff5ea95d8519dcef62b37522992b3"), looks := true }, kinds := [], alts := [], laidByText := true, laidKinds := [.data, .data, .data, .data, .sentinel, .sentinel, .listed, .data, .pinned], laidTests := true, laidLooks := .later }
def SourcePathsCardSaid : Prop := Claim7.holds Tryz.pinned (.plain (OpenSpec.ofChange sourcePathsSpec)) sourcePathsCard

/-- THE TIED CARD OF 'transeptlaw13.SourceHosts'. -/
def sourceHostsCard : Claim7 := { stood := { row := sourceHostsRow, standIns := [], harness := (true, "0b12ae0a694f55ca15d5658849c88c9519aff5ea95d8519dcef62b37522992b3"), looks := true }, kinds := [], alts := [], laidByText := true, laidKinds := [.data, .data, .data, .data, .sentinel, .sentinel, .listed, .data, .pinned], laidTests := true, laidLooks := .later }
def SourceHostsCardSaid : Prop := Claim7.holds Tryz.pinned (.plain (OpenSpec.ofChange sourceHostsSpec)) sourceHostsCard

/-- THE TIED CARD OF 'transeptlaw13.SourceWords'. -/
def sourceWordsCard : Claim7 := { stood := { row := sourceWordsRow, standIns := [], harness := (true, "0b12ae0a694f55ca15d5658849c88c9519aff5ea95d8519dcef62b37522992b3"), looks := true }, kinds := [], alts := [], laidByText := true, laidKinds := [.data, .data, .data, .data, .sentinel, .sentinel, .listed, .data, .pinned], laidTests := true, laidLooks := .later }
def SourceWordsCardSaid : Prop := Claim7.holds Tryz.pinned (.plain (OpenSpec.ofChange sourceWordsSpec)) sourceWordsCard

/-- THE TIED CARD OF 'transeptlaw13.SourceSchemes'. -/
def sourceSchemesCard : Claim7 := { stood := { row := sourceSchemesRow, standIns := [], harness := (true, "0b12ae0a694f55ca15d5658849c88c9519aff5ea95d8519dcef62b37522992b3"), looks := true }, kinds := [], alts := [], laidByText := true, laidKinds := [.data, .data, .data, .data, .sentinel, .sentinel, .listed, .data, .pinned], laidTests := true, laidLooks := .later }
def SourceSchemesCardSaid : Prop := Claim7.holds Tryz.pinned (.plain (OpenSpec.ofChange sourceSchemesSpec)) sourceSchemesCard

/-- THE TIED CARD OF 'transeptlaw13.SourcePorts'. -/
def sourcePortsCard : Claim7 := { stood := { row := sourcePortsRow, standIns := [], harness := (true, "0b12ae0a694f55ca15d5658849c88c9519aff5ea95d8519dcef62b37522992b3"), looks := true }, kinds := [], alts := [], laidByText := true, laidKinds := [.data, .data, .data, .data, .sentinel, .sentinel, .listed, .data, .pinned], laidTests := true, laidLooks := .later }
def SourcePortsCardSaid : Prop := Claim7.holds Tryz.pinned (.plain (OpenSpec.ofChange sourcePortsSpec)) sourcePortsCard

/-- THE TIED CARD OF 'transeptlaw13.SourceBack'. -/
def sourceBackCard : Claim7 := { stood := { row := sourceBackRow, standIns := [], harness := (true, "0b12ae0a694f55ca15d5658849c88c9519aff5ea95d8519dcef62b37522992b3"), looks := true }, kinds := [], alts := [], laidByText := true, laidKinds := [.data, .data, .data, .data, .sentinel, .sentinel, .listed, .data, .pinned], laidTests := true, laidLooks := .later }
def SourceBackCardSaid : Prop := Claim7.holds Tryz.pinned (.plain (OpenSpec.ofChange sourceBackSpec)) sourceBackCard

/-- THE SECOND FORM's CARD OF 'transeptlaw13.SourceWider'. -/
def sourceWiderUptoCard : Claim7 := { stood := { row := sourceWiderUptoRow, standIns := [], harness := (true, "0b12ae0a694f55ca15d5658849c88c9519aff5ea95d8519dcef62b37522992b3"), looks := true }, kinds := [], alts := [], laidByText := true, laidKinds := [.data, .data, .data, .data, .sentinel, .sentinel, .listed, .data, .pinned], laidTests := true, laidLooks := .later }
def SourceWiderUptoCardSaid : Prop := Claim7.holds Tryz.pinned (.plain (OpenSpec.upto sourceWiderSpec)) sourceWiderUptoCard

/-- THE SECOND FORM's CARD OF 'transeptlaw13.SourceSelf'. -/
def sourceSelfUptoCard : Claim7 := { stood := { row := sourceSelfUptoRow, standIns := [], harness := (true, "0b12ae0a694f55ca15d5658849c88c9519aff5ea95d8519dcef62b37522992b3"), looks := true }, kinds := [], alts := [], laidByText := true, laidKinds := [.data, .data, .data, .data, .sentinel, .sentinel, .listed, .data, .pinned], laidTests := true, laidLooks := .later }
def SourceSelfUptoCardSaid : Prop := Claim7.holds Tryz.pinned (.plain (OpenSpec.upto sourceSelfSpec)) sourceSelfUptoCard

/-- THE SECOND FORM's CARD OF 'transeptlaw13.SourcePaths'. -/
def sourcePathsUptoCard : Claim7 := { stood := { row := sourcePathsUptoRow, standIns := [], harness := (true, "0b12ae0a694f55ca15d5658849c88c9519aff5ea95d8519dcef62b37522992b3"), looks := true }, kinds := [], alts := [], laidByText := true, laidKinds := [.data, .data, .data, .data, .sentinel, .sentinel, .listed, .data, .pinned], laidTests := true, laidLooks := .later }
def SourcePathsUptoCardSaid : Prop := Claim7.holds Tryz.pinned (.plain (OpenSpec.upto sourcePathsSpec)) sourcePathsUptoCard

/-- THE SECOND FORM's CARD OF 'transeptlaw13.SourceHosts'. -/
def sourceHostsUptoCard : Claim7 := { stood := { row := sourceHostsUptoRow, standIns := [], harness := (true, "0b12ae0a694f55ca15d5658849c88c9519aff5ea95d8519dcef62b37522992b3"), looks := true }, kinds := [], alts := [], laidByText := true, laidKinds := [.data, .data, .data, .data, .sentinel, .sentinel, .listed, .data, .pinned], laidTests := true, laidLooks := .later }
def SourceHostsUptoCardSaid : Prop := Claim7.holds Tryz.pinned (.plain (OpenSpec.upto sourceHostsSpec)) sourceHostsUptoCard

/-- THE SECOND FORM's CARD OF 'transeptlaw13.SourceWords'. -/
def sourceWordsUptoCard : Claim7 := { stood := { row := sourceWordsUptoRow, standIns := [], harness := (true, "0b12ae0a694f55ca15d5658849c88c9519aff5ea95d8519dcef62b37522992b3"), looks := true }, kinds := [], alts := [], laidByText := true, laidKinds := [.data, .data, .data, .data, .sentinel, .sentinel, .listed, .data, .pinned], laidTests := true, laidLooks := .later }
def SourceWordsUptoCardSaid : Prop := Claim7.holds Tryz.pinned (.plain (OpenSpec.upto sourceWordsSpec)) sourceWordsUptoCard

/-- THE SECOND FORM's CARD OF 'transeptlaw13.SourceSchemes'. -/
def sourceSchemesUptoCard : Claim7 := { stood := { row := sourceSchemesUptoRow, standIns := [], harness := (true, "0b12ae0a694f55ca15d5658849c88c9519aff5ea95d8519dcef62b37522992b3"), looks := true }, kinds := [], alts := [], laidByText := true, laidKinds := [.data, .data, .data, .data, .sentinel, .sentinel, .listed, .data, .pinned], laidTests := true, laidLooks := .later }
def SourceSchemesUptoCardSaid : Prop := Claim7.holds Tryz.pinned (.plain (OpenSpec.upto sourceSchemesSpec)) sourceSchemesUptoCard

/-- THE SECOND FORM's CARD OF 'transeptlaw13.SourcePorts'. -/
def sourcePortsUptoCard : Claim7 := { stood := { row := sourcePortsUptoRow, standIns := [], harness := (true, "0b12ae0a694f55ca15d5658849c88c9519aff5ea95d8519dcef62b37522992b3"), looks := true }, kinds := [], alts := [], laidByText := true, laidKinds := [.data, .data, .data, .data, .sentinel, .sentinel, .listed, .data, .pinned], laidTests := true, laidLooks := .later }
def SourcePortsUptoCardSaid : Prop := Claim7.holds Tryz.pinned (.plain (OpenSpec.upto sourcePortsSpec)) sourcePortsUptoCard

/-- THE SECOND FORM's CARD OF 'transeptlaw13.SourceBack'. -/
def sourceBackUptoCard : Claim7 := { stood := { row := sourceBackUptoRow, standIns := [], harness := (true, "0b12ae0a694f55ca15d5658849c88c9519aff5ea95d8519dcef62b37522992b3"), looks := true }, kinds := [], alts := [], laidByText := true, laidKinds := [.data, .data, .data, .data, .sentinel, .sentinel, .listed, .data, .pinned], laidTests := true, laidLooks := .later }
def SourceBackUptoCardSaid : Prop := Claim7.holds Tryz.pinned (.plain (OpenSpec.upto sourceBackSpec)) sourceBackUptoCard
end Rows
end Go.Proofs.YtmgkmpbblhkacaaGreatDoor
