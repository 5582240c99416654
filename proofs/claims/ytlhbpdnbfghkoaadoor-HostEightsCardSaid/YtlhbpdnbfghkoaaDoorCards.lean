/-
  DERIVED. GIVEN WITH THE SEED: THE CARDS: each row of YtlhbpdnbfghkoaaDoorRows.lean that lists a variable, with what it lists TIED to the program's text (the seventh form; the later family's looks); each row that meets fmt, with fmt's text TOLD by the authors' own Lean function (tested against real Go, not proved from fmt's source: count such statements apart). THE CARD IS WHAT COUNTS. Prove the row's statement (the work); the ties are given (YtlhbpdnbfghkoaaDoorTie.lean); close each card by the builder's one call (the guide's Derived/Test/ToyasCard.lean, 'card_holds'). Laid BY PROGRAM, IN A SANDBOX (cutbox-door.mjs). By AI agents, Wed Nov 11 2026. No macro, syntax, notation, axiom, sorry.
-/
import Derived.Test.YtlhbpdnbfghkoaaDoorRows
import GoSem.ClaimSeven
namespace Go.Proofs.YtlhbpdnbfghkoaaDoor
namespace Rows

/-- THE TIED CARD OF 'transeptlaw07.HostOnce'. -/
def hostOnceCard : Claim7 := { stood := { row := hostOnceRow, standIns := [], harness := (true, "6ad0b2529aa34869a480d60cbb6e66108220b8e3098d576052c1d19630baf924"), looks := true }, kinds := [], alts := [], laidByText := true, laidKinds := [.data, .data, .data, .data, .sentinel, .sentinel, .pinned], laidTests := true, laidLooks := .later }
def HostOnceCardSaid : Prop := Claim7.holds Tryd.pinned (.plain (OpenSpec.ofChange hostOnceSpec)) hostOnceCard

/-- THE TIED CARD OF 'transeptlaw07.HostEights'. -/
def hostEightsCard : Claim7 := { stood := { row := hostEightsRow, standIns := [], harness := (true, "6ad0b2529aa34869a480d60cbb6e66108220b8e3098d576052c1d19630baf924"), looks := true }, kinds := [], alts := [], laidByText := true, laidKinds := [.data, .data, .data, .data, .sentinel, .sentinel, .pinned], laidTests := true, laidLooks := .later }
def HostEightsCardSaid : Prop := Claim7.holds Tryd.pinned (.plain (OpenSpec.ofChange hostEightsSpec)) hostEightsCard

/-- THE TIED CARD OF 'transeptlaw07.HostWrong'. -/
def hostWrongCard : Claim7 := { stood := { row := hostWrongRow, standIns := [], harness := (true, "6ad0b2529aa34869a480d60cbb6e66108220b8e3098d576052c1d19630baf924"), looks := true }, kinds := [], alts := [], laidByText := true, laidKinds := [.data, .data, .data, .data, .sentinel, .sentinel, .pinned], laidTests := true, laidLooks := .later }
def HostWrongCardSaid : Prop := Claim7.holds Tryd.pinned (.plain (OpenSpec.ofChange hostWrongSpec)) hostWrongCard

/-- THE SECOND FORM's CARD OF 'transeptlaw07.HostOnce'. -/
def hostOnceUptoCard : Claim7 := { stood := { row := hostOnceUptoRow, standIns := [], harness := (true, "6ad0b2529aa34869a480d60cbb6e66108220b8e3098d576052c1d19630baf924"), looks := true }, kinds := [], alts := [], laidByText := true, laidKinds := [.data, .data, .data, .data, .sentinel, .sentinel, .pinned], laidTests := true, laidLooks := .later }
def HostOnceUptoCardSaid : Prop := Claim7.holds Tryd.pinned (.plain (OpenSpec.upto hostOnceSpec)) hostOnceUptoCard

/-- THE SECOND FORM's CARD OF 'transeptlaw07.HostEights'. -/
def hostEightsUptoCard : Claim7 := { stood := { row := hostEightsUptoRow, standIns := [], harness := (true, "6ad0b2529aa34869a480d60cbb6e66108220b8e3098d576052c1d19630baf924"), looks := true }, kinds := [], alts := [], laidByText := true, laidKinds := [.data, .data, .data, .data, .sentinel, .sentinel, .pinned], laidTests := true, laidLooks := .later }
def HostEightsUptoCardSaid : Prop := Claim7.holds Tryd.pinned (.plain (OpenSpec.upto hostEightsSpec)) hostEightsUptoCard

/-- THE SECOND FORM's CARD OF 'transeptlaw07.HostWrong'. -/
def hostWrongUptoCard : Claim7 := { stood := { row := hostWrongUptoRow, standIns := [], harness := (true, "6ad0b2529aa34869a480d60cbb6e66108220b8e3098d576052c1d19630baf924"), looks := true }, kinds := [], alts := [], laidByText := true, laidKinds := [.data, .data, .data, .data, .sentinel, .sentinel, .pinned], laidTests := true, laidLooks := .later }
def HostWrongUptoCardSaid : Prop := Claim7.holds Tryd.pinned (.plain (OpenSpec.upto hostWrongSpec)) hostWrongUptoCard
end Rows
end Go.Proofs.YtlhbpdnbfghkoaaDoor
