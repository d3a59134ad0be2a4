/-
  DERIVED. GIVEN WITH THE SEED: THE CARDS: each row of YtcondkihpmmnnaaGreatDoorRows.lean that lists a variable, with what it lists TIED to the program's text (the seventh form; the later family's looks); each row that meets fmt, with fmt's text TOLD by the authors' own Lean function (tested against real Go, not proved from fmt's source: count such statements apart). THE CARD IS WHAT COUNTS. Prove the row's statement (the work); the ties are given (YtcondkihpmmnnaaGreatDoorTie.lean); close each card by the builder's one call (the guide's Derived/Test/ToyasCard.lean, 'card_holds'). Laid BY PROGRAM, IN A SANDBOX (cutbox-door.mjs). By AI agents, Wed Nov 11 2026. No macro, syntax, notation, axiom, sorry.
-/
import Derived.Test.YtcondkihpmmnnaaGreatDoorRows
import GoSem.ClaimSeven
namespace Go.Proofs.YtcondkihpmmnnaaGreatDoor
namespace Rows

/-- THE TIED CARD OF 'whittletop.TopCompose'. -/
def topComposeCard : Claim7 := { stood := { row := topComposeRow, standIns := [], harness := (true, "4ff8601192a1eb7c5d33e08d581ce744d95b93651d2c8e99f0954c8a855d605d"), looks := true }, kinds := [], alts := [], laidByText := true, laidKinds := [.data, .data, .data], laidTests := true, laidLooks := .later }
def TopComposeCardSaid : Prop := Claim7.holds Tryz.pinned (.plain (OpenSpec.ofChange topComposeSpec)) topComposeCard

/-- THE TIED CARD OF 'whittletop.TopUnique'. -/
def topUniqueCard : Claim7 := { stood := { row := topUniqueRow, standIns := [], harness := (true, "4ff8601192a1eb7c5d33e08d581ce744d95b93651d2c8e99f0954c8a855d605d"), looks := true }, kinds := [], alts := [], laidByText := true, laidKinds := [.data, .data, .data], laidTests := true, laidLooks := .later }
def TopUniqueCardSaid : Prop := Claim7.holds Tryz.pinned (.plain (OpenSpec.ofChange topUniqueSpec)) topUniqueCard

/-- THE TIED CARD OF 'whittletop.TopTwin'. -/
def topTwinCard : Claim7 := { stood := { row := topTwinRow, standIns := [], harness := (true, "4ff8601192a1eb7c5d33e08d581ce744d95b93651d2c8e99f0954c8a855d605d"), looks := true }, kinds := [], alts := [], laidByText := true, laidKinds := [.data, .data, .data], laidTests := true, laidLooks := .later }
def TopTwinCardSaid : Prop := Claim7.holds Tryz.pinned (.plain (OpenSpec.ofChange topTwinSpec)) topTwinCard

/-- THE SECOND FORM's CARD OF 'whittletop.TopCompose'. -/
def topComposeUptoCard : Claim7 := { stood := { row := topComposeUptoRow, standIns := [], harness := (true, "4ff8601192a1eb7c5d33e08d581ce744d95b93651d2c8e99f0954c8a855d605d"), looks := true }, kinds := [], alts := [], laidByText := true, laidKinds := [.data, .data, .data], laidTests := true, laidLooks := .later }
def TopComposeUptoCardSaid : Prop := Claim7.holds Tryz.pinned (.plain (OpenSpec.upto topComposeSpec)) topComposeUptoCard

/-- THE SECOND FORM's CARD OF 'whittletop.TopUnique'. -/
def topUniqueUptoCard : Claim7 := { stood := { row := topUniqueUptoRow, standIns := [], harness := (true, "4ff8601192a1eb7c5d33e08d581ce744d95b93651d2c8e99f0954c8a855d605d"), looks := true }, kinds := [], alts := [], laidByText := true, laidKinds := [.data, .data, .data], laidTests := true, laidLooks := .later }
def TopUniqueUptoCardSaid : Prop := Claim7.holds Tryz.pinned (.plain (OpenSpec.upto topUniqueSpec)) topUniqueUptoCard

/-- THE SECOND FORM's CARD OF 'whittletop.TopTwin'. -/
def topTwinUptoCard : Claim7 := { stood := { row := topTwinUptoRow, standIns := [], harness := (true, "4ff8601192a1eb7c5d33e08d581ce744d95b93651d2c8e99f0954c8a855d605d"), looks := true }, kinds := [], alts := [], laidByText := true, laidKinds := [.data, .data, .data], laidTests := true, laidLooks := .later }
def TopTwinUptoCardSaid : Prop := Claim7.holds Tryz.pinned (.plain (OpenSpec.upto topTwinSpec)) topTwinUptoCard
end Rows
end Go.Proofs.YtcondkihpmmnnaaGreatDoor
