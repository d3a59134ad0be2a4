/-
  DERIVED. GIVEN WITH THE SEED: THE CARDS: each row of YtbjgkolldmplkaaDoorRows.lean that lists a variable, with what it lists TIED to the program's text (the seventh form; the later family's looks); each row that meets fmt, with fmt's text TOLD by the authors' own Lean function (tested against real Go, not proved from fmt's source: count such statements apart). THE CARD IS WHAT COUNTS. Prove the row's statement (the work); the ties are given (YtbjgkolldmplkaaDoorTie.lean); close each card by the builder's one call (the guide's Derived/Test/ToyasCard.lean, 'card_holds'). Laid BY PROGRAM, IN A SANDBOX (cutbox-door.mjs). By AI agents, Wed Nov 11 2026. No macro, syntax, notation, axiom, sorry.
-/
import Derived.Test.YtbjgkolldmplkaaDoorRows
import GoSem.ClaimSeven
namespace Go.Proofs.YtbjgkolldmplkaaDoor
namespace Rows

/-- THE TIED CARD OF 'whittlelaw02.PartDoes'. -/
def partDoesCard : Claim7 := { stood := { row := partDoesRow, standIns := [], harness := (true, "14fc05cc31ad89d783556929966e31363f5189cb849098ee71a2d0d9500bcc45"), looks := false }, kinds := [], alts := [], laidByText := true, laidKinds := [.data], laidTests := true, laidLooks := .later }
def PartDoesCardSaid : Prop := Claim7.holds Tryd.pinned (.plain (OpenSpec.ofChange partDoesSpec)) partDoesCard

/-- THE TIED CARD OF 'whittlelaw02.PartSame'. -/
def partSameCard : Claim7 := { stood := { row := partSameRow, standIns := [], harness := (true, "14fc05cc31ad89d783556929966e31363f5189cb849098ee71a2d0d9500bcc45"), looks := false }, kinds := [], alts := [], laidByText := true, laidKinds := [.data], laidTests := true, laidLooks := .later }
def PartSameCardSaid : Prop := Claim7.holds Tryd.pinned (.plain (OpenSpec.ofChange partSameSpec)) partSameCard

/-- THE TIED CARD OF 'whittlelaw02.PartMore'. -/
def partMoreCard : Claim7 := { stood := { row := partMoreRow, standIns := [], harness := (true, "14fc05cc31ad89d783556929966e31363f5189cb849098ee71a2d0d9500bcc45"), looks := false }, kinds := [], alts := [], laidByText := true, laidKinds := [.data], laidTests := true, laidLooks := .later }
def PartMoreCardSaid : Prop := Claim7.holds Tryd.pinned (.plain (OpenSpec.ofChange partMoreSpec)) partMoreCard

/-- THE TIED CARD OF 'whittlelaw01.SetTurns'. -/
def setTurnsCard : Claim7 := { stood := { row := setTurnsRow, standIns := [], harness := (true, "14fc05cc31ad89d783556929966e31363f5189cb849098ee71a2d0d9500bcc45"), looks := false }, kinds := [], alts := [], laidByText := true, laidKinds := [.data], laidTests := true, laidLooks := .later }
def SetTurnsCardSaid : Prop := Claim7.holds Tryd.pinned (.plain (OpenSpec.ofChange setTurnsSpec)) setTurnsCard

/-- THE TIED CARD OF 'whittlelaw02.PartSets'. -/
def partSetsCard : Claim7 := { stood := { row := partSetsRow, standIns := [], harness := (true, "14fc05cc31ad89d783556929966e31363f5189cb849098ee71a2d0d9500bcc45"), looks := false }, kinds := [], alts := [], laidByText := true, laidKinds := [.data], laidTests := true, laidLooks := .later }
def PartSetsCardSaid : Prop := Claim7.holds Tryd.pinned (.plain (OpenSpec.ofChange partSetsSpec)) partSetsCard

/-- THE TIED CARD OF 'whittlelaw02.PartBack'. -/
def partBackCard : Claim7 := { stood := { row := partBackRow, standIns := [], harness := (true, "14fc05cc31ad89d783556929966e31363f5189cb849098ee71a2d0d9500bcc45"), looks := false }, kinds := [], alts := [], laidByText := true, laidKinds := [.data], laidTests := true, laidLooks := .later }
def PartBackCardSaid : Prop := Claim7.holds Tryd.pinned (.plain (OpenSpec.ofChange partBackSpec)) partBackCard

/-- THE SECOND FORM's CARD OF 'whittlelaw02.PartDoes'. -/
def partDoesUptoCard : Claim7 := { stood := { row := partDoesUptoRow, standIns := [], harness := (true, "14fc05cc31ad89d783556929966e31363f5189cb849098ee71a2d0d9500bcc45"), looks := false }, kinds := [], alts := [], laidByText := true, laidKinds := [.data], laidTests := true, laidLooks := .later }
def PartDoesUptoCardSaid : Prop := Claim7.holds Tryd.pinned (.plain (OpenSpec.upto partDoesSpec)) partDoesUptoCard

/-- THE SECOND FORM's CARD OF 'whittlelaw02.PartSame'. -/
def partSameUptoCard : Claim7 := { stood := { row := partSameUptoRow, standIns := [], harness := (true, "14fc05cc31ad89d783556929966e31363f5189cb849098ee71a2d0d9500bcc45"), looks := false }, kinds := [], alts := [], laidByText := true, laidKinds := [.data], laidTests := true, laidLooks := .later }
def PartSameUptoCardSaid : Prop := Claim7.holds Tryd.pinned (.plain (OpenSpec.upto partSameSpec)) partSameUptoCard

/-- THE SECOND FORM's CARD OF 'whittlelaw02.PartMore'. -/
def partMoreUptoCard : Claim7 := { stood := { row := partMoreUptoRow, standIns := [], harness := (true, "14fc05cc31ad89d783556929966e31363f5189cb849098ee71a2d0d9500bcc45"), looks := false }, kinds := [], alts := [], laidByText := true, laidKinds := [.data], laidTests := true, laidLooks := .later }
def PartMoreUptoCardSaid : Prop := Claim7.holds Tryd.pinned (.plain (OpenSpec.upto partMoreSpec)) partMoreUptoCard

/-- THE SECOND FORM's CARD OF 'whittlelaw01.SetTurns'. -/
def setTurnsUptoCard : Claim7 := { stood := { row := setTurnsUptoRow, standIns := [], harness := (true, "14fc05cc31ad89d783556929966e31363f5189cb849098ee71a2d0d9500bcc45"), looks := false }, kinds := [], alts := [], laidByText := true, laidKinds := [.data], laidTests := true, laidLooks := .later }
def SetTurnsUptoCardSaid : Prop := Claim7.holds Tryd.pinned (.plain (OpenSpec.upto setTurnsSpec)) setTurnsUptoCard

/-- THE SECOND FORM's CARD OF 'whittlelaw02.PartSets'. -/
def partSetsUptoCard : Claim7 := { stood := { row := partSetsUptoRow, standIns := [], harness := (true, "14fc05cc31ad89d783556929966e31363f5189cb849098ee71a2d0d9500bcc45"), looks := false }, kinds := [], alts := [], laidByText := true, laidKinds := [.data], laidTests := true, laidLooks := .later }
def PartSetsUptoCardSaid : Prop := Claim7.holds Tryd.pinned (.plain (OpenSpec.upto partSetsSpec)) partSetsUptoCard

/-- THE SECOND FORM's CARD OF 'whittlelaw02.PartBack'. -/
def partBackUptoCard : Claim7 := { stood := { row := partBackUptoRow, standIns := [], harness := (true, "14fc05cc31ad89d783556929966e31363f5189cb849098ee71a2d0d9500bcc45"), looks := false }, kinds := [], alts := [], laidByText := true, laidKinds := [.data], laidTests := true, laidLooks := .later }
def PartBackUptoCardSaid : Prop := Claim7.holds Tryd.pinned (.plain (OpenSpec.upto partBackSpec)) partBackUptoCard
end Rows
end Go.Proofs.YtbjgkolldmplkaaDoor
