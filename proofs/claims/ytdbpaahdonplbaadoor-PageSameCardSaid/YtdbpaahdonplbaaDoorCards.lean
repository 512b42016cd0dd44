/-
  DERIVED. GIVEN WITH THE SEED: THE CARDS: each row of YtdbpaahdonplbaaDoorRows.lean that lists a variable, with what it lists TIED to the program's text (the seventh form; the later family's looks); each row that meets fmt, with fmt's text TOLD by the authors' own Lean function (tested against real Go, not proved from fmt's source: count such statements apart). THE CARD IS WHAT COUNTS. Prove the row's statement (the work); the ties are given (YtdbpaahdonplbaaDoorTie.lean); close each card by the builder's one call (the guide's Derived/Test/ToyasCard.lean, 'card_holds'). Laid BY PROGRAM, IN A SANDBOX (cutbox-door.mjs). By AI agents, Wed Nov 11 2026. No macro, syntax, notation, axiom, sorry.
-/
import Derived.Test.YtdbpaahdonplbaaDoorRows
import GoSem.ClaimSeven
namespace Go.Proofs.YtdbpaahdonplbaaDoor
namespace Rows

/-- THE TIED CARD OF 'escutcheonlaw20.PageGets'. -/
def pageGetsCard : Claim7 := { stood := { row := pageGetsRow, standIns := [], harness := (true, "9a8b894f39832ebdeda06f16e5d5f63bea4f9ec54837ab8ff271aa2475bb3e3d"), looks := true }, kinds := [], alts := [], laidByText := true, laidKinds := [.data, .data, .data, .data, .sentinel, .sentinel, .wider, .data, .pinned], laidTests := true, laidLooks := .later }
def PageGetsCardSaid : Prop := Claim7.holds Tryd.pinned (.plain (OpenSpec.ofChange pageGetsSpec)) pageGetsCard

/-- THE TIED CARD OF 'escutcheonlaw20.PageTexts'. -/
def pageTextsCard : Claim7 := { stood := { row := pageTextsRow, standIns := [], harness := (true, "9a8b894f39832ebdeda06f16e5d5f63bea4f9ec54837ab8ff271aa2475bb3e3d"), looks := true }, kinds := [], alts := [], laidByText := true, laidKinds := [.data, .data, .data, .data, .sentinel, .sentinel, .wider, .data, .pinned], laidTests := true, laidLooks := .later }
def PageTextsCardSaid : Prop := Claim7.holds Tryd.pinned (.plain (OpenSpec.ofChange pageTextsSpec)) pageTextsCard

/-- THE TIED CARD OF 'escutcheonlaw20.PageFulls'. -/
def pageFullsCard : Claim7 := { stood := { row := pageFullsRow, standIns := [], harness := (true, "9a8b894f39832ebdeda06f16e5d5f63bea4f9ec54837ab8ff271aa2475bb3e3d"), looks := true }, kinds := [], alts := [], laidByText := true, laidKinds := [.data, .data, .data, .data, .sentinel, .sentinel, .wider, .data, .pinned], laidTests := true, laidLooks := .later }
def PageFullsCardSaid : Prop := Claim7.holds Tryd.pinned (.plain (OpenSpec.ofChange pageFullsSpec)) pageFullsCard

/-- THE TIED CARD OF 'escutcheonlaw20.PageSame'. -/
def pageSameCard : Claim7 := { stood := { row := pageSameRow, standIns := [], harness := (true, "9a8b894f39832ebdeda06f16e5d5f63bea4f9ec54837ab8ff271aa2475bb3e3d"), looks := true }, kinds := [], alts := [], laidByText := true, laidKinds := [.data, .data, .data, .data, .sentinel, .sentinel, .wider, .data, .pinned], laidTests := true, laidLooks := .later }
def PageSameCardSaid : Prop := Claim7.holds Tryd.pinned (.plain (OpenSpec.ofChange pageSameSpec)) pageSameCard

/-- THE TIED CARD OF 'escutcheonlaw20.PageNumbers'. -/
def pageNumbersCard : Claim7 := { stood := { row := pageNumbersRow, standIns := [], harness := (true, "9a8b894f39832ebdeda06f16e5d5f63bea4f9ec54837ab8ff271aa2475bb3e3d"), looks := true }, kinds := [], alts := [], laidByText := true, laidKinds := [.data, .data, .data, .data, .sentinel, .sentinel, .wider, .data, .pinned], laidTests := true, laidLooks := .later }
def PageNumbersCardSaid : Prop := Claim7.holds Tryd.pinned (.plain (OpenSpec.ofChange pageNumbersSpec)) pageNumbersCard

/-- THE SECOND FORM's CARD OF 'escutcheonlaw20.PageGets'. -/
def pageGetsUptoCard : Claim7 := { stood := { row := pageGetsUptoRow, standIns := [], harness := (true, "9a8b894f39832ebdeda06f16e5d5f63bea4f9ec54837ab8ff271aa2475bb3e3d"), looks := true }, kinds := [], alts := [], laidByText := true, laidKinds := [.data, .data, .data, .data, .sentinel, .sentinel, .wider, .data, .pinned], laidTests := true, laidLooks := .later }
def PageGetsUptoCardSaid : Prop := Claim7.holds Tryd.pinned (.plain (OpenSpec.upto pageGetsSpec)) pageGetsUptoCard

/-- THE SECOND FORM's CARD OF 'escutcheonlaw20.PageTexts'. -/
def pageTextsUptoCard : Claim7 := { stood := { row := pageTextsUptoRow, standIns := [], harness := (true, "9a8b894f39832ebdeda06f16e5d5f63bea4f9ec54837ab8ff271aa2475bb3e3d"), looks := true }, kinds := [], alts := [], laidByText := true, laidKinds := [.data, .data, .data, .data, .sentinel, .sentinel, .wider, .data, .pinned], laidTests := true, laidLooks := .later }
def PageTextsUptoCardSaid : Prop := Claim7.holds Tryd.pinned (.plain (OpenSpec.upto pageTextsSpec)) pageTextsUptoCard

/-- THE SECOND FORM's CARD OF 'escutcheonlaw20.PageFulls'. -/
def pageFullsUptoCard : Claim7 := { stood := { row := pageFullsUptoRow, standIns := [], harness := (true, "9a8b894f39832ebdeda06f16e5d5f63bea4f9ec54837ab8ff271aa2475bb3e3d"), looks := true }, kinds := [], alts := [], laidByText := true, laidKinds := [.data, .data, .data, .data, .sentinel, .sentinel, .wider, .data, .pinned], laidTests := true, laidLooks := .later }
def PageFullsUptoCardSaid : Prop := Claim7.holds Tryd.pinned (.plain (OpenSpec.upto pageFullsSpec)) pageFullsUptoCard

/-- THE SECOND FORM's CARD OF 'escutcheonlaw20.PageSame'. -/
def pageSameUptoCard : Claim7 := { stood := { row := pageSameUptoRow, standIns := [], harness := (true, "9a8b894f39832ebdeda06f16e5d5f63bea4f9ec54837ab8ff271aa2475bb3e3d"), looks := true }, kinds := [], alts := [], laidByText := true, laidKinds := [.data, .data, .data, .data, .sentinel, .sentinel, .wider, .data, .pinned], laidTests := true, laidLooks := .later }
def PageSameUptoCardSaid : Prop := Claim7.holds Tryd.pinned (.plain (OpenSpec.upto pageSameSpec)) pageSameUptoCard

/-- THE SECOND FORM's CARD OF 'escutcheonlaw20.PageNumbers'. -/
def pageNumbersUptoCard : Claim7 := { stood := { row := pageNumbersUptoRow, standIns := [], harness := (true, "9a8b894f39832ebdeda06f16e5d5f63bea4f9ec54837ab8ff271aa2475bb3e3d"), looks := true }, kinds := [], alts := [], laidByText := true, laidKinds := [.data, .data, .data, .data, .sentinel, .sentinel, .wider, .data, .pinned], laidTests := true, laidLooks := .later }
def PageNumbersUptoCardSaid : Prop := Claim7.holds Tryd.pinned (.plain (OpenSpec.upto pageNumbersSpec)) pageNumbersUptoCard
end Rows
end Go.Proofs.YtdbpaahdonplbaaDoor
