/-
  DERIVED. GIVEN WITH THE SEED: THE CARDS: each row of YtgmchiadphdlhaaDoorRows.lean that lists a variable, with what it lists TIED to the program's text (the seventh form; the later family's looks); each row that meets fmt, with fmt's text TOLD by the authors' own Lean function (tested against real Go, not proved from fmt's source: count such statements apart). THE CARD IS WHAT COUNTS. Prove the row's statement (the work); the ties are given (YtgmchiadphdlhaaDoorTie.lean); close each card by the builder's one call (the guide's Derived/Test/ToyasCard.lean, 'card_holds'). Laid BY PROGRAM, IN A SANDBOX (cutbox-door.mjs). By AI agents, Wed Nov 11 2026. No macro, syntax, notation, axiom, sorry.
-/
import Derived.Test.YtgmchiadphdlhaaDoorRows
import GoSem.ClaimSeven
namespace Go.Proofs.YtgmchiadphdlhaaDoor
namespace Rows

/-- THE TIED CARD OF 'escutcheonlaw22.ClaimRows'. -/
def claimRowsCard : Claim7 := { stood := { row := claimRowsRow, standIns := [], harness := (true, "5c630d77956728696dd087655ef91e1eecc44bf6940e2b6faeeed3046e015fb0"), looks := true }, kinds := [], alts := [], laidByText := true, laidKinds := [.data, .data, .data, .data, .sentinel, .sentinel, .data, .pinned], laidTests := true, laidLooks := .later }
def ClaimRowsCardSaid : Prop := Claim7.holds Tryd.pinned (.plain (OpenSpec.ofChange claimRowsSpec)) claimRowsCard

/-- THE TIED CARD OF 'escutcheonlaw22.ClaimTimes'. -/
def claimTimesCard : Claim7 := { stood := { row := claimTimesRow, standIns := [], harness := (true, "5c630d77956728696dd087655ef91e1eecc44bf6940e2b6faeeed3046e015fb0"), looks := true }, kinds := [], alts := [], laidByText := true, laidKinds := [.data, .data, .data, .data, .sentinel, .sentinel, .data, .pinned], laidTests := true, laidLooks := .later }
def ClaimTimesCardSaid : Prop := Claim7.holds Tryd.pinned (.plain (OpenSpec.ofChange claimTimesSpec)) claimTimesCard

/-- THE TIED CARD OF 'escutcheonlaw22.ClaimMakes'. -/
def claimMakesCard : Claim7 := { stood := { row := claimMakesRow, standIns := [], harness := (true, "5c630d77956728696dd087655ef91e1eecc44bf6940e2b6faeeed3046e015fb0"), looks := true }, kinds := [], alts := [], laidByText := true, laidKinds := [.data, .data, .data, .data, .sentinel, .sentinel, .data, .pinned], laidTests := true, laidLooks := .later }
def ClaimMakesCardSaid : Prop := Claim7.holds Tryd.pinned (.plain (OpenSpec.ofChange claimMakesSpec)) claimMakesCard

/-- THE SECOND FORM's CARD OF 'escutcheonlaw22.ClaimRows'. -/
def claimRowsUptoCard : Claim7 := { stood := { row := claimRowsUptoRow, standIns := [], harness := (true, "5c630d77956728696dd087655ef91e1eecc44bf6940e2b6faeeed3046e015fb0"), looks := true }, kinds := [], alts := [], laidByText := true, laidKinds := [.data, .data, .data, .data, .sentinel, .sentinel, .data, .pinned], laidTests := true, laidLooks := .later }
def ClaimRowsUptoCardSaid : Prop := Claim7.holds Tryd.pinned (.plain (OpenSpec.upto claimRowsSpec)) claimRowsUptoCard

/-- THE SECOND FORM's CARD OF 'escutcheonlaw22.ClaimTimes'. -/
def claimTimesUptoCard : Claim7 := { stood := { row := claimTimesUptoRow, standIns := [], harness := (true, "5c630d77956728696dd087655ef91e1eecc44bf6940e2b6faeeed3046e015fb0"), looks := true }, kinds := [], alts := [], laidByText := true, laidKinds := [.data, .data, .data, .data, .sentinel, .sentinel, .data, .pinned], laidTests := true, laidLooks := .later }
def ClaimTimesUptoCardSaid : Prop := Claim7.holds Tryd.pinned (.plain (OpenSpec.upto claimTimesSpec)) claimTimesUptoCard

/-- THE SECOND FORM's CARD OF 'escutcheonlaw22.ClaimMakes'. -/
def claimMakesUptoCard : Claim7 := { stood := { row := claimMakesUptoRow, standIns := [], harness := (true, "5c630d77956728696dd087655ef91e1eecc44bf6940e2b6faeeed3046e015fb0"), looks := true }, kinds := [], alts := [], laidByText := true, laidKinds := [.data, .data, .data, .data, .sentinel, .sentinel, .data, .pinned], laidTests := true, laidLooks := .later }
def ClaimMakesUptoCardSaid : Prop := Claim7.holds Tryd.pinned (.plain (OpenSpec.upto claimMakesSpec)) claimMakesUptoCard
end Rows
end Go.Proofs.YtgmchiadphdlhaaDoor
