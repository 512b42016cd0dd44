/-
  DERIVED. GIVEN WITH THE SEED: THE CARDS: each row of YtgmchiadphdlhaaGreatDoorRows.lean that lists a variable, with what it lists TIED to the program's text (the seventh form; the later family's looks); each row that meets fmt, with fmt's text TOLD by the authors' own Lean function (tested against real Go, not proved from fmt's source: count such statements apart). THE CARD IS WHAT COUNTS. Prove the row's statement (the work); the ties are given (YtgmchiadphdlhaaGreatDoorTie.lean); close each card by the builder's one call (the guide's Derived/Test/ToyasCard.lean, 'card_holds'). Laid BY PROGRAM, IN A SANDBOX (cutbox-door.mjs). By AI agents, Wed Nov 11 2026. No macro, syntax, notation, axiom, sorry.
-/
import Derived.Test.YtgmchiadphdlhaaGreatDoorRows
import GoSem.ClaimSeven
namespace Go.Proofs.YtgmchiadphdlhaaGreatDoor
namespace Rows

/-- THE TIED CARD OF 'escutcheonlaw22.ClaimReads'. -/
def claimReadsCard : Claim7 := { stood := { row := claimReadsRow, standIns := [], harness := (true, "1a0a88a03372d7b536b3d5f46dfc895d7a45ff3eea1227b090fe7b6d850dfe13"), looks := true }, kinds := [], alts := [], laidByText := true, laidKinds := [.data, .data, .data, .data, .sentinel, .sentinel, .data, .data, .pinned], laidTests := true, laidLooks := .later }
def ClaimReadsCardSaid : Prop := Claim7.holds Tryz.pinned (.plain (OpenSpec.ofChange claimReadsSpec)) claimReadsCard

/-- THE TIED CARD OF 'escutcheonlaw22.ClaimChecks'. -/
def claimChecksCard : Claim7 := { stood := { row := claimChecksRow, standIns := [], harness := (true, "1a0a88a03372d7b536b3d5f46dfc895d7a45ff3eea1227b090fe7b6d850dfe13"), looks := true }, kinds := [], alts := [], laidByText := true, laidKinds := [.data, .data, .data, .data, .sentinel, .sentinel, .data, .pinned], laidTests := true, laidLooks := .later }
def ClaimChecksCardSaid : Prop := Claim7.holds Tryz.pinned (.plain (OpenSpec.ofChange claimChecksSpec)) claimChecksCard

/-- THE SECOND FORM's CARD OF 'escutcheonlaw22.ClaimReads'. -/
def claimReadsUptoCard : Claim7 := { stood := { row := claimReadsUptoRow, standIns := [], harness := (true, "1a0a88a03372d7b536b3d5f46dfc895d7a45ff3eea1227b090fe7b6d850dfe13"), looks := true }, kinds := [], alts := [], laidByText := true, laidKinds := [.data, .data, .data, .data, .sentinel, .sentinel, .data, .data, .pinned], laidTests := true, laidLooks := .later }
def ClaimReadsUptoCardSaid : Prop := Claim7.holds Tryz.pinned (.plain (OpenSpec.upto claimReadsSpec)) claimReadsUptoCard

/-- THE SECOND FORM's CARD OF 'escutcheonlaw22.ClaimChecks'. -/
def claimChecksUptoCard : Claim7 := { stood := { row := claimChecksUptoRow, standIns := [], harness := (true, "1a0a88a03372d7b536b3d5f46dfc895d7a45ff3eea1227b090fe7b6d850dfe13"), looks := true }, kinds := [], alts := [], laidByText := true, laidKinds := [.data, .data, .data, .data, .sentinel, .sentinel, .data, .pinned], laidTests := true, laidLooks := .later }
def ClaimChecksUptoCardSaid : Prop := Claim7.holds Tryz.pinned (.plain (OpenSpec.upto claimChecksSpec)) claimChecksUptoCard
end Rows
end Go.Proofs.YtgmchiadphdlhaaGreatDoor
