/-
  DERIVED. GIVEN WITH THE SEED: THE CARDS: each row of YtejbpfimgkpnlaaDoorRows.lean that lists a variable, with what it lists TIED to the program's text (the seventh form; the later family's looks); each row that meets fmt, with fmt's text TOLD by the authors' own Lean function (tested against real Go, not proved from fmt's source: count such statements apart). THE CARD IS WHAT COUNTS. Prove the row's statement (the work); the ties are given (YtejbpfimgkpnlaaDoorTie.lean); close each card by the builder's one call (the guide's Derived/Test/ToyasCard.lean, 'card_holds'). Laid BY PROGRAM, IN A SANDBOX (cutbox-door.mjs). By AI agents, Wed Nov 11 2026. No macro, syntax, notation, axiom, sorry.
-/
import Derived.Test.YtejbpfimgkpnlaaDoorRows
import GoSem.ClaimSeven
namespace Go.Proofs.YtejbpfimgkpnlaaDoor
namespace Rows

/-- THE TIED CARD OF 'escutcheonlaw04.BlakeSums'. -/
def blakeSumsCard : Claim7 := { stood := { row := blakeSumsRow, standIns := [], harness := (true, "b0515ecfd6dbfd8cc175e8eecb6149c625370a464d55928fc61a09b9c0996ca4"), looks := false }, kinds := [], alts := [], laidByText := true, laidKinds := [.widerDeep, .data, .data], laidTests := true, laidLooks := .later }
def BlakeSumsCardSaid : Prop := Claim7.holds Tryd.pinned (.plain (OpenSpec.ofChange blakeSumsSpec)) blakeSumsCard

/-- THE TIED CARD OF 'escutcheonlaw04.BlakeLongs'. -/
def blakeLongsCard : Claim7 := { stood := { row := blakeLongsRow, standIns := [], harness := (true, "b0515ecfd6dbfd8cc175e8eecb6149c625370a464d55928fc61a09b9c0996ca4"), looks := false }, kinds := [], alts := [], laidByText := true, laidKinds := [.widerDeep, .data, .data], laidTests := true, laidLooks := .later }
def BlakeLongsCardSaid : Prop := Claim7.holds Tryd.pinned (.plain (OpenSpec.ofChange blakeLongsSpec)) blakeLongsCard

/-- THE TIED CARD OF 'escutcheonlaw04.BlakeEdges'. -/
def blakeEdgesCard : Claim7 := { stood := { row := blakeEdgesRow, standIns := [], harness := (true, "b0515ecfd6dbfd8cc175e8eecb6149c625370a464d55928fc61a09b9c0996ca4"), looks := false }, kinds := [], alts := [], laidByText := true, laidKinds := [.widerDeep, .data, .data], laidTests := true, laidLooks := .later }
def BlakeEdgesCardSaid : Prop := Claim7.holds Tryd.pinned (.plain (OpenSpec.ofChange blakeEdgesSpec)) blakeEdgesCard

/-- THE TIED CARD OF 'escutcheonlaw04.BlakeChecks'. -/
def blakeChecksCard : Claim7 := { stood := { row := blakeChecksRow, standIns := [], harness := (true, "b0515ecfd6dbfd8cc175e8eecb6149c625370a464d55928fc61a09b9c0996ca4"), looks := false }, kinds := [], alts := [], laidByText := true, laidKinds := [.widerDeep, .data, .data], laidTests := true, laidLooks := .later }
def BlakeChecksCardSaid : Prop := Claim7.holds Tryd.pinned (.plain (OpenSpec.ofChange blakeChecksSpec)) blakeChecksCard

/-- THE TIED CARD OF 'escutcheonlaw04.BlakeParts'. -/
def blakePartsCard : Claim7 := { stood := { row := blakePartsRow, standIns := [], harness := (true, "b0515ecfd6dbfd8cc175e8eecb6149c625370a464d55928fc61a09b9c0996ca4"), looks := false }, kinds := [], alts := [], laidByText := true, laidKinds := [.widerDeep, .data, .data], laidTests := true, laidLooks := .later }
def BlakePartsCardSaid : Prop := Claim7.holds Tryd.pinned (.plain (OpenSpec.ofChange blakePartsSpec)) blakePartsCard

/-- THE TIED CARD OF 'escutcheonlaw04.BlakeRanges'. -/
def blakeRangesCard : Claim7 := { stood := { row := blakeRangesRow, standIns := [], harness := (true, "b0515ecfd6dbfd8cc175e8eecb6149c625370a464d55928fc61a09b9c0996ca4"), looks := false }, kinds := [], alts := [], laidByText := true, laidKinds := [.widerDeep, .data, .data], laidTests := true, laidLooks := .later }
def BlakeRangesCardSaid : Prop := Claim7.holds Tryd.pinned (.plain (OpenSpec.ofChange blakeRangesSpec)) blakeRangesCard

/-- THE SECOND FORM's CARD OF 'escutcheonlaw04.BlakeSums'. -/
def blakeSumsUptoCard : Claim7 := { stood := { row := blakeSumsUptoRow, standIns := [], harness := (true, "b0515ecfd6dbfd8cc175e8eecb6149c625370a464d55928fc61a09b9c0996ca4"), looks := false }, kinds := [], alts := [], laidByText := true, laidKinds := [.widerDeep, .data, .data], laidTests := true, laidLooks := .later }
def BlakeSumsUptoCardSaid : Prop := Claim7.holds Tryd.pinned (.plain (OpenSpec.upto blakeSumsSpec)) blakeSumsUptoCard

/-- THE SECOND FORM's CARD OF 'escutcheonlaw04.BlakeLongs'. -/
def blakeLongsUptoCard : Claim7 := { stood := { row := blakeLongsUptoRow, standIns := [], harness := (true, "b0515ecfd6dbfd8cc175e8eecb6149c625370a464d55928fc61a09b9c0996ca4"), looks := false }, kinds := [], alts := [], laidByText := true, laidKinds := [.widerDeep, .data, .data], laidTests := true, laidLooks := .later }
def BlakeLongsUptoCardSaid : Prop := Claim7.holds Tryd.pinned (.plain (OpenSpec.upto blakeLongsSpec)) blakeLongsUptoCard

/-- THE SECOND FORM's CARD OF 'escutcheonlaw04.BlakeEdges'. -/
def blakeEdgesUptoCard : Claim7 := { stood := { row := blakeEdgesUptoRow, standIns := [], harness := (true, "b0515ecfd6dbfd8cc175e8eecb6149c625370a464d55928fc61a09b9c0996ca4"), looks := false }, kinds := [], alts := [], laidByText := true, laidKinds := [.widerDeep, .data, .data], laidTests := true, laidLooks := .later }
def BlakeEdgesUptoCardSaid : Prop := Claim7.holds Tryd.pinned (.plain (OpenSpec.upto blakeEdgesSpec)) blakeEdgesUptoCard

/-- THE SECOND FORM's CARD OF 'escutcheonlaw04.BlakeChecks'. -/
def blakeChecksUptoCard : Claim7 := { stood := { row := blakeChecksUptoRow, standIns := [], harness := (true, "b0515ecfd6dbfd8cc175e8eecb6149c625370a464d55928fc61a09b9c0996ca4"), looks := false }, kinds := [], alts := [], laidByText := true, laidKinds := [.widerDeep, .data, .data], laidTests := true, laidLooks := .later }
def BlakeChecksUptoCardSaid : Prop := Claim7.holds Tryd.pinned (.plain (OpenSpec.upto blakeChecksSpec)) blakeChecksUptoCard

/-- THE SECOND FORM's CARD OF 'escutcheonlaw04.BlakeParts'. -/
def blakePartsUptoCard : Claim7 := { stood := { row := blakePartsUptoRow, standIns := [], harness := (true, "b0515ecfd6dbfd8cc175e8eecb6149c625370a464d55928fc61a09b9c0996ca4"), looks := false }, kinds := [], alts := [], laidByText := true, laidKinds := [.widerDeep, .data, .data], laidTests := true, laidLooks := .later }
def BlakePartsUptoCardSaid : Prop := Claim7.holds Tryd.pinned (.plain (OpenSpec.upto blakePartsSpec)) blakePartsUptoCard

/-- THE SECOND FORM's CARD OF 'escutcheonlaw04.BlakeRanges'. -/
def blakeRangesUptoCard : Claim7 := { stood := { row := blakeRangesUptoRow, standIns := [], harness := (true, "b0515ecfd6dbfd8cc175e8eecb6149c625370a464d55928fc61a09b9c0996ca4"), looks := false }, kinds := [], alts := [], laidByText := true, laidKinds := [.widerDeep, .data, .data], laidTests := true, laidLooks := .later }
def BlakeRangesUptoCardSaid : Prop := Claim7.holds Tryd.pinned (.plain (OpenSpec.upto blakeRangesSpec)) blakeRangesUptoCard
end Rows
end Go.Proofs.YtejbpfimgkpnlaaDoor
