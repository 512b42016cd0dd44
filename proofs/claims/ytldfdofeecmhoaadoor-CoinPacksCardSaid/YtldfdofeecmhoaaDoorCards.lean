/-
  DERIVED. GIVEN WITH THE SEED: THE CARDS: each row of YtldfdofeecmhoaaDoorRows.lean that lists a variable, with what it lists TIED to the program's text (the seventh form; the later family's looks); each row that meets fmt, with fmt's text TOLD by the authors' own Lean function (tested against real Go, not proved from fmt's source: count such statements apart). THE CARD IS WHAT COUNTS. Prove the row's statement (the work); the ties are given (YtldfdofeecmhoaaDoorTie.lean); close each card by the builder's one call (the guide's Derived/Test/ToyasCard.lean, 'card_holds'). Laid BY PROGRAM, IN A SANDBOX (cutbox-door.mjs). By AI agents, Wed Nov 11 2026. No macro, syntax, notation, axiom, sorry.
-/
import Derived.Test.YtldfdofeecmhoaaDoorRows
import GoSem.ClaimSeven
namespace Go.Proofs.YtldfdofeecmhoaaDoor
namespace Rows

/-- THE TIED CARD OF 'escutcheonlaw01.CoinLengths'. -/
def coinLengthsCard : Claim7 := { stood := { row := coinLengthsRow, standIns := [], harness := (true, "3e97fdc562d1e17af9f2eea01fe0a2be3d0eccd0645c85a01d95b38c1a18a61b"), looks := false }, kinds := [], alts := [], laidByText := true, laidKinds := [.wider], laidTests := true, laidLooks := .later }
def CoinLengthsCardSaid : Prop := Claim7.holds Tryd.pinned (.plain (OpenSpec.ofChange coinLengthsSpec)) coinLengthsCard

/-- THE TIED CARD OF 'escutcheonlaw01.CoinSames'. -/
def coinSamesCard : Claim7 := { stood := { row := coinSamesRow, standIns := [], harness := (true, "3e97fdc562d1e17af9f2eea01fe0a2be3d0eccd0645c85a01d95b38c1a18a61b"), looks := false }, kinds := [], alts := [], laidByText := true, laidKinds := [.wider], laidTests := true, laidLooks := .later }
def CoinSamesCardSaid : Prop := Claim7.holds Tryd.pinned (.plain (OpenSpec.ofChange coinSamesSpec)) coinSamesCard

/-- THE TIED CARD OF 'escutcheonlaw01.CoinOthers'. -/
def coinOthersCard : Claim7 := { stood := { row := coinOthersRow, standIns := [], harness := (true, "3e97fdc562d1e17af9f2eea01fe0a2be3d0eccd0645c85a01d95b38c1a18a61b"), looks := false }, kinds := [], alts := [], laidByText := true, laidKinds := [.wider], laidTests := true, laidLooks := .later }
def CoinOthersCardSaid : Prop := Claim7.holds Tryd.pinned (.plain (OpenSpec.ofChange coinOthersSpec)) coinOthersCard

/-- THE TIED CARD OF 'escutcheonlaw01.CoinPacks'. -/
def coinPacksCard : Claim7 := { stood := { row := coinPacksRow, standIns := [], harness := (true, "3e97fdc562d1e17af9f2eea01fe0a2be3d0eccd0645c85a01d95b38c1a18a61b"), looks := false }, kinds := [], alts := [], laidByText := true, laidKinds := [.wider], laidTests := true, laidLooks := .later }
def CoinPacksCardSaid : Prop := Claim7.holds Tryd.pinned (.plain (OpenSpec.ofChange coinPacksSpec)) coinPacksCard

/-- THE TIED CARD OF 'escutcheonlaw01.CoinUnpacks'. -/
def coinUnpacksCard : Claim7 := { stood := { row := coinUnpacksRow, standIns := [], harness := (true, "3e97fdc562d1e17af9f2eea01fe0a2be3d0eccd0645c85a01d95b38c1a18a61b"), looks := false }, kinds := [], alts := [], laidByText := true, laidKinds := [.wider], laidTests := true, laidLooks := .later }
def CoinUnpacksCardSaid : Prop := Claim7.holds Tryd.pinned (.plain (OpenSpec.ofChange coinUnpacksSpec)) coinUnpacksCard

/-- THE TIED CARD OF 'escutcheonlaw01.CoinEnds'. -/
def coinEndsCard : Claim7 := { stood := { row := coinEndsRow, standIns := [], harness := (true, "3e97fdc562d1e17af9f2eea01fe0a2be3d0eccd0645c85a01d95b38c1a18a61b"), looks := false }, kinds := [], alts := [], laidByText := true, laidKinds := [.wider], laidTests := true, laidLooks := .later }
def CoinEndsCardSaid : Prop := Claim7.holds Tryd.pinned (.plain (OpenSpec.ofChange coinEndsSpec)) coinEndsCard

/-- THE TIED CARD OF 'escutcheonlaw01.CoinSplits'. -/
def coinSplitsCard : Claim7 := { stood := { row := coinSplitsRow, standIns := [], harness := (true, "3e97fdc562d1e17af9f2eea01fe0a2be3d0eccd0645c85a01d95b38c1a18a61b"), looks := false }, kinds := [], alts := [], laidByText := true, laidKinds := [.data, .wider, .pinned], laidTests := true, laidLooks := .later }
def CoinSplitsCardSaid : Prop := Claim7.holds Tryd.pinned (.plain (OpenSpec.ofChange coinSplitsSpec)) coinSplitsCard

/-- THE SECOND FORM's CARD OF 'escutcheonlaw01.CoinLengths'. -/
def coinLengthsUptoCard : Claim7 := { stood := { row := coinLengthsUptoRow, standIns := [], harness := (true, "3e97fdc562d1e17af9f2eea01fe0a2be3d0eccd0645c85a01d95b38c1a18a61b"), looks := false }, kinds := [], alts := [], laidByText := true, laidKinds := [.wider], laidTests := true, laidLooks := .later }
def CoinLengthsUptoCardSaid : Prop := Claim7.holds Tryd.pinned (.plain (OpenSpec.upto coinLengthsSpec)) coinLengthsUptoCard

/-- THE SECOND FORM's CARD OF 'escutcheonlaw01.CoinSames'. -/
def coinSamesUptoCard : Claim7 := { stood := { row := coinSamesUptoRow, standIns := [], harness := (true, "3e97fdc562d1e17af9f2eea01fe0a2be3d0eccd0645c85a01d95b38c1a18a61b"), looks := false }, kinds := [], alts := [], laidByText := true, laidKinds := [.wider], laidTests := true, laidLooks := .later }
def CoinSamesUptoCardSaid : Prop := Claim7.holds Tryd.pinned (.plain (OpenSpec.upto coinSamesSpec)) coinSamesUptoCard

/-- THE SECOND FORM's CARD OF 'escutcheonlaw01.CoinOthers'. -/
def coinOthersUptoCard : Claim7 := { stood := { row := coinOthersUptoRow, standIns := [], harness := (true, "3e97fdc562d1e17af9f2eea01fe0a2be3d0eccd0645c85a01d95b38c1a18a61b"), looks := false }, kinds := [], alts := [], laidByText := true, laidKinds := [.wider], laidTests := true, laidLooks := .later }
def CoinOthersUptoCardSaid : Prop := Claim7.holds Tryd.pinned (.plain (OpenSpec.upto coinOthersSpec)) coinOthersUptoCard

/-- THE SECOND FORM's CARD OF 'escutcheonlaw01.CoinPacks'. -/
def coinPacksUptoCard : Claim7 := { stood := { row := coinPacksUptoRow, standIns := [], harness := (true, "3e97fdc562d1e17af9f2eea01fe0a2be3d0eccd0645c85a01d95b38c1a18a61b"), looks := false }, kinds := [], alts := [], laidByText := true, laidKinds := [.wider], laidTests := true, laidLooks := .later }
def CoinPacksUptoCardSaid : Prop := Claim7.holds Tryd.pinned (.plain (OpenSpec.upto coinPacksSpec)) coinPacksUptoCard

/-- THE SECOND FORM's CARD OF 'escutcheonlaw01.CoinUnpacks'. -/
def coinUnpacksUptoCard : Claim7 := { stood := { row := coinUnpacksUptoRow, standIns := [], harness := (true, "3e97fdc562d1e17af9f2eea01fe0a2be3d0eccd0645c85a01d95b38c1a18a61b"), looks := false }, kinds := [], alts := [], laidByText := true, laidKinds := [.wider], laidTests := true, laidLooks := .later }
def CoinUnpacksUptoCardSaid : Prop := Claim7.holds Tryd.pinned (.plain (OpenSpec.upto coinUnpacksSpec)) coinUnpacksUptoCard

/-- THE SECOND FORM's CARD OF 'escutcheonlaw01.CoinEnds'. -/
def coinEndsUptoCard : Claim7 := { stood := { row := coinEndsUptoRow, standIns := [], harness := (true, "3e97fdc562d1e17af9f2eea01fe0a2be3d0eccd0645c85a01d95b38c1a18a61b"), looks := false }, kinds := [], alts := [], laidByText := true, laidKinds := [.wider], laidTests := true, laidLooks := .later }
def CoinEndsUptoCardSaid : Prop := Claim7.holds Tryd.pinned (.plain (OpenSpec.upto coinEndsSpec)) coinEndsUptoCard

/-- THE SECOND FORM's CARD OF 'escutcheonlaw01.CoinSplits'. -/
def coinSplitsUptoCard : Claim7 := { stood := { row := coinSplitsUptoRow, standIns := [], harness := (true, "3e97fdc562d1e17af9f2eea01fe0a2be3d0eccd0645c85a01d95b38c1a18a61b"), looks := false }, kinds := [], alts := [], laidByText := true, laidKinds := [.data, .wider, .pinned], laidTests := true, laidLooks := .later }
def CoinSplitsUptoCardSaid : Prop := Claim7.holds Tryd.pinned (.plain (OpenSpec.upto coinSplitsSpec)) coinSplitsUptoCard
end Rows
end Go.Proofs.YtldfdofeecmhoaaDoor
