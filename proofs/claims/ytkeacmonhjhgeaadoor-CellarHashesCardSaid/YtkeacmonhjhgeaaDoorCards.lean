/-
  DERIVED. GIVEN WITH THE SEED: THE CARDS: each row of YtkeacmonhjhgeaaDoorRows.lean that lists a variable, with what it lists TIED to the program's text (the seventh form; the later family's looks); each row that meets fmt, with fmt's text TOLD by the authors' own Lean function (tested against real Go, not proved from fmt's source: count such statements apart). THE CARD IS WHAT COUNTS. Prove the row's statement (the work); the ties are given (YtkeacmonhjhgeaaDoorTie.lean); close each card by the builder's one call (the guide's Derived/Test/ToyasCard.lean, 'card_holds'). Laid BY PROGRAM, IN A SANDBOX (cutbox-door.mjs). By AI agents, Wed Nov 11 2026. No macro, syntax, notation, axiom, sorry.
-/
import Derived.Test.YtkeacmonhjhgeaaDoorRows
import GoSem.ClaimSeven
namespace Go.Proofs.YtkeacmonhjhgeaaDoor
namespace Rows

/-- THE TIED CARD OF 'escutcheonlaw07.CellarHashes'. -/
def cellarHashesCard : Claim7 := { stood := { row := cellarHashesRow, standIns := [], harness := (true, "bfa3f8c6b9ce56a09d08c3269441e78c23e1b6789c27f2be60248ee44637460e"), looks := false }, kinds := [], alts := [], laidByText := true, laidKinds := [.widerDeep, .data, .data], laidTests := true, laidLooks := .later }
def CellarHashesCardSaid : Prop := Claim7.holds Tryd.pinned (.plain (OpenSpec.ofChange cellarHashesSpec)) cellarHashesCard

/-- THE TIED CARD OF 'escutcheonlaw07.CellarSame'. -/
def cellarSameCard : Claim7 := { stood := { row := cellarSameRow, standIns := [], harness := (true, "bfa3f8c6b9ce56a09d08c3269441e78c23e1b6789c27f2be60248ee44637460e"), looks := false }, kinds := [], alts := [], laidByText := true, laidKinds := [.widerDeep, .data, .data], laidTests := true, laidLooks := .later }
def CellarSameCardSaid : Prop := Claim7.holds Tryd.pinned (.plain (OpenSpec.ofChange cellarSameSpec)) cellarSameCard

/-- THE TIED CARD OF 'escutcheonlaw07.CellarGoods'. -/
def cellarGoodsCard : Claim7 := { stood := { row := cellarGoodsRow, standIns := [], harness := (true, "bfa3f8c6b9ce56a09d08c3269441e78c23e1b6789c27f2be60248ee44637460e"), looks := false }, kinds := [], alts := [], laidByText := true, laidKinds := [.widerDeep, .data, .data], laidTests := true, laidLooks := .later }
def CellarGoodsCardSaid : Prop := Claim7.holds Tryd.pinned (.plain (OpenSpec.ofChange cellarGoodsSpec)) cellarGoodsCard

/-- THE SECOND FORM's CARD OF 'escutcheonlaw07.CellarHashes'. -/
def cellarHashesUptoCard : Claim7 := { stood := { row := cellarHashesUptoRow, standIns := [], harness := (true, "bfa3f8c6b9ce56a09d08c3269441e78c23e1b6789c27f2be60248ee44637460e"), looks := false }, kinds := [], alts := [], laidByText := true, laidKinds := [.widerDeep, .data, .data], laidTests := true, laidLooks := .later }
def CellarHashesUptoCardSaid : Prop := Claim7.holds Tryd.pinned (.plain (OpenSpec.upto cellarHashesSpec)) cellarHashesUptoCard

/-- THE SECOND FORM's CARD OF 'escutcheonlaw07.CellarSame'. -/
def cellarSameUptoCard : Claim7 := { stood := { row := cellarSameUptoRow, standIns := [], harness := (true, "bfa3f8c6b9ce56a09d08c3269441e78c23e1b6789c27f2be60248ee44637460e"), looks := false }, kinds := [], alts := [], laidByText := true, laidKinds := [.widerDeep, .data, .data], laidTests := true, laidLooks := .later }
def CellarSameUptoCardSaid : Prop := Claim7.holds Tryd.pinned (.plain (OpenSpec.upto cellarSameSpec)) cellarSameUptoCard

/-- THE SECOND FORM's CARD OF 'escutcheonlaw07.CellarGoods'. -/
def cellarGoodsUptoCard : Claim7 := { stood := { row := cellarGoodsUptoRow, standIns := [], harness := (true, "bfa3f8c6b9ce56a09d08c3269441e78c23e1b6789c27f2be60248ee44637460e"), looks := false }, kinds := [], alts := [], laidByText := true, laidKinds := [.widerDeep, .data, .data], laidTests := true, laidLooks := .later }
def CellarGoodsUptoCardSaid : Prop := Claim7.holds Tryd.pinned (.plain (OpenSpec.upto cellarGoodsSpec)) cellarGoodsUptoCard
end Rows
end Go.Proofs.YtkeacmonhjhgeaaDoor
