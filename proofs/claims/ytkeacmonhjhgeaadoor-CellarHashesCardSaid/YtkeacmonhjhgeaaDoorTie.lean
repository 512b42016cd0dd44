/-
  DERIVED. GIVEN WITH THE SEED: THE PROGRAM's TIES (one call each: nine closed facts by the kernel) AND EACH ROW's TIE, after the 31st guide's Derived/Test/Toyas{Tie, Card}.lean. No idea stands in it: it is a product of the set-up. Laid BY PROGRAM, IN A SANDBOX (cutbox-door.mjs). By AI agents, Wed Nov 11 2026. No macro, syntax, notation, axiom, sorry.
-/
import Derived.Test.YtkeacmonhjhgeaaDoorRows
import Derived.LaidByTextLater
import Derived.SevenTiedAt
import Derived.LaidSub
import Derived.LaidOnce
namespace Go.Proofs.YtkeacmonhjhgeaaDoor
open Go
set_option maxRecDepth 100000
theorem seatTie1 : Tryd.prog.laidByTextLater [("escutcheon/api.Start512", Rows.laid_escutcheon_api_Start512), ("escutcheon/api.Turns", Rows.laid_escutcheon_api_Turns), ("escutcheon/blake.places", Rows.laid_escutcheon_blake_places)] [.widerDeep, .data, .data] true :=
  Program.laidByTextLater_by_one 42 8 161 (by kernel_rfl) (by kernel_rfl) (by kernel_rfl) (by kernel_rfl) (by kernel_rfl) (by kernel_rfl) (fun _ _ => by kernel_rfl)
theorem noOwnUnsafe : Tryd.pinned.checked.prog.headLifts.contains "ownunsafe" = false := by kernel_rfl
theorem tie : Tryd.prog.laidByTextLater [("escutcheon/api.Start512", Rows.laid_escutcheon_api_Start512), ("escutcheon/api.Turns", Rows.laid_escutcheon_api_Turns), ("escutcheon/blake.places", Rows.laid_escutcheon_blake_places)] [.widerDeep, .data, .data] true :=
  Program.laidByTextLater.sub seatTie1 ["escutcheon/api.Start512", "escutcheon/api.Turns", "escutcheon/blake.places"] (by kernel_rfl) (by kernel_rfl)
theorem cellarHashes_row_tie : Rows.cellarHashesRow.laidByTextAt .later Tryd.pinned [.widerDeep, .data, .data] true :=
  OpenClaim.laidByTextAt_later rfl rfl tie noOwnUnsafe
theorem cellarSame_row_tie : Rows.cellarSameRow.laidByTextAt .later Tryd.pinned [.widerDeep, .data, .data] true :=
  OpenClaim.laidByTextAt_later rfl rfl tie noOwnUnsafe
theorem cellarGoods_row_tie : Rows.cellarGoodsRow.laidByTextAt .later Tryd.pinned [.widerDeep, .data, .data] true :=
  OpenClaim.laidByTextAt_later rfl rfl tie noOwnUnsafe
theorem cellarHashesUpto_row_tie : Rows.cellarHashesUptoRow.laidByTextAt .later Tryd.pinned [.widerDeep, .data, .data] true :=
  OpenClaim.laidByTextAt_later rfl rfl tie noOwnUnsafe
theorem cellarSameUpto_row_tie : Rows.cellarSameUptoRow.laidByTextAt .later Tryd.pinned [.widerDeep, .data, .data] true :=
  OpenClaim.laidByTextAt_later rfl rfl tie noOwnUnsafe
theorem cellarGoodsUpto_row_tie : Rows.cellarGoodsUptoRow.laidByTextAt .later Tryd.pinned [.widerDeep, .data, .data] true :=
  OpenClaim.laidByTextAt_later rfl rfl tie noOwnUnsafe
end Go.Proofs.YtkeacmonhjhgeaaDoor
