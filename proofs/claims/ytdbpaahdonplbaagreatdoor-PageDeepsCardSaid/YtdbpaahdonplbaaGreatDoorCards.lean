/-
  DERIVED. GIVEN WITH THE SEED: THE CARDS: each row of YtdbpaahdonplbaaGreatDoorRows.lean that lists a variable, with what it lists TIED to the program's text (the seventh form; the later family's looks); each row that meets fmt, with fmt's text TOLD by the authors' own Lean function (tested against real Go, not proved from fmt's source: count such statements apart). THE CARD IS WHAT COUNTS. Prove the row's statement (the work); the ties are given (YtdbpaahdonplbaaGreatDoorTie.lean); close each card by the builder's one call (the guide's Derived/Test/ToyasCard.lean, 'card_holds'). Laid BY PROGRAM, IN A SANDBOX (cutbox-door.mjs). By AI agents, Wed Nov 11 2026. No macro, syntax, notation, axiom, sorry.
-/
import Derived.Test.YtdbpaahdonplbaaGreatDoorRows
import GoSem.ClaimSeven
namespace Go.Proofs.YtdbpaahdonplbaaGreatDoor
namespace Rows

/-- THE TIED CARD OF 'escutcheonlaw20.PageDeeps'. -/
def pageDeepsCard : Claim7 := { stood := { row := pageDeepsRow, standIns := [], harness := (true, "8810f2a73cd278616b54357959e87152ce710d17d449cbbfe37cd282bea5d53a"), looks := true }, kinds := [], alts := [], laidByText := true, laidKinds := [.data, .data, .data, .data, .sentinel, .sentinel, .wider, .data, .pinned], laidTests := true, laidLooks := .later }
def PageDeepsCardSaid : Prop := Claim7.holds Tryz.pinned (.plain (OpenSpec.ofChange pageDeepsSpec)) pageDeepsCard

/-- THE TIED CARD OF 'escutcheonlaw20.PageBlanks'. -/
def pageBlanksCard : Claim7 := { stood := { row := pageBlanksRow, standIns := [], harness := (true, "8810f2a73cd278616b54357959e87152ce710d17d449cbbfe37cd282bea5d53a"), looks := true }, kinds := [], alts := [], laidByText := true, laidKinds := [.data, .data, .data, .data, .sentinel, .sentinel, .wider, .data, .pinned], laidTests := true, laidLooks := .later }
def PageBlanksCardSaid : Prop := Claim7.holds Tryz.pinned (.plain (OpenSpec.ofChange pageBlanksSpec)) pageBlanksCard

/-- THE SECOND FORM's CARD OF 'escutcheonlaw20.PageDeeps'. -/
def pageDeepsUptoCard : Claim7 := { stood := { row := pageDeepsUptoRow, standIns := [], harness := (true, "8810f2a73cd278616b54357959e87152ce710d17d449cbbfe37cd282bea5d53a"), looks := true }, kinds := [], alts := [], laidByText := true, laidKinds := [.data, .data, .data, .data, .sentinel, .sentinel, .wider, .data, .pinned], laidTests := true, laidLooks := .later }
def PageDeepsUptoCardSaid : Prop := Claim7.holds Tryz.pinned (.plain (OpenSpec.upto pageDeepsSpec)) pageDeepsUptoCard

/-- THE SECOND FORM's CARD OF 'escutcheonlaw20.PageBlanks'. -/
def pageBlanksUptoCard : Claim7 := { stood := { row := pageBlanksUptoRow, standIns := [], harness := (true, "8810f2a73cd278616b54357959e87152ce710d17d449cbbfe37cd282bea5d53a"), looks := true }, kinds := [], alts := [], laidByText := true, laidKinds := [.data, .data, .data, .data, .sentinel, .sentinel, .wider, .data, .pinned], laidTests := true, laidLooks := .later }
def PageBlanksUptoCardSaid : Prop := Claim7.holds Tryz.pinned (.plain (OpenSpec.upto pageBlanksSpec)) pageBlanksUptoCard
end Rows
end Go.Proofs.YtdbpaahdonplbaaGreatDoor
