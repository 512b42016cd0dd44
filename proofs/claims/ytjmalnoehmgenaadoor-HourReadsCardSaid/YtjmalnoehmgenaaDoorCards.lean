/-
  DERIVED. GIVEN WITH THE SEED: THE CARDS: each row of YtjmalnoehmgenaaDoorRows.lean that lists a variable, with what it lists TIED to the program's text (the seventh form; the later family's looks); each row that meets fmt, with fmt's text TOLD by the authors' own Lean function (tested against real Go, not proved from fmt's source: count such statements apart). THE CARD IS WHAT COUNTS. Prove the row's statement (the work); the ties are given (YtjmalnoehmgenaaDoorTie.lean); close each card by the builder's one call (the guide's Derived/Test/ToyasCard.lean, 'card_holds'). Laid BY PROGRAM, IN A SANDBOX (cutbox-door.mjs). By AI agents, Wed Nov 11 2026. No macro, syntax, notation, axiom, sorry.
-/
import Derived.Test.YtjmalnoehmgenaaDoorRows
import GoSem.ClaimSeven
namespace Go.Proofs.YtjmalnoehmgenaaDoor
namespace Rows

/-- THE TIED CARD OF 'escutcheonlaw21.HourReads'. -/
def hourReadsCard : Claim7 := { stood := { row := hourReadsRow, standIns := [], harness := (true, "1fcd85fd6a2aab9807c925a94bc2add9bd1f1721217a193cc8bb0f36dccbd2dc"), looks := true }, kinds := [], alts := [], laidByText := true, laidKinds := [.data, .data, .data, .sentinel, .sentinel, .data], laidTests := true, laidLooks := .later }
def HourReadsCardSaid : Prop := Claim7.holds Tryd.pinned (.plain (OpenSpec.ofChange hourReadsSpec)) hourReadsCard

/-- THE TIED CARD OF 'escutcheonlaw21.HourTexts'. -/
def hourTextsCard : Claim7 := { stood := { row := hourTextsRow, standIns := [], harness := (true, "1fcd85fd6a2aab9807c925a94bc2add9bd1f1721217a193cc8bb0f36dccbd2dc"), looks := true }, kinds := [], alts := [], laidByText := true, laidKinds := [.data, .data, .data, .sentinel, .sentinel, .data], laidTests := true, laidLooks := .later }
def HourTextsCardSaid : Prop := Claim7.holds Tryd.pinned (.plain (OpenSpec.ofChange hourTextsSpec)) hourTextsCard

/-- THE TIED CARD OF 'escutcheonlaw21.HourDays'. -/
def hourDaysCard : Claim7 := { stood := { row := hourDaysRow, standIns := [], harness := (true, "1fcd85fd6a2aab9807c925a94bc2add9bd1f1721217a193cc8bb0f36dccbd2dc"), looks := true }, kinds := [], alts := [], laidByText := true, laidKinds := [.data, .data, .data, .sentinel, .sentinel, .data], laidTests := true, laidLooks := .later }
def HourDaysCardSaid : Prop := Claim7.holds Tryd.pinned (.plain (OpenSpec.ofChange hourDaysSpec)) hourDaysCard

/-- THE TIED CARD OF 'escutcheonlaw21.HourShifts'. -/
def hourShiftsCard : Claim7 := { stood := { row := hourShiftsRow, standIns := [], harness := (true, "1fcd85fd6a2aab9807c925a94bc2add9bd1f1721217a193cc8bb0f36dccbd2dc"), looks := true }, kinds := [], alts := [], laidByText := true, laidKinds := [.data, .data, .data, .sentinel, .sentinel, .data], laidTests := true, laidLooks := .later }
def HourShiftsCardSaid : Prop := Claim7.holds Tryd.pinned (.plain (OpenSpec.ofChange hourShiftsSpec)) hourShiftsCard

/-- THE TIED CARD OF 'escutcheonlaw21.HourOrders'. -/
def hourOrdersCard : Claim7 := { stood := { row := hourOrdersRow, standIns := [], harness := (true, "1fcd85fd6a2aab9807c925a94bc2add9bd1f1721217a193cc8bb0f36dccbd2dc"), looks := true }, kinds := [], alts := [], laidByText := true, laidKinds := [.data, .data, .data, .sentinel, .sentinel, .data], laidTests := true, laidLooks := .later }
def HourOrdersCardSaid : Prop := Claim7.holds Tryd.pinned (.plain (OpenSpec.ofChange hourOrdersSpec)) hourOrdersCard

/-- THE TIED CARD OF 'escutcheonlaw21.HourYears'. -/
def hourYearsCard : Claim7 := { stood := { row := hourYearsRow, standIns := [], harness := (true, "1fcd85fd6a2aab9807c925a94bc2add9bd1f1721217a193cc8bb0f36dccbd2dc"), looks := true }, kinds := [], alts := [], laidByText := true, laidKinds := [.data, .data, .data, .sentinel, .sentinel, .data], laidTests := true, laidLooks := .later }
def HourYearsCardSaid : Prop := Claim7.holds Tryd.pinned (.plain (OpenSpec.ofChange hourYearsSpec)) hourYearsCard

/-- THE TIED CARD OF 'escutcheonlaw21.HourSteps'. -/
def hourStepsCard : Claim7 := { stood := { row := hourStepsRow, standIns := [], harness := (true, "1fcd85fd6a2aab9807c925a94bc2add9bd1f1721217a193cc8bb0f36dccbd2dc"), looks := true }, kinds := [], alts := [], laidByText := true, laidKinds := [.data, .data, .data, .sentinel, .sentinel, .data], laidTests := true, laidLooks := .later }
def HourStepsCardSaid : Prop := Claim7.holds Tryd.pinned (.plain (OpenSpec.ofChange hourStepsSpec)) hourStepsCard

/-- THE SECOND FORM's CARD OF 'escutcheonlaw21.HourReads'. -/
def hourReadsUptoCard : Claim7 := { stood := { row := hourReadsUptoRow, standIns := [], harness := (true, "1fcd85fd6a2aab9807c925a94bc2add9bd1f1721217a193cc8bb0f36dccbd2dc"), looks := true }, kinds := [], alts := [], laidByText := true, laidKinds := [.data, .data, .data, .sentinel, .sentinel, .data], laidTests := true, laidLooks := .later }
def HourReadsUptoCardSaid : Prop := Claim7.holds Tryd.pinned (.plain (OpenSpec.upto hourReadsSpec)) hourReadsUptoCard

/-- THE SECOND FORM's CARD OF 'escutcheonlaw21.HourTexts'. -/
def hourTextsUptoCard : Claim7 := { stood := { row := hourTextsUptoRow, standIns := [], harness := (true, "1fcd85fd6a2aab9807c925a94bc2add9bd1f1721217a193cc8bb0f36dccbd2dc"), looks := true }, kinds := [], alts := [], laidByText := true, laidKinds := [.data, .data, .data, .sentinel, .sentinel, .data], laidTests := true, laidLooks := .later }
def HourTextsUptoCardSaid : Prop := Claim7.holds Tryd.pinned (.plain (OpenSpec.upto hourTextsSpec)) hourTextsUptoCard

/-- THE SECOND FORM's CARD OF 'escutcheonlaw21.HourDays'. -/
def hourDaysUptoCard : Claim7 := { stood := { row := hourDaysUptoRow, standIns := [], harness := (true, "1fcd85fd6a2aab9807c925a94bc2add9bd1f1721217a193cc8bb0f36dccbd2dc"), looks := true }, kinds := [], alts := [], laidByText := true, laidKinds := [.data, .data, .data, .sentinel, .sentinel, .data], laidTests := true, laidLooks := .later }
def HourDaysUptoCardSaid : Prop := Claim7.holds Tryd.pinned (.plain (OpenSpec.upto hourDaysSpec)) hourDaysUptoCard

/-- THE SECOND FORM's CARD OF 'escutcheonlaw21.HourShifts'. -/
def hourShiftsUptoCard : Claim7 := { stood := { row := hourShiftsUptoRow, standIns := [], harness := (true, "1fcd85fd6a2aab9807c925a94bc2add9bd1f1721217a193cc8bb0f36dccbd2dc"), looks := true }, kinds := [], alts := [], laidByText := true, laidKinds := [.data, .data, .data, .sentinel, .sentinel, .data], laidTests := true, laidLooks := .later }
def HourShiftsUptoCardSaid : Prop := Claim7.holds Tryd.pinned (.plain (OpenSpec.upto hourShiftsSpec)) hourShiftsUptoCard

/-- THE SECOND FORM's CARD OF 'escutcheonlaw21.HourOrders'. -/
def hourOrdersUptoCard : Claim7 := { stood := { row := hourOrdersUptoRow, standIns := [], harness := (true, "1fcd85fd6a2aab9807c925a94bc2add9bd1f1721217a193cc8bb0f36dccbd2dc"), looks := true }, kinds := [], alts := [], laidByText := true, laidKinds := [.data, .data, .data, .sentinel, .sentinel, .data], laidTests := true, laidLooks := .later }
def HourOrdersUptoCardSaid : Prop := Claim7.holds Tryd.pinned (.plain (OpenSpec.upto hourOrdersSpec)) hourOrdersUptoCard

/-- THE SECOND FORM's CARD OF 'escutcheonlaw21.HourYears'. -/
def hourYearsUptoCard : Claim7 := { stood := { row := hourYearsUptoRow, standIns := [], harness := (true, "1fcd85fd6a2aab9807c925a94bc2add9bd1f1721217a193cc8bb0f36dccbd2dc"), looks := true }, kinds := [], alts := [], laidByText := true, laidKinds := [.data, .data, .data, .sentinel, .sentinel, .data], laidTests := true, laidLooks := .later }
def HourYearsUptoCardSaid : Prop := Claim7.holds Tryd.pinned (.plain (OpenSpec.upto hourYearsSpec)) hourYearsUptoCard

/-- THE SECOND FORM's CARD OF 'escutcheonlaw21.HourSteps'. -/
def hourStepsUptoCard : Claim7 := { stood := { row := hourStepsUptoRow, standIns := [], harness := (true, "1fcd85fd6a2aab9807c925a94bc2add9bd1f1721217a193cc8bb0f36dccbd2dc"), looks := true }, kinds := [], alts := [], laidByText := true, laidKinds := [.data, .data, .data, .sentinel, .sentinel, .data], laidTests := true, laidLooks := .later }
def HourStepsUptoCardSaid : Prop := Claim7.holds Tryd.pinned (.plain (OpenSpec.upto hourStepsSpec)) hourStepsUptoCard
end Rows
end Go.Proofs.YtjmalnoehmgenaaDoor
