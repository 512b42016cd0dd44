/-
  NARROWER THAN 'FOR EVERY INPUT', by the rows' own cells (each row's printed sentence says how): HourReads: laid · HourTexts: laid · HourDays: laid · HourShifts: laid · HourOrders: laid · HourYears: laid · HourSteps: laid.
  DERIVED. THE GIVEN ROWS OF THIS SEAT. 7 by the template 'for every input the law returns true; each argument reads behind the call as it read before'; 0 by the template 'total and deterministic' (their statements: YtjmalnoehmgenaaDoorTotals.lean).
  GIVEN WITH THE SEED: the statements are not yours to turn. If you find one false, say at which input.
  Laid BY PROGRAM, IN A SANDBOX (cutbox-rows.mjs): the forced cells as the released guide's own fill.sh prints them over the translation 8b20e543dd74fe5c… (all of the seat's roots in one cut). By AI agents, Wed Nov 11 2026. No macro, syntax, notation, axiom, sorry.
-/
import Derived.Test.YtjmalnoehmgenaaDoorChecked
import GoSem.Claim
import GoSem.ClaimJoined
import GoSem.ClaimMapViews
import Derived.JoinedTies
import Derived.KernelRfl
namespace Go.Proofs.YtjmalnoehmgenaaDoor
/- THE CELL 'sum', in the pinned program and in every row, IS THE sha256 OF THE DUMP (.gsa) THAT YtjmalnoehmgenaaDoorProg.lean LOADS. Nothing in Lean hashes anything: it is a label: what it is worth is what the hold of that sum in a sandbox is worth. -/
noncomputable def Tryd.pinned : Pinned := { name := "ytjmalnoehmgenaadoor", sum := "8b20e543dd74fe5c292b9d0c93c6a155094a99b67c8ea931758108c249d77255", checked := Tryd.checked }
namespace Rows
def none {H : Type} : Left H := { results := [], args := [] }

/- WHAT THE LISTED PACKAGE-LEVEL VARIABLES READ AS WHEN THE CALL BEGINS. Each datum BY PROGRAM (the guide's laid-datum.mjs) off the statement by which the dump's own 'gosem.cut.vars' lays the variable. In a bare row this is a premise. The card (YtjmalnoehmgenaaDoorCards.lean) ties it to the program's text. -/
def laid_math_bits_deBruijn32tab {H : Type} : DataW H := .agg [.lit (.int .u8 0), .lit (.int .u8 1), .lit (.int .u8 28), .lit (.int .u8 2), .lit (.int .u8 29), .lit (.int .u8 14), .lit (.int .u8 24), .lit (.int .u8 3), .lit (.int .u8 30), .lit (.int .u8 22), .lit (.int .u8 20), .lit (.int .u8 15), .lit (.int .u8 25), .lit (.int .u8 17), .lit (.int .u8 4), .lit (.int .u8 8), .lit (.int .u8 31), .lit (.int .u8 27), .lit (.int .u8 13), .lit (.int .u8 23), .lit (.int .u8 21), .lit (.int .u8 19), .lit (.int .u8 16), .lit (.int .u8 7), .lit (.int .u8 26), .lit (.int .u8 12), .lit (.int .u8 18), .lit (.int .u8 6), .lit (.int .u8 11), .lit (.int .u8 5), .lit (.int .u8 10), .lit (.int .u8 9)]
def laid_math_bits_deBruijn64tab {H : Type} : DataW H := .agg [.lit (.int .u8 0), .lit (.int .u8 1), .lit (.int .u8 56), .lit (.int .u8 2), .lit (.int .u8 57), .lit (.int .u8 49), .lit (.int .u8 28), .lit (.int .u8 3), .lit (.int .u8 61), .lit (.int .u8 58), .lit (.int .u8 42), .lit (.int .u8 50), .lit (.int .u8 38), .lit (.int .u8 29), .lit (.int .u8 17), .lit (.int .u8 4), .lit (.int .u8 62), .lit (.int .u8 47), .lit (.int .u8 59), .lit (.int .u8 36), .lit (.int .u8 45), .lit (.int .u8 43), .lit (.int .u8 51), .lit (.int .u8 22), .lit (.int .u8 53), .lit (.int .u8 39), .lit (.int .u8 33), .lit (.int .u8 30), .lit (.int .u8 24), .lit (.int .u8 18), .lit (.int .u8 12), .lit (.int .u8 5), .lit (.int .u8 63), .lit (.int .u8 55), .lit (.int .u8 48), .lit (.int .u8 27), .lit (.int .u8 60), .lit (.int .u8 41), .lit (.int .u8 37), .lit (.int .u8 16), .lit (.int .u8 46), .lit (.int .u8 35), .lit (.int .u8 44), .lit (.int .u8 21), .lit (.int .u8 52), .lit (.int .u8 32), .lit (.int .u8 23), .lit (.int .u8 11), .lit (.int .u8 54), .lit (.int .u8 26), .lit (.int .u8 40), .lit (.int .u8 15), .lit (.int .u8 34), .lit (.int .u8 20), .lit (.int .u8 31), .lit (.int .u8 10), .lit (.int .u8 25), .lit (.int .u8 14), .lit (.int .u8 19), .lit (.int .u8 9), .lit (.int .u8 13), .lit (.int .u8 8), .lit (.int .u8 7), .lit (.int .u8 6)]
def laid_internal_strconv_uint64pow10 {H : Type} : DataW H := .agg [.lit (.int .u64 1), .lit (.int .u64 10), .lit (.int .u64 100), .lit (.int .u64 1000), .lit (.int .u64 10000), .lit (.int .u64 100000), .lit (.int .u64 1000000), .lit (.int .u64 10000000), .lit (.int .u64 100000000), .lit (.int .u64 1000000000), .lit (.int .u64 10000000000), .lit (.int .u64 100000000000), .lit (.int .u64 1000000000000), .lit (.int .u64 10000000000000), .lit (.int .u64 100000000000000), .lit (.int .u64 1000000000000000), .lit (.int .u64 10000000000000000), .lit (.int .u64 100000000000000000), .lit (.int .u64 1000000000000000000), .lit (.int .u64 10000000000000000000)]
def laid_strconv_ErrRange {H : Type} : DataW H := .iface "*errors.errorString" (.ptr (.agg [.lit (.string [118, 97, 108, 117, 101, 32, 111, 117, 116, 32, 111, 102, 32, 114, 97, 110, 103, 101])]))
def laid_strconv_ErrSyntax {H : Type} : DataW H := .iface "*errors.errorString" (.ptr (.agg [.lit (.string [105, 110, 118, 97, 108, 105, 100, 32, 115, 121, 110, 116, 97, 120])]))
def laid_escutcheon_hour_months {H : Type} : DataW H := .agg [.lit (.int .i64 31), .lit (.int .i64 28), .lit (.int .i64 31), .lit (.int .i64 30), .lit (.int .i64 31), .lit (.int .i64 30), .lit (.int .i64 31), .lit (.int .i64 31), .lit (.int .i64 30), .lit (.int .i64 31), .lit (.int .i64 30), .lit (.int .i64 31)]

/-- 'escutcheonlaw21.HourReads': WHATEVER THE INPUT: true; the input reads as it did. -/
def hourReadsSpec : ChangeSpec := { name := "hourReads", fn := fun _ => fun
  | [d] => { results := [.lit (.bool true)], args := [d] }
  | _ => none }
def hourReadsRow : OpenClaim := { program := "ytjmalnoehmgenaadoor", sum := "8b20e543dd74fe5c292b9d0c93c6a155094a99b67c8ea931758108c249d77255", func := "escutcheon/escutcheonlaw21.HourReads", spec := "hourReads", inPlace := ["internal/abi.NoEscape", "internal/bytealg.MakeNoZero"], named := ["strconv.ErrSyntax", "strconv.ErrRange", "internal/strconv.uint64pow10", "math/bits.deBruijn32tab", "math/bits.deBruijn64tab", "escutcheon/hour.months"], apart := false, laid := [("math/bits.deBruijn32tab", laid_math_bits_deBruijn32tab), ("math/bits.deBruijn64tab", laid_math_bits_deBruijn64tab), ("internal/strconv.uint64pow10", laid_internal_strconv_uint64pow10), ("strconv.ErrRange", laid_strconv_ErrRange), ("strconv.ErrSyntax", laid_strconv_ErrSyntax), ("escutcheon/hour.months", laid_escutcheon_hour_months)] }
def HourReadsSaid : Prop := hourReadsRow.holds Tryd.pinned (OpenSpec.ofChange hourReadsSpec)

/-- ITS FALSE NEIGHBOUR: 'it returns false'. Refute it at one input. -/
def hourReadsWrong : ChangeSpec := { name := "hourReads", fn := fun _ => fun
  | [d] => { results := [.lit (.bool false)], args := [d] }
  | _ => none }
def HourReadsWrongFalsely : Prop := hourReadsRow.holds Tryd.pinned (OpenSpec.ofChange hourReadsWrong)

/-- 'escutcheonlaw21.HourTexts': WHATEVER THE INPUT: true; the input reads as it did. -/
def hourTextsSpec : ChangeSpec := { name := "hourTexts", fn := fun _ => fun
  | [d] => { results := [.lit (.bool true)], args := [d] }
  | _ => none }
def hourTextsRow : OpenClaim := { program := "ytjmalnoehmgenaadoor", sum := "8b20e543dd74fe5c292b9d0c93c6a155094a99b67c8ea931758108c249d77255", func := "escutcheon/escutcheonlaw21.HourTexts", spec := "hourTexts", inPlace := ["internal/abi.NoEscape", "internal/bytealg.MakeNoZero"], named := ["strconv.ErrSyntax", "strconv.ErrRange", "internal/strconv.uint64pow10", "math/bits.deBruijn32tab", "math/bits.deBruijn64tab", "escutcheon/hour.months"], apart := false, laid := [("math/bits.deBruijn32tab", laid_math_bits_deBruijn32tab), ("math/bits.deBruijn64tab", laid_math_bits_deBruijn64tab), ("internal/strconv.uint64pow10", laid_internal_strconv_uint64pow10), ("strconv.ErrRange", laid_strconv_ErrRange), ("strconv.ErrSyntax", laid_strconv_ErrSyntax), ("escutcheon/hour.months", laid_escutcheon_hour_months)] }
def HourTextsSaid : Prop := hourTextsRow.holds Tryd.pinned (OpenSpec.ofChange hourTextsSpec)

/-- ITS FALSE NEIGHBOUR: 'it returns false'. Refute it at one input. -/
def hourTextsWrong : ChangeSpec := { name := "hourTexts", fn := fun _ => fun
  | [d] => { results := [.lit (.bool false)], args := [d] }
  | _ => none }
def HourTextsWrongFalsely : Prop := hourTextsRow.holds Tryd.pinned (OpenSpec.ofChange hourTextsWrong)

/-- 'escutcheonlaw21.HourDays': WHATEVER THE INPUT: true; the input reads as it did. -/
def hourDaysSpec : ChangeSpec := { name := "hourDays", fn := fun _ => fun
  | [d1, d2, d3] => { results := [.lit (.bool true)], args := [d1, d2, d3] }
  | _ => none }
def hourDaysRow : OpenClaim := { program := "ytjmalnoehmgenaadoor", sum := "8b20e543dd74fe5c292b9d0c93c6a155094a99b67c8ea931758108c249d77255", func := "escutcheon/escutcheonlaw21.HourDays", spec := "hourDays", inPlace := ["internal/abi.NoEscape", "internal/bytealg.MakeNoZero"], named := ["strconv.ErrSyntax", "strconv.ErrRange", "internal/strconv.uint64pow10", "math/bits.deBruijn32tab", "math/bits.deBruijn64tab", "escutcheon/hour.months"], apart := false, laid := [("math/bits.deBruijn32tab", laid_math_bits_deBruijn32tab), ("math/bits.deBruijn64tab", laid_math_bits_deBruijn64tab), ("internal/strconv.uint64pow10", laid_internal_strconv_uint64pow10), ("strconv.ErrRange", laid_strconv_ErrRange), ("strconv.ErrSyntax", laid_strconv_ErrSyntax), ("escutcheon/hour.months", laid_escutcheon_hour_months)] }
def HourDaysSaid : Prop := hourDaysRow.holds Tryd.pinned (OpenSpec.ofChange hourDaysSpec)

/-- ITS FALSE NEIGHBOUR: 'it returns false'. Refute it at one input. -/
def hourDaysWrong : ChangeSpec := { name := "hourDays", fn := fun _ => fun
  | [d1, d2, d3] => { results := [.lit (.bool false)], args := [d1, d2, d3] }
  | _ => none }
def HourDaysWrongFalsely : Prop := hourDaysRow.holds Tryd.pinned (OpenSpec.ofChange hourDaysWrong)

/-- 'escutcheonlaw21.HourShifts': WHATEVER THE INPUT: true; the input reads as it did. -/
def hourShiftsSpec : ChangeSpec := { name := "hourShifts", fn := fun _ => fun
  | [d1, d2, d3] => { results := [.lit (.bool true)], args := [d1, d2, d3] }
  | _ => none }
def hourShiftsRow : OpenClaim := { program := "ytjmalnoehmgenaadoor", sum := "8b20e543dd74fe5c292b9d0c93c6a155094a99b67c8ea931758108c249d77255", func := "escutcheon/escutcheonlaw21.HourShifts", spec := "hourShifts", inPlace := ["internal/abi.NoEscape", "internal/bytealg.MakeNoZero"], named := ["strconv.ErrSyntax", "strconv.ErrRange", "internal/strconv.uint64pow10", "math/bits.deBruijn32tab", "math/bits.deBruijn64tab", "escutcheon/hour.months"], apart := false, laid := [("math/bits.deBruijn32tab", laid_math_bits_deBruijn32tab), ("math/bits.deBruijn64tab", laid_math_bits_deBruijn64tab), ("internal/strconv.uint64pow10", laid_internal_strconv_uint64pow10), ("strconv.ErrRange", laid_strconv_ErrRange), ("strconv.ErrSyntax", laid_strconv_ErrSyntax), ("escutcheon/hour.months", laid_escutcheon_hour_months)] }
def HourShiftsSaid : Prop := hourShiftsRow.holds Tryd.pinned (OpenSpec.ofChange hourShiftsSpec)

/-- ITS FALSE NEIGHBOUR: 'it returns false'. Refute it at one input. -/
def hourShiftsWrong : ChangeSpec := { name := "hourShifts", fn := fun _ => fun
  | [d1, d2, d3] => { results := [.lit (.bool false)], args := [d1, d2, d3] }
  | _ => none }
def HourShiftsWrongFalsely : Prop := hourShiftsRow.holds Tryd.pinned (OpenSpec.ofChange hourShiftsWrong)

/-- 'escutcheonlaw21.HourOrders': WHATEVER THE INPUT: true; the input reads as it did. -/
def hourOrdersSpec : ChangeSpec := { name := "hourOrders", fn := fun _ => fun
  | [d1, d2] => { results := [.lit (.bool true)], args := [d1, d2] }
  | _ => none }
def hourOrdersRow : OpenClaim := { program := "ytjmalnoehmgenaadoor", sum := "8b20e543dd74fe5c292b9d0c93c6a155094a99b67c8ea931758108c249d77255", func := "escutcheon/escutcheonlaw21.HourOrders", spec := "hourOrders", inPlace := ["internal/abi.NoEscape", "internal/bytealg.MakeNoZero"], named := ["strconv.ErrSyntax", "strconv.ErrRange", "internal/strconv.uint64pow10", "math/bits.deBruijn32tab", "math/bits.deBruijn64tab", "escutcheon/hour.months"], apart := false, laid := [("math/bits.deBruijn32tab", laid_math_bits_deBruijn32tab), ("math/bits.deBruijn64tab", laid_math_bits_deBruijn64tab), ("internal/strconv.uint64pow10", laid_internal_strconv_uint64pow10), ("strconv.ErrRange", laid_strconv_ErrRange), ("strconv.ErrSyntax", laid_strconv_ErrSyntax), ("escutcheon/hour.months", laid_escutcheon_hour_months)] }
def HourOrdersSaid : Prop := hourOrdersRow.holds Tryd.pinned (OpenSpec.ofChange hourOrdersSpec)

/-- ITS FALSE NEIGHBOUR: 'it returns false'. Refute it at one input. -/
def hourOrdersWrong : ChangeSpec := { name := "hourOrders", fn := fun _ => fun
  | [d1, d2] => { results := [.lit (.bool false)], args := [d1, d2] }
  | _ => none }
def HourOrdersWrongFalsely : Prop := hourOrdersRow.holds Tryd.pinned (OpenSpec.ofChange hourOrdersWrong)

/-- 'escutcheonlaw21.HourYears': WHATEVER THE INPUT: true; the input reads as it did. -/
def hourYearsSpec : ChangeSpec := { name := "hourYears", fn := fun _ => fun
  | [d] => { results := [.lit (.bool true)], args := [d] }
  | _ => none }
def hourYearsRow : OpenClaim := { program := "ytjmalnoehmgenaadoor", sum := "8b20e543dd74fe5c292b9d0c93c6a155094a99b67c8ea931758108c249d77255", func := "escutcheon/escutcheonlaw21.HourYears", spec := "hourYears", inPlace := ["internal/abi.NoEscape", "internal/bytealg.MakeNoZero"], named := ["strconv.ErrSyntax", "strconv.ErrRange", "internal/strconv.uint64pow10", "math/bits.deBruijn32tab", "math/bits.deBruijn64tab", "escutcheon/hour.months"], apart := false, laid := [("math/bits.deBruijn32tab", laid_math_bits_deBruijn32tab), ("math/bits.deBruijn64tab", laid_math_bits_deBruijn64tab), ("internal/strconv.uint64pow10", laid_internal_strconv_uint64pow10), ("strconv.ErrRange", laid_strconv_ErrRange), ("strconv.ErrSyntax", laid_strconv_ErrSyntax), ("escutcheon/hour.months", laid_escutcheon_hour_months)] }
def HourYearsSaid : Prop := hourYearsRow.holds Tryd.pinned (OpenSpec.ofChange hourYearsSpec)

/-- ITS FALSE NEIGHBOUR: 'it returns false'. Refute it at one input. -/
def hourYearsWrong : ChangeSpec := { name := "hourYears", fn := fun _ => fun
  | [d] => { results := [.lit (.bool false)], args := [d] }
  | _ => none }
def HourYearsWrongFalsely : Prop := hourYearsRow.holds Tryd.pinned (OpenSpec.ofChange hourYearsWrong)

/-- 'escutcheonlaw21.HourSteps': WHATEVER THE INPUT: true; the input reads as it did. -/
def hourStepsSpec : ChangeSpec := { name := "hourSteps", fn := fun _ => fun
  | [d] => { results := [.lit (.bool true)], args := [d] }
  | _ => none }
def hourStepsRow : OpenClaim := { program := "ytjmalnoehmgenaadoor", sum := "8b20e543dd74fe5c292b9d0c93c6a155094a99b67c8ea931758108c249d77255", func := "escutcheon/escutcheonlaw21.HourSteps", spec := "hourSteps", inPlace := ["internal/abi.NoEscape", "internal/bytealg.MakeNoZero"], named := ["strconv.ErrSyntax", "strconv.ErrRange", "internal/strconv.uint64pow10", "math/bits.deBruijn32tab", "math/bits.deBruijn64tab", "escutcheon/hour.months"], apart := false, laid := [("math/bits.deBruijn32tab", laid_math_bits_deBruijn32tab), ("math/bits.deBruijn64tab", laid_math_bits_deBruijn64tab), ("internal/strconv.uint64pow10", laid_internal_strconv_uint64pow10), ("strconv.ErrRange", laid_strconv_ErrRange), ("strconv.ErrSyntax", laid_strconv_ErrSyntax), ("escutcheon/hour.months", laid_escutcheon_hour_months)] }
def HourStepsSaid : Prop := hourStepsRow.holds Tryd.pinned (OpenSpec.ofChange hourStepsSpec)

/-- ITS FALSE NEIGHBOUR: 'it returns false'. Refute it at one input. -/
def hourStepsWrong : ChangeSpec := { name := "hourSteps", fn := fun _ => fun
  | [d] => { results := [.lit (.bool false)], args := [d] }
  | _ => none }
def HourStepsWrongFalsely : Prop := hourStepsRow.holds Tryd.pinned (OpenSpec.ofChange hourStepsWrong)

/- THE SECOND FORM. 'bulk': how many values and letters a reading holds, each counted each time it is reached (what is shared counts as often as it is met; a slice's spare places count too). A statement '..UptoSaid' is the law's where the arguments, and the package variables that the reading takes, are together of bulk at most 1048576: NARROWER than '..Said'. Prove '..Said' where nothing that the law and all that it calls make is longer than what came in: it says more and counts as full. Else prove '..UptoSaid'. A law counts once. -/
mutual
def uptoBulk {H : Type} : DataW H → Nat
  | .lit (.string bytes) => bytes.length + 1
  | .lit _ => 1
  | .nil => 1
  | .ptr d => uptoBulk d + 1
  | .slice elems spare => uptoBulkAll elems + uptoBulkAll spare + 1
  | .agg parts => uptoBulkAll parts + 1
  | .iface _ d => uptoBulk d + 1
  | .map entries => uptoBulkEntries entries + 1
  | .held _ => 1
def uptoBulkAll {H : Type} : List (DataW H) → Nat
  | [] => 0
  | d :: r => uptoBulk d + uptoBulkAll r
def uptoBulkEntries {H : Type} : List (Lit × DataW H) → Nat
  | [] => 0
  | x :: r => uptoBulkEntry x + uptoBulkEntries r
def uptoBulkEntry {H : Type} : Lit × DataW H → Nat
  | (.string bytes, d) => bytes.length + uptoBulk d + 1
  | (_, d) => uptoBulk d + 1
 end
def uptoSmall : (H : Type) → List (DataW H) → Bool := fun _ ds => decide (uptoBulkAll ds ≤ 1048576)
def OpenSpec.upto (s : _root_.Go.ChangeSpec) : _root_.Go.OpenSpec := { _root_.Go.OpenSpec.ofChange s with cond := some uptoSmall }

/-- 'escutcheonlaw21.HourReads', WHERE WHAT IT READS IS OF BULK AT MOST 1048576: true; the input reads as it did. -/
def hourReadsUptoRow : OpenClaim := { program := "ytjmalnoehmgenaadoor", sum := "8b20e543dd74fe5c292b9d0c93c6a155094a99b67c8ea931758108c249d77255", func := "escutcheon/escutcheonlaw21.HourReads", spec := "hourReads", inPlace := ["internal/abi.NoEscape", "internal/bytealg.MakeNoZero"], named := ["strconv.ErrSyntax", "strconv.ErrRange", "internal/strconv.uint64pow10", "math/bits.deBruijn32tab", "math/bits.deBruijn64tab", "escutcheon/hour.months"], apart := false, laid := [("math/bits.deBruijn32tab", laid_math_bits_deBruijn32tab), ("math/bits.deBruijn64tab", laid_math_bits_deBruijn64tab), ("internal/strconv.uint64pow10", laid_internal_strconv_uint64pow10), ("strconv.ErrRange", laid_strconv_ErrRange), ("strconv.ErrSyntax", laid_strconv_ErrSyntax), ("escutcheon/hour.months", laid_escutcheon_hour_months)], narrowed := true }
def HourReadsUptoSaid : Prop := hourReadsUptoRow.holds Tryd.pinned (OpenSpec.upto hourReadsSpec)

/-- 'escutcheonlaw21.HourTexts', WHERE WHAT IT READS IS OF BULK AT MOST 1048576: true; the input reads as it did. -/
def hourTextsUptoRow : OpenClaim := { program := "ytjmalnoehmgenaadoor", sum := "8b20e543dd74fe5c292b9d0c93c6a155094a99b67c8ea931758108c249d77255", func := "escutcheon/escutcheonlaw21.HourTexts", spec := "hourTexts", inPlace := ["internal/abi.NoEscape", "internal/bytealg.MakeNoZero"], named := ["strconv.ErrSyntax", "strconv.ErrRange", "internal/strconv.uint64pow10", "math/bits.deBruijn32tab", "math/bits.deBruijn64tab", "escutcheon/hour.months"], apart := false, laid := [("math/bits.deBruijn32tab", laid_math_bits_deBruijn32tab), ("math/bits.deBruijn64tab", laid_math_bits_deBruijn64tab), ("internal/strconv.uint64pow10", laid_internal_strconv_uint64pow10), ("strconv.ErrRange", laid_strconv_ErrRange), ("strconv.ErrSyntax", laid_strconv_ErrSyntax), ("escutcheon/hour.months", laid_escutcheon_hour_months)], narrowed := true }
def HourTextsUptoSaid : Prop := hourTextsUptoRow.holds Tryd.pinned (OpenSpec.upto hourTextsSpec)

/-- 'escutcheonlaw21.HourDays', WHERE WHAT IT READS IS OF BULK AT MOST 1048576: true; the input reads as it did. -/
def hourDaysUptoRow : OpenClaim := { program := "ytjmalnoehmgenaadoor", sum := "8b20e543dd74fe5c292b9d0c93c6a155094a99b67c8ea931758108c249d77255", func := "escutcheon/escutcheonlaw21.HourDays", spec := "hourDays", inPlace := ["internal/abi.NoEscape", "internal/bytealg.MakeNoZero"], named := ["strconv.ErrSyntax", "strconv.ErrRange", "internal/strconv.uint64pow10", "math/bits.deBruijn32tab", "math/bits.deBruijn64tab", "escutcheon/hour.months"], apart := false, laid := [("math/bits.deBruijn32tab", laid_math_bits_deBruijn32tab), ("math/bits.deBruijn64tab", laid_math_bits_deBruijn64tab), ("internal/strconv.uint64pow10", laid_internal_strconv_uint64pow10), ("strconv.ErrRange", laid_strconv_ErrRange), ("strconv.ErrSyntax", laid_strconv_ErrSyntax), ("escutcheon/hour.months", laid_escutcheon_hour_months)], narrowed := true }
def HourDaysUptoSaid : Prop := hourDaysUptoRow.holds Tryd.pinned (OpenSpec.upto hourDaysSpec)

/-- 'escutcheonlaw21.HourShifts', WHERE WHAT IT READS IS OF BULK AT MOST 1048576: true; the input reads as it did. -/
def hourShiftsUptoRow : OpenClaim := { program := "ytjmalnoehmgenaadoor", sum := "8b20e543dd74fe5c292b9d0c93c6a155094a99b67c8ea931758108c249d77255", func := "escutcheon/escutcheonlaw21.HourShifts", spec := "hourShifts", inPlace := ["internal/abi.NoEscape", "internal/bytealg.MakeNoZero"], named := ["strconv.ErrSyntax", "strconv.ErrRange", "internal/strconv.uint64pow10", "math/bits.deBruijn32tab", "math/bits.deBruijn64tab", "escutcheon/hour.months"], apart := false, laid := [("math/bits.deBruijn32tab", laid_math_bits_deBruijn32tab), ("math/bits.deBruijn64tab", laid_math_bits_deBruijn64tab), ("internal/strconv.uint64pow10", laid_internal_strconv_uint64pow10), ("strconv.ErrRange", laid_strconv_ErrRange), ("strconv.ErrSyntax", laid_strconv_ErrSyntax), ("escutcheon/hour.months", laid_escutcheon_hour_months)], narrowed := true }
def HourShiftsUptoSaid : Prop := hourShiftsUptoRow.holds Tryd.pinned (OpenSpec.upto hourShiftsSpec)

/-- 'escutcheonlaw21.HourOrders', WHERE WHAT IT READS IS OF BULK AT MOST 1048576: true; the input reads as it did. -/
def hourOrdersUptoRow : OpenClaim := { program := "ytjmalnoehmgenaadoor", sum := "8b20e543dd74fe5c292b9d0c93c6a155094a99b67c8ea931758108c249d77255", func := "escutcheon/escutcheonlaw21.HourOrders", spec := "hourOrders", inPlace := ["internal/abi.NoEscape", "internal/bytealg.MakeNoZero"], named := ["strconv.ErrSyntax", "strconv.ErrRange", "internal/strconv.uint64pow10", "math/bits.deBruijn32tab", "math/bits.deBruijn64tab", "escutcheon/hour.months"], apart := false, laid := [("math/bits.deBruijn32tab", laid_math_bits_deBruijn32tab), ("math/bits.deBruijn64tab", laid_math_bits_deBruijn64tab), ("internal/strconv.uint64pow10", laid_internal_strconv_uint64pow10), ("strconv.ErrRange", laid_strconv_ErrRange), ("strconv.ErrSyntax", laid_strconv_ErrSyntax), ("escutcheon/hour.months", laid_escutcheon_hour_months)], narrowed := true }
def HourOrdersUptoSaid : Prop := hourOrdersUptoRow.holds Tryd.pinned (OpenSpec.upto hourOrdersSpec)

/-- 'escutcheonlaw21.HourYears', WHERE WHAT IT READS IS OF BULK AT MOST 1048576: true; the input reads as it did. -/
def hourYearsUptoRow : OpenClaim := { program := "ytjmalnoehmgenaadoor", sum := "8b20e543dd74fe5c292b9d0c93c6a155094a99b67c8ea931758108c249d77255", func := "escutcheon/escutcheonlaw21.HourYears", spec := "hourYears", inPlace := ["internal/abi.NoEscape", "internal/bytealg.MakeNoZero"], named := ["strconv.ErrSyntax", "strconv.ErrRange", "internal/strconv.uint64pow10", "math/bits.deBruijn32tab", "math/bits.deBruijn64tab", "escutcheon/hour.months"], apart := false, laid := [("math/bits.deBruijn32tab", laid_math_bits_deBruijn32tab), ("math/bits.deBruijn64tab", laid_math_bits_deBruijn64tab), ("internal/strconv.uint64pow10", laid_internal_strconv_uint64pow10), ("strconv.ErrRange", laid_strconv_ErrRange), ("strconv.ErrSyntax", laid_strconv_ErrSyntax), ("escutcheon/hour.months", laid_escutcheon_hour_months)], narrowed := true }
def HourYearsUptoSaid : Prop := hourYearsUptoRow.holds Tryd.pinned (OpenSpec.upto hourYearsSpec)

/-- 'escutcheonlaw21.HourSteps', WHERE WHAT IT READS IS OF BULK AT MOST 1048576: true; the input reads as it did. -/
def hourStepsUptoRow : OpenClaim := { program := "ytjmalnoehmgenaadoor", sum := "8b20e543dd74fe5c292b9d0c93c6a155094a99b67c8ea931758108c249d77255", func := "escutcheon/escutcheonlaw21.HourSteps", spec := "hourSteps", inPlace := ["internal/abi.NoEscape", "internal/bytealg.MakeNoZero"], named := ["strconv.ErrSyntax", "strconv.ErrRange", "internal/strconv.uint64pow10", "math/bits.deBruijn32tab", "math/bits.deBruijn64tab", "escutcheon/hour.months"], apart := false, laid := [("math/bits.deBruijn32tab", laid_math_bits_deBruijn32tab), ("math/bits.deBruijn64tab", laid_math_bits_deBruijn64tab), ("internal/strconv.uint64pow10", laid_internal_strconv_uint64pow10), ("strconv.ErrRange", laid_strconv_ErrRange), ("strconv.ErrSyntax", laid_strconv_ErrSyntax), ("escutcheon/hour.months", laid_escutcheon_hour_months)], narrowed := true }
def HourStepsUptoSaid : Prop := hourStepsUptoRow.holds Tryd.pinned (OpenSpec.upto hourStepsSpec)

end Rows
end Go.Proofs.YtjmalnoehmgenaaDoor
