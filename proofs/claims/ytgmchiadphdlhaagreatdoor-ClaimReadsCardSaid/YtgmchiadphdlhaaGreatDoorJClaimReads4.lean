/- Code, as it is looked at; written by wip/leancode.py. hour: years, months, days, plainly. hour: days and seconds, in the program. hour: the document's days and seconds. hour: moments in the program. h -/
import Derived.Test.YtgmchiadphdlhaaGreatDoorJClaimReads3
import Derived.WideShapes
import Derived.Shelf.Strings.Builder1
import Derived.Shelf.Strings.Builder2
import Derived.Shelf.Strings.Trim
import Derived.Shelf.Small.Utf8
import Derived.Shelf.Small.Strs
import Derived.Shelf.Small.Wraps
import Derived.Shelf.Strconv.Itoa0
import Derived.Shelf.Strconv.Itoa1
import Derived.Shelf.LaysM
import Derived.Shelf.Strconv.Itoa2
import Derived.Shelf.Strconv.Itoa3
import Derived.Shelf.Strings.Search1
import Derived.Shelf.GgClosure.StringsIndexFunc
import Derived.Ground.GgwProg
import Derived.Shelf.GgClosure.StringsIndexFuncTop
import Derived.Shelf.Strings.Prefix
import Derived.Shelf.Unicode.Decode
import Derived.Shelf.Strings.Runes
import Derived.Shelf.Strings.AsciiSet
import Derived.Shelf.Bits.Mul64
import Derived.Shelf.Unicode.DecodeSlow
import Derived.Shelf.Unicode.DecodeAny
import Derived.Shelf.Unicode.DecodeLast
import Derived.Shelf.Strings.FuncGrows
import Derived.Shelf.Slices.Turned
import Derived.Shelf.Slices.Equal
import Derived.Test.YtgmchiadphdlhaaGreatDoorProg
import Derived.Lib.Bytealg
import Derived.Lib.Builder
namespace Go.Abs.S
open Go.Proofs
set_option maxRecDepth 100000
def impCodA : FuncId → Bool := fun f => f == 16 || f == 17 || f == 18 || f == 30 || f == 31 || f == 32 || f == 48 || f == 50 || f == 57 || f == 58 || f == 74 || f == 86 || f == 100 || f == 116
/-- escutcheon/hour.Text -/
def lc27 : LCode := .seq (.reg []
  [o1 2 (.assign (.const (.string { data := #[] }))),
  o1 3 (.assign (.const (.int .i64 0)))]) (.seq (.seq (.reg []
  [o1 8 (.move (.tmp 0)),
  o1 9 (.call ⟨.value (.func 46), #[.tmp 8], #[3]⟩),
  o1 10 (.unOp .not 4 (.tmp 9))]) (.cond (.tmp 10) (.seq (.reg []
  [o1 2 (.assign (.const (.string { data := #[] }))),
  o1 3 (.assign (.const (.int .i64 12)))]) (.ret)) (.skip))) (.seq (.reg []
  [o1 11 (.move (.tmp 0)),
  o1 12 (.call ⟨.value (.func 47), #[.tmp 11], #[3]⟩),
  o1 4 (.alloc 87),
  o3 (.store 87 (.tmp 4) (.tmp 12))]) (.seq (.reg []
  [o1 5 (.alloc 91)]) (.seq (.reg []
  [o1 13 (.fieldAddr 87 (.tmp 4) 0),
  o1 14 (.fieldAddr 85 (.tmp 13) 0),
  o1 15 (.load 3 (.tmp 14)),
  o1 16 (.call ⟨.value (.func 49), #[.tmp 15, .const (.int .i64 4)], #[3, 3]⟩),
  o1 17 (.call ⟨.value (.func 48), #[.tmp 5, .tmp 16], #[91, 9]⟩)]) (.seq (.seq (.reg []
  [o1 18 (.fieldAddr 87 (.tmp 4) 0),
  o1 19 (.fieldAddr 85 (.tmp 18) 1),
  o1 20 (.load 3 (.tmp 19)),
  o1 21 (.fieldAddr 87 (.tmp 4) 0),
  o1 22 (.fieldAddr 85 (.tmp 21) 2),
  o1 23 (.load 3 (.tmp 22)),
  o1 24 (.fieldAddr 87 (.tmp 4) 1),
  o1 25 (.load 3 (.tmp 24)),
  o1 26 (.fieldAddr 87 (.tmp 4) 2),
  o1 27 (.load 3 (.tmp 26)),
  o1 28 (.fieldAddr 87 (.tmp 4) 3),
  o1 29 (.load 3 (.tmp 28)),
  o1 30 (.build 97 #[(0, .tmp 20), (1, .tmp 23), (2, .tmp 25), (3, .tmp 27), (4, .tmp 29)]),
  o1 31 (.move (.const (.int .i64 0)))]) (.block 0 (.loop (.seq (.reg []
  [o1 32 (.binOp .lss 3 (.tmp 31) (.const (.int .i64 5)) 3)]) (.seq (.cond (.tmp 32) (.skip) (.exit 0)) (.seq (.block 1 (.seq (.reg []
  [o1 33 (.move (.tmp 31)),
  o1 34 (.index 97 (.tmp 30) (.tmp 31)),
  o1 6 (.assign (.tmp 33)),
  o1 7 (.assign (.tmp 34))]) (.reg [o1 35 (.move (.tmp 6)),
  o1 36 (.move (.tmp 6)),
  o1 37 (.binOp .add 3 (.tmp 36) (.const (.int .i64 1)) 3),
  o1 38 (.slice 9 (.const (.string { data := #[45, 45, 84, 58, 58] })) (some (.tmp 35)) (some (.tmp 37)) none),
  o1 39 (.move (.tmp 7)),
  o1 40 (.call ⟨.value (.func 49), #[.tmp 39, .const (.int .i64 2)], #[3, 3]⟩),
  o1 41 (.binOp .add 9 (.tmp 38) (.tmp 40) 9)]
  [o1 42 (.call ⟨.value (.func 48), #[.tmp 5, .tmp 41], #[91, 9]⟩)]))) (.reg []
  [o1 43 (.binOp .add 3 (.tmp 31) (.const (.int .i64 1)) 3),
  o1 31 (.move (.tmp 43))]))))))) (.seq (.reg []
  [o1 44 (.call ⟨.value (.func 50), #[.tmp 5], #[91]⟩),
  o1 45 (.binOp .add 9 (.tmp 44) (.const (.string { data := #[90] })) 9),
  o1 2 (.assign (.tmp 45)),
  o1 3 (.assign (.const (.int .i64 0)))]) (.ret)))))))
def ms27_0 : List Nat := [0, 1, 4, 6, 7, 8, 9, 10, 11, 12, 13, 14, 15, 16, 17, 18, 19, 20, 21, 22, 23, 24, 25, 26, 27, 28, 29, 31, 32, 33, 34, 35, 36, 37, 38, 39, 40, 41, 42, 43]
theorem ls27 : Tryz.f27.body.map (strip Tryz.prog impCodA) = some lc27 := by kernel_rfl
theorem lcall27 : LC 27 46 lc27 [.tmp 2, .tmp 3] := LC.of Tryz.func27 (by kernel_rfl) ls27 (by kernel_rfl) (by kernel_rfl)
/-- escutcheon/hour.time -/
def lc46 : LCode := .seq (.reg []
  [o1 2 (.assign (.const (.bool false)))]) (.seq (.reg []
  [o1 3 (.move (.tmp 0)),
  o1 4 (.call ⟨.value (.func 70), #[], #[]⟩),
  o1 5 (.binOp .geq 3 (.tmp 3) (.tmp 4) 3),
  o1 6 (.move (.tmp 5)),
  o2 7 (.move (.tmp 0)) 6 true,
  o2 8 (.call ⟨.value (.func 71), #[], #[]⟩) 6 true,
  o2 9 (.binOp .leq 3 (.tmp 7) (.tmp 8) 3) 6 true,
  o1 10 (.pick (.tmp 6) (.tmp 9) (.const (.bool false))),
  o1 2 (.assign (.tmp 10))]) (.ret))
theorem ls46 : Tryz.f46.body.map (strip Tryz.prog impCodA) = some lc46 := by kernel_rfl
theorem lcall46 : LC 46 11 lc46 [.tmp 2] := LC.of Tryz.func46 (by kernel_rfl) ls46 (by kernel_rfl) (by kernel_rfl)
/-- escutcheon/hour.of -/
def lc47 : LCode := .seq (.reg []
  [o1 2 (.alloc 87)]) (.seq (.reg []
  [o1 4 (.move (.tmp 0)),
  o1 5 (.binOp .add 3 (.tmp 4) (.const (.int .i64 62167219200)) 3),
  o1 0 (.assign (.tmp 5))]) (.seq (.reg []
  [o1 6 (.move (.tmp 0)),
  o1 7 (.binOp .quo 3 (.tmp 6) (.const (.int .i64 86400)) 3),
  o1 8 (.binOp .quo 3 (.tmp 7) (.const (.int .i64 366)) 3),
  o1 9 (.move (.tmp 0)),
  o1 10 (.binOp .quo 3 (.tmp 9) (.const (.int .i64 86400)) 3),
  o1 11 (.build 85 #[(0, .tmp 8), (1, .const (.int .i64 1)), (2, .tmp 10)]),
  o1 3 (.alloc 85),
  o3 (.store 85 (.tmp 3) (.tmp 11))]) (.seq (.block 0 (.loop (.seq (.seq (.reg []
  [o1 12 (.fieldAddr 85 (.tmp 3) 0),
  o1 13 (.load 3 (.tmp 12)),
  o1 14 (.binOp .add 3 (.tmp 13) (.const (.int .i64 1)) 3),
  o1 15 (.call ⟨.value (.func 72), #[.tmp 14], #[3]⟩),
  o1 16 (.move (.tmp 0)),
  o1 17 (.binOp .quo 3 (.tmp 16) (.const (.int .i64 86400)) 3),
  o1 18 (.binOp .leq 3 (.tmp 15) (.tmp 17) 3)]) (.cond (.tmp 18) (.skip) (.exit 0))) (.block 1 (.reg []
  [o1 19 (.fieldAddr 85 (.tmp 3) 0),
  o1 20 (.load 3 (.tmp 19)),
  o1 21 (.binOp .add 3 (.tmp 20) (.const (.int .i64 1)) 3),
  o1 22 (.fieldAddr 85 (.tmp 3) 0),
  o3 (.store 3 (.tmp 22) (.tmp 21))]))))) (.seq (.reg [o1 23 (.fieldAddr 85 (.tmp 3) 2),
  o1 24 (.load 3 (.tmp 23)),
  o1 25 (.fieldAddr 85 (.tmp 3) 0),
  o1 26 (.load 3 (.tmp 25)),
  o1 27 (.call ⟨.value (.func 72), #[.tmp 26], #[3]⟩),
  o1 28 (.binOp .sub 3 (.tmp 27) (.const (.int .i64 1)) 3),
  o1 29 (.binOp .sub 3 (.tmp 24) (.tmp 28) 3),
  o1 30 (.fieldAddr 85 (.tmp 3) 2)]
  [o3 (.store 3 (.tmp 30) (.tmp 29))]) (.seq (.block 2 (.loop (.seq (.seq (.reg [o1 31 (.fieldAddr 85 (.tmp 3) 2),
  o1 32 (.load 3 (.tmp 31)),
  o1 33 (.fieldAddr 85 (.tmp 3) 0),
  o1 34 (.load 3 (.tmp 33)),
  o1 35 (.fieldAddr 85 (.tmp 3) 1),
  o1 36 (.load 3 (.tmp 35)),
  o1 37 (.call ⟨.value (.func 73), #[.tmp 34, .tmp 36], #[3, 3]⟩),
  o1 38 (.binOp .gtr 3 (.tmp 32) (.tmp 37) 3)]
  []) (.cond (.tmp 38) (.skip) (.exit 2))) (.block 3 (.seq (.reg [o1 39 (.fieldAddr 85 (.tmp 3) 2),
  o1 40 (.load 3 (.tmp 39)),
  o1 41 (.fieldAddr 85 (.tmp 3) 0),
  o1 42 (.load 3 (.tmp 41)),
  o1 43 (.fieldAddr 85 (.tmp 3) 1),
  o1 44 (.load 3 (.tmp 43)),
  o1 45 (.call ⟨.value (.func 73), #[.tmp 42, .tmp 44], #[3, 3]⟩),
  o1 46 (.binOp .sub 3 (.tmp 40) (.tmp 45) 3),
  o1 47 (.fieldAddr 85 (.tmp 3) 2)]
  [o3 (.store 3 (.tmp 47) (.tmp 46))]) (.reg []
  [o1 48 (.fieldAddr 85 (.tmp 3) 1),
  o1 49 (.load 3 (.tmp 48)),
  o1 50 (.binOp .add 3 (.tmp 49) (.const (.int .i64 1)) 3),
  o1 51 (.fieldAddr 85 (.tmp 3) 1),
  o3 (.store 3 (.tmp 51) (.tmp 50))])))))) (.seq (.reg []
  [o1 52 (.move (.tmp 0)),
  o1 53 (.binOp .rem 3 (.tmp 52) (.const (.int .i64 86400)) 3),
  o1 0 (.assign (.tmp 53))]) (.seq (.reg []
  [o1 54 (.load 85 (.tmp 3)),
  o1 55 (.move (.tmp 0)),
  o1 56 (.binOp .quo 3 (.tmp 55) (.const (.int .i64 3600)) 3),
  o1 57 (.move (.tmp 0)),
  o1 58 (.binOp .rem 3 (.tmp 57) (.const (.int .i64 3600)) 3),
  o1 59 (.binOp .quo 3 (.tmp 58) (.const (.int .i64 60)) 3),
  o1 60 (.move (.tmp 0)),
  o1 61 (.binOp .rem 3 (.tmp 60) (.const (.int .i64 60)) 3),
  o1 62 (.build 87 #[(0, .tmp 54), (1, .tmp 56), (2, .tmp 59), (3, .tmp 61)]),
  o3 (.store 87 (.tmp 2) (.tmp 62))]) (.ret))))))))
def ms47_0 : List Nat := [1, 4, 5, 6, 7, 8, 9, 10, 11, 12, 13, 14, 15, 16, 17, 18, 19, 20, 21, 22]
def ms47_1 : List Nat := [1, 4, 5, 6, 7, 8, 9, 10, 11, 12, 13, 14, 15, 16, 17, 18, 19, 20, 21, 22, 23, 24, 25, 26, 27, 28, 29, 30, 31, 32, 33, 34, 35, 36, 37, 38, 39, 40, 41, 42, 43, 44, 45, 46, 47, 48, 49, 50, 51]
theorem ls47 : Tryz.f47.body.map (strip Tryz.prog impCodA) = some lc47 := by kernel_rfl
theorem lcall47 : LC 47 63 lc47 [.cell 2 87] := LC.of Tryz.func47 (by kernel_rfl) ls47 (by kernel_rfl) (by kernel_rfl)
/-- escutcheon/hour.padded -/
def lc49 : LCode := .seq (.reg []
  [o1 4 (.assign (.const (.string { data := #[] })))]) (.seq (.reg []
  [o1 6 (.move (.tmp 0)),
  o1 7 (.call ⟨.value (.func 75), #[.tmp 6], #[3]⟩),
  o1 5 (.assign (.tmp 7))]) (.seq (.reg []
  [o1 8 (.move (.tmp 1)),
  o1 9 (.move (.tmp 5)),
  o1 10 (.call ⟨.builtin .len, #[.tmp 9], #[9]⟩),
  o1 11 (.binOp .sub 3 (.tmp 8) (.tmp 10) 3),
  o1 12 (.call ⟨.value (.func 76), #[.const (.string { data := #[48] }), .tmp 11], #[9, 3]⟩),
  o1 13 (.move (.tmp 5)),
  o1 14 (.binOp .add 9 (.tmp 12) (.tmp 13) 9),
  o1 4 (.assign (.tmp 14))]) (.ret)))
theorem ls49 : Tryz.f49.body.map (strip Tryz.prog impCodA) = some lc49 := by kernel_rfl
theorem lcall49 : LC 49 15 lc49 [.tmp 4] := LC.of Tryz.func49 (by kernel_rfl) ls49 (by kernel_rfl) (by kernel_rfl)
/-- escutcheon/escutcheonref21.Seconds -/
def lc43 : LCode := .seq (.reg []
  [o1 12 (.assign (.const (.int .i64 0)))]) (.seq (.reg []
  [o1 13 (.assign (.const (.int .i64 0)))]) (.seq (.seq (.reg []
  [o1 14 (.assign (.const (.int .i64 1970)))]) (.block 0 (.loop (.seq (.seq (.reg []
  [o1 17 (.move (.tmp 14)),
  o1 18 (.move (.tmp 0)),
  o1 19 (.binOp .lss 3 (.tmp 17) (.tmp 18) 3)]) (.cond (.tmp 19) (.skip) (.exit 0))) (.seq (.block 1 (.reg []
  [o1 22 (.move (.tmp 13)),
  o1 23 (.move (.tmp 14)),
  o1 24 (.call ⟨.value (.func 69), #[.tmp 23], #[3]⟩),
  o1 25 (.binOp .add 3 (.tmp 22) (.tmp 24) 3),
  o1 13 (.assign (.tmp 25))])) (.reg []
  [o1 20 (.move (.tmp 14)),
  o1 21 (.binOp .add 3 (.tmp 20) (.const (.int .i64 1)) 3),
  o1 14 (.assign (.tmp 21))])))))) (.seq (.seq (.reg []
  [o1 26 (.move (.tmp 0)),
  o1 15 (.assign (.tmp 26))]) (.block 2 (.loop (.seq (.seq (.reg []
  [o1 27 (.move (.tmp 15)),
  o1 28 (.binOp .lss 3 (.tmp 27) (.const (.int .i64 1970)) 3)]) (.cond (.tmp 28) (.skip) (.exit 2))) (.seq (.block 3 (.reg []
  [o1 31 (.move (.tmp 13)),
  o1 32 (.move (.tmp 15)),
  o1 33 (.call ⟨.value (.func 69), #[.tmp 32], #[3]⟩),
  o1 34 (.binOp .sub 3 (.tmp 31) (.tmp 33) 3),
  o1 13 (.assign (.tmp 34))])) (.reg []
  [o1 29 (.move (.tmp 15)),
  o1 30 (.binOp .add 3 (.tmp 29) (.const (.int .i64 1)) 3),
  o1 15 (.assign (.tmp 30))])))))) (.seq (.seq (.reg []
  [o1 16 (.assign (.const (.int .i64 1)))]) (.block 4 (.loop (.seq (.seq (.reg []
  [o1 35 (.move (.tmp 16)),
  o1 36 (.move (.tmp 1)),
  o1 37 (.binOp .lss 3 (.tmp 35) (.tmp 36) 3)]) (.cond (.tmp 37) (.skip) (.exit 4))) (.seq (.block 5 (.reg []
  [o1 40 (.move (.tmp 13)),
  o1 41 (.move (.tmp 0)),
  o1 42 (.move (.tmp 16)),
  o1 43 (.call ⟨.value (.func 42), #[.tmp 41, .tmp 42], #[3, 3]⟩),
  o1 44 (.binOp .add 3 (.tmp 40) (.tmp 43) 3),
  o1 13 (.assign (.tmp 44))])) (.reg []
  [o1 38 (.move (.tmp 16)),
  o1 39 (.binOp .add 3 (.tmp 38) (.const (.int .i64 1)) 3),
  o1 16 (.assign (.tmp 39))])))))) (.seq (.reg []
  [o1 45 (.move (.tmp 13)),
  o1 46 (.move (.tmp 2)),
  o1 47 (.binOp .add 3 (.tmp 45) (.tmp 46) 3),
  o1 48 (.binOp .sub 3 (.tmp 47) (.const (.int .i64 1)) 3),
  o1 49 (.binOp .mul 3 (.tmp 48) (.const (.int .i64 24)) 3),
  o1 50 (.move (.tmp 3)),
  o1 51 (.binOp .add 3 (.tmp 49) (.tmp 50) 3),
  o1 52 (.binOp .mul 3 (.tmp 51) (.const (.int .i64 3600)) 3),
  o1 53 (.move (.tmp 4)),
  o1 54 (.binOp .mul 3 (.tmp 53) (.const (.int .i64 60)) 3),
  o1 55 (.binOp .add 3 (.tmp 52) (.tmp 54) 3),
  o1 56 (.move (.tmp 5)),
  o1 57 (.binOp .add 3 (.tmp 55) (.tmp 56) 3),
  o1 12 (.assign (.tmp 57))]) (.ret))))))
def ms43_0 : List Nat := [6, 7, 8, 9, 10, 11, 13, 14, 17, 18, 19, 20, 21, 22, 23, 24, 25]
def ms43_1 : List Nat := [6, 7, 8, 9, 10, 11, 13, 14, 15, 17, 18, 19, 20, 21, 22, 23, 24, 25, 26, 27, 28, 29, 30, 31, 32, 33, 34]
def ms43_2 : List Nat := [6, 7, 8, 9, 10, 11, 13, 14, 15, 16, 17, 18, 19, 20, 21, 22, 23, 24, 25, 26, 27, 28, 29, 30, 31, 32, 33, 34, 35, 36, 37, 38, 39, 40, 41, 42, 43, 44]
/-- escutcheon/hour.first -/
def lc70 : LCode := .seq (.reg []
  [o1 0 (.assign (.const (.int .i64 0)))]) (.seq (.reg []
  [o1 0 (.assign (.const (.int .i64 (-62167219200))))]) (.ret))
theorem ls70 : Tryz.f70.body.map (strip Tryz.prog impCodA) = some lc70 := by kernel_rfl
theorem lcall70 : LC 70 1 lc70 [.tmp 0] := LC.of Tryz.func70 (by kernel_rfl) ls70 (by kernel_rfl) (by kernel_rfl)
/-- escutcheon/hour.last -/
def lc71 : LCode := .seq (.reg []
  [o1 0 (.assign (.const (.int .i64 0)))]) (.seq (.reg []
  [o1 1 (.call ⟨.value (.func 72), #[.const (.int .i64 10000)], #[3]⟩),
  o1 2 (.binOp .sub 3 (.tmp 1) (.const (.int .i64 719528)) 3),
  o1 3 (.binOp .mul 3 (.tmp 2) (.const (.int .i64 86400)) 3),
  o1 4 (.binOp .sub 3 (.tmp 3) (.const (.int .i64 1)) 3),
  o1 0 (.assign (.tmp 4))]) (.ret))
theorem ls71 : Tryz.f71.body.map (strip Tryz.prog impCodA) = some lc71 := by kernel_rfl
theorem lcall71 : LC 71 5 lc71 [.tmp 0] := LC.of Tryz.func71 (by kernel_rfl) ls71 (by kernel_rfl) (by kernel_rfl)
/-- escutcheon/hour.ahead -/
def lc72 : LCode := .seq (.reg []
  [o1 2 (.assign (.const (.int .i64 0)))]) (.seq (.reg []
  [o1 3 (.move (.tmp 0)),
  o1 4 (.binOp .mul 3 (.tmp 3) (.const (.int .i64 365)) 3),
  o1 5 (.move (.tmp 0)),
  o1 6 (.binOp .add 3 (.tmp 5) (.const (.int .i64 3)) 3),
  o1 7 (.binOp .quo 3 (.tmp 6) (.const (.int .i64 4)) 3),
  o1 8 (.binOp .add 3 (.tmp 4) (.tmp 7) 3),
  o1 9 (.move (.tmp 0)),
  o1 10 (.binOp .add 3 (.tmp 9) (.const (.int .i64 99)) 3),
  o1 11 (.binOp .quo 3 (.tmp 10) (.const (.int .i64 100)) 3),
  o1 12 (.binOp .sub 3 (.tmp 8) (.tmp 11) 3),
  o1 13 (.move (.tmp 0)),
  o1 14 (.binOp .add 3 (.tmp 13) (.const (.int .i64 399)) 3),
  o1 15 (.binOp .quo 3 (.tmp 14) (.const (.int .i64 400)) 3),
  o1 16 (.binOp .add 3 (.tmp 12) (.tmp 15) 3),
  o1 2 (.assign (.tmp 16))]) (.ret))
theorem ls72 : Tryz.f72.body.map (strip Tryz.prog impCodA) = some lc72 := by kernel_rfl
theorem lcall72 : LC 72 17 lc72 [.tmp 2] := LC.of Tryz.func72 (by kernel_rfl) ls72 (by kernel_rfl) (by kernel_rfl)
/-- escutcheon/hour.Days -/
def lc73 : LCode := .seq (.reg []
  [o1 4 (.assign (.const (.int .i64 0)))]) (.seq (.seq (.reg []
  [o1 5 (.move (.tmp 0)),
  o1 6 (.binOp .lss 3 (.tmp 5) (.const (.int .i64 0)) 3),
  o1 7 (.move (.tmp 6)),
  o2 8 (.move (.tmp 0)) 7 false,
  o2 9 (.binOp .gtr 3 (.tmp 8) (.const (.int .i64 9999)) 3) 7 false,
  o1 10 (.pick (.tmp 7) (.const (.bool true)) (.tmp 9)),
  o1 11 (.move (.tmp 10)),
  o2 12 (.move (.tmp 1)) 11 false,
  o2 13 (.binOp .lss 3 (.tmp 12) (.const (.int .i64 1)) 3) 11 false,
  o1 14 (.pick (.tmp 11) (.const (.bool true)) (.tmp 13)),
  o1 15 (.move (.tmp 14)),
  o2 16 (.move (.tmp 1)) 15 false,
  o2 17 (.binOp .gtr 3 (.tmp 16) (.const (.int .i64 12)) 3) 15 false,
  o1 18 (.pick (.tmp 15) (.const (.bool true)) (.tmp 17))]) (.cond (.tmp 18) (.seq (.reg []
  [o1 4 (.assign (.const (.int .i64 0)))]) (.ret)) (.skip))) (.seq (.seq (.reg []
  [o1 19 (.move (.tmp 1)),
  o1 20 (.binOp .eql 3 (.tmp 19) (.const (.int .i64 2)) 3),
  o1 21 (.move (.tmp 20)),
  o2 22 (.move (.tmp 0)) 21 true,
  o2 23 (.call ⟨.value (.func 96), #[.tmp 22], #[3]⟩) 21 true,
  o1 24 (.pick (.tmp 21) (.tmp 23) (.const (.bool false)))]) (.cond (.tmp 24) (.seq (.reg []
  [o1 4 (.assign (.const (.int .i64 29)))]) (.ret)) (.skip))) (.seq (.reg []
  [o1 25 (.move (.tmp 1)),
  o1 26 (.binOp .sub 3 (.tmp 25) (.const (.int .i64 1)) 3),
  o1 27 (.indexAddr 135 (.global 1) (.tmp 26)),
  o1 28 (.load 3 (.tmp 27)),
  o1 4 (.assign (.tmp 28))]) (.ret))))
theorem ls73 : Tryz.f73.body.map (strip Tryz.prog impCodA) = some lc73 := by kernel_rfl
theorem lcall73 : LC 73 29 lc73 [.tmp 4] := LC.of Tryz.func73 (by kernel_rfl) ls73 (by kernel_rfl) (by kernel_rfl)
/-- strconv.Itoa -/
def lc75 : LCode := .seq (.reg []
  [o1 2 (.assign (.const (.string { data := #[] })))]) (.seq (.reg []
  [o1 3 (.move (.tmp 0)),
  o1 4 (.call ⟨.value (.func 98), #[.tmp 3], #[3]⟩),
  o1 2 (.assign (.tmp 4))]) (.ret))
theorem ls75 : Tryz.f75.body.map (strip Tryz.prog impCodA) = some lc75 := by kernel_rfl
theorem lcall75 : LC 75 5 lc75 [.tmp 2] := LC.of Tryz.func75 (by kernel_rfl) ls75 (by kernel_rfl) (by kernel_rfl)
/-- strings.Repeat -/
def lc76 : LCode := .seq (.reg []
  [o1 4 (.assign (.const (.string { data := #[] })))]) (.seq (.seq (.reg []
  [o1 11 (.move (.tmp 1))]) (.block 0 (.seq (.reg []
  [o1 13 (.binOp .eql 3 (.tmp 11) (.const (.int .i64 0)) 3),
  o1 12 (.assign (.tmp 13))]) (.cond (.tmp 12) (.seq (.reg []
  [o1 4 (.assign (.const (.string { data := #[] })))]) (.ret)) (.seq (.reg []
  [o1 15 (.binOp .eql 3 (.tmp 11) (.const (.int .i64 1)) 3),
  o1 14 (.assign (.tmp 15))]) (.cond (.tmp 14) (.seq (.reg []
  [o1 16 (.move (.tmp 0)),
  o1 4 (.assign (.tmp 16))]) (.ret)) (.skip))))))) (.seq (.seq (.reg []
  [o1 17 (.move (.tmp 1)),
  o1 18 (.binOp .lss 3 (.tmp 17) (.const (.int .i64 0)) 3)]) (.cond (.tmp 18) (.reg []
  [o1 19 (.makeInterface 9 (.const (.string { data := #[115, 116, 114, 105, 110, 103, 115, 58, 32, 110, 101, 103, 97, 116, 105, 118, 101, 32, 82, 101, 112, 101, 97, 116, 32, 99, 111, 117, 110, 116] }))),
  o3 (.panic (.tmp 19))]) (.skip))) (.seq (.reg []
  [o1 21 (.move (.tmp 0)),
  o1 22 (.call ⟨.builtin .len, #[.tmp 21], #[9]⟩),
  o1 23 (.convert 3 138 (.tmp 22)),
  o1 24 (.move (.tmp 1)),
  o1 25 (.convert 3 138 (.tmp 24)),
  o1 26 (.call ⟨.value (.func 99), #[.tmp 23, .tmp 25], #[138, 138]⟩),
  o1 20 (.move (.tmp 26)),
  o1 27 (.extract (.tmp 20) 0),
  o1 28 (.extract (.tmp 20) 1),
  o1 5 (.assign (.tmp 27)),
  o1 6 (.assign (.tmp 28))]) (.seq (.seq (.reg []
  [o1 29 (.move (.tmp 5)),
  o1 30 (.binOp .gtr 138 (.tmp 29) (.const (.int .u64 0)) 138),
  o1 31 (.move (.tmp 30)),
  o2 32 (.move (.tmp 6)) 31 false,
  o2 33 (.binOp .gtr 138 (.tmp 32) (.const (.int .u64 9223372036854775807)) 138) 31 false,
  o1 34 (.pick (.tmp 31) (.const (.bool true)) (.tmp 33))]) (.cond (.tmp 34) (.reg []
  [o1 35 (.makeInterface 9 (.const (.string { data := #[115, 116, 114, 105, 110, 103, 115, 58, 32, 82, 101, 112, 101, 97, 116, 32, 111, 117, 116, 112, 117, 116, 32, 108, 101, 110, 103, 116, 104, 32, 111, 118, 101, 114, 102, 108, 111, 119] }))),
  o3 (.panic (.tmp 35))]) (.skip))) (.seq (.reg []
  [o1 36 (.move (.tmp 6)),
  o1 37 (.convert 138 3 (.tmp 36)),
  o1 7 (.assign (.tmp 37))]) (.seq (.seq (.reg []
  [o1 38 (.move (.tmp 0)),
  o1 39 (.call ⟨.builtin .len, #[.tmp 38], #[9]⟩),
  o1 40 (.binOp .eql 3 (.tmp 39) (.const (.int .i64 0)) 3)]) (.cond (.tmp 40) (.seq (.reg []
  [o1 4 (.assign (.const (.string { data := #[] })))]) (.ret)) (.skip))) (.seq (.seq (.reg []
  [o1 41 (.move (.tmp 0)),
  o1 42 (.index 9 (.tmp 41) (.const (.int .i64 0)))]) (.block 1 (.seq (.seq (.reg []
  [o1 44 (.binOp .eql 5 (.tmp 42) (.const (.int .u8 32)) 5),
  o1 43 (.assign (.tmp 44))]) (.cond (.tmp 43) (.skip) (.seq (.reg []
  [o1 45 (.binOp .eql 5 (.tmp 42) (.const (.int .u8 45)) 5),
  o1 43 (.assign (.tmp 45))]) (.cond (.tmp 43) (.skip) (.seq (.reg []
  [o1 46 (.binOp .eql 5 (.tmp 42) (.const (.int .u8 48)) 5),
  o1 43 (.assign (.tmp 46))]) (.cond (.tmp 43) (.skip) (.seq (.reg []
  [o1 47 (.binOp .eql 5 (.tmp 42) (.const (.int .u8 61)) 5),
  o1 43 (.assign (.tmp 47))]) (.cond (.tmp 43) (.skip) (.reg []
  [o1 48 (.binOp .eql 5 (.tmp 42) (.const (.int .u8 9)) 5),
  o1 43 (.assign (.tmp 48))]))))))))) (.cond (.tmp 43) (.block 2 (.seq (.reg []
  [o1 50 (.move (.tmp 7)),
  o1 51 (.binOp .leq 3 (.tmp 50) (.const (.int .i64 128)) 3),
  o1 52 (.move (.tmp 51)),
  o2 53 (.move (.tmp 0)) 52 true,
  o2 54 (.call ⟨.value (.func 59), #[.const (.string { data := #[32, 32, 32, 32, 32, 32, 32, 32, 32, 32, 32, 32, 32, 32, 32, 32, 32, 32, 32, 32, 32, 32, 32, 32, 32, 32, 32, 32, 32, 32, 32, 32, 32, 32, 32, 32, 32, 32, 32, 32, 32, 32, 32, 32, 32, 32, 32, 32, 32, 32, 32, 32, 32, 32, 32, 32, 32, 32, 32, 32, 32, 32, 32, 32, 32, 32, 32, 32, 32, 32, 32, 32, 32, 32, 32, 32, 32, 32, 32, 32, 32, 32, 32, 32, 32, 32, 32, 32, 32, 32, 32, 32, 32, 32, 32, 32, 32, 32, 32, 32, 32, 32, 32, 32, 32, 32, 32, 32, 32, 32, 32, 32, 32, 32, 32, 32, 32, 32, 32, 32, 32, 32, 32, 32, 32, 32, 32, 32] }), .tmp 53], #[9, 9]⟩) 52 true,
  o1 55 (.pick (.tmp 52) (.tmp 54) (.const (.bool false))),
  o1 49 (.assign (.tmp 55))]) (.cond (.tmp 49) (.seq (.reg []
  [o1 56 (.move (.tmp 7)),
  o1 57 (.slice 9 (.const (.string { data := #[32, 32, 32, 32, 32, 32, 32, 32, 32, 32, 32, 32, 32, 32, 32, 32, 32, 32, 32, 32, 32, 32, 32, 32, 32, 32, 32, 32, 32, 32, 32, 32, 32, 32, 32, 32, 32, 32, 32, 32, 32, 32, 32, 32, 32, 32, 32, 32, 32, 32, 32, 32, 32, 32, 32, 32, 32, 32, 32, 32, 32, 32, 32, 32, 32, 32, 32, 32, 32, 32, 32, 32, 32, 32, 32, 32, 32, 32, 32, 32, 32, 32, 32, 32, 32, 32, 32, 32, 32, 32, 32, 32, 32, 32, 32, 32, 32, 32, 32, 32, 32, 32, 32, 32, 32, 32, 32, 32, 32, 32, 32, 32, 32, 32, 32, 32, 32, 32, 32, 32, 32, 32, 32, 32, 32, 32, 32, 32] })) none (some (.tmp 56)) none),
  o1 4 (.assign (.tmp 57))]) (.ret)) (.seq (.reg []
  [o1 59 (.move (.tmp 7)),
  o1 60 (.binOp .leq 3 (.tmp 59) (.const (.int .i64 128)) 3),
  o1 61 (.move (.tmp 60)),
  o2 62 (.move (.tmp 0)) 61 true,
  o2 63 (.call ⟨.value (.func 59), #[.const (.string { data := #[45, 45, 45, 45, 45, 45, 45, 45, 45, 45, 45, 45, 45, 45, 45, 45, 45, 45, 45, 45, 45, 45, 45, 45, 45, 45, 45, 45, 45, 45, 45, 45, 45, 45, 45, 45, 45, 45, 45, 45, 45, 45, 45, 45, 45, 45, 45, 45, 45, 45, 45, 45, 45, 45, 45, 45, 45, 45, 45, 45, 45, 45, 45, 45, 45, 45, 45, 45, 45, 45, 45, 45, 45, 45, 45, 45, 45, 45, 45, 45, 45, 45, 45, 45, 45, 45, 45, 45, 45, 45, 45, 45, 45, 45, 45, 45, 45, 45, 45, 45, 45, 45, 45, 45, 45, 45, 45, 45, 45, 45, 45, 45, 45, 45, 45, 45, 45, 45, 45, 45, 45, 45, 45, 45, 45, 45, 45, 45] }), .tmp 62], #[9, 9]⟩) 61 true,
  o1 64 (.pick (.tmp 61) (.tmp 63) (.const (.bool false))),
  o1 58 (.assign (.tmp 64))]) (.cond (.tmp 58) (.seq (.reg []
  [o1 65 (.move (.tmp 7)),
  o1 66 (.slice 9 (.const (.string { data := #[45, 45, 45, 45, 45, 45, 45, 45, 45, 45, 45, 45, 45, 45, 45, 45, 45, 45, 45, 45, 45, 45, 45, 45, 45, 45, 45, 45, 45, 45, 45, 45, 45, 45, 45, 45, 45, 45, 45, 45, 45, 45, 45, 45, 45, 45, 45, 45, 45, 45, 45, 45, 45, 45, 45, 45, 45, 45, 45, 45, 45, 45, 45, 45, 45, 45, 45, 45, 45, 45, 45, 45, 45, 45, 45, 45, 45, 45, 45, 45, 45, 45, 45, 45, 45, 45, 45, 45, 45, 45, 45, 45, 45, 45, 45, 45, 45, 45, 45, 45, 45, 45, 45, 45, 45, 45, 45, 45, 45, 45, 45, 45, 45, 45, 45, 45, 45, 45, 45, 45, 45, 45, 45, 45, 45, 45, 45, 45] })) none (some (.tmp 65)) none),
  o1 4 (.assign (.tmp 66))]) (.ret)) (.seq (.reg []
  [o1 68 (.move (.tmp 7)),
  o1 69 (.binOp .leq 3 (.tmp 68) (.const (.int .i64 64)) 3),
  o1 70 (.move (.tmp 69)),
  o2 71 (.move (.tmp 0)) 70 true,
  o2 72 (.call ⟨.value (.func 59), #[.const (.string { data := #[48, 48, 48, 48, 48, 48, 48, 48, 48, 48, 48, 48, 48, 48, 48, 48, 48, 48, 48, 48, 48, 48, 48, 48, 48, 48, 48, 48, 48, 48, 48, 48, 48, 48, 48, 48, 48, 48, 48, 48, 48, 48, 48, 48, 48, 48, 48, 48, 48, 48, 48, 48, 48, 48, 48, 48, 48, 48, 48, 48, 48, 48, 48, 48] }), .tmp 71], #[9, 9]⟩) 70 true,
  o1 73 (.pick (.tmp 70) (.tmp 72) (.const (.bool false))),
  o1 67 (.assign (.tmp 73))]) (.cond (.tmp 67) (.seq (.reg []
  [o1 74 (.move (.tmp 7)),
  o1 75 (.slice 9 (.const (.string { data := #[48, 48, 48, 48, 48, 48, 48, 48, 48, 48, 48, 48, 48, 48, 48, 48, 48, 48, 48, 48, 48, 48, 48, 48, 48, 48, 48, 48, 48, 48, 48, 48, 48, 48, 48, 48, 48, 48, 48, 48, 48, 48, 48, 48, 48, 48, 48, 48, 48, 48, 48, 48, 48, 48, 48, 48, 48, 48, 48, 48, 48, 48, 48, 48] })) none (some (.tmp 74)) none),
  o1 4 (.assign (.tmp 75))]) (.ret)) (.seq (.reg []
  [o1 77 (.move (.tmp 7)),
  o1 78 (.binOp .leq 3 (.tmp 77) (.const (.int .i64 128)) 3),
  o1 79 (.move (.tmp 78)),
  o2 80 (.move (.tmp 0)) 79 true,
  o2 81 (.call ⟨.value (.func 59), #[.const (.string { data := #[61, 61, 61, 61, 61, 61, 61, 61, 61, 61, 61, 61, 61, 61, 61, 61, 61, 61, 61, 61, 61, 61, 61, 61, 61, 61, 61, 61, 61, 61, 61, 61, 61, 61, 61, 61, 61, 61, 61, 61, 61, 61, 61, 61, 61, 61, 61, 61, 61, 61, 61, 61, 61, 61, 61, 61, 61, 61, 61, 61, 61, 61, 61, 61, 61, 61, 61, 61, 61, 61, 61, 61, 61, 61, 61, 61, 61, 61, 61, 61, 61, 61, 61, 61, 61, 61, 61, 61, 61, 61, 61, 61, 61, 61, 61, 61, 61, 61, 61, 61, 61, 61, 61, 61, 61, 61, 61, 61, 61, 61, 61, 61, 61, 61, 61, 61, 61, 61, 61, 61, 61, 61, 61, 61, 61, 61, 61, 61] }), .tmp 80], #[9, 9]⟩) 79 true,
  o1 82 (.pick (.tmp 79) (.tmp 81) (.const (.bool false))),
  o1 76 (.assign (.tmp 82))]) (.cond (.tmp 76) (.seq (.reg []
  [o1 83 (.move (.tmp 7)),
  o1 84 (.slice 9 (.const (.string { data := #[61, 61, 61, 61, 61, 61, 61, 61, 61, 61, 61, 61, 61, 61, 61, 61, 61, 61, 61, 61, 61, 61, 61, 61, 61, 61, 61, 61, 61, 61, 61, 61, 61, 61, 61, 61, 61, 61, 61, 61, 61, 61, 61, 61, 61, 61, 61, 61, 61, 61, 61, 61, 61, 61, 61, 61, 61, 61, 61, 61, 61, 61, 61, 61, 61, 61, 61, 61, 61, 61, 61, 61, 61, 61, 61, 61, 61, 61, 61, 61, 61, 61, 61, 61, 61, 61, 61, 61, 61, 61, 61, 61, 61, 61, 61, 61, 61, 61, 61, 61, 61, 61, 61, 61, 61, 61, 61, 61, 61, 61, 61, 61, 61, 61, 61, 61, 61, 61, 61, 61, 61, 61, 61, 61, 61, 61, 61, 61] })) none (some (.tmp 83)) none),
  o1 4 (.assign (.tmp 84))]) (.ret)) (.seq (.reg []
  [o1 86 (.move (.tmp 7)),
  o1 87 (.binOp .leq 3 (.tmp 86) (.const (.int .i64 64)) 3),
  o1 88 (.move (.tmp 87)),
  o2 89 (.move (.tmp 0)) 88 true,
  o2 90 (.call ⟨.value (.func 59), #[.const (.string { data := #[9, 9, 9, 9, 9, 9, 9, 9, 9, 9, 9, 9, 9, 9, 9, 9, 9, 9, 9, 9, 9, 9, 9, 9, 9, 9, 9, 9, 9, 9, 9, 9, 9, 9, 9, 9, 9, 9, 9, 9, 9, 9, 9, 9, 9, 9, 9, 9, 9, 9, 9, 9, 9, 9, 9, 9, 9, 9, 9, 9, 9, 9, 9, 9] }), .tmp 89], #[9, 9]⟩) 88 true,
  o1 91 (.pick (.tmp 88) (.tmp 90) (.const (.bool false))),
  o1 85 (.assign (.tmp 91))]) (.cond (.tmp 85) (.seq (.reg []
  [o1 92 (.move (.tmp 7)),
  o1 93 (.slice 9 (.const (.string { data := #[9, 9, 9, 9, 9, 9, 9, 9, 9, 9, 9, 9, 9, 9, 9, 9, 9, 9, 9, 9, 9, 9, 9, 9, 9, 9, 9, 9, 9, 9, 9, 9, 9, 9, 9, 9, 9, 9, 9, 9, 9, 9, 9, 9, 9, 9, 9, 9, 9, 9, 9, 9, 9, 9, 9, 9, 9, 9, 9, 9, 9, 9, 9, 9] })) none (some (.tmp 92)) none),
  o1 4 (.assign (.tmp 93))]) (.ret)) (.skip)))))))))))) (.skip))))) (.seq (.reg []
  [o1 94 (.move (.tmp 7)),
  o1 8 (.assign (.tmp 94))]) (.seq (.seq (.reg []
  [o1 95 (.move (.tmp 7)),
  o1 96 (.binOp .gtr 3 (.tmp 95) (.const (.int .i64 8192)) 3)]) (.cond (.tmp 96) (.seq (.reg []
  [o1 97 (.move (.tmp 0)),
  o1 98 (.call ⟨.builtin .len, #[.tmp 97], #[9]⟩),
  o1 99 (.binOp .quo 3 (.const (.int .i64 8192)) (.tmp 98) 3),
  o1 100 (.move (.tmp 0)),
  o1 101 (.call ⟨.builtin .len, #[.tmp 100], #[9]⟩),
  o1 102 (.binOp .mul 3 (.tmp 99) (.tmp 101) 3),
  o1 8 (.assign (.tmp 102))]) (.seq (.reg []
  [o1 103 (.move (.tmp 8)),
  o1 104 (.binOp .eql 3 (.tmp 103) (.const (.int .i64 0)) 3)]) (.cond (.tmp 104) (.reg []
  [o1 105 (.move (.tmp 0)),
  o1 106 (.call ⟨.builtin .len, #[.tmp 105], #[9]⟩),
  o1 8 (.assign (.tmp 106))]) (.skip)))) (.skip))) (.seq (.reg []
  [o1 9 (.alloc 91)]) (.seq (.reg []
  [o1 107 (.move (.tmp 7)),
  o1 108 (.call ⟨.value (.func 100), #[.tmp 9, .tmp 107], #[91, 3]⟩)]) (.seq (.reg []
  [o1 109 (.move (.tmp 0)),
  o1 110 (.call ⟨.value (.func 48), #[.tmp 9, .tmp 109], #[91, 9]⟩)]) (.seq (.block 3 (.loop (.seq (.seq (.reg []
  [o1 111 (.call ⟨.value (.func 101), #[.tmp 9], #[91]⟩),
  o1 112 (.move (.tmp 7)),
  o1 113 (.binOp .lss 3 (.tmp 111) (.tmp 112) 3)]) (.cond (.tmp 113) (.skip) (.exit 3))) (.block 4 (.seq (.reg []
  [o1 114 (.move (.tmp 7)),
  o1 115 (.call ⟨.value (.func 101), #[.tmp 9], #[91]⟩),
  o1 116 (.binOp .sub 3 (.tmp 114) (.tmp 115) 3),
  o1 117 (.call ⟨.value (.func 101), #[.tmp 9], #[91]⟩),
  o1 118 (.move (.tmp 8)),
  o1 119 (.call ⟨.builtin .min, #[.tmp 116, .tmp 117, .tmp 118], #[3, 3, 3]⟩),
  o1 10 (.assign (.tmp 119))]) (.reg []
  [o1 120 (.call ⟨.value (.func 50), #[.tmp 9], #[91]⟩),
  o1 121 (.move (.tmp 10)),
  o1 122 (.slice 9 (.tmp 120) none (some (.tmp 121)) none),
  o1 123 (.call ⟨.value (.func 48), #[.tmp 9, .tmp 122], #[91, 9]⟩)])))))) (.seq (.reg []
  [o1 124 (.call ⟨.value (.func 50), #[.tmp 9], #[91]⟩),
  o1 4 (.assign (.tmp 124))]) (.ret)))))))))))))))
def ms76_0 : List Nat := [0, 1, 2, 3, 5, 6, 10, 11, 12, 13, 14, 15, 16, 17, 18, 19, 20, 21, 22, 23, 24, 25, 26, 27, 28, 29, 30, 31, 32, 33, 34, 35, 36, 37, 38, 39, 40, 41, 42, 43, 44, 45, 46, 47, 48, 49, 50, 51, 52, 53, 54, 55, 56, 57, 58, 59, 60, 61, 62, 63, 64, 65, 66, 67, 68, 69, 70, 71, 72, 73, 74, 75, 76, 77, 78, 79, 80, 81, 82, 83, 84, 85, 86, 87, 88, 89, 90, 91, 92, 93, 94, 95, 96, 97, 98, 99, 100, 101, 102, 103, 104, 105, 106, 107, 108, 109, 110, 111, 112, 113, 114, 115, 116, 117, 118, 119, 120, 121, 122, 123]
theorem ls76 : Tryz.f76.body.map (strip Tryz.prog impCodA) = some lc76 := by kernel_rfl
theorem lcall76 : LC 76 125 lc76 [.tmp 4] := LC.of Tryz.func76 (by kernel_rfl) ls76 (by kernel_rfl) (by kernel_rfl)
/-- escutcheon/escutcheonref21.year -/
def lc69 : LCode := .seq (.reg []
  [o1 2 (.assign (.const (.int .i64 0)))]) (.seq (.reg []
  [o1 3 (.assign (.const (.int .i64 0)))]) (.seq (.seq (.reg []
  [o1 4 (.assign (.const (.int .i64 1)))]) (.block 0 (.loop (.seq (.seq (.reg []
  [o1 5 (.move (.tmp 4)),
  o1 6 (.binOp .leq 3 (.tmp 5) (.const (.int .i64 12)) 3)]) (.cond (.tmp 6) (.skip) (.exit 0))) (.seq (.block 1 (.reg []
  [o1 9 (.move (.tmp 3)),
  o1 10 (.move (.tmp 0)),
  o1 11 (.move (.tmp 4)),
  o1 12 (.call ⟨.value (.func 42), #[.tmp 10, .tmp 11], #[3, 3]⟩),
  o1 13 (.binOp .add 3 (.tmp 9) (.tmp 12) 3),
  o1 3 (.assign (.tmp 13))])) (.reg []
  [o1 7 (.move (.tmp 4)),
  o1 8 (.binOp .add 3 (.tmp 7) (.const (.int .i64 1)) 3),
  o1 4 (.assign (.tmp 8))])))))) (.seq (.reg []
  [o1 14 (.move (.tmp 3)),
  o1 2 (.assign (.tmp 14))]) (.ret))))
def ms69_0 : List Nat := [1, 3, 4, 5, 6, 7, 8, 9, 10, 11, 12, 13]
/-- escutcheon/escutcheonref21.Days -/
def lc42 : LCode := .seq (.reg []
  [o1 4 (.assign (.const (.int .i64 0)))]) (.seq (.seq (.reg []
  [o1 5 (.move (.tmp 0)),
  o1 6 (.binOp .lss 3 (.tmp 5) (.const (.int .i64 0)) 3),
  o1 7 (.move (.tmp 6)),
  o2 8 (.move (.tmp 0)) 7 false,
  o2 9 (.binOp .gtr 3 (.tmp 8) (.const (.int .i64 9999)) 3) 7 false,
  o1 10 (.pick (.tmp 7) (.const (.bool true)) (.tmp 9)),
  o1 11 (.move (.tmp 10)),
  o2 12 (.move (.tmp 1)) 11 false,
  o2 13 (.binOp .lss 3 (.tmp 12) (.const (.int .i64 1)) 3) 11 false,
  o1 14 (.pick (.tmp 11) (.const (.bool true)) (.tmp 13)),
  o1 15 (.move (.tmp 14)),
  o2 16 (.move (.tmp 1)) 15 false,
  o2 17 (.binOp .gtr 3 (.tmp 16) (.const (.int .i64 12)) 3) 15 false,
  o1 18 (.pick (.tmp 15) (.const (.bool true)) (.tmp 17))]) (.cond (.tmp 18) (.seq (.reg []
  [o1 4 (.assign (.const (.int .i64 0)))]) (.ret)) (.skip))) (.seq (.seq (.reg []
  [o1 19 (.move (.tmp 1)),
  o1 20 (.binOp .eql 3 (.tmp 19) (.const (.int .i64 2)) 3)]) (.cond (.tmp 20) (.seq (.seq (.reg []
  [o1 21 (.move (.tmp 0)),
  o1 22 (.binOp .rem 3 (.tmp 21) (.const (.int .i64 400)) 3),
  o1 23 (.binOp .eql 3 (.tmp 22) (.const (.int .i64 0)) 3),
  o1 24 (.move (.tmp 23)),
  o2 25 (.move (.tmp 0)) 24 false,
  o2 26 (.binOp .rem 3 (.tmp 25) (.const (.int .i64 4)) 3) 24 false,
  o2 27 (.binOp .eql 3 (.tmp 26) (.const (.int .i64 0)) 3) 24 false,
  o2 28 (.move (.tmp 27)) 24 false,
  o2 29 (.move (.tmp 0)) 28 true,
  o2 30 (.binOp .rem 3 (.tmp 29) (.const (.int .i64 100)) 3) 28 true,
  o2 31 (.binOp .neq 3 (.tmp 30) (.const (.int .i64 0)) 3) 28 true,
  o2 32 (.pick (.tmp 28) (.tmp 31) (.const (.bool false))) 24 false,
  o1 33 (.pick (.tmp 24) (.const (.bool true)) (.tmp 32))]) (.cond (.tmp 33) (.seq (.reg []
  [o1 4 (.assign (.const (.int .i64 29)))]) (.ret)) (.skip))) (.seq (.reg []
  [o1 4 (.assign (.const (.int .i64 28)))]) (.ret))) (.skip))) (.seq (.seq (.reg []
  [o1 34 (.move (.tmp 1)),
  o1 35 (.binOp .eql 3 (.tmp 34) (.const (.int .i64 4)) 3),
  o1 36 (.move (.tmp 35)),
  o2 37 (.move (.tmp 1)) 36 false,
  o2 38 (.binOp .eql 3 (.tmp 37) (.const (.int .i64 6)) 3) 36 false,
  o1 39 (.pick (.tmp 36) (.const (.bool true)) (.tmp 38)),
  o1 40 (.move (.tmp 39)),
  o2 41 (.move (.tmp 1)) 40 false,
  o2 42 (.binOp .eql 3 (.tmp 41) (.const (.int .i64 9)) 3) 40 false,
  o1 43 (.pick (.tmp 40) (.const (.bool true)) (.tmp 42)),
  o1 44 (.move (.tmp 43)),
  o2 45 (.move (.tmp 1)) 44 false,
  o2 46 (.binOp .eql 3 (.tmp 45) (.const (.int .i64 11)) 3) 44 false,
  o1 47 (.pick (.tmp 44) (.const (.bool true)) (.tmp 46))]) (.cond (.tmp 47) (.seq (.reg []
  [o1 4 (.assign (.const (.int .i64 30)))]) (.ret)) (.skip))) (.seq (.reg []
  [o1 4 (.assign (.const (.int .i64 31)))]) (.ret)))))
/-- escutcheon/hour.Read -/
def lc68 : LCode := .seq (.reg []
  [o1 2 (.assign (.const (.int .i64 0))),
  o1 3 (.assign (.const (.int .i64 0)))]) (.seq (.reg [o1 10 (.move (.tmp 0)),
  o1 11 (.move (.tmp 0)),
  o1 12 (.call ⟨.builtin .len, #[.tmp 11], #[9]⟩),
  o1 13 (.call ⟨.builtin .min, #[.tmp 12, .const (.int .i64 19)], #[3, 3]⟩),
  o1 14 (.slice 9 (.tmp 10) none (some (.tmp 13)) none),
  o1 15 (.move (.tmp 0)),
  o1 16 (.move (.tmp 0)),
  o1 17 (.call ⟨.builtin .len, #[.tmp 16], #[9]⟩),
  o1 18 (.call ⟨.builtin .min, #[.tmp 17, .const (.int .i64 19)], #[3, 3]⟩),
  o1 19 (.slice 9 (.tmp 15) (some (.tmp 18)) none none),
  o1 4 (.assign (.tmp 14)),
  o1 5 (.assign (.tmp 19))]
  []) (.seq (.seq (.reg []
  [o1 20 (.move (.tmp 4)),
  o1 21 (.call ⟨.value (.func 92), #[.tmp 20, .const (.string { data := #[100, 100, 100, 100, 45, 100, 100, 45, 100, 100, 84, 100, 100, 58, 100, 100, 58, 100, 100] })], #[9, 9]⟩),
  o1 22 (.unOp .not 4 (.tmp 21)),
  o1 23 (.move (.tmp 22)),
  o2 24 (.move (.tmp 5)) 23 false,
  o2 25 (.binOp .neq 9 (.tmp 24) (.const (.string { data := #[90] })) 9) 23 false,
  o2 26 (.move (.tmp 25)) 23 false,
  o2 27 (.move (.tmp 5)) 26 true,
  o2 28 (.call ⟨.value (.func 92), #[.tmp 27, .const (.string { data := #[43, 100, 100, 58, 100, 100] })], #[9, 9]⟩) 26 true,
  o2 29 (.unOp .not 4 (.tmp 28)) 26 true,
  o2 30 (.pick (.tmp 26) (.tmp 29) (.const (.bool false))) 23 false,
  o2 31 (.move (.tmp 30)) 23 false,
  o2 32 (.move (.tmp 5)) 31 true,
  o2 33 (.call ⟨.value (.func 92), #[.tmp 32, .const (.string { data := #[45, 100, 100, 58, 100, 100] })], #[9, 9]⟩) 31 true,
  o2 34 (.unOp .not 4 (.tmp 33)) 31 true,
  o2 35 (.pick (.tmp 31) (.tmp 34) (.const (.bool false))) 23 false,
  o1 36 (.pick (.tmp 23) (.const (.bool true)) (.tmp 35))]) (.cond (.tmp 36) (.seq (.reg []
  [o1 2 (.assign (.const (.int .i64 0))),
  o1 3 (.assign (.const (.int .i64 2)))]) (.ret)) (.skip))) (.seq (.reg [o1 37 (.move (.tmp 0)),
  o1 38 (.slice 9 (.tmp 37) none (some (.const (.int .i64 4))) none),
  o1 39 (.call ⟨.value (.func 93), #[.tmp 38], #[9]⟩),
  o1 40 (.move (.tmp 0)),
  o1 41 (.slice 9 (.tmp 40) (some (.const (.int .i64 5))) (some (.const (.int .i64 7))) none),
  o1 42 (.call ⟨.value (.func 93), #[.tmp 41], #[9]⟩),
  o1 43 (.move (.tmp 0)),
  o1 44 (.slice 9 (.tmp 43) (some (.const (.int .i64 8))) (some (.const (.int .i64 10))) none),
  o1 45 (.call ⟨.value (.func 93), #[.tmp 44], #[9]⟩),
  o1 46 (.build 85 #[(0, .tmp 39), (1, .tmp 42), (2, .tmp 45)]),
  o1 47 (.move (.tmp 0)),
  o1 48 (.slice 9 (.tmp 47) (some (.const (.int .i64 11))) (some (.const (.int .i64 13))) none),
  o1 49 (.call ⟨.value (.func 93), #[.tmp 48], #[9]⟩),
  o1 50 (.move (.tmp 0)),
  o1 51 (.slice 9 (.tmp 50) (some (.const (.int .i64 14))) (some (.const (.int .i64 16))) none),
  o1 52 (.call ⟨.value (.func 93), #[.tmp 51], #[9]⟩),
  o1 53 (.move (.tmp 0)),
  o1 54 (.slice 9 (.tmp 53) (some (.const (.int .i64 17))) (some (.const (.int .i64 19))) none),
  o1 55 (.call ⟨.value (.func 93), #[.tmp 54], #[9]⟩),
  o1 56 (.build 87 #[(0, .tmp 46), (1, .tmp 49), (2, .tmp 52), (3, .tmp 55)]),
  o1 6 (.alloc 87)]
  [o3 (.store 87 (.tmp 6) (.tmp 56))]) (.seq (.reg []
  [o1 7 (.assign (.const (.int .i64 0)))]) (.seq (.seq (.reg []
  [o1 57 (.move (.tmp 5)),
  o1 58 (.binOp .neq 9 (.tmp 57) (.const (.string { data := #[90] })) 9)]) (.cond (.tmp 58) (.seq (.reg [o1 59 (.move (.tmp 5)),
  o1 60 (.slice 9 (.tmp 59) (some (.const (.int .i64 1))) (some (.const (.int .i64 3))) none),
  o1 61 (.call ⟨.value (.func 93), #[.tmp 60], #[9]⟩),
  o1 62 (.move (.tmp 5)),
  o1 63 (.slice 9 (.tmp 62) (some (.const (.int .i64 4))) none none),
  o1 64 (.call ⟨.value (.func 93), #[.tmp 63], #[9]⟩),
  o1 8 (.assign (.tmp 61)),
  o1 9 (.assign (.tmp 64))]
  []) (.seq (.seq (.reg []
  [o1 65 (.move (.tmp 8)),
  o1 66 (.binOp .gtr 3 (.tmp 65) (.const (.int .i64 23)) 3),
  o1 67 (.move (.tmp 66)),
  o2 68 (.move (.tmp 9)) 67 false,
  o2 69 (.binOp .gtr 3 (.tmp 68) (.const (.int .i64 59)) 3) 67 false,
  o1 70 (.pick (.tmp 67) (.const (.bool true)) (.tmp 69))]) (.cond (.tmp 70) (.seq (.reg []
  [o1 2 (.assign (.const (.int .i64 0))),
  o1 3 (.assign (.const (.int .i64 12)))]) (.ret)) (.skip))) (.reg []
  [o1 71 (.move (.tmp 8)),
  o1 72 (.binOp .mul 3 (.tmp 71) (.const (.int .i64 3600)) 3),
  o1 73 (.move (.tmp 9)),
  o1 74 (.binOp .mul 3 (.tmp 73) (.const (.int .i64 60)) 3),
  o1 75 (.binOp .add 3 (.tmp 72) (.tmp 74) 3),
  o1 7 (.assign (.tmp 75))]))) (.skip))) (.seq (.seq (.reg []
  [o1 76 (.move (.tmp 5)),
  o1 77 (.index 9 (.tmp 76) (.const (.int .i64 0))),
  o1 78 (.binOp .eql 5 (.tmp 77) (.const (.int .u8 43)) 5)]) (.cond (.tmp 78) (.reg []
  [o1 79 (.move (.tmp 7)),
  o1 80 (.unOp .neg 3 (.tmp 79)),
  o1 7 (.assign (.tmp 80))]) (.skip))) (.seq (.seq (.reg []
  [o1 81 (.load 87 (.tmp 6)),
  o1 82 (.call ⟨.value (.func 94), #[.tmp 81], #[87]⟩),
  o1 83 (.unOp .not 4 (.tmp 82)),
  o1 84 (.move (.tmp 83)),
  o2 85 (.load 87 (.tmp 6)) 84 false,
  o2 86 (.call ⟨.value (.func 95), #[.tmp 85], #[87]⟩) 84 false,
  o2 87 (.move (.tmp 7)) 84 false,
  o2 88 (.binOp .add 3 (.tmp 86) (.tmp 87) 3) 84 false,
  o2 89 (.call ⟨.value (.func 46), #[.tmp 88], #[3]⟩) 84 false,
  o2 90 (.unOp .not 4 (.tmp 89)) 84 false,
  o1 91 (.pick (.tmp 84) (.const (.bool true)) (.tmp 90))]) (.cond (.tmp 91) (.seq (.reg []
  [o1 2 (.assign (.const (.int .i64 0))),
  o1 3 (.assign (.const (.int .i64 12)))]) (.ret)) (.skip))) (.seq (.reg []
  [o1 92 (.load 87 (.tmp 6)),
  o1 93 (.call ⟨.value (.func 95), #[.tmp 92], #[87]⟩),
  o1 94 (.move (.tmp 7)),
  o1 95 (.binOp .add 3 (.tmp 93) (.tmp 94) 3),
  o1 2 (.assign (.tmp 95)),
  o1 3 (.assign (.const (.int .i64 0)))]) (.ret)))))))))
theorem ls68 : Tryz.f68.body.map (strip Tryz.prog impCodA) = some lc68 := by kernel_rfl
theorem lcall68 : LC 68 96 lc68 [.tmp 2, .tmp 3] := LC.of Tryz.func68 (by kernel_rfl) ls68 (by kernel_rfl) (by kernel_rfl)
/-- escutcheon/hour.leap -/
def lc96 : LCode := .seq (.reg []
  [o1 2 (.assign (.const (.bool false)))]) (.seq (.reg []
  [o1 3 (.move (.tmp 0)),
  o1 4 (.binOp .rem 3 (.tmp 3) (.const (.int .i64 4)) 3),
  o1 5 (.binOp .eql 3 (.tmp 4) (.const (.int .i64 0)) 3),
  o1 6 (.move (.tmp 5)),
  o2 7 (.move (.tmp 0)) 6 true,
  o2 8 (.binOp .rem 3 (.tmp 7) (.const (.int .i64 100)) 3) 6 true,
  o2 9 (.binOp .neq 3 (.tmp 8) (.const (.int .i64 0)) 3) 6 true,
  o2 10 (.move (.tmp 9)) 6 true,
  o2 11 (.move (.tmp 0)) 10 false,
  o2 12 (.binOp .rem 3 (.tmp 11) (.const (.int .i64 400)) 3) 10 false,
  o2 13 (.binOp .eql 3 (.tmp 12) (.const (.int .i64 0)) 3) 10 false,
  o2 14 (.pick (.tmp 10) (.const (.bool true)) (.tmp 13)) 6 true,
  o1 15 (.pick (.tmp 6) (.tmp 14) (.const (.bool false))),
  o1 2 (.assign (.tmp 15))]) (.ret))
theorem ls96 : Tryz.f96.body.map (strip Tryz.prog impCodA) = some lc96 := by kernel_rfl
theorem lcall96 : LC 96 16 lc96 [.tmp 2] := LC.of Tryz.func96 (by kernel_rfl) ls96 (by kernel_rfl) (by kernel_rfl)
/-- internal/strconv.Itoa -/
def lc98 : LCode := .seq (.reg []
  [o1 2 (.assign (.const (.string { data := #[] })))]) (.seq (.reg []
  [o1 3 (.move (.tmp 0)),
  o1 4 (.call ⟨.value (.func 113), #[.tmp 3, .const (.int .i64 10)], #[2, 3]⟩),
  o1 2 (.assign (.tmp 4))]) (.ret))
theorem ls98 : Tryz.f98.body.map (strip Tryz.prog impCodA) = some lc98 := by kernel_rfl
theorem lcall98 : LC 98 5 lc98 [.tmp 2] := LC.of Tryz.func98 (by kernel_rfl) ls98 (by kernel_rfl) (by kernel_rfl)
/-- math/bits.Mul -/
def lc99 : LCode := .seq (.reg []
  [o1 4 (.assign (.const (.int .u64 0))),
  o1 5 (.assign (.const (.int .u64 0)))]) (.seq (.cond (.const (.bool false)) (.seq (.reg []
  [o1 11 (.move (.tmp 0)),
  o1 12 (.convert 138 151 (.tmp 11)),
  o1 13 (.move (.tmp 1)),
  o1 14 (.convert 138 151 (.tmp 13)),
  o1 15 (.call ⟨.value (.func 114), #[.tmp 12, .tmp 14], #[151, 151]⟩),
  o1 10 (.move (.tmp 15)),
  o1 16 (.extract (.tmp 10) 0),
  o1 17 (.extract (.tmp 10) 1),
  o1 6 (.assign (.tmp 16)),
  o1 7 (.assign (.tmp 17))]) (.seq (.reg []
  [o1 18 (.move (.tmp 6)),
  o1 19 (.convert 151 138 (.tmp 18)),
  o1 20 (.move (.tmp 7)),
  o1 21 (.convert 151 138 (.tmp 20)),
  o1 4 (.assign (.tmp 19)),
  o1 5 (.assign (.tmp 21))]) (.ret))) (.skip)) (.seq (.reg []
  [o1 23 (.move (.tmp 0)),
  o1 24 (.move (.tmp 1)),
  o1 25 (.call ⟨.value (.func 115), #[.tmp 23, .tmp 24], #[128, 128]⟩),
  o1 22 (.move (.tmp 25)),
  o1 26 (.extract (.tmp 22) 0),
  o1 27 (.extract (.tmp 22) 1),
  o1 8 (.assign (.tmp 26)),
  o1 9 (.assign (.tmp 27))]) (.seq (.reg []
  [o1 28 (.move (.tmp 8)),
  o1 29 (.move (.tmp 9)),
  o1 4 (.assign (.tmp 28)),
  o1 5 (.assign (.tmp 29))]) (.ret))))
theorem ls99 : Tryz.f99.body.map (strip Tryz.prog impCodA) = some lc99 := by kernel_rfl
theorem lcall99 : LC 99 30 lc99 [.tmp 4, .tmp 5] := LC.of Tryz.func99 (by kernel_rfl) ls99 (by kernel_rfl) (by kernel_rfl)
/-- strings.HasPrefix -/
def lc59 : LCode := .seq (.reg []
  [o1 4 (.assign (.const (.bool false)))]) (.seq (.reg []
  [o1 5 (.move (.tmp 0)),
  o1 6 (.move (.tmp 1)),
  o1 7 (.call ⟨.value (.func 85), #[.tmp 5, .tmp 6], #[9, 9]⟩),
  o1 4 (.assign (.tmp 7))]) (.ret))
theorem ls59 : Tryz.f59.body.map (strip Tryz.prog impCodA) = some lc59 := by kernel_rfl
theorem lcall59 : LC 59 8 lc59 [.tmp 4] := LC.of Tryz.func59 (by kernel_rfl) ls59 (by kernel_rfl) (by kernel_rfl)
/-- (*strings.Builder).Len -/
def lc101 : LCode := .seq (.reg []
  [o1 2 (.assign (.const (.int .i64 0)))]) (.seq (.reg []
  [o1 3 (.move (.tmp 0)),
  o1 4 (.nilCheck (.tmp 3)),
  o1 5 (.fieldAddr 91 (.tmp 4) 1),
  o1 6 (.load 22 (.tmp 5)),
  o1 7 (.call ⟨.builtin .len, #[.tmp 6], #[22]⟩),
  o1 2 (.assign (.tmp 7))]) (.ret))
/-- escutcheon/hour.fits -/
def lc92 : LCode := .seq (.reg []
  [o1 4 (.assign (.const (.bool false)))]) (.seq (.seq (.reg []
  [o1 7 (.move (.tmp 0)),
  o1 8 (.call ⟨.builtin .len, #[.tmp 7], #[9]⟩),
  o1 9 (.move (.const (.int .i64 0)))]) (.block 0 (.loop (.seq (.reg []
  [o1 10 (.binOp .lss 3 (.tmp 9) (.tmp 8) 3)]) (.seq (.cond (.tmp 10) (.skip) (.exit 0)) (.seq (.block 1 (.seq (.reg []
  [o1 11 (.move (.tmp 9)),
  o1 5 (.assign (.tmp 11))]) (.seq (.reg []
  [o1 12 (.move (.tmp 0)),
  o1 13 (.move (.tmp 5)),
  o1 14 (.index 9 (.tmp 12) (.tmp 13)),
  o1 15 (.binOp .geq 5 (.tmp 14) (.const (.int .u8 48)) 5),
  o1 16 (.move (.tmp 15)),
  o2 17 (.move (.tmp 0)) 16 true,
  o2 18 (.move (.tmp 5)) 16 true,
  o2 19 (.index 9 (.tmp 17) (.tmp 18)) 16 true,
  o2 20 (.binOp .leq 5 (.tmp 19) (.const (.int .u8 57)) 5) 16 true,
  o1 21 (.pick (.tmp 16) (.tmp 20) (.const (.bool false))),
  o1 6 (.assign (.tmp 21))]) (.seq (.reg [o1 22 (.move (.tmp 5)),
  o1 23 (.move (.tmp 1)),
  o1 24 (.call ⟨.builtin .len, #[.tmp 23], #[9]⟩),
  o1 25 (.binOp .geq 3 (.tmp 22) (.tmp 24) 3),
  o1 26 (.move (.tmp 25)),
  o2 27 (.move (.tmp 6)) 26 false,
  o2 28 (.move (.tmp 1)) 26 false,
  o2 29 (.move (.tmp 5)) 26 false,
  o2 30 (.index 9 (.tmp 28) (.tmp 29)) 26 false,
  o2 31 (.binOp .eql 5 (.tmp 30) (.const (.int .u8 100)) 5) 26 false,
  o2 32 (.binOp .neq 4 (.tmp 27) (.tmp 31) 4) 26 false,
  o1 33 (.pick (.tmp 26) (.const (.bool true)) (.tmp 32)),
  o1 34 (.move (.tmp 33)),
  o2 35 (.move (.tmp 6)) 34 false,
  o2 36 (.unOp .not 4 (.tmp 35)) 34 false,
  o2 37 (.move (.tmp 36)) 34 false,
  o2 38 (.move (.tmp 0)) 37 true,
  o2 39 (.move (.tmp 5)) 37 true,
  o2 40 (.index 9 (.tmp 38) (.tmp 39)) 37 true,
  o2 41 (.move (.tmp 1)) 37 true,
  o2 42 (.move (.tmp 5)) 37 true,
  o2 43 (.index 9 (.tmp 41) (.tmp 42)) 37 true,
  o2 44 (.binOp .neq 5 (.tmp 40) (.tmp 43) 5) 37 true,
  o2 45 (.pick (.tmp 37) (.tmp 44) (.const (.bool false))) 34 false,
  o1 46 (.pick (.tmp 34) (.const (.bool true)) (.tmp 45))]
  []) (.cond (.tmp 46) (.seq (.reg []
  [o1 4 (.assign (.const (.bool false)))]) (.ret)) (.skip)))))) (.reg []
  [o1 47 (.binOp .add 3 (.tmp 9) (.const (.int .i64 1)) 3),
  o1 9 (.move (.tmp 47))]))))))) (.seq (.reg []
  [o1 48 (.move (.tmp 0)),
  o1 49 (.call ⟨.builtin .len, #[.tmp 48], #[9]⟩),
  o1 50 (.move (.tmp 1)),
  o1 51 (.call ⟨.builtin .len, #[.tmp 50], #[9]⟩),
  o1 52 (.binOp .eql 3 (.tmp 49) (.tmp 51) 3),
  o1 4 (.assign (.tmp 52))]) (.ret)))
def ms92_0 : List Nat := [2, 3, 4, 5, 6, 7, 9, 10, 11, 12, 13, 14, 15, 16, 17, 18, 19, 20, 21, 22, 23, 24, 25, 26, 27, 28, 29, 30, 31, 32, 33, 34, 35, 36, 37, 38, 39, 40, 41, 42, 43, 44, 45, 46, 47]
theorem ls92 : Tryz.f92.body.map (strip Tryz.prog impCodA) = some lc92 := by kernel_rfl
theorem lcall92 : LC 92 53 lc92 [.tmp 4] := LC.of Tryz.func92 (by kernel_rfl) ls92 (by kernel_rfl) (by kernel_rfl)
/-- escutcheon/hour.number -/
def lc93 : LCode := .seq (.reg []
  [o1 2 (.assign (.const (.int .i64 0)))]) (.seq (.reg []
  [o1 6 (.move (.tmp 0)),
  o1 7 (.call ⟨.value (.func 111), #[.tmp 6], #[9]⟩),
  o1 5 (.move (.tmp 7)),
  o1 8 (.extract (.tmp 5) 0),
  o1 9 (.extract (.tmp 5) 1),
  o1 3 (.assign (.tmp 8)),
  o1 4 (.assign (.tmp 9))]) (.seq (.reg []
  [o1 10 (.move (.tmp 3)),
  o1 2 (.assign (.tmp 10))]) (.ret)))
theorem ls93 : Tryz.f93.body.map (strip Tryz.prog impCodA) = some lc93 := by kernel_rfl
theorem lcall93 : LC 93 11 lc93 [.tmp 2] := LC.of Tryz.func93 (by kernel_rfl) ls93 (by kernel_rfl) (by kernel_rfl)
/-- (escutcheon/hour.moment).good -/
def lc94 : LCode := .seq (.reg []
  [o1 1 (.box 87 (.tmp 0)),
  o1 2 (.assign (.const (.bool false)))]) (.seq (.reg [o1 3 (.fieldAddr 87 (.tmp 1) 0),
  o1 4 (.fieldAddr 85 (.tmp 3) 1),
  o1 5 (.load 3 (.tmp 4)),
  o1 6 (.binOp .geq 3 (.tmp 5) (.const (.int .i64 1)) 3),
  o1 7 (.move (.tmp 6)),
  o2 8 (.fieldAddr 87 (.tmp 1) 0) 7 true,
  o2 9 (.fieldAddr 85 (.tmp 8) 1) 7 true,
  o2 10 (.load 3 (.tmp 9)) 7 true,
  o2 11 (.binOp .leq 3 (.tmp 10) (.const (.int .i64 12)) 3) 7 true,
  o1 12 (.pick (.tmp 7) (.tmp 11) (.const (.bool false))),
  o1 13 (.move (.tmp 12)),
  o2 14 (.fieldAddr 87 (.tmp 1) 0) 13 true,
  o2 15 (.fieldAddr 85 (.tmp 14) 2) 13 true,
  o2 16 (.load 3 (.tmp 15)) 13 true,
  o2 17 (.binOp .geq 3 (.tmp 16) (.const (.int .i64 1)) 3) 13 true,
  o1 18 (.pick (.tmp 13) (.tmp 17) (.const (.bool false))),
  o1 19 (.move (.tmp 18)),
  o2 20 (.fieldAddr 87 (.tmp 1) 0) 19 true,
  o2 21 (.fieldAddr 85 (.tmp 20) 2) 19 true,
  o2 22 (.load 3 (.tmp 21)) 19 true,
  o2 23 (.fieldAddr 87 (.tmp 1) 0) 19 true,
  o2 24 (.fieldAddr 85 (.tmp 23) 0) 19 true,
  o2 25 (.load 3 (.tmp 24)) 19 true,
  o2 26 (.fieldAddr 87 (.tmp 1) 0) 19 true,
  o2 27 (.fieldAddr 85 (.tmp 26) 1) 19 true,
  o2 28 (.load 3 (.tmp 27)) 19 true,
  o2 29 (.call ⟨.value (.func 73), #[.tmp 25, .tmp 28], #[3, 3]⟩) 19 true,
  o2 30 (.binOp .leq 3 (.tmp 22) (.tmp 29) 3) 19 true,
  o1 31 (.pick (.tmp 19) (.tmp 30) (.const (.bool false))),
  o1 32 (.move (.tmp 31)),
  o2 33 (.fieldAddr 87 (.tmp 1) 1) 32 true,
  o2 34 (.load 3 (.tmp 33)) 32 true,
  o2 35 (.binOp .leq 3 (.tmp 34) (.const (.int .i64 23)) 3) 32 true,
  o1 36 (.pick (.tmp 32) (.tmp 35) (.const (.bool false))),
  o1 37 (.move (.tmp 36)),
  o2 38 (.fieldAddr 87 (.tmp 1) 2) 37 true,
  o2 39 (.load 3 (.tmp 38)) 37 true,
  o2 40 (.binOp .leq 3 (.tmp 39) (.const (.int .i64 59)) 3) 37 true,
  o1 41 (.pick (.tmp 37) (.tmp 40) (.const (.bool false))),
  o1 42 (.move (.tmp 41)),
  o2 43 (.fieldAddr 87 (.tmp 1) 3) 42 true,
  o2 44 (.load 3 (.tmp 43)) 42 true,
  o2 45 (.binOp .leq 3 (.tmp 44) (.const (.int .i64 59)) 3) 42 true,
  o1 46 (.pick (.tmp 42) (.tmp 45) (.const (.bool false))),
  o1 2 (.assign (.tmp 46))]
  []) (.ret))
theorem ls94 : Tryz.f94.body.map (strip Tryz.prog impCodA) = some lc94 := by kernel_rfl
theorem lcall94 : LC 94 47 lc94 [.tmp 2] := LC.of Tryz.func94 (by kernel_rfl) ls94 (by kernel_rfl) (by kernel_rfl)
/-- (escutcheon/hour.moment).seconds -/
def lc95 : LCode := .seq (.reg []
  [o1 1 (.box 87 (.tmp 0)),
  o1 2 (.assign (.const (.int .i64 0)))]) (.seq (.reg [o1 3 (.fieldAddr 87 (.tmp 1) 0),
  o1 4 (.load 85 (.tmp 3)),
  o1 5 (.call ⟨.value (.func 112), #[.tmp 4], #[85]⟩),
  o1 6 (.binOp .sub 3 (.tmp 5) (.const (.int .i64 719528)) 3),
  o1 7 (.binOp .mul 3 (.tmp 6) (.const (.int .i64 86400)) 3),
  o1 8 (.fieldAddr 87 (.tmp 1) 1),
  o1 9 (.load 3 (.tmp 8)),
  o1 10 (.binOp .mul 3 (.tmp 9) (.const (.int .i64 3600)) 3),
  o1 11 (.binOp .add 3 (.tmp 7) (.tmp 10) 3),
  o1 12 (.fieldAddr 87 (.tmp 1) 2),
  o1 13 (.load 3 (.tmp 12)),
  o1 14 (.binOp .mul 3 (.tmp 13) (.const (.int .i64 60)) 3),
  o1 15 (.binOp .add 3 (.tmp 11) (.tmp 14) 3),
  o1 16 (.fieldAddr 87 (.tmp 1) 3),
  o1 17 (.load 3 (.tmp 16)),
  o1 18 (.binOp .add 3 (.tmp 15) (.tmp 17) 3),
  o1 2 (.assign (.tmp 18))]
  []) (.ret))
theorem ls95 : Tryz.f95.body.map (strip Tryz.prog impCodA) = some lc95 := by kernel_rfl
theorem lcall95 : LC 95 19 lc95 [.tmp 2] := LC.of Tryz.func95 (by kernel_rfl) ls95 (by kernel_rfl) (by kernel_rfl)
/-- internal/strconv.FormatInt -/
def lc113 : LCode := .seq (.reg []
  [o1 4 (.assign (.const (.string { data := #[] })))]) (.seq (.seq (.reg []
  [o1 10 (.move (.tmp 1)),
  o1 11 (.binOp .eql 3 (.tmp 10) (.const (.int .i64 10)) 3)]) (.cond (.tmp 11) (.seq (.seq (.reg []
  [o1 12 (.move (.tmp 0)),
  o1 13 (.binOp .leq 2 (.const (.int .i64 0)) (.tmp 12) 2),
  o1 14 (.move (.tmp 13)),
  o2 15 (.move (.tmp 0)) 14 true,
  o2 16 (.binOp .lss 2 (.tmp 15) (.const (.int .i64 100)) 2) 14 true,
  o1 17 (.pick (.tmp 14) (.tmp 16) (.const (.bool false)))]) (.cond (.tmp 17) (.seq (.reg []
  [o1 18 (.move (.tmp 0)),
  o1 19 (.call ⟨.value (.func 129), #[.tmp 18], #[3]⟩),
  o1 4 (.assign (.tmp 19))]) (.ret)) (.skip))) (.seq (.reg []
  [o1 5 (.alloc 162)]) (.seq (.reg []
  [o1 20 (.move (.tmp 0)),
  o1 21 (.convert 2 128 (.tmp 20)),
  o1 6 (.assign (.tmp 21))]) (.seq (.seq (.reg []
  [o1 22 (.move (.tmp 0)),
  o1 23 (.binOp .lss 2 (.tmp 22) (.const (.int .i64 0)) 2)]) (.cond (.tmp 23) (.reg []
  [o1 24 (.move (.tmp 6)),
  o1 25 (.unOp .neg 128 (.tmp 24)),
  o1 6 (.assign (.tmp 25))]) (.skip))) (.seq (.reg []
  [o1 26 (.move (.tmp 6)),
  o1 27 (.call ⟨.value (.func 130), #[.tmp 26], #[128]⟩),
  o1 7 (.assign (.tmp 27))]) (.seq (.reg []
  [o1 28 (.move (.tmp 7)),
  o1 29 (.binOp .add 3 (.const (.int .i64 1)) (.tmp 28) 3),
  o1 30 (.slice 162 (.tmp 5) (some (.const (.int .i64 1))) (some (.tmp 29)) none),
  o1 31 (.move (.tmp 6)),
  o1 32 (.call ⟨.value (.func 131), #[.tmp 30, .tmp 31], #[22, 128]⟩)]) (.seq (.seq (.reg []
  [o1 33 (.move (.tmp 0)),
  o1 34 (.binOp .lss 2 (.tmp 33) (.const (.int .i64 0)) 2)]) (.cond (.tmp 34) (.seq (.reg []
  [o1 35 (.indexAddr 162 (.tmp 5) (.const (.int .i64 0))),
  o3 (.store 5 (.tmp 35) (.const (.int .u8 45)))]) (.seq (.reg []
  [o1 36 (.move (.tmp 7)),
  o1 37 (.binOp .add 3 (.const (.int .i64 1)) (.tmp 36) 3),
  o1 38 (.slice 162 (.tmp 5) none (some (.tmp 37)) none),
  o1 39 (.convert 22 9 (.tmp 38)),
  o1 4 (.assign (.tmp 39))]) (.ret))) (.skip))) (.seq (.reg []
  [o1 40 (.move (.tmp 7)),
  o1 41 (.binOp .add 3 (.const (.int .i64 1)) (.tmp 40) 3),
  o1 42 (.slice 162 (.tmp 5) (some (.const (.int .i64 1))) (some (.tmp 41)) none),
  o1 43 (.convert 22 9 (.tmp 42)),
  o1 4 (.assign (.tmp 43))]) (.ret))))))))) (.skip))) (.seq (.reg []
  [o1 45 (.move (.tmp 0)),
  o1 46 (.convert 2 128 (.tmp 45)),
  o1 47 (.move (.tmp 1)),
  o1 48 (.move (.tmp 0)),
  o1 49 (.binOp .lss 2 (.tmp 48) (.const (.int .i64 0)) 2),
  o1 50 (.call ⟨.value (.func 132), #[.const (.slice none 0 0), .tmp 46, .tmp 47, .tmp 49, .const (.bool false)], #[22, 128, 3, 4, 4]⟩),
  o1 44 (.move (.tmp 50)),
  o1 51 (.extract (.tmp 44) 0),
  o1 52 (.extract (.tmp 44) 1),
  o1 8 (.assign (.tmp 51)),
  o1 9 (.assign (.tmp 52))]) (.seq (.reg []
  [o1 53 (.move (.tmp 9)),
  o1 4 (.assign (.tmp 53))]) (.ret))))
theorem ls113 : Tryz.f113.body.map (strip Tryz.prog impCodA) = some lc113 := by kernel_rfl
theorem lcall113 : LC 113 54 lc113 [.tmp 4] := LC.of Tryz.func113 (by kernel_rfl) ls113 (by kernel_rfl) (by kernel_rfl)
/-- math/bits.Mul32 -/
def lc114 : LCode := .seq (.reg []
  [o1 4 (.assign (.const (.int .u32 0))),
  o1 5 (.assign (.const (.int .u32 0)))]) (.seq (.reg []
  [o1 7 (.move (.tmp 0)),
  o1 8 (.convert 151 128 (.tmp 7)),
  o1 9 (.move (.tmp 1)),
  o1 10 (.convert 151 128 (.tmp 9)),
  o1 11 (.binOp .mul 128 (.tmp 8) (.tmp 10) 128),
  o1 6 (.assign (.tmp 11))]) (.seq (.reg []
  [o1 12 (.move (.tmp 6)),
  o1 13 (.binOp .shr 128 (.tmp 12) (.const (.int .u64 32)) 138),
  o1 14 (.convert 128 151 (.tmp 13)),
  o1 15 (.move (.tmp 6)),
  o1 16 (.convert 128 151 (.tmp 15)),
  o1 4 (.assign (.tmp 14)),
  o1 5 (.assign (.tmp 16))]) (.ret)))
/-- math/bits.Mul64 -/
def lc115 : LCode := .seq (.reg []
  [o1 4 (.assign (.const (.int .u64 0))),
  o1 5 (.assign (.const (.int .u64 0)))]) (.seq (.reg []
  [o1 14 (.move (.tmp 0)),
  o1 15 (.binOp .and 128 (.tmp 14) (.const (.int .u64 4294967295)) 128),
  o1 6 (.assign (.tmp 15))]) (.seq (.reg []
  [o1 16 (.move (.tmp 0)),
  o1 17 (.binOp .shr 128 (.tmp 16) (.const (.int .u64 32)) 138),
  o1 7 (.assign (.tmp 17))]) (.seq (.reg []
  [o1 18 (.move (.tmp 1)),
  o1 19 (.binOp .and 128 (.tmp 18) (.const (.int .u64 4294967295)) 128),
  o1 8 (.assign (.tmp 19))]) (.seq (.reg []
  [o1 20 (.move (.tmp 1)),
  o1 21 (.binOp .shr 128 (.tmp 20) (.const (.int .u64 32)) 138),
  o1 9 (.assign (.tmp 21))]) (.seq (.reg []
  [o1 22 (.move (.tmp 6)),
  o1 23 (.move (.tmp 8)),
  o1 24 (.binOp .mul 128 (.tmp 22) (.tmp 23) 128),
  o1 10 (.assign (.tmp 24))]) (.seq (.reg []
  [o1 25 (.move (.tmp 7)),
  o1 26 (.move (.tmp 8)),
  o1 27 (.binOp .mul 128 (.tmp 25) (.tmp 26) 128),
  o1 28 (.move (.tmp 10)),
  o1 29 (.binOp .shr 128 (.tmp 28) (.const (.int .u64 32)) 138),
  o1 30 (.binOp .add 128 (.tmp 27) (.tmp 29) 128),
  o1 11 (.assign (.tmp 30))]) (.seq (.reg []
  [o1 31 (.move (.tmp 11)),
  o1 32 (.binOp .and 128 (.tmp 31) (.const (.int .u64 4294967295)) 128),
  o1 12 (.assign (.tmp 32))]) (.seq (.reg []
  [o1 33 (.move (.tmp 11)),
  o1 34 (.binOp .shr 128 (.tmp 33) (.const (.int .u64 32)) 138),
  o1 13 (.assign (.tmp 34))]) (.seq (.reg []
  [o1 35 (.move (.tmp 12)),
  o1 36 (.move (.tmp 6)),
  o1 37 (.move (.tmp 9)),
  o1 38 (.binOp .mul 128 (.tmp 36) (.tmp 37) 128),
  o1 39 (.binOp .add 128 (.tmp 35) (.tmp 38) 128),
  o1 12 (.assign (.tmp 39))]) (.seq (.reg []
  [o1 40 (.move (.tmp 7)),
  o1 41 (.move (.tmp 9)),
  o1 42 (.binOp .mul 128 (.tmp 40) (.tmp 41) 128),
  o1 43 (.move (.tmp 13)),
  o1 44 (.binOp .add 128 (.tmp 42) (.tmp 43) 128),
  o1 45 (.move (.tmp 12)),
  o1 46 (.binOp .shr 128 (.tmp 45) (.const (.int .u64 32)) 138),
  o1 47 (.binOp .add 128 (.tmp 44) (.tmp 46) 128),
  o1 4 (.assign (.tmp 47))]) (.seq (.reg []
  [o1 48 (.move (.tmp 0)),
  o1 49 (.move (.tmp 1)),
  o1 50 (.binOp .mul 128 (.tmp 48) (.tmp 49) 128),
  o1 5 (.assign (.tmp 50))]) (.ret))))))))))))
theorem ls115 : Tryz.f115.body.map (strip Tryz.prog impCodA) = some lc115 := by kernel_rfl
theorem lcall115 : LC 115 51 lc115 [.tmp 4, .tmp 5] := LC.of Tryz.func115 (by kernel_rfl) ls115 (by kernel_rfl) (by kernel_rfl)
/-- internal/stringslite.HasPrefix -/
def lc85 : LCode := .seq (.reg []
  [o1 4 (.assign (.const (.bool false)))]) (.seq (.reg []
  [o1 5 (.move (.tmp 0)),
  o1 6 (.call ⟨.builtin .len, #[.tmp 5], #[9]⟩),
  o1 7 (.move (.tmp 1)),
  o1 8 (.call ⟨.builtin .len, #[.tmp 7], #[9]⟩),
  o1 9 (.binOp .geq 3 (.tmp 6) (.tmp 8) 3),
  o1 10 (.move (.tmp 9)),
  o2 11 (.move (.tmp 0)) 10 true,
  o2 12 (.move (.tmp 1)) 10 true,
  o2 13 (.call ⟨.builtin .len, #[.tmp 12], #[9]⟩) 10 true,
  o2 14 (.slice 9 (.tmp 11) none (some (.tmp 13)) none) 10 true,
  o2 15 (.move (.tmp 1)) 10 true,
  o2 16 (.binOp .eql 9 (.tmp 14) (.tmp 15) 9) 10 true,
  o1 17 (.pick (.tmp 10) (.tmp 16) (.const (.bool false))),
  o1 4 (.assign (.tmp 17))]) (.ret))
theorem ls85 : Tryz.f85.body.map (strip Tryz.prog impCodA) = some lc85 := by kernel_rfl
theorem lcall85 : LC 85 18 lc85 [.tmp 4] := LC.of Tryz.func85 (by kernel_rfl) ls85 (by kernel_rfl) (by kernel_rfl)
/-- strconv.Atoi -/
def lc111 : LCode := .seq (.reg []
  [o1 2 (.assign (.const (.int .i64 0))),
  o1 3 (.assign (.const .nilIface))]) (.seq (.reg []
  [o1 7 (.move (.tmp 0)),
  o1 8 (.call ⟨.value (.func 128), #[.tmp 7], #[9]⟩),
  o1 6 (.move (.tmp 8)),
  o1 9 (.extract (.tmp 6) 0),
  o1 10 (.extract (.tmp 6) 1),
  o1 4 (.assign (.tmp 9)),
  o1 5 (.assign (.tmp 10))]) (.seq (.seq (.reg []
  [o1 11 (.move (.tmp 5)),
  o1 12 (.binOp .neq 93 (.tmp 11) (.const .nilIface) 93)]) (.cond (.tmp 12) (.seq (.reg []
  [o1 13 (.move (.tmp 4)),
  o1 14 (.move (.tmp 0)),
  o1 15 (.move (.tmp 5)),
  o1 16 (.call ⟨.value (.func 107), #[.const (.string { data := #[65, 116, 111, 105] }), .tmp 14, .const (.int .i64 0), .const (.int .i64 0), .tmp 15], #[9, 9, 3, 3, 93]⟩),
  o1 2 (.assign (.tmp 13)),
  o1 3 (.assign (.tmp 16))]) (.ret)) (.skip))) (.seq (.reg []
  [o1 17 (.move (.tmp 4)),
  o1 2 (.assign (.tmp 17)),
  o1 3 (.assign (.const .nilIface))]) (.ret))))
theorem ls111 : Tryz.f111.body.map (strip Tryz.prog impCodA) = some lc111 := by kernel_rfl
theorem lcall111 : LC 111 18 lc111 [.tmp 2, .tmp 3] := LC.of Tryz.func111 (by kernel_rfl) ls111 (by kernel_rfl) (by kernel_rfl)
/-- (escutcheon/hour.date).days -/
def lc112 : LCode := .seq (.reg []
  [o1 1 (.box 85 (.tmp 0)),
  o1 2 (.assign (.const (.int .i64 0)))]) (.seq (.reg [o1 5 (.fieldAddr 85 (.tmp 1) 0),
  o1 6 (.load 3 (.tmp 5)),
  o1 7 (.call ⟨.value (.func 72), #[.tmp 6], #[3]⟩),
  o1 8 (.fieldAddr 85 (.tmp 1) 2),
  o1 9 (.load 3 (.tmp 8)),
  o1 10 (.binOp .add 3 (.tmp 7) (.tmp 9) 3),
  o1 11 (.binOp .sub 3 (.tmp 10) (.const (.int .i64 1)) 3),
  o1 3 (.assign (.tmp 11))]
  []) (.seq (.seq (.reg []
  [o1 4 (.assign (.const (.int .i64 1)))]) (.block 0 (.loop (.seq (.seq (.reg []
  [o1 12 (.move (.tmp 4)),
  o1 13 (.fieldAddr 85 (.tmp 1) 1),
  o1 14 (.load 3 (.tmp 13)),
  o1 15 (.binOp .lss 3 (.tmp 12) (.tmp 14) 3)]) (.cond (.tmp 15) (.skip) (.exit 0))) (.seq (.block 1 (.reg []
  [o1 18 (.move (.tmp 3)),
  o1 19 (.fieldAddr 85 (.tmp 1) 0),
  o1 20 (.load 3 (.tmp 19)),
  o1 21 (.move (.tmp 4)),
  o1 22 (.call ⟨.value (.func 73), #[.tmp 20, .tmp 21], #[3, 3]⟩),
  o1 23 (.binOp .add 3 (.tmp 18) (.tmp 22) 3),
  o1 3 (.assign (.tmp 23))])) (.reg []
  [o1 16 (.move (.tmp 4)),
  o1 17 (.binOp .add 3 (.tmp 16) (.const (.int .i64 1)) 3),
  o1 4 (.assign (.tmp 17))])))))) (.seq (.reg []
  [o1 24 (.move (.tmp 3)),
  o1 2 (.assign (.tmp 24))]) (.ret))))
def ms112_0 : List Nat := [0, 3, 4, 5, 6, 7, 8, 9, 10, 11, 12, 13, 14, 15, 16, 17, 18, 19, 20, 21, 22, 23]
theorem ls112 : Tryz.f112.body.map (strip Tryz.prog impCodA) = some lc112 := by kernel_rfl
theorem lcall112 : LC 112 25 lc112 [.tmp 2] := LC.of Tryz.func112 (by kernel_rfl) ls112 (by kernel_rfl) (by kernel_rfl)
/-- internal/strconv.small -/
def lc129 : LCode := .seq (.reg []
  [o1 2 (.assign (.const (.string { data := #[] })))]) (.seq (.seq (.reg []
  [o1 3 (.move (.tmp 0)),
  o1 4 (.binOp .lss 3 (.tmp 3) (.const (.int .i64 10)) 3)]) (.cond (.tmp 4) (.seq (.reg []
  [o1 5 (.move (.tmp 0)),
  o1 6 (.move (.tmp 0)),
  o1 7 (.binOp .add 3 (.tmp 6) (.const (.int .i64 1)) 3),
  o1 8 (.slice 9 (.const (.string { data := #[48, 49, 50, 51, 52, 53, 54, 55, 56, 57, 97, 98, 99, 100, 101, 102, 103, 104, 105, 106, 107, 108, 109, 110, 111, 112, 113, 114, 115, 116, 117, 118, 119, 120, 121, 122] })) (some (.tmp 5)) (some (.tmp 7)) none),
  o1 2 (.assign (.tmp 8))]) (.ret)) (.skip))) (.seq (.reg []
  [o1 9 (.move (.tmp 0)),
  o1 10 (.binOp .mul 3 (.tmp 9) (.const (.int .i64 2)) 3),
  o1 11 (.move (.tmp 0)),
  o1 12 (.binOp .mul 3 (.tmp 11) (.const (.int .i64 2)) 3),
  o1 13 (.binOp .add 3 (.tmp 12) (.const (.int .i64 2)) 3),
  o1 14 (.slice 9 (.const (.string { data := #[48, 48, 48, 49, 48, 50, 48, 51, 48, 52, 48, 53, 48, 54, 48, 55, 48, 56, 48, 57, 49, 48, 49, 49, 49, 50, 49, 51, 49, 52, 49, 53, 49, 54, 49, 55, 49, 56, 49, 57, 50, 48, 50, 49, 50, 50, 50, 51, 50, 52, 50, 53, 50, 54, 50, 55, 50, 56, 50, 57, 51, 48, 51, 49, 51, 50, 51, 51, 51, 52, 51, 53, 51, 54, 51, 55, 51, 56, 51, 57, 52, 48, 52, 49, 52, 50, 52, 51, 52, 52, 52, 53, 52, 54, 52, 55, 52, 56, 52, 57, 53, 48, 53, 49, 53, 50, 53, 51, 53, 52, 53, 53, 53, 54, 53, 55, 53, 56, 53, 57, 54, 48, 54, 49, 54, 50, 54, 51, 54, 52, 54, 53, 54, 54, 54, 55, 54, 56, 54, 57, 55, 48, 55, 49, 55, 50, 55, 51, 55, 52, 55, 53, 55, 54, 55, 55, 55, 56, 55, 57, 56, 48, 56, 49, 56, 50, 56, 51, 56, 52, 56, 53, 56, 54, 56, 55, 56, 56, 56, 57, 57, 48, 57, 49, 57, 50, 57, 51, 57, 52, 57, 53, 57, 54, 57, 55, 57, 56, 57, 57] })) (some (.tmp 10)) (some (.tmp 13)) none),
  o1 2 (.assign (.tmp 14))]) (.ret)))
theorem ls129 : Tryz.f129.body.map (strip Tryz.prog impCodA) = some lc129 := by kernel_rfl
theorem lcall129 : LC 129 15 lc129 [.tmp 2] := LC.of Tryz.func129 (by kernel_rfl) ls129 (by kernel_rfl) (by kernel_rfl)
/-- internal/strconv.numDigits -/
def lc130 : LCode := .seq (.reg []
  [o1 2 (.assign (.const (.int .i64 0)))]) (.seq (.reg []
  [o1 4 (.move (.tmp 0)),
  o1 5 (.call ⟨.value (.func 139), #[.tmp 4], #[128]⟩),
  o1 6 (.call ⟨.value (.func 138), #[.tmp 5], #[3]⟩),
  o1 3 (.assign (.tmp 6))]) (.seq (.reg []
  [o1 7 (.move (.tmp 3)),
  o1 8 (.move (.tmp 0)),
  o1 9 (.move (.tmp 3)),
  o1 10 (.indexAddr 175 (.global 7) (.tmp 9)),
  o1 11 (.load 128 (.tmp 10)),
  o1 12 (.binOp .geq 128 (.tmp 8) (.tmp 11) 128),
  o1 13 (.call ⟨.value (.func 140), #[.tmp 12], #[4]⟩),
  o1 14 (.binOp .add 3 (.tmp 7) (.tmp 13) 3),
  o1 2 (.assign (.tmp 14))]) (.ret)))
theorem ls130 : Tryz.f130.body.map (strip Tryz.prog impCodA) = some lc130 := by kernel_rfl
theorem lcall130 : LC 130 15 lc130 [.tmp 2] := LC.of Tryz.func130 (by kernel_rfl) ls130 (by kernel_rfl) (by kernel_rfl)
/-- internal/strconv.Atoi -/
def lc128 : LCode := .seq (.reg []
  [o1 2 (.assign (.const (.int .i64 0))),
  o1 3 (.assign (.const .nilIface))]) (.seq (.reg []
  [o1 11 (.move (.tmp 0)),
  o1 12 (.call ⟨.builtin .len, #[.tmp 11], #[9]⟩),
  o1 4 (.assign (.tmp 12))]) (.seq (.seq (.reg []
  [o1 13 (.move (.const (.bool false))),
  o2 14 (.move (.tmp 4)) 13 true,
  o2 15 (.binOp .lss 3 (.const (.int .i64 0)) (.tmp 14) 3) 13 true,
  o2 16 (.move (.tmp 15)) 13 true,
  o2 17 (.move (.tmp 4)) 16 true,
  o2 18 (.binOp .lss 3 (.tmp 17) (.const (.int .i64 10)) 3) 16 true,
  o2 19 (.pick (.tmp 16) (.tmp 18) (.const (.bool false))) 13 true,
  o1 20 (.pick (.tmp 13) (.tmp 19) (.const (.bool false))),
  o1 21 (.move (.tmp 20)),
  o2 22 (.move (.const (.bool true))) 21 false,
  o2 23 (.move (.tmp 4)) 22 true,
  o2 24 (.binOp .lss 3 (.const (.int .i64 0)) (.tmp 23) 3) 22 true,
  o2 25 (.move (.tmp 24)) 22 true,
  o2 26 (.move (.tmp 4)) 25 true,
  o2 27 (.binOp .lss 3 (.tmp 26) (.const (.int .i64 19)) 3) 25 true,
  o2 28 (.pick (.tmp 25) (.tmp 27) (.const (.bool false))) 22 true,
  o2 29 (.pick (.tmp 22) (.tmp 28) (.const (.bool false))) 21 false,
  o1 30 (.pick (.tmp 21) (.const (.bool true)) (.tmp 29))]) (.cond (.tmp 30) (.seq (.reg []
  [o1 31 (.move (.tmp 0)),
  o1 5 (.assign (.tmp 31))]) (.seq (.seq (.reg []
  [o1 32 (.move (.tmp 0)),
  o1 33 (.index 9 (.tmp 32) (.const (.int .i64 0))),
  o1 34 (.binOp .eql 5 (.tmp 33) (.const (.int .u8 45)) 5),
  o1 35 (.move (.tmp 34)),
  o2 36 (.move (.tmp 0)) 35 false,
  o2 37 (.index 9 (.tmp 36) (.const (.int .i64 0))) 35 false,
  o2 38 (.binOp .eql 5 (.tmp 37) (.const (.int .u8 43)) 5) 35 false,
  o1 39 (.pick (.tmp 35) (.const (.bool true)) (.tmp 38))]) (.cond (.tmp 39) (.seq (.reg []
  [o1 40 (.move (.tmp 0)),
  o1 41 (.slice 9 (.tmp 40) (some (.const (.int .i64 1))) none none),
  o1 0 (.assign (.tmp 41))]) (.seq (.reg []
  [o1 42 (.move (.tmp 0)),
  o1 43 (.call ⟨.builtin .len, #[.tmp 42], #[9]⟩),
  o1 44 (.binOp .lss 3 (.tmp 43) (.const (.int .i64 1)) 3)]) (.cond (.tmp 44) (.seq (.reg []
  [o1 45 (.makeInterface 156 (.const (.int .i64 2))),
  o1 2 (.assign (.const (.int .i64 0))),
  o1 3 (.assign (.tmp 45))]) (.ret)) (.skip)))) (.skip))) (.seq (.reg []
  [o1 6 (.assign (.const (.int .i64 0)))]) (.seq (.seq (.reg []
  [o1 46 (.move (.tmp 0)),
  o1 47 (.convert 9 22 (.tmp 46)),
  o1 48 (.call ⟨.builtin .len, #[.tmp 47], #[22]⟩),
  o1 49 (.move (.const (.int .i64 0)))]) (.block 0 (.loop (.seq (.reg []
  [o1 50 (.binOp .lss 3 (.tmp 49) (.tmp 48) 3)]) (.seq (.cond (.tmp 50) (.skip) (.exit 0)) (.seq (.block 1 (.seq (.reg []
  [o1 51 (.indexAddr 22 (.tmp 47) (.tmp 49)),
  o1 52 (.load 5 (.tmp 51)),
  o1 8 (.assign (.tmp 52))]) (.seq (.reg []
  [o1 53 (.move (.tmp 8)),
  o1 54 (.binOp .sub 5 (.tmp 53) (.const (.int .u8 48)) 5),
  o1 8 (.assign (.tmp 54))]) (.seq (.seq (.reg []
  [o1 55 (.move (.tmp 8)),
  o1 56 (.binOp .gtr 5 (.tmp 55) (.const (.int .u8 9)) 5)]) (.cond (.tmp 56) (.seq (.reg []
  [o1 57 (.makeInterface 156 (.const (.int .i64 2))),
  o1 2 (.assign (.const (.int .i64 0))),
  o1 3 (.assign (.tmp 57))]) (.ret)) (.skip))) (.reg []
  [o1 58 (.move (.tmp 6)),
  o1 59 (.binOp .mul 3 (.tmp 58) (.const (.int .i64 10)) 3),
  o1 60 (.move (.tmp 8)),
  o1 61 (.convert 5 3 (.tmp 60)),
  o1 62 (.binOp .add 3 (.tmp 59) (.tmp 61) 3),
  o1 6 (.assign (.tmp 62))]))))) (.reg []
  [o1 63 (.binOp .add 3 (.tmp 49) (.const (.int .i64 1)) 3),
  o1 49 (.move (.tmp 63))]))))))) (.seq (.seq (.reg []
  [o1 64 (.move (.tmp 5)),
  o1 65 (.index 9 (.tmp 64) (.const (.int .i64 0))),
  o1 66 (.binOp .eql 5 (.tmp 65) (.const (.int .u8 45)) 5)]) (.cond (.tmp 66) (.reg []
  [o1 67 (.move (.tmp 6)),
  o1 68 (.unOp .neg 3 (.tmp 67)),
  o1 6 (.assign (.tmp 68))]) (.skip))) (.seq (.reg []
  [o1 69 (.move (.tmp 6)),
  o1 2 (.assign (.tmp 69)),
  o1 3 (.assign (.const .nilIface))]) (.ret))))))) (.skip))) (.seq (.reg []
  [o1 71 (.move (.tmp 0)),
  o1 72 (.call ⟨.value (.func 137), #[.tmp 71, .const (.int .i64 10), .const (.int .i64 0)], #[9, 3, 3]⟩),
  o1 70 (.move (.tmp 72)),
  o1 73 (.extract (.tmp 70) 0),
  o1 74 (.extract (.tmp 70) 1),
  o1 9 (.assign (.tmp 73)),
  o1 10 (.assign (.tmp 74))]) (.seq (.reg []
  [o1 75 (.move (.tmp 9)),
  o1 76 (.move (.tmp 10)),
  o1 2 (.assign (.tmp 75)),
  o1 3 (.assign (.tmp 76))]) (.ret)))))
def ms128_0 : List Nat := [1, 2, 3, 4, 6, 7, 8, 11, 12, 13, 14, 15, 16, 17, 18, 19, 20, 21, 22, 23, 24, 25, 26, 27, 28, 29, 30, 31, 32, 33, 34, 35, 36, 37, 38, 39, 40, 41, 42, 43, 44, 45, 46, 49, 50, 51, 52, 53, 54, 55, 56, 57, 58, 59, 60, 61, 62, 63]
theorem ls128 : Tryz.f128.body.map (strip Tryz.prog impCodA) = some lc128 := by kernel_rfl
theorem lcall128 : LC 128 77 lc128 [.tmp 2, .tmp 3] := LC.of Tryz.func128 (by kernel_rfl) ls128 (by kernel_rfl) (by kernel_rfl)
/-- internal/strconv.log10Pow2 -/
def lc138 : LCode := .seq (.reg []
  [o1 2 (.assign (.const (.int .i64 0)))]) (.seq (.reg []
  [o1 3 (.move (.tmp 0)),
  o1 4 (.binOp .mul 3 (.tmp 3) (.const (.int .i64 78913)) 3),
  o1 5 (.binOp .shr 3 (.tmp 4) (.const (.int .u64 18)) 138),
  o1 2 (.assign (.tmp 5))]) (.ret))
theorem ls138 : Tryz.f138.body.map (strip Tryz.prog impCodA) = some lc138 := by kernel_rfl
theorem lcall138 : LC 138 6 lc138 [.tmp 2] := LC.of Tryz.func138 (by kernel_rfl) ls138 (by kernel_rfl) (by kernel_rfl)
/-- math/bits.Len64 -/
def lc139 : LCode := .seq (.reg []
  [o1 2 (.assign (.const (.int .i64 0)))]) (.seq (.seq (.reg []
  [o1 3 (.move (.tmp 0)),
  o1 4 (.binOp .geq 128 (.tmp 3) (.const (.int .u64 4294967296)) 128)]) (.cond (.tmp 4) (.seq (.reg []
  [o1 5 (.move (.tmp 0)),
  o1 6 (.binOp .shr 128 (.tmp 5) (.const (.int .u64 32)) 138),
  o1 0 (.assign (.tmp 6))]) (.reg []
  [o1 2 (.assign (.const (.int .i64 32)))])) (.skip))) (.seq (.seq (.reg []
  [o1 7 (.move (.tmp 0)),
  o1 8 (.binOp .geq 128 (.tmp 7) (.const (.int .u64 65536)) 128)]) (.cond (.tmp 8) (.seq (.reg []
  [o1 9 (.move (.tmp 0)),
  o1 10 (.binOp .shr 128 (.tmp 9) (.const (.int .u64 16)) 138),
  o1 0 (.assign (.tmp 10))]) (.reg []
  [o1 11 (.move (.tmp 2)),
  o1 12 (.binOp .add 3 (.tmp 11) (.const (.int .i64 16)) 3),
  o1 2 (.assign (.tmp 12))])) (.skip))) (.seq (.seq (.reg []
  [o1 13 (.move (.tmp 0)),
  o1 14 (.binOp .geq 128 (.tmp 13) (.const (.int .u64 256)) 128)]) (.cond (.tmp 14) (.seq (.reg []
  [o1 15 (.move (.tmp 0)),
  o1 16 (.binOp .shr 128 (.tmp 15) (.const (.int .u64 8)) 138),
  o1 0 (.assign (.tmp 16))]) (.reg []
  [o1 17 (.move (.tmp 2)),
  o1 18 (.binOp .add 3 (.tmp 17) (.const (.int .i64 8)) 3),
  o1 2 (.assign (.tmp 18))])) (.skip))) (.seq (.reg []
  [o1 19 (.move (.tmp 2)),
  o1 20 (.move (.tmp 0)),
  o1 21 (.convert 128 5 (.tmp 20)),
  o1 22 (.index 9 (.const (.string { data := #[0, 1, 2, 2, 3, 3, 3, 3, 4, 4, 4, 4, 4, 4, 4, 4, 5, 5, 5, 5, 5, 5, 5, 5, 5, 5, 5, 5, 5, 5, 5, 5, 6, 6, 6, 6, 6, 6, 6, 6, 6, 6, 6, 6, 6, 6, 6, 6, 6, 6, 6, 6, 6, 6, 6, 6, 6, 6, 6, 6, 6, 6, 6, 6, 7, 7, 7, 7, 7, 7, 7, 7, 7, 7, 7, 7, 7, 7, 7, 7, 7, 7, 7, 7, 7, 7, 7, 7, 7, 7, 7, 7, 7, 7, 7, 7, 7, 7, 7, 7, 7, 7, 7, 7, 7, 7, 7, 7, 7, 7, 7, 7, 7, 7, 7, 7, 7, 7, 7, 7, 7, 7, 7, 7, 7, 7, 7, 7, 8, 8, 8, 8, 8, 8, 8, 8, 8, 8, 8, 8, 8, 8, 8, 8, 8, 8, 8, 8, 8, 8, 8, 8, 8, 8, 8, 8, 8, 8, 8, 8, 8, 8, 8, 8, 8, 8, 8, 8, 8, 8, 8, 8, 8, 8, 8, 8, 8, 8, 8, 8, 8, 8, 8, 8, 8, 8, 8, 8, 8, 8, 8, 8, 8, 8, 8, 8, 8, 8, 8, 8, 8, 8, 8, 8, 8, 8, 8, 8, 8, 8, 8, 8, 8, 8, 8, 8, 8, 8, 8, 8, 8, 8, 8, 8, 8, 8, 8, 8, 8, 8, 8, 8, 8, 8, 8, 8, 8, 8, 8, 8, 8, 8, 8, 8, 8, 8, 8, 8, 8, 8, 8, 8, 8, 8, 8, 8] })) (.tmp 21)),
  o1 23 (.convert 5 3 (.tmp 22)),
  o1 24 (.binOp .add 3 (.tmp 19) (.tmp 23) 3),
  o1 2 (.assign (.tmp 24))]) (.ret)))))
theorem ls139 : Tryz.f139.body.map (strip Tryz.prog impCodA) = some lc139 := by kernel_rfl
theorem lcall139 : LC 139 25 lc139 [.tmp 2] := LC.of Tryz.func139 (by kernel_rfl) ls139 (by kernel_rfl) (by kernel_rfl)
/-- internal/strconv.bool2[int] -/
def lc140 : LCode := .seq (.reg []
  [o1 2 (.assign (.const (.int .i64 0)))]) (.seq (.seq (.reg []
  [o1 3 (.move (.tmp 0))]) (.cond (.tmp 3) (.seq (.reg []
  [o1 2 (.assign (.const (.int .i64 1)))]) (.ret)) (.skip))) (.seq (.reg []
  [o1 2 (.assign (.const (.int .i64 0)))]) (.ret)))
theorem ls140 : Tryz.f140.body.map (strip Tryz.prog impCodA) = some lc140 := by kernel_rfl
theorem lcall140 : LC 140 4 lc140 [.tmp 2] := LC.of Tryz.func140 (by kernel_rfl) ls140 (by kernel_rfl) (by kernel_rfl)
/-- escutcheon/escutcheonref21.First -/
def lc44 : LCode := .seq (.reg []
  [o1 0 (.assign (.const (.int .i64 0)))]) (.seq (.reg []
  [o1 1 (.call ⟨.value (.func 43), #[.const (.int .i64 0), .const (.int .i64 1), .const (.int .i64 1), .const (.int .i64 0), .const (.int .i64 0), .const (.int .i64 0)], #[3, 3, 3, 3, 3, 3]⟩),
  o1 0 (.assign (.tmp 1))]) (.ret))
/-- escutcheon/escutcheonref21.Last -/
def lc45 : LCode := .seq (.reg []
  [o1 0 (.assign (.const (.int .i64 0)))]) (.seq (.reg []
  [o1 1 (.call ⟨.value (.func 43), #[.const (.int .i64 9999), .const (.int .i64 12), .const (.int .i64 31), .const (.int .i64 23), .const (.int .i64 59), .const (.int .i64 59)], #[3, 3, 3, 3, 3, 3]⟩),
  o1 0 (.assign (.tmp 1))]) (.ret))
end Go.Abs.S
namespace Go.Abs.H
set_option linter.unusedSimpArgs false
set_option linter.unusedVariables false
def leapB (y : Int) : Bool := decide (y % 4 = 0 ∧ (y % 100 ≠ 0 ∨ y % 400 = 0))
/-- A month's days. -/
def mdays (y m : Int) : Int := if y < 0 ∨ 9999 < y ∨ m < 1 ∨ 12 < m then 0 else if m = 2 then (if leapB y = true then 29 else 28) else if m = 4 ∨ m = 6 ∨ m = 9 ∨ m = 11 then 30 else 31
/-- Days from the year 0 to a year's beginning. -/
def aheadY (y : Int) : Int := y * 365 + (y + 3) / 4 - (y + 99) / 100 + (y + 399) / 400
/-- Days of so many months. -/
def msum (y : Int) : Nat → Int
  | 0 => 0
  | k + 1 => msum y k + mdays y (k + 1)
def lp (y : Int) : Int := if leapB y = true then 1 else 0
theorem lp_le (y : Int) : 0 ≤ lp y ∧ lp y ≤ 1 := by unfold lp; split <;> omega
theorem ahead_succ (y : Int) (h : 0 ≤ y) : aheadY (y + 1) = aheadY y + 365 + lp y := by
  unfold aheadY lp leapB
  simp only [decide_eq_true_eq]
  split <;> omega
theorem mdays_of {y m : Int} (h : 0 ≤ y ∧ y ≤ 9999) (h1 : 1 ≤ m) (h2 : m ≤ 12) : mdays y m = if m = 2 then 28 + lp y else if m = 4 ∨ m = 6 ∨ m = 9 ∨ m = 11 then 30 else 31 := by
  unfold mdays lp
  rw [if_neg (by omega)]
  split
  · split <;> rfl
  · rfl
theorem mdays_le (y m : Int) : 0 ≤ mdays y m ∧ mdays y m ≤ 31 := by
  unfold mdays
  split
  · omega
  split
  · split <;> omega
  · split <;> omega
theorem mdays_pos {y m : Int} (h : 1 ≤ mdays y m) : 0 ≤ y ∧ y ≤ 9999 ∧ 1 ≤ m ∧ m ≤ 12 := by
  unfold mdays at h
  split at h
  · omega
  · omega
theorem msum_tab {y : Int} (h : 0 ≤ y ∧ y ≤ 9999) : msum y 1 = 31 ∧ msum y 2 = 59 + lp y ∧ msum y 3 = 90 + lp y ∧ msum y 4 = 120 + lp y ∧ msum y 5 = 151 + lp y ∧ msum y 6 = 181 + lp y ∧ msum y 7 = 212 + lp y ∧ msum y 8 = 243 + lp y ∧ msum y 9 = 273 + lp y ∧ msum y 10 = 304 + lp y ∧ msum y 11 = 334 + lp y ∧ msum y 12 = 365 + lp y := by
  have e := fun (m : Int) (h1 : 1 ≤ m) (h2 : m ≤ 12) => mdays_of (m := m) h h1 h2
  have e1 := e 1 (by omega) (by omega)
  have e2 := e 2 (by omega) (by omega)
  have e3 := e 3 (by omega) (by omega)
  have e4 := e 4 (by omega) (by omega)
  have e5 := e 5 (by omega) (by omega)
  have e6 := e 6 (by omega) (by omega)
  have e7 := e 7 (by omega) (by omega)
  have e8 := e 8 (by omega) (by omega)
  have e9 := e 9 (by omega) (by omega)
  have e10 := e 10 (by omega) (by omega)
  have e11 := e 11 (by omega) (by omega)
  have e12 := e 12 (by omega) (by omega)
  simp at e1 e2 e3 e4 e5 e6 e7 e8 e9 e10 e11 e12
  have z0 : msum y 0 = 0 := rfl
  have z1 : msum y 1 = msum y 0 + mdays y 1 := rfl
  have z2 : msum y 2 = msum y 1 + mdays y 2 := rfl
  have z3 : msum y 3 = msum y 2 + mdays y 3 := rfl
  have z4 : msum y 4 = msum y 3 + mdays y 4 := rfl
  have z5 : msum y 5 = msum y 4 + mdays y 5 := rfl
  have z6 : msum y 6 = msum y 5 + mdays y 6 := rfl
  have z7 : msum y 7 = msum y 6 + mdays y 7 := rfl
  have z8 : msum y 8 = msum y 7 + mdays y 8 := rfl
  have z9 : msum y 9 = msum y 8 + mdays y 9 := rfl
  have z10 : msum y 10 = msum y 9 + mdays y 10 := rfl
  have z11 : msum y 11 = msum y 10 + mdays y 11 := rfl
  have z12 : msum y 12 = msum y 11 + mdays y 12 := rfl
  omega
theorem msum_mono (y : Int) : ∀ {a b : Nat}, a ≤ b → msum y a ≤ msum y b
  | 0, 0, h => Int.le_refl _
  | a + 1, 0, h => absurd h (by omega)
  | a, b + 1, h => by
    by_cases e : a = b + 1
    · subst e; exact Int.le_refl _
    · have := msum_mono y (a := a) (b := b) (by omega)
      have := (mdays_le y (b + 1)).1
      have e2 : msum y (b + 1) = msum y b + mdays y (b + 1) := rfl
      omega
theorem ahead_mono {a : Int} (ha : 0 ≤ a) : ∀ (k : Nat), aheadY a ≤ aheadY (a + k)
  | 0 => by simp
  | k + 1 => by
    have ih := ahead_mono ha k
    have h := ahead_succ (a + k) (by omega)
    have := (lp_le (a + k)).1
    have e : a + ((k + 1 : Nat) : Int) = a + k + 1 := by omega
    rw [e]
    omega
theorem ahead_le {a b : Int} (ha : 0 ≤ a) (h : a ≤ b) : aheadY a ≤ aheadY b := by
  have := ahead_mono ha (b - a).toNat
  rwa [show a + ((b - a).toNat : Int) = b from by omega] at this
/-- A date that is one. -/
structure Date where
  y : Int
  m : Int
  d : Int
def Date.ok (x : Date) : Prop := 1 ≤ x.d ∧ x.d ≤ mdays x.y x.m
theorem Date.ok.all {x : Date} (h : x.ok) : 0 ≤ x.y ∧ x.y ≤ 9999 ∧ 1 ≤ x.m ∧ x.m ≤ 12 ∧ 1 ≤ x.d ∧ x.d ≤ 31 := by
  have h1 := mdays_pos (y := x.y) (m := x.m) (by have := h.1; have := h.2; omega)
  have h2 := mdays_le x.y x.m
  have := h.1
  have := h.2
  omega
/-- Days from the year 0 to it. -/
def dayN (x : Date) : Int := aheadY x.y + msum x.y (x.m - 1).toNat + x.d - 1
theorem day_in {x : Date} (h : x.ok) : msum x.y (x.m - 1).toNat ≤ dayN x - aheadY x.y ∧ dayN x - aheadY x.y < msum x.y x.m.toNat ∧ msum x.y x.m.toNat ≤ 365 + lp x.y := by
  have ha := h.all
  have e : msum x.y x.m.toNat = msum x.y (x.m - 1).toNat + mdays x.y x.m := by
    have : x.m.toNat = (x.m - 1).toNat + 1 := by omega
    rw [this]
    show msum x.y (x.m - 1).toNat + mdays x.y (((x.m - 1).toNat : Int) + 1) = _
    rw [show (((x.m - 1).toNat : Int) + 1) = x.m from by omega]
  have h12 := (msum_tab (y := x.y) ⟨ha.1, ha.2.1⟩).2.2.2.2.2.2.2.2.2.2.2
  have hm := msum_mono x.y (a := x.m.toNat) (b := 12) (by omega)
  have := h.1
  have := h.2
  unfold dayN
  omega
theorem day_year {x : Date} (h : x.ok) : aheadY x.y ≤ dayN x ∧ dayN x < aheadY (x.y + 1) := by
  have ha := h.all
  have h1 := day_in h
  have h2 := ahead_succ x.y ha.1
  have h0 : 0 ≤ msum x.y (x.m - 1).toNat := msum_mono x.y (a := 0) (Nat.zero_le _)
  omega
theorem ahead_last : aheadY 10000 = 3652425 := by decide
theorem ahead_zero : aheadY 0 = 0 := by decide
theorem day_bound {x : Date} (h : x.ok) : 0 ≤ dayN x ∧ dayN x < 3652425 := by
  have ha := h.all
  have h1 := day_year h
  have h2 := ahead_le (a := 0) (b := x.y) (by omega) ha.1
  have h3 := ahead_le (a := x.y + 1) (b := 10000) (by omega) (by omega)
  rw [ahead_zero] at h2
  rw [ahead_last] at h3
  omega
/-- A moment that is one. -/
structure Mom where
  x : Date
  h : Int
  i : Int
  s : Int
def Mom.ok (t : Mom) : Prop := t.x.ok ∧ 0 ≤ t.h ∧ t.h ≤ 23 ∧ 0 ≤ t.i ∧ t.i ≤ 59 ∧ 0 ≤ t.s ∧ t.s ≤ 59
def secs (t : Mom) : Int := (dayN t.x - 719528) * 86400 + t.h * 3600 + t.i * 60 + t.s
def tFirst : Int := -62167219200
def tLast : Int := 253402300799
theorem secs_in {t : Mom} (h : t.ok) : tFirst ≤ secs t ∧ secs t ≤ tLast := by
  have h1 := day_bound h.1
  obtain ⟨_, h2⟩ := h
  unfold secs tFirst tLast
  omega
theorem secs_parts {t : Mom} (h : t.ok) : (secs t + 62167219200) / 86400 = dayN t.x ∧ (secs t + 62167219200) % 86400 / 3600 = t.h ∧ (secs t + 62167219200) % 86400 % 3600 / 60 = t.i ∧ (secs t + 62167219200) % 86400 % 60 = t.s := by
  obtain ⟨_, h2⟩ := h
  unfold secs
  refine ⟨by omega, by omega, by omega, by omega⟩
end Go.Abs.H
namespace Go.Abs.S
attribute [local go_sem] lguard aopO aop aenv toAV tput aLoad aStore vcells aBin aNilI aUn aAlloc aBox aBuild aBSlice afill aConv isIntT aappZ aCap aArr aMM aMake aSlice bnd3 bnd aFldAddr aFld aIdxAddr aIdx aExt aLen aCopy aEq0 bAV aUb aapp aappQ agh acont List.getD_cons_zero List.getD_cons_succ List.set_cons_zero List.set_cons_succ List.getElem?_cons_zero List.getElem?_cons_succ List.length_cons List.length_nil List.map_cons List.map_nil ints_length if_true if_false Bool.false_eq_true true_and and_true eq_self ne_eq not_false_eq_true not_true_eq_false beq_self_eq_true Nat.zero_add Nat.add_zero Nat.mul_one Nat.zero_mul Int.toNat_natCast List.toList_toArray List.all_cons List.all_nil AV.one Value.oneCell' Bool.and_true Bool.true_and forall_const true_implies false_implies implies_true Option.map_some Option.map_none Option.isSome_some Option.isSome_none imp_self rdP_flat rdP_row splice_one ints_set ints_get List.append_nil List.cons_append List.nil_append List.getElem?_toArray List.drop_zero ints_drop ints_take List.take_of_length_le splice_all ints_one Option.some.injEq Option.getD_some List.length_replicate zArr List.map_replicate rep_ints splice_intsR List.length_set List.length_append List.flatten_replicate_singleton rep_slice rep_string rep_bool rep_iface List.replicate_zero if_pos if_neg List.mapM_cons List.mapM_nil Option.pure_def Option.bind_eq_bind Option.bind_some Bool.true_eq_false Bool.not_false Bool.not_true get_concat set_concat
open Go.Proofs
open Go.Abs.H
set_option linter.unusedVariables false
set_option linter.unusedSimpArgs false
set_option maxRecDepth 100000
set_option maxHeartbeats 2000000
theorem leap_p (n : Nat) : PCall Tryz.prog glob 96 [.v (.int .i64 n)] (.v (.bool (leapB n))) := by
  refine PCall.of ctx.nr nrs (NR.v _) ?_
  refine lcall96 (by simp) 0 (Nat.le_refl _) ?_
  unfold lc96
  refine I1 tt ⟨?_⟩
  have t1 : (n : Int).tmod 4 = ((n % 4 : Nat) : Int) := tmodN n 4
  have t2 : (n : Int).tmod 100 = ((n % 100 : Nat) : Int) := tmodN n 100
  have t3 : (n : Int).tmod 400 = ((n % 400 : Nat) : Int) := tmodN n 400
  by_cases h1 : n % 4 = 0
  · have d1 : ((((n % 4 : Nat) : Int) : Int) == 0) = true := by rw [beq_iff_eq]; omega
    by_cases h2 : n % 100 = 0
    · have d2 : ((((n % 100 : Nat) : Int) : Int) != 0) = false := by rw [bne_eq_false_iff_eq]; omega
      refine G1 F1 (an t1 (an t2 (an t3 (an d1 (an d2 tt))))) tt tt tt ⟨?_⟩
      refine R1 tt ⟨?_⟩
      exact end0 (NR.v _) (by
        unfold leapB
        congr 2
        rw [Bool.eq_iff_iff, beq_iff_eq, decide_eq_true_eq]
        omega)
    · have d2 : ((((n % 100 : Nat) : Int) : Int) != 0) = true := by rw [bne_iff_ne, ne_eq]; omega
      refine G1 F1 (an t1 (an t2 (an t3 (an d1 (an d2 tt))))) tt tt tt ⟨?_⟩
      refine R1 tt ⟨?_⟩
      exact end0 (NR.v _) (by
        unfold leapB
        congr 2
        symm
        rw [decide_eq_true_eq]
        omega)
  · have d1 : ((((n % 4 : Nat) : Int) : Int) == 0) = false := by rw [beq_eq_false_iff_ne, ne_eq]; omega
    refine G1 F1 (an t1 (an t2 (an t3 (an d1 tt)))) tt tt tt ⟨?_⟩
    refine R1 tt ⟨?_⟩
    exact end0 (NR.v _) (by
      unfold leapB
      congr 2
      symm
      rw [decide_eq_false_iff_not]
      omega)
theorem ahead_p (n : Nat) (h : n ≤ 1000000) : PCall Tryz.prog glob 72 [.v (.int .i64 n)] (.v (.int .i64 (aheadY n))) := by
  refine PCall.of ctx.nr nrs (NR.v _) ?_
  refine lcall72 (by simp) 0 (Nat.le_refl _) ?_
  unfold lc72
  refine I1 tt ⟨?_⟩
  have e1 := i64z ((n : Int) * 365) (by omega)
  have e2 := i64n ((n : Int) + 3) (n + 3) (by omega) (by omega)
  have e3 := i64n ((n : Int) + 99) (n + 99) (by omega) (by omega)
  have e4 := i64n ((n : Int) + 399) (n + 399) (by omega) (by omega)
  have t1 : ((n + 3 : Nat) : Int).tdiv 4 = (((n + 3) / 4 : Nat) : Int) := tdivN _ 4
  have t2 : ((n + 99 : Nat) : Int).tdiv 100 = (((n + 99) / 100 : Nat) : Int) := tdivN _ 100
  have t3 : ((n + 399 : Nat) : Int).tdiv 400 = (((n + 399) / 400 : Nat) : Int) := tdivN _ 400
  have f1 := i64n (((n + 3) / 4 : Nat) : Int) ((n + 3) / 4) rfl (by omega)
  have f2 := i64n (((n + 99) / 100 : Nat) : Int) ((n + 99) / 100) rfl (by omega)
  have f3 := i64n (((n + 399) / 400 : Nat) : Int) ((n + 399) / 400) rfl (by omega)
  have s1 := i64z ((n : Int) * 365 + (((n + 3) / 4 : Nat) : Int)) (by omega)
  have s2 := i64z ((n : Int) * 365 + (((n + 3) / 4 : Nat) : Int) - (((n + 99) / 100 : Nat) : Int)) (by omega)
  have s3 := i64z ((n : Int) * 365 + (((n + 3) / 4 : Nat) : Int) - (((n + 99) / 100 : Nat) : Int) + (((n + 399) / 400 : Nat) : Int)) (by omega)
  refine G1 F1 (an e1 (an e2 (an e3 (an e4 (an t1 (an t2 (an t3 (an f1 (an f2 (an f3 (an s1 (an s2 (an s3 tt))))))))))))) tt tt tt ⟨?_⟩
  refine R1 tt ⟨?_⟩
  exact end0 (NR.v _) (by unfold aheadY; congr 2)
theorem Days_p (y m : Int) (hm : -9223372036854775808 ≤ m ∧ m ≤ 9223372036854775807) : PCall Tryz.prog glob 73 [.v (.int .i64 y), .v (.int .i64 m)] (.v (.int .i64 (mdays y m))) := by
  refine PCall.of ctx.nr nrs (NR.v _) ?_
  refine lcall73 (by simp) 0 (Nat.le_refl _) ?_
  unfold lc73
  refine I1 tt ⟨?_⟩
  by_cases g : y < 0 ∨ 9999 < y ∨ m < 1 ∨ 12 < m
  · have e : mdays y m = 0 := by unfold mdays; rw [if_pos g]
    rw [e]
    by_cases g1 : y < 0
    · have d1 : decide (y < 0) = true := by rw [decide_eq_true_eq]; omega
      refine G1 F4 (an d1 tt) tt tt tt ⟨?_⟩
      refine R1 tt ⟨?_⟩
      exact end0 (NR.v _) rfl
    have d1 : decide (y < 0) = false := by rw [decide_eq_false_iff_not]; omega
    by_cases g2 : 9999 < y
    · have d2 : decide (y > 9999) = true := by rw [decide_eq_true_eq]; omega
      refine G1 F4 (an d1 (an d2 tt)) tt tt tt ⟨?_⟩
      refine R1 tt ⟨?_⟩
      exact end0 (NR.v _) rfl
    have d2 : decide (y > 9999) = false := by rw [decide_eq_false_iff_not]; omega
    by_cases g3 : m < 1
    · have d3 : decide (m < 1) = true := by rw [decide_eq_true_eq]; omega
      refine G1 F4 (an d1 (an d2 (an d3 tt))) tt tt tt ⟨?_⟩
      refine R1 tt ⟨?_⟩
      exact end0 (NR.v _) rfl
    have d3 : decide (m < 1) = false := by rw [decide_eq_false_iff_not]; omega
    have d4 : decide (m > 12) = true := by rw [decide_eq_true_eq]; omega
    refine G1 F4 (an d1 (an d2 (an d3 (an d4 tt)))) tt tt tt ⟨?_⟩
    refine R1 tt ⟨?_⟩
    exact end0 (NR.v _) rfl
  obtain ⟨n, rfl⟩ := Int.eq_ofNat_of_zero_le (show 0 ≤ y by omega)
  have d1 : decide ((n : Int) < 0) = false := by rw [decide_eq_false_iff_not]; omega
  have d2 : decide ((n : Int) > 9999) = false := by rw [decide_eq_false_iff_not]; omega
  have d3 : decide (m < 1) = false := by rw [decide_eq_false_iff_not]; omega
  have d4 : decide (m > 12) = false := by rw [decide_eq_false_iff_not]; omega
  by_cases g2 : m = 2
  · subst g2
    have lpp := leap_p n
    have b2 : ((2 : Int) == 2) = true := by decide
    have i1 : IntKind.i64.wrap ((2 : Int) - 1) = 1 := by decide
    have i2 : decide ((2 : Int) < 1) = false := by decide
    have i3 : decide ((2 : Int) > 12) = false := by decide
    cases hl : leapB n
    · rw [hl] at lpp
      have e : mdays n 2 = 28 := by unfold mdays; rw [if_neg (by omega), if_pos rfl, hl]; rfl
      rw [e]
      repeat (first
        | (with_reducible refine lops_step fun K hK => ?_; simp (disch := first | exact dch | fail) only [go_sem, Nat.reduceAdd, Nat.reduceSub, reduceIte, Nat.reduceEqDiff, Int.reduceToNat, Int.reduceBEq, Int.reduceBNe, d1, d2, i2, i3, b2, i1, lay_escutcheon_hour_months]; (try (first | (refine And.intro (fun _ => ?_) (fun h => absurd h (by decide))) | (refine And.intro (fun h => absurd h (by decide)) (fun _ => ?_)))); (repeat (with_reducible refine And.intro acl ?_)); (first | (refine hK _ _ ?_) | (refine ⟨_, rfl, hK _ _ ?_⟩) | (refine Or.inl (hK _ _ ?_)) | (refine ⟨_, _, Or.inl ((lpp).go _), (by first | exact ⟨[], (List.append_nil _).symm⟩ | exact ⟨_, rfl⟩), hK _ _ ?_⟩) | (refine ⟨_, _, Or.inl ((lpp).go _), hK _ _ ?_⟩) | (refine ⟨_, _, Or.inl ((lpp).go _).weakQ, hK _ _ ?_⟩)); clear hK K)
        | (with_reducible refine lops_nil ?_)
        | (with_reducible first | refine lavc_reg ?_ | refine lavc_seq ?_ | refine lavc_block ?_ | refine lavc_skip ?_ | refine lavc_exit ?_ | refine lavc_ret ?_ | refine lavcR_round ?_)
        | (refine lavc_cond rfl (fun _ => ?_) (fun hc => absurd hc (by decide)))
        | (refine lavc_cond rfl (fun hc => absurd hc (by decide)) (fun _ => ?_))
        | (simp only [↓reduceIte, Nat.reduceEqDiff, reduceCtorEq]))
      refine R1 tt ⟨?_⟩
      exact end0 (NR.v _) rfl
    · rw [hl] at lpp
      have e : mdays n 2 = 29 := by unfold mdays; rw [if_neg (by omega), if_pos rfl, hl]; rfl
      rw [e]
      refine G1 F4 (an d1 (an d2 (an i2 (an i3 (an b2 tt))))) (an (lpp).go tt) tt tt ⟨?_⟩
      refine R1 tt ⟨?_⟩
      exact end0 (NR.v _) rfl
  have b2 : ((m : Int) == 2) = false := by rw [beq_eq_false_iff_ne, ne_eq]; omega
  obtain ⟨k, hk, hk12⟩ : ∃ k : Nat, m = (k : Int) + 1 ∧ k < 12 := ⟨(m - 1).toNat, by omega, by omega⟩
  have i1 := i64n (m - 1) k (by omega) (by omega)
  have hr : lay_escutcheon_hour_months.getD k 0 = mdays n m := by
    have hne : k ≠ 1 := by omega
    subst hk
    unfold mdays
    rw [if_neg (by omega), if_neg g2]
    have : k = 0 ∨ k = 2 ∨ k = 3 ∨ k = 4 ∨ k = 5 ∨ k = 6 ∨ k = 7 ∨ k = 8 ∨ k = 9 ∨ k = 10 ∨ k = 11 := by omega
    rcases this with h | h | h | h | h | h | h | h | h | h | h <;> subst h <;> rfl
  have hlen : lay_escutcheon_hour_months.length = 12 := rfl
  refine G1 F4 (an d1 (an d2 (an d3 (an d4 (an b2 (an i1 (an hlen (an hr tt)))))))) tt tt tt ⟨?_⟩
  refine R1 tt ⟨?_⟩
  exact end0 (NR.v _) rfl
end Go.Abs.S
namespace Go.Abs.S
attribute [local go_sem] lguard aopO aop aenv toAV tput aLoad aStore vcells aBin aNilI aUn aAlloc aBox aBuild aBSlice afill aConv isIntT aappZ aCap aArr aMM aMake aSlice bnd3 bnd aFldAddr aFld aIdxAddr aIdx aExt aLen aCopy aEq0 bAV aUb aapp aappQ agh acont List.getD_cons_zero List.getD_cons_succ List.set_cons_zero List.set_cons_succ List.getElem?_cons_zero List.getElem?_cons_succ List.length_cons List.length_nil List.map_cons List.map_nil ints_length if_true if_false Bool.false_eq_true true_and and_true eq_self ne_eq not_false_eq_true not_true_eq_false beq_self_eq_true Nat.zero_add Nat.add_zero Nat.mul_one Nat.zero_mul Int.toNat_natCast List.toList_toArray List.all_cons List.all_nil AV.one Value.oneCell' Bool.and_true Bool.true_and forall_const true_implies false_implies implies_true Option.map_some Option.map_none Option.isSome_some Option.isSome_none imp_self rdP_flat rdP_row splice_one ints_set ints_get List.append_nil List.cons_append List.nil_append List.getElem?_toArray List.drop_zero ints_drop ints_take List.take_of_length_le splice_all ints_one Option.some.injEq Option.getD_some List.length_replicate zArr List.map_replicate rep_ints splice_intsR List.length_set List.length_append List.flatten_replicate_singleton rep_slice rep_string rep_bool rep_iface List.replicate_zero if_pos if_neg List.mapM_cons List.mapM_nil Option.pure_def Option.bind_eq_bind Option.bind_some Bool.true_eq_false Bool.not_false Bool.not_true get_concat set_concat
open Go.Proofs
open Go.Abs.H
set_option linter.unusedVariables false
set_option linter.unusedSimpArgs false
set_option maxRecDepth 100000
set_option maxHeartbeats 2000000
theorem ahead_in {k : Int} (h0 : 0 ≤ k) (h1 : k ≤ 10000) : 0 ≤ aheadY k ∧ aheadY k ≤ 3652425 := by
  have a := ahead_le (a := 0) (b := k) (by omega) h0
  have b := ahead_le (a := k) (b := 10000) h0 h1
  rw [ahead_zero] at a
  rw [ahead_last] at b
  exact ⟨a, b⟩
theorem msum_in (y : Int) : ∀ k : Nat, k ≤ 12 → 0 ≤ msum y k ∧ msum y k ≤ 31 * k
  | 0, _ => by simp [msum]
  | k + 1, h => by
    have := msum_in y k (by omega)
    have := mdays_le y (k + 1)
    have e : msum y (k + 1) = msum y k + mdays y (k + 1) := rfl
    omega
theorem first_p : PCall Tryz.prog glob 70 [] (.v (.int .i64 tFirst)) := by
  refine PCall.of ctx.nr nrs (NR.v _) ?_
  refine lcall70 (by simp) 0 (Nat.le_refl _) ?_
  unfold lc70
  refine I1 tt ⟨?_⟩
  have e : -62167219200 = tFirst := rfl
  refine G1 F1 tt tt tt tt ⟨?_⟩
  refine R1 tt ⟨?_⟩
  exact end0 (NR.v _) rfl
theorem last_p : PCall Tryz.prog glob 71 [] (.v (.int .i64 tLast)) := by
  refine PCall.of ctx.nr nrs (NR.v _) ?_
  refine lcall71 (by simp) 0 (Nat.le_refl _) ?_
  unfold lc71
  refine I1 tt ⟨?_⟩
  have h := ahead_p 10000 (by omega)
  have e : aheadY ((10000 : Nat) : Int) = 3652425 := ahead_last
  rw [e] at h
  have f1 := i64z (3652425 - 719528) (by omega)
  have f2 := i64z ((3652425 - 719528) * 86400) (by omega)
  have f3 := i64z ((3652425 - 719528) * 86400 - 1) (by omega)
  refine G1 F1 (an f1 (an f2 (an f3 tt))) (an h.go tt) tt tt ⟨?_⟩
  refine R1 tt ⟨?_⟩
  exact end0 (NR.v _) rfl
theorem time_p (n : Int) : PCall Tryz.prog glob 46 [.v (.int .i64 n)] (.v (.bool (decide (tFirst ≤ n ∧ n ≤ tLast)))) := by
  refine PCall.of ctx.nr nrs (NR.v _) ?_
  refine lcall46 (by simp) 0 (Nat.le_refl _) ?_
  unfold lc46
  refine I1 tt ⟨?_⟩
  by_cases h1 : tFirst ≤ n
  · have d1 : decide (n ≥ tFirst) = true := by rw [decide_eq_true_eq]; omega
    refine G1 F1 (an d1 tt) (an first_p.go (an last_p.go tt)) tt tt ⟨?_⟩
    refine R1 tt ⟨?_⟩
    exact end0 (NR.v _) (by
      congr 2
      rw [Bool.eq_iff_iff, decide_eq_true_eq, decide_eq_true_eq]
      omega)
  · have d1 : decide (n ≥ tFirst) = false := by rw [decide_eq_false_iff_not]; omega
    refine G1 F1 (an d1 tt) (an first_p.go (an last_p.go tt)) tt tt ⟨?_⟩
    refine R1 tt ⟨?_⟩
    exact end0 (NR.v _) (by
      congr 2
      symm
      rw [decide_eq_false_iff_not]
      omega)
end Go.Abs.S
namespace Go.Abs.S
attribute [local go_sem] lguard aopO aop aenv toAV tput aLoad aStore vcells aBin aNilI aUn aAlloc aBox aBuild aBSlice afill aConv isIntT aappZ aCap aArr aMM aMake aSlice bnd3 bnd aFldAddr aFld aIdxAddr aIdx aExt aLen aCopy aEq0 bAV aUb aapp aappQ agh acont List.getD_cons_zero List.getD_cons_succ List.set_cons_zero List.set_cons_succ List.getElem?_cons_zero List.getElem?_cons_succ List.length_cons List.length_nil List.map_cons List.map_nil ints_length if_true if_false Bool.false_eq_true true_and and_true eq_self ne_eq not_false_eq_true not_true_eq_false beq_self_eq_true Nat.zero_add Nat.add_zero Nat.mul_one Nat.zero_mul Int.toNat_natCast List.toList_toArray List.all_cons List.all_nil AV.one Value.oneCell' Bool.and_true Bool.true_and forall_const true_implies false_implies implies_true Option.map_some Option.map_none Option.isSome_some Option.isSome_none imp_self rdP_flat rdP_row splice_one ints_set ints_get List.append_nil List.cons_append List.nil_append List.getElem?_toArray List.drop_zero ints_drop ints_take List.take_of_length_le splice_all ints_one Option.some.injEq Option.getD_some List.length_replicate zArr List.map_replicate rep_ints splice_intsR List.length_set List.length_append List.flatten_replicate_singleton rep_slice rep_string rep_bool rep_iface List.replicate_zero if_pos if_neg List.mapM_cons List.mapM_nil Option.pure_def Option.bind_eq_bind Option.bind_some Bool.true_eq_false Bool.not_false Bool.not_true get_concat set_concat
open Go.Proofs
open Go.Abs.H
set_option linter.unusedVariables false
set_option linter.unusedSimpArgs false
set_option maxRecDepth 100000
set_option maxHeartbeats 2000000
abbrev iv (n : Int) : AV := .v (.int .i64 n)
theorem days_p (x : Date) (hx : x.ok) : PCall Tryz.prog glob 112 [.agg [iv x.y, iv x.m, iv x.d]] (iv (dayN x)) := by
  refine PCall.of ctx.nr (List.forall_mem_cons.2 ⟨NR.agg (by intro c hc; simp at hc; rcases hc with rfl | rfl | rfl <;> exact NR.v _), fun _ h => absurd h List.not_mem_nil⟩) (NR.v _) ?_
  refine lcall112 (by simp) 0 (Nat.le_refl _) ?_
  unfold lc112
  refine I1 tt ⟨?_⟩
  have ha := hx.all
  unfold dayN
  obtain ⟨y0, m0, d⟩ := x
  simp only at ha ⊢
  obtain ⟨y, rfl⟩ := Int.eq_ofNat_of_zero_le (show 0 ≤ y0 by omega)
  obtain ⟨mm, rfl⟩ : ∃ mm : Nat, m0 = (mm : Int) + 1 := ⟨(m0 - 1).toNat, by omega⟩
  have emm : ((mm : Int) + 1 - 1).toNat = mm := by omega
  rw [emm]
  have hp := ahead_p y (by omega)
  have b0 := ahead_in (k := (y : Int)) (by omega) (by omega)
  obtain ⟨N, hN⟩ : ∃ N, aheadY y = N := ⟨_, rfl⟩
  rw [hN] at hp b0 ⊢
  have f1 := i64z (N + d) (by omega)
  have f2 := i64z (N + d - 1) (by omega)
  refine G1 F1 (an f1 (an f2 tt)) (an hp.go tt) tt tt ⟨?_⟩
  refine lavc_loopM ms112_0 (fun m (q : Nat) => m + q = mm) (fun q => [(3, iv (N + d - 1 + msum y q)), (4, iv ((q : Int) + 1))]) (fun _ => [⟨[iv y, iv ((mm : Int) + 1), iv d], 0, true, 85⟩]) mm 0 (by omega) ?_ ?_ ?_
  · try unfold ms112_0
    refine A1 tt ⟨?_⟩
    have : msum y 0 = 0 := rfl
    rw [this, Int.add_zero]
    exact ⟨rfl, rfl⟩
  · rfl
  intro m q hq
  try unfold ms112_0
  refine M1 tt ⟨?_⟩
  have dp := Days_p (y : Int) ((q : Int) + 1) (by omega)
  have b2 := msum_in (y : Int) q (by omega)
  have b3 := mdays_le (y : Int) ((q : Int) + 1)
  have e1 := i64z (N + d - 1 + msum y q + mdays y ((q : Int) + 1)) (by omega)
  have e2 := i64z ((q : Int) + 1 + 1) (by omega)
  refine G1 F1 tt tt tt tt ⟨?_⟩
  refine cnd rfl (fun hc => ?_) (fun hc => ?_)
  · refine G1 F1 (an e1 (an e2 tt)) (an dp.go tt) tt tt ⟨?_⟩
    refine ⟨m - 1, q + 1, by omega, by omega, ?_, trivial⟩
    try unfold ms112_0
    refine A1 tt ⟨?_⟩
    refine ⟨?_, by rw [Int.natCast_succ]⟩
    have e5 : N + d - 1 + msum y (q + 1) = N + d - 1 + msum y q + mdays y ((q : Int) + 1) := by
      show _ + (msum y q + mdays y ((q : Int) + 1)) = _
      omega
    rw [e5]
  obtain rfl : q = mm := by omega
  refine G1 F1 tt tt tt tt ⟨?_⟩
  refine R1 tt ⟨?_⟩
  exact end0 (NR.v _) (by congr 1; omega)
abbrev mv (t : Mom) : AV := .agg [iv t.x.y, iv t.x.m, iv t.x.d, iv t.h, iv t.i, iv t.s]
theorem NR.mv (t : Mom) : NR (mv t) := NR.agg (by intro c hc; simp at hc; rcases hc with rfl | rfl | rfl | rfl | rfl | rfl <;> exact NR.v _)
theorem seconds_p (t : Mom) (ht : t.ok) : PCall Tryz.prog glob 95 [mv t] (iv (secs t)) := by
  refine PCall.of ctx.nr (List.forall_mem_cons.2 ⟨NR.mv t, fun _ h => absurd h List.not_mem_nil⟩) (NR.v _) ?_
  refine lcall95 (by simp) 0 (Nat.le_refl _) ?_
  unfold lc95
  refine I1 tt ⟨?_⟩
  obtain ⟨hx, hh⟩ := ht
  have dp := days_p t.x hx
  have b1 := day_bound hx
  unfold secs
  obtain ⟨x, h, i, s⟩ := t
  simp only at dp b1 hh ⊢
  obtain ⟨N, hN⟩ : ∃ N, dayN x = N := ⟨_, rfl⟩
  rw [hN] at dp b1 ⊢
  have f1 := i64z (N - 719528) (by omega)
  have f2 := i64z ((N - 719528) * 86400) (by omega)
  have f3 := i64z (h * 3600) (by omega)
  have f4 := i64z ((N - 719528) * 86400 + h * 3600) (by omega)
  have f5 := i64z (i * 60) (by omega)
  have f6 := i64z ((N - 719528) * 86400 + h * 3600 + i * 60) (by omega)
  have f7 := i64z ((N - 719528) * 86400 + h * 3600 + i * 60 + s) (by omega)
  have tk : ∀ a b c d e f : AV, List.take 3 [a, b, c, d, e, f] = [a, b, c] := fun _ _ _ _ _ _ => rfl
  refine G1 F1 (an tk (an f1 (an f2 (an f3 (an f4 (an f5 (an f6 (an f7 tt)))))))) (an dp.go tt) tt tt ⟨?_⟩
  refine R1 tt ⟨?_⟩
  exact end0 (NR.v _) rfl
instance (x : Date) : Decidable x.ok := inferInstanceAs (Decidable (_ ∧ _))
/-- What 'good' asks. -/
def goodP (t : Mom) : Bool := decide (1 ≤ t.x.m ∧ t.x.m ≤ 12 ∧ 1 ≤ t.x.d ∧ t.x.d ≤ mdays t.x.y t.x.m ∧ t.h ≤ 23 ∧ t.i ≤ 59 ∧ t.s ≤ 59)
theorem good_p (t : Mom) (hm : -9223372036854775808 ≤ t.x.m ∧ t.x.m ≤ 9223372036854775807) : PCall Tryz.prog glob 94 [mv t] (.v (.bool (goodP t))) := by
  refine PCall.of ctx.nr (List.forall_mem_cons.2 ⟨NR.mv t, fun _ h => absurd h List.not_mem_nil⟩) (NR.v _) ?_
  refine lcall94 (by simp) 0 (Nat.le_refl _) ?_
  unfold lc94
  refine I1 tt ⟨?_⟩
  have dp := Days_p t.x.y t.x.m hm
  have hf : ∀ p : Prop, ¬ p → (goodP t = true → p) → goodP t = false := fun p h1 h2 => by
    cases h : goodP t
    · rfl
    · exact absurd (h2 h) h1
  by_cases h1 : ¬ (1 ≤ t.x.m)
  · have d1 : decide (t.x.m ≥ 1) = false := by rw [decide_eq_false_iff_not]; omega
    have e : goodP t = false := hf _ h1 (fun h => by unfold goodP at h; rw [decide_eq_true_eq] at h; exact h.1)
    rw [e]
    refine G1 F1 (an d1 tt) tt tt tt ⟨?_⟩
    refine R1 tt ⟨?_⟩
    exact end0 (NR.v _) rfl
  replace h1 := Decidable.not_not.1 h1
  have d1 : decide (t.x.m ≥ 1) = true := by rw [decide_eq_true_eq]; omega
  by_cases h2 : ¬ (t.x.m ≤ 12)
  · have d2 : decide (t.x.m ≤ 12) = false := by rw [decide_eq_false_iff_not]; omega
    have e : goodP t = false := hf _ h2 (fun h => by unfold goodP at h; rw [decide_eq_true_eq] at h; exact h.2.1)
    rw [e]
    refine G1 F1 (an d1 (an d2 tt)) tt tt tt ⟨?_⟩
    refine R1 tt ⟨?_⟩
    exact end0 (NR.v _) rfl
  replace h2 := Decidable.not_not.1 h2
  have d2 : decide (t.x.m ≤ 12) = true := by rw [decide_eq_true_eq]; omega
  by_cases h3 : ¬ (1 ≤ t.x.d)
  · have d3 : decide (t.x.d ≥ 1) = false := by rw [decide_eq_false_iff_not]; omega
    have e : goodP t = false := hf _ h3 (fun h => by unfold goodP at h; rw [decide_eq_true_eq] at h; exact h.2.2.1)
    rw [e]
    refine G1 F1 (an d1 (an d2 (an d3 tt))) tt tt tt ⟨?_⟩
    refine R1 tt ⟨?_⟩
    exact end0 (NR.v _) rfl
  replace h3 := Decidable.not_not.1 h3
  have d3 : decide (t.x.d ≥ 1) = true := by rw [decide_eq_true_eq]; omega
  by_cases h4 : ¬ (t.x.d ≤ mdays t.x.y t.x.m)
  · have d4 : decide (t.x.d ≤ mdays t.x.y t.x.m) = false := by rw [decide_eq_false_iff_not]; omega
    have e : goodP t = false := hf _ h4 (fun h => by unfold goodP at h; rw [decide_eq_true_eq] at h; exact h.2.2.2.1)
    rw [e]
    refine G1 F1 (an d1 (an d2 (an d3 (an d4 tt)))) (an dp.go tt) tt tt ⟨?_⟩
    refine R1 tt ⟨?_⟩
    exact end0 (NR.v _) rfl
  replace h4 := Decidable.not_not.1 h4
  have d4 : decide (t.x.d ≤ mdays t.x.y t.x.m) = true := by rw [decide_eq_true_eq]; omega
  by_cases h5 : ¬ (t.h ≤ 23)
  · have d5 : decide (t.h ≤ 23) = false := by rw [decide_eq_false_iff_not]; omega
    have e : goodP t = false := hf _ h5 (fun h => by unfold goodP at h; rw [decide_eq_true_eq] at h; exact h.2.2.2.2.1)
    rw [e]
    refine G1 F1 (an d1 (an d2 (an d3 (an d4 (an d5 tt))))) (an dp.go tt) tt tt ⟨?_⟩
    refine R1 tt ⟨?_⟩
    exact end0 (NR.v _) rfl
  replace h5 := Decidable.not_not.1 h5
  have d5 : decide (t.h ≤ 23) = true := by rw [decide_eq_true_eq]; omega
  by_cases h6 : ¬ (t.i ≤ 59)
  · have d6 : decide (t.i ≤ 59) = false := by rw [decide_eq_false_iff_not]; omega
    have e : goodP t = false := hf _ h6 (fun h => by unfold goodP at h; rw [decide_eq_true_eq] at h; exact h.2.2.2.2.2.1)
    rw [e]
    refine G1 F1 (an d1 (an d2 (an d3 (an d4 (an d5 (an d6 tt)))))) (an dp.go tt) tt tt ⟨?_⟩
    refine R1 tt ⟨?_⟩
    exact end0 (NR.v _) rfl
  replace h6 := Decidable.not_not.1 h6
  have d6 : decide (t.i ≤ 59) = true := by rw [decide_eq_true_eq]; omega
  by_cases h7 : t.s ≤ 59
  · have d7 : decide (t.s ≤ 59) = true := by rw [decide_eq_true_eq]; omega
    have e : goodP t = true := by unfold goodP; rw [decide_eq_true_eq]; exact ⟨h1, h2, h3, h4, h5, h6, h7⟩
    rw [e]
    refine G1 F1 (an d1 (an d2 (an d3 (an d4 (an d5 (an d6 (an d7 tt))))))) (an dp.go tt) tt tt ⟨?_⟩
    refine R1 tt ⟨?_⟩
    exact end0 (NR.v _) rfl
  · have d7 : decide (t.s ≤ 59) = false := by rw [decide_eq_false_iff_not]; omega
    have e : goodP t = false := hf _ h7 (fun h => by unfold goodP at h; rw [decide_eq_true_eq] at h; exact h.2.2.2.2.2.2)
    rw [e]
    refine G1 F1 (an d1 (an d2 (an d3 (an d4 (an d5 (an d6 (an d7 tt))))))) (an dp.go tt) tt tt ⟨?_⟩
    refine R1 tt ⟨?_⟩
    exact end0 (NR.v _) rfl
end Go.Abs.S
namespace Go.Abs.S
attribute [local go_sem] lguard aopO aop aenv toAV tput aLoad aStore vcells aBin aNilI aUn aAlloc aBox aBuild aBSlice afill aConv isIntT aappZ aCap aArr aMM aMake aSlice bnd3 bnd aFldAddr aFld aIdxAddr aIdx aExt aLen aCopy aEq0 bAV aUb aapp aappQ agh acont List.getD_cons_zero List.getD_cons_succ List.set_cons_zero List.set_cons_succ List.getElem?_cons_zero List.getElem?_cons_succ List.length_cons List.length_nil List.map_cons List.map_nil ints_length if_true if_false Bool.false_eq_true true_and and_true eq_self ne_eq not_false_eq_true not_true_eq_false beq_self_eq_true Nat.zero_add Nat.add_zero Nat.mul_one Nat.zero_mul Int.toNat_natCast List.toList_toArray List.all_cons List.all_nil AV.one Value.oneCell' Bool.and_true Bool.true_and forall_const true_implies false_implies implies_true Option.map_some Option.map_none Option.isSome_some Option.isSome_none imp_self rdP_flat rdP_row splice_one ints_set ints_get List.append_nil List.cons_append List.nil_append List.getElem?_toArray List.drop_zero ints_drop ints_take List.take_of_length_le splice_all ints_one Option.some.injEq Option.getD_some List.length_replicate zArr List.map_replicate rep_ints splice_intsR List.length_set List.length_append List.flatten_replicate_singleton rep_slice rep_string rep_bool rep_iface List.replicate_zero if_pos if_neg List.mapM_cons List.mapM_nil Option.pure_def Option.bind_eq_bind Option.bind_some Bool.true_eq_false Bool.not_false Bool.not_true get_concat set_concat
open Go.Proofs
open Go.Abs.H
set_option linter.unusedVariables false
set_option linter.unusedSimpArgs false
set_option maxRecDepth 100000
set_option maxHeartbeats 4000000
/-- A text's byte. -/
def bt (s : ByteArray) (i : Nat) : Int := ((s.data.toList.getD i 0).toNat : Int)
theorem bt_byte (s : ByteArray) (i : Nat) : 0 ≤ bt s i ∧ bt s i ≤ 255 := by
  unfold bt
  have := (s.data.toList.getD i 0).toNat_lt
  omega
/-- A byte of a text, one of a form. -/
def okc (a b : Int) : Prop := (48 ≤ a ∧ a ≤ 57 ∧ b = 100) ∨ (¬ (48 ≤ a ∧ a ≤ 57) ∧ b ≠ 100 ∧ a = b)
instance (a b : Int) : Decidable (okc a b) := inferInstanceAs (Decidable (_ ∨ _))
def Fits (s f : ByteArray) : Prop := s.size = f.size ∧ ∀ i, i < s.size → okc (bt s i) (bt f i)
instance (s f : ByteArray) : Decidable (Fits s f) := inferInstanceAs (Decidable (_ ∧ ∀ i, i < s.size → _))
theorem fits_p (s f : ByteArray) (hs : s.size ≤ 1000000) (hf : f.size ≤ 1000000) : PCall Tryz.prog glob 92 [.v (.string s), .v (.string f)] (.v (.bool (decide (Fits s f)))) := by
  refine PCall.of ctx.nr nrs (NR.v _) ?_
  refine lcall92 (by simp) 0 (Nat.le_refl _) ?_
  unfold lc92
  refine I1 tt ⟨?_⟩
  have bq1 : ((true : Bool) == false) = false := rfl
  have bq2 : ((false : Bool) == true) = false := rfl
  have bq3 : ((true : Bool) == true) = true := rfl
  have bq4 : ((false : Bool) == false) = true := rfl
  refine G1 F1 tt tt tt tt ⟨?_⟩
  refine lavc_loopM ms92_0 (fun m (i : Nat) => m + i = s.size ∧ ∀ j, j < i → j < f.size ∧ okc (bt s j) (bt f j)) (fun i => [(9, .v (.int .i64 i))]) (fun _ => []) s.size 0 ⟨by omega, fun j hj => by omega⟩ ?_ ?_ ?_
  · try unfold ms92_0
    refine A1 tt ⟨?_⟩
    rfl
  · rfl
  rintro m i ⟨hi, hall⟩
  try unfold ms92_0
  refine M1 tt ⟨?_⟩
  refine G1 F1 tt tt tt tt ⟨?_⟩
  refine cnd rfl (fun hc => ?_) (fun hc => ?_)
  · have e9 := i64n ((i : Int) + 1) (i + 1) (by omega) (by omega)
    obtain ⟨a, ha⟩ : ∃ a, bt s i = a := ⟨_, rfl⟩
    have hsa : ((s.data.toList.getD i 0).toNat : Int) = a := ha
    have haB := bt_byte s i
    rw [ha] at haB
    have pre1 : ¬ (i < f.size) → decide (Fits s f) = false := fun h => by
      rw [decide_eq_false_iff_not]
      rintro ⟨h1, _⟩
      omega
    have bad : (¬ okc a (bt f i)) → decide (Fits s f) = false := fun h => by
      rw [decide_eq_false_iff_not]
      rintro ⟨_, h2⟩
      have := h2 i (by omega)
      rw [ha] at this
      exact h this
    by_cases hfi : i < f.size
    · obtain ⟨b, hbb⟩ : ∃ b, bt f i = b := ⟨_, rfl⟩
      have hfb : ((f.data.toList.getD i 0).toNat : Int) = b := hbb
      rw [hbb] at bad
      have e24 : decide ((i : Int) ≥ f.size) = false := by rw [decide_eq_false_iff_not]; omega
      have step : okc a b → ∀ j, j < i + 1 → j < f.size ∧ okc (bt s j) (bt f j) := fun h j hj => by
        by_cases e : j = i
        · subst e
          rw [ha, hbb]
          exact ⟨hfi, h⟩
        · exact hall j (by omega)
      by_cases h48 : 48 ≤ a
      · have q1 : decide (a ≥ 48) = true := by rw [decide_eq_true_eq]; omega
        by_cases h57 : a ≤ 57
        · have q2 : decide (a ≤ 57) = true := by rw [decide_eq_true_eq]; omega
          by_cases hb : b = 100
          · have x1 : ((b : Int) == 100) = true := by rw [beq_iff_eq]; omega
            refine G1 F1 (an e24 (an x1 (an hfb (an q1 (an q2 (an hsa (an bq1 (an bq2 (an bq3 (an bq4 tt)))))))))) tt tt tt ⟨?_⟩
            refine cnd rfl (fun hc => ?_) (fun hc => ?_)
            · cases hc
            refine G1 F1 (an e9 tt) tt tt tt ⟨?_⟩
            refine ⟨m - 1, i + 1, by omega, ⟨by omega, step (Or.inl ⟨h48, h57, hb⟩)⟩, ?_, trivial⟩
            try unfold ms92_0
            exact A0 tt
          · have x1 : ((b : Int) == 100) = false := by rw [beq_eq_false_iff_ne, ne_eq]; omega
            rw [bad (fun h => by rcases h with h | h <;> omega)]
            refine G1 F1 (an e24 (an x1 (an hfb (an q1 (an q2 (an hsa (an bq1 (an bq2 (an bq3 (an bq4 tt)))))))))) tt tt tt ⟨?_⟩
            refine cnd rfl (fun hc => ?_) (fun hc => ?_)
            · refine G1 F1 tt tt tt tt ⟨?_⟩
              refine R1 tt ⟨?_⟩
              exact end0 (NR.v _) rfl
            · cases hc
        · have q2 : decide (a ≤ 57) = false := by rw [decide_eq_false_iff_not]; omega
          by_cases hb : b = 100
          · have x1 : ((b : Int) == 100) = true := by rw [beq_iff_eq]; omega
            rw [bad (fun h => by rcases h with h | h <;> omega)]
            refine G1 F1 (an e24 (an x1 (an hfb (an q1 (an q2 (an hsa (an bq1 (an bq2 (an bq3 (an bq4 tt)))))))))) tt tt tt ⟨?_⟩
            refine cnd rfl (fun hc => ?_) (fun hc => ?_)
            · refine G1 F1 tt tt tt tt ⟨?_⟩
              refine R1 tt ⟨?_⟩
              exact end0 (NR.v _) rfl
            · cases hc
          have x1 : ((b : Int) == 100) = false := by rw [beq_eq_false_iff_ne, ne_eq]; omega
          by_cases hab : a = b
          · have x2 : ((a : Int) != b) = false := by rw [bne_eq_false_iff_eq]; omega
            refine G1 F1 (an e24 (an x1 (an x2 (an hfb (an q1 (an q2 (an hsa (an bq1 (an bq2 (an bq3 (an bq4 tt))))))))))) tt tt tt ⟨?_⟩
            refine cnd rfl (fun hc => ?_) (fun hc => ?_)
            · cases hc
            refine G1 F1 (an e9 tt) tt tt tt ⟨?_⟩
            refine ⟨m - 1, i + 1, by omega, ⟨by omega, step (Or.inr ⟨by omega, hb, hab⟩)⟩, ?_, trivial⟩
            try unfold ms92_0
            exact A0 tt
          · have x2 : ((a : Int) != b) = true := by rw [bne_iff_ne, ne_eq]; omega
            rw [bad (fun h => by rcases h with h | h <;> omega)]
            refine G1 F1 (an e24 (an x1 (an x2 (an hfb (an q1 (an q2 (an hsa (an bq1 (an bq2 (an bq3 (an bq4 tt))))))))))) tt tt tt ⟨?_⟩
            refine cnd rfl (fun hc => ?_) (fun hc => ?_)
            · refine G1 F1 tt tt tt tt ⟨?_⟩
              refine R1 tt ⟨?_⟩
              exact end0 (NR.v _) rfl
            · cases hc
      · have q1 : decide (a ≥ 48) = false := by rw [decide_eq_false_iff_not]; omega
        by_cases hb : b = 100
        · have x1 : ((b : Int) == 100) = true := by rw [beq_iff_eq]; omega
          rw [bad (fun h => by rcases h with h | h <;> omega)]
          refine G1 F1 (an e24 (an x1 (an hfb (an q1 (an hsa (an bq1 (an bq2 (an bq3 (an bq4 tt))))))))) tt tt tt ⟨?_⟩
          refine cnd rfl (fun hc => ?_) (fun hc => ?_)
          · refine G1 F1 tt tt tt tt ⟨?_⟩
            refine R1 tt ⟨?_⟩
            exact end0 (NR.v _) rfl
          · cases hc
        have x1 : ((b : Int) == 100) = false := by rw [beq_eq_false_iff_ne, ne_eq]; omega
        by_cases hab : a = b
        · have x2 : ((a : Int) != b) = false := by rw [bne_eq_false_iff_eq]; omega
          refine G1 F1 (an e24 (an x1 (an x2 (an hfb (an q1 (an hsa (an bq1 (an bq2 (an bq3 (an bq4 tt)))))))))) tt tt tt ⟨?_⟩
          refine cnd rfl (fun hc => ?_) (fun hc => ?_)
          · cases hc
          refine G1 F1 (an e9 tt) tt tt tt ⟨?_⟩
          refine ⟨m - 1, i + 1, by omega, ⟨by omega, step (Or.inr ⟨by omega, hb, hab⟩)⟩, ?_, trivial⟩
          try unfold ms92_0
          exact A0 tt
        · have x2 : ((a : Int) != b) = true := by rw [bne_iff_ne, ne_eq]; omega
          rw [bad (fun h => by rcases h with h | h <;> omega)]
          refine G1 F1 (an e24 (an x1 (an x2 (an hfb (an q1 (an hsa (an bq1 (an bq2 (an bq3 (an bq4 tt)))))))))) tt tt tt ⟨?_⟩
          refine cnd rfl (fun hc => ?_) (fun hc => ?_)
          · refine G1 F1 tt tt tt tt ⟨?_⟩
            refine R1 tt ⟨?_⟩
            exact end0 (NR.v _) rfl
          · cases hc
    · have e24 : decide ((i : Int) ≥ f.size) = true := by rw [decide_eq_true_eq]; omega
      rw [pre1 hfi]
      by_cases h48 : 48 ≤ a
      · have q1 : decide (a ≥ 48) = true := by rw [decide_eq_true_eq]; omega
        by_cases h57 : a ≤ 57
        · have q2 : decide (a ≤ 57) = true := by rw [decide_eq_true_eq]; omega
          refine G1 F1 (an hsa (an q1 (an q2 (an e24 tt)))) tt tt tt ⟨?_⟩
          refine cnd rfl (fun hc => ?_) (fun hc => ?_)
          · refine G1 F1 tt tt tt tt ⟨?_⟩
            refine R1 tt ⟨?_⟩
            exact end0 (NR.v _) rfl
          · cases hc
        · have q2 : decide (a ≤ 57) = false := by rw [decide_eq_false_iff_not]; omega
          refine G1 F1 (an hsa (an q1 (an q2 (an e24 tt)))) tt tt tt ⟨?_⟩
          refine cnd rfl (fun hc => ?_) (fun hc => ?_)
          · refine G1 F1 tt tt tt tt ⟨?_⟩
            refine R1 tt ⟨?_⟩
            exact end0 (NR.v _) rfl
          · cases hc
      · have q1 : decide (a ≥ 48) = false := by rw [decide_eq_false_iff_not]; omega
        refine G1 F1 (an hsa (an q1 (an e24 tt))) tt tt tt ⟨?_⟩
        refine cnd rfl (fun hc => ?_) (fun hc => ?_)
        · refine G1 F1 tt tt tt tt ⟨?_⟩
          refine R1 tt ⟨?_⟩
          exact end0 (NR.v _) rfl
        · cases hc
  obtain rfl : i = s.size := by omega
  refine G1 F1 tt tt tt tt ⟨?_⟩
  refine R1 tt ⟨?_⟩
  exact end0 (NR.v _) (by
    congr 2
    rw [Bool.eq_iff_iff, beq_iff_eq, decide_eq_true_eq]
    constructor
    · intro h
      exact ⟨by omega, fun j hj => (hall j hj).2⟩
    · rintro ⟨h, _⟩
      omega)
end Go.Abs.S
namespace Go.Proofs
open Go.Shelf
def Tryz.lays161_ren : Go.Shelf.Ren := ⟨fun | 161 => 34 | 231 => 61 | 227 => 62 | 233 => 63 | 235 => 64 | 228 => 86 | 197 => 56 | 151 => 87 | 260 => 80 | 152 => 108 | 137 => 81 | 119 => 125 | 224 => 126 | 225 => 127 | 217 => 102 | 266 => 117 | n => n, fun | 9 => 9 | 4 => 4 | 3 => 3 | 5 => 5 | 117 => 113 | 116 => 112 | 0 => 0 | 124 => 116 | 105 => 106 | 21 => 21 | 119 => 142 | 46 => 138 | 139 => 145 | 138 => 144 | n => n, fun | 3 => 2 | 4 => 3 | n => n⟩
theorem Tryz.lays161 : Go.Proofs.Lays.n161 Tryz.prog Tryz.lays161_ren := {
  mixed := by kernel_rfl
  f119 := Tryz.func125.trans (congrArg some (by kernel_rfl))
  f137 := Tryz.func81.trans (congrArg some (by kernel_rfl))
  f151 := Tryz.func87.trans (congrArg some (by kernel_rfl))
  f152 := Tryz.func108.trans (congrArg some (by kernel_rfl))
  f161 := Tryz.func34.trans (congrArg some (by kernel_rfl))
  f197 := Tryz.func56.trans (congrArg some (by kernel_rfl))
  f217 := Tryz.func102.trans (congrArg some (by kernel_rfl))
  f224 := Tryz.func126.trans (congrArg some (by kernel_rfl))
  f225 := Tryz.func127.trans (congrArg some (by kernel_rfl))
  f227 := Tryz.func62.trans (congrArg some (by kernel_rfl))
  f228 := Tryz.func86.trans (congrArg some (by kernel_rfl))
  f231 := Tryz.func61.trans (congrArg some (by kernel_rfl))
  f233 := Tryz.func63.trans (congrArg some (by kernel_rfl))
  f235 := Tryz.func64.trans (congrArg some (by kernel_rfl))
  f260 := Tryz.func80.trans (congrArg some (by kernel_rfl))
  f266 := Tryz.func117.trans (congrArg some (by kernel_rfl))
  t0 := Tryz.underlying0
  a0 := Tryz.isAgg0
  z0 := Tryz.sizeOf0
  v0 := Tryz.zeroValue0
  t3 := Tryz.underlying3
  a3 := Tryz.isAgg3
  z3 := Tryz.sizeOf3
  v3 := Tryz.zeroValue3
  t4 := Tryz.underlying4
  a4 := Tryz.isAgg4
  z4 := Tryz.sizeOf4
  v4 := Tryz.zeroValue4
  t5 := Tryz.underlying5
  a5 := Tryz.isAgg5
  z5 := Tryz.sizeOf5
  v5 := Tryz.zeroValue5
  t9 := Tryz.underlying9
  a9 := Tryz.isAgg9
  z9 := Tryz.sizeOf9
  v9 := Tryz.zeroValue9
  t21 := Tryz.underlying21
  a21 := Tryz.isAgg21
  z21 := Tryz.sizeOf21
  v21 := Tryz.zeroValue21
  t46 := Tryz.underlying138
  a46 := Tryz.isAgg138
  z46 := Tryz.sizeOf138
  v46 := Tryz.zeroValue138
  t105 := Tryz.underlying106
  a105 := Tryz.isAgg106
  z105 := Tryz.sizeOf106
  v105 := Tryz.zeroValue106
  t116 := Tryz.underlying112
  a116 := Tryz.isAgg112
  z116 := Tryz.sizeOf112
  t117 := Tryz.underlying113
  a117 := Tryz.isAgg113
  z117 := Tryz.sizeOf113
  v117 := Tryz.zeroValue113
  t119 := Tryz.underlying142
  a119 := Tryz.isAgg142
  z119 := Tryz.sizeOf142
  t124 := Tryz.underlying116
  a124 := Tryz.isAgg116
  z124 := Tryz.sizeOf116
  v124 := Tryz.zeroValue116
  t138 := Tryz.underlying144
  a138 := Tryz.isAgg144
  z138 := Tryz.sizeOf144
  v138 := Tryz.zeroValue144
  t139 := Tryz.underlying145
  a139 := Tryz.isAgg145
  z139 := Tryz.sizeOf145
  v139 := Tryz.zeroValue145
  g3 := by kernel_rfl
  g4 := by kernel_rfl }
def Tryz.lays160_ren : Go.Shelf.Ren := ⟨fun | 160 => 82 | 232 => 103 | 231 => 61 | 227 => 62 | 234 => 104 | 233 => 63 | 236 => 105 | 235 => 64 | 228 => 86 | 271 => 118 | 151 => 87 | 197 => 56 | 120 => 134 | 152 => 108 | 260 => 80 | 137 => 81 | 119 => 125 | 224 => 126 | 225 => 127 | 217 => 102 | 266 => 117 | n => n, fun | 9 => 9 | 4 => 4 | 3 => 3 | 5 => 5 | 117 => 113 | 116 => 112 | 0 => 0 | 124 => 116 | 21 => 21 | 105 => 106 | 46 => 138 | 119 => 142 | 139 => 145 | 138 => 144 | n => n, fun | 3 => 2 | 4 => 3 | n => n⟩
theorem Tryz.lays160 : Go.Proofs.Lays.n160 Tryz.prog Tryz.lays160_ren := {
  mixed := by kernel_rfl
  f119 := Tryz.func125.trans (congrArg some (by kernel_rfl))
  f120 := Tryz.func134.trans (congrArg some (by kernel_rfl))
  f137 := Tryz.func81.trans (congrArg some (by kernel_rfl))
  f151 := Tryz.func87.trans (congrArg some (by kernel_rfl))
  f152 := Tryz.func108.trans (congrArg some (by kernel_rfl))
  f160 := Tryz.func82.trans (congrArg some (by kernel_rfl))
  f197 := Tryz.func56.trans (congrArg some (by kernel_rfl))
  f217 := Tryz.func102.trans (congrArg some (by kernel_rfl))
  f224 := Tryz.func126.trans (congrArg some (by kernel_rfl))
  f225 := Tryz.func127.trans (congrArg some (by kernel_rfl))
  f227 := Tryz.func62.trans (congrArg some (by kernel_rfl))
  f228 := Tryz.func86.trans (congrArg some (by kernel_rfl))
  f231 := Tryz.func61.trans (congrArg some (by kernel_rfl))
  f232 := Tryz.func103.trans (congrArg some (by kernel_rfl))
  f233 := Tryz.func63.trans (congrArg some (by kernel_rfl))
  f234 := Tryz.func104.trans (congrArg some (by kernel_rfl))
  f235 := Tryz.func64.trans (congrArg some (by kernel_rfl))
  f236 := Tryz.func105.trans (congrArg some (by kernel_rfl))
  f260 := Tryz.func80.trans (congrArg some (by kernel_rfl))
  f266 := Tryz.func117.trans (congrArg some (by kernel_rfl))
  f271 := Tryz.func118.trans (congrArg some (by kernel_rfl))
  t0 := Tryz.underlying0
  a0 := Tryz.isAgg0
  z0 := Tryz.sizeOf0
  v0 := Tryz.zeroValue0
  t3 := Tryz.underlying3
  a3 := Tryz.isAgg3
  z3 := Tryz.sizeOf3
  v3 := Tryz.zeroValue3
  t4 := Tryz.underlying4
  a4 := Tryz.isAgg4
  z4 := Tryz.sizeOf4
  v4 := Tryz.zeroValue4
  t5 := Tryz.underlying5
  a5 := Tryz.isAgg5
  z5 := Tryz.sizeOf5
  v5 := Tryz.zeroValue5
  t9 := Tryz.underlying9
  a9 := Tryz.isAgg9
  z9 := Tryz.sizeOf9
  v9 := Tryz.zeroValue9
  t21 := Tryz.underlying21
  a21 := Tryz.isAgg21
  z21 := Tryz.sizeOf21
  v21 := Tryz.zeroValue21
  t46 := Tryz.underlying138
  a46 := Tryz.isAgg138
  z46 := Tryz.sizeOf138
  v46 := Tryz.zeroValue138
  t105 := Tryz.underlying106
  a105 := Tryz.isAgg106
  z105 := Tryz.sizeOf106
  v105 := Tryz.zeroValue106
  t116 := Tryz.underlying112
  a116 := Tryz.isAgg112
  z116 := Tryz.sizeOf112
  t117 := Tryz.underlying113
  a117 := Tryz.isAgg113
  z117 := Tryz.sizeOf113
  v117 := Tryz.zeroValue113
  t119 := Tryz.underlying142
  a119 := Tryz.isAgg142
  z119 := Tryz.sizeOf142
  t124 := Tryz.underlying116
  a124 := Tryz.isAgg116
  z124 := Tryz.sizeOf116
  v124 := Tryz.zeroValue116
  t138 := Tryz.underlying144
  a138 := Tryz.isAgg144
  z138 := Tryz.sizeOf144
  v138 := Tryz.zeroValue144
  t139 := Tryz.underlying145
  a139 := Tryz.isAgg145
  z139 := Tryz.sizeOf145
  v139 := Tryz.zeroValue145
  g3 := by kernel_rfl
  g4 := by kernel_rfl }
def Tryz.lays137_ren : Go.Shelf.Ren := ⟨fun | 137 => 81 | 217 => 102 | 266 => 117 | n => n, fun | 9 => 9 | 5 => 5 | 3 => 3 | n => n, fun | n => n⟩
theorem Tryz.lays137 : Go.Proofs.Lays.n137 Tryz.prog Tryz.lays137_ren := {
  mixed := by kernel_rfl
  f137 := Tryz.func81.trans (congrArg some (by kernel_rfl))
  f217 := Tryz.func102.trans (congrArg some (by kernel_rfl))
  f266 := Tryz.func117.trans (congrArg some (by kernel_rfl))
  t3 := Tryz.underlying3
  a3 := Tryz.isAgg3
  z3 := Tryz.sizeOf3
  v3 := Tryz.zeroValue3
  t5 := Tryz.underlying5
  a5 := Tryz.isAgg5
  z5 := Tryz.sizeOf5
  v5 := Tryz.zeroValue5
  t9 := Tryz.underlying9
  a9 := Tryz.isAgg9
  z9 := Tryz.sizeOf9
  v9 := Tryz.zeroValue9 }
open Go.RowKit in
/-- strings.IndexByte: "IndexByte returns the index of the first instance of c in s, or -1 if c is not present in s.": IT RETURNS 'Lib.indexByte s c'; the world is as it was. (LAID: no walk: one application.) -/
theorem Tryz.strings_IndexByte (s : ByteArray) (c : Int) (w : World) :
    Calls Tryz.prog 81 #[.string s, .int .u8 c] w fun e w' => e = .returned (.int .i64 (Lib.indexByte s.data.toList c.toNat.toUInt8)) ∧ w' = w := Any.strings_IndexByte Tryz.lays137 s c w
def Tryz.lays103_ren : Go.Shelf.Ren := ⟨fun | 103 => 53 | 210 => 78 | 206 => 85 | n => n, fun | 9 => 9 | 4 => 4 | 24 => 76 | 3 => 3 | n => n, fun | n => n⟩
theorem Tryz.lays103 : Go.Proofs.Lays.n103 Tryz.prog Tryz.lays103_ren := {
  mixed := by kernel_rfl
  f103 := Tryz.func53.trans (congrArg some (by kernel_rfl))
  f206 := Tryz.func85.trans (congrArg some (by kernel_rfl))
  f210 := Tryz.func78.trans (congrArg some (by kernel_rfl))
  t3 := Tryz.underlying3
  a3 := Tryz.isAgg3
  z3 := Tryz.sizeOf3
  v3 := Tryz.zeroValue3
  t4 := Tryz.underlying4
  a4 := Tryz.isAgg4
  z4 := Tryz.sizeOf4
  v4 := Tryz.zeroValue4
  t9 := Tryz.underlying9
  a9 := Tryz.isAgg9
  z9 := Tryz.sizeOf9
  v9 := Tryz.zeroValue9
  t24 := Tryz.underlying76
  a24 := Tryz.isAgg76
  z24 := Tryz.sizeOf76
  v24 := Tryz.zeroValue76 }
open Go.RowKit in
/-- strings.CutPrefix: "CutPrefix returns s without the provided leading prefix string and reports whether it found the prefix. If s doesn't start with prefix, CutPrefix returns s, false. If prefix is the empty string, CutPrefix returns s, true.": IT RETURNS '(Lib.trimPrefix s p, Lib.hasPrefix s p)'; the world is as it was. (LAID: no walk: one application.) -/
theorem Tryz.strings_CutPrefix (s p : ByteArray) (w : World) :
    Calls Tryz.prog 53 #[.string s, .string p] w fun e w' => e = .returned (.tuple #[.string ⟨(Lib.trimPrefix s.data.toList p.data.toList).toArray⟩, .bool (Lib.hasPrefix s.data.toList p.data.toList)]) ∧ w' = w := Any.strings_CutPrefix Tryz.lays103 s p w
def Tryz.lays285_ren : Go.Shelf.Ren := ⟨fun | 285 => 131 | n => n, fun | 37 => 22 | 53 => 128 | 3 => 3 | 4 => 4 | 51 => 151 | 9 => 9 | 5 => 5 | 0 => 0 | n => n, fun | n => n⟩
theorem Tryz.lays285 : Go.Proofs.Lays.n285 Tryz.prog Tryz.lays285_ren := {
  mixed := by kernel_rfl
  f285 := Tryz.func131.trans (congrArg some (by kernel_rfl))
  t0 := Tryz.underlying0
  a0 := Tryz.isAgg0
  z0 := Tryz.sizeOf0
  v0 := Tryz.zeroValue0
  t3 := Tryz.underlying3
  a3 := Tryz.isAgg3
  z3 := Tryz.sizeOf3
  v3 := Tryz.zeroValue3
  t4 := Tryz.underlying4
  a4 := Tryz.isAgg4
  z4 := Tryz.sizeOf4
  v4 := Tryz.zeroValue4
  t5 := Tryz.underlying5
  a5 := Tryz.isAgg5
  z5 := Tryz.sizeOf5
  v5 := Tryz.zeroValue5
  t9 := Tryz.underlying9
  a9 := Tryz.isAgg9
  z9 := Tryz.sizeOf9
  v9 := Tryz.zeroValue9
  t37 := Tryz.underlying22
  a37 := Tryz.isAgg22
  z37 := Tryz.sizeOf22
  v37 := Tryz.zeroValue22
  t51 := Tryz.underlying151
  a51 := Tryz.isAgg151
  z51 := Tryz.sizeOf151
  v51 := Tryz.zeroValue151
  t53 := Tryz.underlying128
  a53 := Tryz.isAgg128
  z53 := Tryz.sizeOf128
  v53 := Tryz.zeroValue128 }
open Go.RowKit Go.Sort Go.Lib in
/-- internal/strconv.formatBase10: "formatBase10 formats the decimal representation of u into a. The caller is responsible for ensuring that a is big enough to hold u. If a is too big, leading zeros will be filled in as needed.": THE ROW HOLDS u's DIGITS ('FmtInv .. 0 ..': every place t holds 'dg u (len - 1 - t)'); all else is as it was but for the count of draws. (LAID: no walk: one application.) -/
theorem Tryz.internal_strconv_formatBase10 (blk off cap : Nat) (u : Nat) (d : Array UInt8) (w : World) (hH : Holds (fun (b : UInt8) => Value.int .u8 (b.toNat : Int)) w blk off d) (hu : u < 10 ^ d.size) (hu64 : u < 18446744073709551616) (hsz : d.size < 4611686018427387904) :
    Calls Tryz.prog 131 #[.slice (some ⟨blk, off, none⟩) d.size cap, .int .u64 u] w fun e w' =>
      e = .returned (.tuple #[]) ∧ ∃ (n v' : Nat) (dk : Array UInt8), w' = (putRow (fun (b : UInt8) => Value.int .u8 (b.toNat : Int)) w blk off dk).drewN n ∧ FmtInv d.size u 0 v' dk := Any.internal_strconv_formatBase10 Tryz.lays285 blk off cap u d w hH hu hu64 hsz
def Tryz.laysGw15_ren : Go.Shelf.Ren := ⟨fun | 15 => 54 | 20 => 79 | n => n, fun | 9 => 9 | 23 => 105 | 3 => 3 | 4 => 4 | 0 => 0 | 21 => 21 | n => n, fun | n => n⟩
theorem Tryz.laysGw15 : Go.Proofs.LaysGw.n15 Tryz.prog Tryz.laysGw15_ren := {
  mixed := by kernel_rfl
  f15 := Tryz.func54.trans (congrArg some (by kernel_rfl))
  f20 := Tryz.func79.trans (congrArg some (by kernel_rfl))
  t0 := Tryz.underlying0
  a0 := Tryz.isAgg0
  z0 := Tryz.sizeOf0
  v0 := Tryz.zeroValue0
  i0 := by kernel_rfl
  t3 := Tryz.underlying3
  a3 := Tryz.isAgg3
  z3 := Tryz.sizeOf3
  v3 := Tryz.zeroValue3
  i3 := by kernel_rfl
  t4 := Tryz.underlying4
  a4 := Tryz.isAgg4
  z4 := Tryz.sizeOf4
  v4 := Tryz.zeroValue4
  i4 := by kernel_rfl
  t9 := Tryz.underlying9
  a9 := Tryz.isAgg9
  z9 := Tryz.sizeOf9
  v9 := Tryz.zeroValue9
  i9 := by kernel_rfl
  t21 := Tryz.underlying21
  a21 := Tryz.isAgg21
  z21 := Tryz.sizeOf21
  v21 := Tryz.zeroValue21
  i21 := by kernel_rfl
  t23 := Tryz.underlying105
  a23 := Tryz.isAgg105
  z23 := Tryz.sizeOf105
  v23 := Tryz.zeroValue105
  i23 := by kernel_rfl }
def Tryz.lays197_ren : Go.Shelf.Ren := ⟨fun | 197 => 56 | 260 => 80 | n => n, fun | 9 => 9 | 21 => 21 | 3 => 3 | 4 => 4 | 5 => 5 | 105 => 106 | 119 => 142 | 0 => 0 | 46 => 138 | 139 => 145 | 138 => 144 | n => n, fun | 3 => 2 | 4 => 3 | n => n⟩
theorem Tryz.lays197 : Go.Proofs.Lays.n197 Tryz.prog Tryz.lays197_ren := {
  mixed := by kernel_rfl
  f197 := Tryz.func56.trans (congrArg some (by kernel_rfl))
  f260 := Tryz.func80.trans (congrArg some (by kernel_rfl))
  t0 := Tryz.underlying0
  a0 := Tryz.isAgg0
  z0 := Tryz.sizeOf0
  v0 := Tryz.zeroValue0
  t3 := Tryz.underlying3
  a3 := Tryz.isAgg3
  z3 := Tryz.sizeOf3
  v3 := Tryz.zeroValue3
  t4 := Tryz.underlying4
  a4 := Tryz.isAgg4
  z4 := Tryz.sizeOf4
  v4 := Tryz.zeroValue4
  t5 := Tryz.underlying5
  a5 := Tryz.isAgg5
  z5 := Tryz.sizeOf5
  v5 := Tryz.zeroValue5
  t9 := Tryz.underlying9
  a9 := Tryz.isAgg9
  z9 := Tryz.sizeOf9
  v9 := Tryz.zeroValue9
  t21 := Tryz.underlying21
  a21 := Tryz.isAgg21
  z21 := Tryz.sizeOf21
  v21 := Tryz.zeroValue21
  t46 := Tryz.underlying138
  a46 := Tryz.isAgg138
  z46 := Tryz.sizeOf138
  v46 := Tryz.zeroValue138
  t105 := Tryz.underlying106
  a105 := Tryz.isAgg106
  z105 := Tryz.sizeOf106
  v105 := Tryz.zeroValue106
  t119 := Tryz.underlying142
  a119 := Tryz.isAgg142
  z119 := Tryz.sizeOf142
  t138 := Tryz.underlying144
  a138 := Tryz.isAgg144
  z138 := Tryz.sizeOf144
  v138 := Tryz.zeroValue144
  t139 := Tryz.underlying145
  a139 := Tryz.isAgg145
  z139 := Tryz.sizeOf145
  v139 := Tryz.zeroValue145
  g3 := by kernel_rfl
  g4 := by kernel_rfl }
open Go.RowKit Go.Lib in
/-- **unicode/utf8.DecodeRuneInString AT EVERY STRING.** (LAID: no walk: one application.) -/
theorem Tryz.utf8_DecodeRuneInString (s : ByteArray) (w : World) (hT : Lib.Utf8Tabs 2 3 w) :
    Calls Tryz.prog 56 #[.string s] w fun e w' => e = .returned (.tuple #[.int .i32 (Lib.decodeGo s).1, .int .i64 (Lib.decodeGo s).2]) ∧ Below w.heap.size w w' := Any.utf8_DecodeRuneInString Tryz.lays197 s w hT
open Go.RowKit Go.Lib in
theorem Tryz.strings_IndexFunc_grows (g : Nat) (lb : Array Value) (eg : ∀ args w, (callFunc g args).run Tryz.prog w = .ok (.enter g args) w) (p : Nat → Bool) (s : ByteArray) (w : World) (hp : PredGrows Tryz.prog g lb p w) :
    Calls Tryz.prog 54 #[.string s, .func (.func g) #[] lb] w fun e w' => e = .returned (.int .i64 (Lib.idxFunc p true s)) ∧ Below w.heap.size w w' := Any.strings_IndexFunc_grows Tryz.laysGw15 g lb eg p s w hp
end Go.Proofs
namespace Go.Abs.S
open Go.Proofs
set_option linter.unusedVariables false
set_option linter.unusedSimpArgs false
set_option maxRecDepth 100000
set_option maxHeartbeats 2000000
/-- A number's last nd digits. -/
def digs (u nd : Nat) : List Int := (List.range nd).map fun t => ((48 + u / 10 ^ (nd - 1 - t) % 10 : Nat) : Int)
theorem digs_length (u nd : Nat) : (digs u nd).length = nd := by simp [digs]
theorem digs_at (u nd t : Nat) (h : t < nd) : (digs u nd)[t]?.getD 0 = ((48 + u / 10 ^ (nd - 1 - t) % 10 : Nat) : Int) := by simp [digs, h]
abbrev encB : UInt8 → Value := fun b => Value.int .u8 (b.toNat : Int)
theorem putRow_heap (w : World) (B off : Nat) (d : Array UInt8) (C : Array Value) (e : TypeId) (fr : Nat × Nat) (h : w.heap[B]? = some (.cells C e fr)) : (Sort.putRow encB w B off d).heap[B]? = some (.cells (Sort.putCells encB off d C) e fr) := by
  simp only [Sort.putRow, Sort.mapBlock, Array.getElem?_modify, if_true, h, Option.map_some, Sort.onCells]
theorem putRow_other (w : World) (B off : Nat) (d : Array UInt8) (B' : Nat) (h : B' ≠ B) : (Sort.putRow encB w B off d).heap[B']? = w.heap[B']? := by
  simp only [Sort.putRow, Sort.mapBlock, Array.getElem?_modify]
  rw [if_neg (fun e => h e.symm)]
theorem dg_int (u j : Nat) : ((Lib.dg u j).toNat : Int) = ((48 + u / 10 ^ j % 10 : Nat) : Int) := by
  unfold Lib.dg
  have : u / 10 ^ j % 10 < 10 := Nat.mod_lt _ (by decide)
  generalize u / 10 ^ j % 10 = q at *
  congr 1
  simp only [UInt8.toNat_ofNat']
  omega
theorem format_a {H : AHeap} {b v nd cap u : Nat} {x : Bool} {l : List Int} {e : TypeId} (hb : H[b]? = some ⟨ints .u8 l, v, true, e⟩) (hl8 : ∀ y ∈ l, 0 ≤ y ∧ y ≤ 255) (h1 : 1 ≤ nd) (hl : 1 + nd ≤ l.length) (hl2 : l.length ≤ 1000000) (hu : u < 10 ^ nd) (hu64 : u < 18446744073709551616) :
    ACall Tryz.prog glob false 131 [.sl b v 1 nd cap 1 x, .v (.int .u64 u)] H (.tup []) (H.set b ⟨ints .u8 (l.take 1 ++ digs u nd ++ l.drop (1 + nd)), v, true, e⟩) := by
  refine ⟨⟨_, Tryz.func131, by kernel_rfl, by kernel_rfl⟩, fun σ w us hus ha rel => ?_⟩
  obtain ⟨u0, u1, rfl⟩ : ∃ u0 u1, us = #[u0, u1] := by
    obtain ⟨l⟩ := us
    match l, hus with
    | [u0, u1], _ => exact ⟨u0, u1, rfl⟩
  have a0 := ha 0 (by simp)
  have a1 := ha 1 (by simp)
  simp only [List.getD_cons_zero, List.getD_cons_succ] at a0 a1
  have e0 : (#[u0, u1] : Array Value).getD 0 undef = u0 := rfl
  have e1 : (#[u0, u1] : Array Value).getD 1 undef = u1 := rfl
  rw [e0] at a0
  rw [e1] at a1
  cases a1
  cases a0 with
  | sl0 A => omega
  | @sl _ _ _ _ _ cap' _ _ lo hρ hc hx hlim =>
    obtain ⟨B, base, lim⟩ := lo
    obtain rfl : base = 0 := rel.base0 _ _ _ hρ
    obtain ⟨C, fr, c1, c2, c3, c4, c5⟩ := rel.blk b _ _ hb rfl hρ
    simp only [Nat.zero_add, ints_length] at c1 c2 c3 c4 c5
    have cell : ∀ j, j < l.length → C[j]? = some (.int .u8 (l[j]?.getD 0)) := fun j hj => by
      obtain ⟨y, d1, d2⟩ := c5 j hj
      rw [ints_get hj, List.getD_eq_getElem?_getD] at d2
      rw [d1]
      cases d2
      rfl
    obtain ⟨d, hd⟩ : ∃ d : Array UInt8, d = ((l.drop 1).take nd).toArray.map (fun n : Int => UInt8.ofNat n.toNat) := ⟨_, rfl⟩
    have hds : d.size = nd := by rw [hd]; simp; omega
    have hdj : ∀ j, j < nd → encB d[j]! = .int .u8 (l[1 + j]?.getD 0) := fun j hj => by
      have hlt : 1 + j < l.length := by omega
      have hg : d[j]! = UInt8.ofNat (l[1 + j]).toNat := by
        rw [getElem!_pos d j (by omega)]
        simp [hd, Nat.add_comm]
      have h8 := hl8 _ (List.getElem_mem hlt)
      show Value.int .u8 ((d[j]!).toNat : Int) = _
      rw [hg, List.getElem?_eq_getElem hlt, Option.getD_some]
      congr 1
      simp only [UInt8.toNat_ofNat']
      omega
    have hH : Sort.Holds encB w B (0 + 1) d := fun j hj => by
      rw [hds] at hj
      refine ⟨?_, ?_⟩
      · rw [hdj j hj]
        simp only [World.cell?, c1, Nat.zero_add]
        exact cell (1 + j) (by omega)
      · simp only [World.frozen?, c1]
        rcases c4 with h | h
        · simp; omega
        · simp; omega
    have hcall := Tryz.internal_strconv_formatBase10 B (0 + 1) cap' u d w hH (by rw [hds]; exact hu) hu64 (by omega)
    rw [hds] at hcall
    refine hcall.mono ?_
    rintro e' w' ⟨rfl, n, v', dk, rfl, hinv⟩
    have hks : dk.size = nd := hinv.size
    have hkj : ∀ t, t < nd → dk[t]! = Lib.dg u (nd - 1 - t) := fun t ht => hinv.done t (Nat.zero_le _) ht
    have hup := rel.upd hb rfl hρ (C := Sort.putCells encB (0 + 1) dk C) (fr := fr) (w' := (Sort.putRow encB w B (0 + 1) dk).drewN n) (ints .u8 (l.take 1 ++ digs u nd ++ l.drop (1 + nd)))
      (putRow_heap w B (0 + 1) dk C e fr c1) (by simpa [Sort.putCells] using c2) (by rw [ints_length]; simp [digs_length]; omega) c4 (fun j hj => by
        rw [ints_length] at hj
        simp only [List.length_append, List.length_take, List.length_drop, digs_length] at hj
        have hjl : j < l.length := by omega
        refine ⟨.int .u8 ((l.take 1 ++ digs u nd ++ l.drop (1 + nd))[j]?.getD 0), ?_, ?_⟩
        · simp only [Nat.zero_add, Sort.putCells, Array.getElem?_mapIdx, cell j hjl, Option.map_some, hks]
          by_cases h0 : j = 0
          · subst h0
            rw [if_neg (by omega), List.append_assoc, List.getElem?_append_left (by rw [List.length_take]; omega), List.getElem?_take, if_pos (by omega)]
          · by_cases hn : j < 1 + nd
            · rw [if_pos ⟨by omega, hn⟩, hkj (j - 1) (by omega), List.getElem?_append_left (by simp [digs_length]; omega), List.getElem?_append_right (by rw [List.length_take]; omega)]
              have : min 1 l.length = 1 := by omega
              rw [List.length_take, this, digs_at _ _ _ (by omega)]
              show some (Value.int .u8 ((Lib.dg u (nd - 1 - (j - 1))).toNat : Int)) = _
              rw [dg_int]
            · rw [if_neg (by omega), List.getElem?_append_right (by simp [digs_length]; omega), List.getElem?_drop]
              have e9 : 1 + nd + (j - (l.take 1 ++ digs u nd).length) = j := by
                rw [List.length_append, List.length_take, digs_length]
                omega
              rw [e9]
        · rw [ints_get (by simp [digs_length]; omega), List.getD_eq_getElem?_getD]
          exact .v _) (fun B' hB => putRow_other w B (0 + 1) dk B' hB) (by simp) rfl rfl rfl
    exact ⟨_, rfl, σ, .tup _ rfl (fun j hj => by simp at hj), hup.1, hup.2.1, fun h => by cases h⟩
end Go.Abs.S
namespace Go.Abs.S
attribute [local go_sem] lguard aopO aop aenv toAV tput aLoad aStore vcells aBin aNilI aUn aAlloc aBox aBuild aBSlice afill aConv isIntT aappZ aCap aArr aMM aMake aSlice bnd3 bnd aFldAddr aFld aIdxAddr aIdx aExt aLen aCopy aEq0 bAV aUb aapp aappQ agh acont List.getD_cons_zero List.getD_cons_succ List.set_cons_zero List.set_cons_succ List.getElem?_cons_zero List.getElem?_cons_succ List.length_cons List.length_nil List.map_cons List.map_nil ints_length if_true if_false Bool.false_eq_true true_and and_true eq_self ne_eq not_false_eq_true not_true_eq_false beq_self_eq_true Nat.zero_add Nat.add_zero Nat.mul_one Nat.zero_mul Int.toNat_natCast List.toList_toArray List.all_cons List.all_nil AV.one Value.oneCell' Bool.and_true Bool.true_and forall_const true_implies false_implies implies_true Option.map_some Option.map_none Option.isSome_some Option.isSome_none imp_self rdP_flat rdP_row splice_one ints_set ints_get List.append_nil List.cons_append List.nil_append List.getElem?_toArray List.drop_zero ints_drop ints_take List.take_of_length_le splice_all ints_one Option.some.injEq Option.getD_some List.length_replicate zArr List.map_replicate rep_ints splice_intsR List.length_set List.length_append List.flatten_replicate_singleton rep_slice rep_string rep_bool rep_iface List.replicate_zero if_pos if_neg List.mapM_cons List.mapM_nil Option.pure_def Option.bind_eq_bind Option.bind_some Bool.true_eq_false Bool.not_false Bool.not_true get_concat set_concat
open Go.Proofs
open Go.Abs.H
set_option linter.unusedVariables false
set_option linter.unusedSimpArgs false
set_option maxRecDepth 100000
set_option maxHeartbeats 2000000
theorem NR.t2 (a b : Value) : NR (.tup [.v a, .v b]) := NR.tup (by intro c hc; simp at hc; rcases hc with rfl | rfl <;> exact NR.v _)
theorem Mul64_2 : PCall Tryz.prog glob 115 [.v (.int .u64 1), .v (.int .u64 2)] (.tup [.v (.int .u64 0), .v (.int .u64 2)]) := by
  refine PCall.of ctx.nr nrs (NR.t2 _ _) ?_
  refine lcall115 (by simp) 0 (Nat.le_refl _) ?_
  unfold lc115
  refine I1 tt ⟨?_⟩
  refine G1 F1 tt tt tt tt ⟨?_⟩
  refine R1 tt ⟨?_⟩
  exact end0 (NR.t2 _ _) rfl
theorem Mul64_3 : PCall Tryz.prog glob 115 [.v (.int .u64 1), .v (.int .u64 3)] (.tup [.v (.int .u64 0), .v (.int .u64 3)]) := by
  refine PCall.of ctx.nr nrs (NR.t2 _ _) ?_
  refine lcall115 (by simp) 0 (Nat.le_refl _) ?_
  unfold lc115
  refine I1 tt ⟨?_⟩
  refine G1 F1 tt tt tt tt ⟨?_⟩
  refine R1 tt ⟨?_⟩
  exact end0 (NR.t2 _ _) rfl
theorem Mul_2 : PCall Tryz.prog glob 99 [.v (.int .u64 1), .v (.int .u64 2)] (.tup [.v (.int .u64 0), .v (.int .u64 2)]) := by
  refine PCall.of ctx.nr nrs (NR.t2 _ _) ?_
  refine lcall99 (by simp) 0 (Nat.le_refl _) ?_
  unfold lc99
  refine I1 tt ⟨?_⟩
  refine G1 F4 tt (an Mul64_2.go tt) tt tt ⟨?_⟩
  refine R1 tt ⟨?_⟩
  exact end0 (NR.t2 _ _) rfl
theorem Mul_3 : PCall Tryz.prog glob 99 [.v (.int .u64 1), .v (.int .u64 3)] (.tup [.v (.int .u64 0), .v (.int .u64 3)]) := by
  refine PCall.of ctx.nr nrs (NR.t2 _ _) ?_
  refine lcall99 (by simp) 0 (Nat.le_refl _) ?_
  unfold lc99
  refine I1 tt ⟨?_⟩
  refine G1 F4 tt (an Mul64_3.go tt) tt tt ⟨?_⟩
  refine R1 tt ⟨?_⟩
  exact end0 (NR.t2 _ _) rfl
theorem LHasPrefix_p (s p : ByteArray) (h : p.size ≤ s.size) : PCall Tryz.prog glob 85 [.v (.string s), .v (.string p)] (.v (.bool ((s.extract 0 p.size).data.toList == p.data.toList))) := by
  refine PCall.of ctx.nr nrs (NR.v _) ?_
  refine lcall85 (by simp) 0 (Nat.le_refl _) ?_
  unfold lc85
  refine I1 tt ⟨?_⟩
  have d1 : decide ((s.size : Int) ≥ p.size) = true := by rw [decide_eq_true_eq]; omega
  refine G1 F1 (an d1 tt) tt tt tt ⟨?_⟩
  refine R1 tt ⟨?_⟩
  exact end0 (NR.v _) (by rw [ByteArray.toList_eq, ByteArray.toList_eq])
theorem HasPrefix_p (s p : ByteArray) (h : p.size ≤ s.size) : PCall Tryz.prog glob 59 [.v (.string s), .v (.string p)] (.v (.bool ((s.extract 0 p.size).data.toList == p.data.toList))) := by
  refine PCall.of ctx.nr nrs (NR.v _) ?_
  refine lcall59 (by simp) 0 (Nat.le_refl _) ?_
  unfold lc59
  refine I1 tt ⟨?_⟩
  refine G1 F1 tt (an (LHasPrefix_p s p h).go tt) tt tt ⟨?_⟩
  refine R1 tt ⟨?_⟩
  exact end0 (NR.v _) rfl
theorem rep_c (c : Nat) (h : c = 0 ∨ c = 1 ∨ c = 2 ∨ c = 3) : PCall Tryz.prog glob 76 [.v (.string ⟨#[48]⟩), iv c] (.v (.string (strOf (List.replicate c 48)))) := by
  refine PCall.of ctx.nr nrs (NR.v _) ?_
  refine lcall76 (by simp) 0 (Nat.le_refl _) ?_
  unfold lc76
  refine I1 tt ⟨?_⟩
  rcases h with rfl | rfl | rfl | rfl
  · refine G1 F4 tt tt tt tt ⟨?_⟩
    refine R1 tt ⟨?_⟩
    exact end0 (NR.v _) rfl
  · refine G1 F4 tt tt tt tt ⟨?_⟩
    refine R1 tt ⟨?_⟩
    exact end0 (NR.v _) rfl
  · have hz : ({ data := #[48] } : ByteArray).size = 1 := rfl
    have q1 : IntKind.u64.wrap ((1 : Nat) : Int) = 1 := by decide
    have q2 : IntKind.u64.wrap ((2 : Nat) : Int) = 2 := by decide
    repeat (first
      | (with_reducible refine lops_step fun K hK => ?_; simp (disch := first | exact dch | fail) only [go_sem, Nat.reduceAdd, Nat.reduceSub, reduceIte, Nat.reduceEqDiff, Int.reduceToNat, Int.reduceBEq, Int.reduceBNe, hz, q1, q2]; (try (first | (refine And.intro (fun _ => ?_) (fun h => absurd h (by decide))) | (refine And.intro (fun h => absurd h (by decide)) (fun _ => ?_)))); (repeat (with_reducible refine And.intro acl ?_)); (first | (refine hK _ _ ?_) | (refine ⟨_, rfl, hK _ _ ?_⟩) | (refine Or.inl (hK _ _ ?_)) | (refine ⟨_, _, Or.inl (Mul_2.go _), (by first | exact ⟨[], (List.append_nil _).symm⟩ | exact ⟨_, rfl⟩), hK _ _ ?_⟩) | (refine ⟨_, _, Or.inl (Mul_2.go _), hK _ _ ?_⟩) | (refine ⟨_, _, Or.inl (Mul_2.go _).weakQ, hK _ _ ?_⟩) | (refine ⟨_, _, Or.inl ((HasPrefix_p _ _ (by decide)).go _), (by first | exact ⟨[], (List.append_nil _).symm⟩ | exact ⟨_, rfl⟩), hK _ _ ?_⟩) | (refine ⟨_, _, Or.inl ((HasPrefix_p _ _ (by decide)).go _), hK _ _ ?_⟩) | (refine ⟨_, _, Or.inl ((HasPrefix_p _ _ (by decide)).go _).weakQ, hK _ _ ?_⟩)); clear hK K)
      | (with_reducible refine lops_nil ?_)
      | (with_reducible first | refine lavc_reg ?_ | refine lavc_seq ?_ | refine lavc_block ?_ | refine lavc_skip ?_ | refine lavc_exit ?_ | refine lavc_ret ?_ | refine lavcR_round ?_)
      | (refine lavc_cond rfl (fun _ => ?_) (fun hc => absurd hc (by decide)))
      | (refine lavc_cond rfl (fun hc => absurd hc (by decide)) (fun _ => ?_))
      | (simp only [↓reduceIte, Nat.reduceEqDiff, reduceCtorEq]))
    refine R1 tt ⟨?_⟩
    exact end0 (NR.v _) rfl
  · have hz : ({ data := #[48] } : ByteArray).size = 1 := rfl
    have q1 : IntKind.u64.wrap ((1 : Nat) : Int) = 1 := by decide
    have q2 : IntKind.u64.wrap ((3 : Nat) : Int) = 3 := by decide
    repeat (first
      | (with_reducible refine lops_step fun K hK => ?_; simp (disch := first | exact dch | fail) only [go_sem, Nat.reduceAdd, Nat.reduceSub, reduceIte, Nat.reduceEqDiff, Int.reduceToNat, Int.reduceBEq, Int.reduceBNe, hz, q1, q2]; (try (first | (refine And.intro (fun _ => ?_) (fun h => absurd h (by decide))) | (refine And.intro (fun h => absurd h (by decide)) (fun _ => ?_)))); (repeat (with_reducible refine And.intro acl ?_)); (first | (refine hK _ _ ?_) | (refine ⟨_, rfl, hK _ _ ?_⟩) | (refine Or.inl (hK _ _ ?_)) | (refine ⟨_, _, Or.inl (Mul_3.go _), (by first | exact ⟨[], (List.append_nil _).symm⟩ | exact ⟨_, rfl⟩), hK _ _ ?_⟩) | (refine ⟨_, _, Or.inl (Mul_3.go _), hK _ _ ?_⟩) | (refine ⟨_, _, Or.inl (Mul_3.go _).weakQ, hK _ _ ?_⟩) | (refine ⟨_, _, Or.inl ((HasPrefix_p _ _ (by decide)).go _), (by first | exact ⟨[], (List.append_nil _).symm⟩ | exact ⟨_, rfl⟩), hK _ _ ?_⟩) | (refine ⟨_, _, Or.inl ((HasPrefix_p _ _ (by decide)).go _), hK _ _ ?_⟩) | (refine ⟨_, _, Or.inl ((HasPrefix_p _ _ (by decide)).go _).weakQ, hK _ _ ?_⟩)); clear hK K)
      | (with_reducible refine lops_nil ?_)
      | (with_reducible first | refine lavc_reg ?_ | refine lavc_seq ?_ | refine lavc_block ?_ | refine lavc_skip ?_ | refine lavc_exit ?_ | refine lavc_ret ?_ | refine lavcR_round ?_)
      | (refine lavc_cond rfl (fun _ => ?_) (fun hc => absurd hc (by decide)))
      | (refine lavc_cond rfl (fun hc => absurd hc (by decide)) (fun _ => ?_))
      | (simp only [↓reduceIte, Nat.reduceEqDiff, reduceCtorEq]))
    refine R1 tt ⟨?_⟩
    exact end0 (NR.v _) rfl
end Go.Abs.S
namespace Go.Abs.S
attribute [local go_sem] lguard aopO aop aenv toAV tput aLoad aStore vcells aBin aNilI aUn aAlloc aBox aBuild aBSlice afill aConv isIntT aappZ aCap aArr aMM aMake aSlice bnd3 bnd aFldAddr aFld aIdxAddr aIdx aExt aLen aCopy aEq0 bAV aUb aapp aappQ agh acont List.getD_cons_zero List.getD_cons_succ List.set_cons_zero List.set_cons_succ List.getElem?_cons_zero List.getElem?_cons_succ List.length_cons List.length_nil List.map_cons List.map_nil ints_length if_true if_false Bool.false_eq_true true_and and_true eq_self ne_eq not_false_eq_true not_true_eq_false beq_self_eq_true Nat.zero_add Nat.add_zero Nat.mul_one Nat.zero_mul Int.toNat_natCast List.toList_toArray List.all_cons List.all_nil AV.one Value.oneCell' Bool.and_true Bool.true_and forall_const true_implies false_implies implies_true Option.map_some Option.map_none Option.isSome_some Option.isSome_none imp_self rdP_flat rdP_row splice_one ints_set ints_get List.append_nil List.cons_append List.nil_append List.getElem?_toArray List.drop_zero ints_drop ints_take List.take_of_length_le splice_all ints_one Option.some.injEq Option.getD_some List.length_replicate zArr List.map_replicate rep_ints splice_intsR List.length_set List.length_append List.flatten_replicate_singleton rep_slice rep_string rep_bool rep_iface List.replicate_zero if_pos if_neg List.mapM_cons List.mapM_nil Option.pure_def Option.bind_eq_bind Option.bind_some Bool.true_eq_false Bool.not_false Bool.not_true get_concat set_concat
open Go.Proofs
open Go.Abs.H
set_option linter.unusedVariables false
set_option linter.unusedSimpArgs false
set_option maxRecDepth 100000
set_option maxHeartbeats 4000000
/-- The number of a text's first bytes. -/
def num (s : ByteArray) : Nat → Int
  | 0 => 0
  | k + 1 => num s k * 10 + (bt s k - 48)
def AllD (s : ByteArray) : Prop := ∀ i, i < s.size → 48 ≤ bt s i ∧ bt s i ≤ 57
instance (s : ByteArray) : Decidable (AllD s) := inferInstanceAs (Decidable (∀ i, i < s.size → _))
theorem num_in (s : ByteArray) (h : AllD s) : ∀ k, k ≤ s.size → 0 ≤ num s k ∧ num s k < 10 ^ k
  | 0, _ => by simp [num]
  | k + 1, hk => by
    have ih := num_in s h k (by omega)
    have hb := h k (by omega)
    have e : (10 : Int) ^ (k + 1) = 10 ^ k * 10 := Int.pow_succ _ _
    simp only [num]
    omega
theorem pow18 {k : Nat} (h : k ≤ 18) : (10 : Int) ^ k ≤ 1000000000000000000 := by
  have : ∀ k, k ≤ 18 → (10 : Int) ^ k ≤ 1000000000000000000 := by decide
  exact this k h
theorem bytesOf_length (s : ByteArray) : (bytesOf s).length = s.size := by
  unfold bytesOf
  cases s
  simp [ByteArray.size]
theorem bytesOf_at (s : ByteArray) (i : Nat) (h : i < s.size) : (bytesOf s).getD i 0 = bt s i := by
  unfold bytesOf bt
  have : i < s.data.toList.length := by rw [Array.length_toList]; exact h
  simp only [List.getD_eq_getElem?_getD, List.getElem?_map, List.getElem?_eq_getElem this, Option.map_some, Option.getD_some]
theorem iAtoi_p (s : ByteArray) (h1 : 1 ≤ s.size) (h2 : s.size ≤ 18) (hd : AllD s) : PCall Tryz.prog glob 128 [.v (.string s)] (.tup [iv (num s s.size), .v .nilIface]) := by
  refine PCall.of ctx.nr nrs (NR.t2 _ _) ?_
  refine lcall128 (by simp) 0 (Nat.le_refl _) ?_
  unfold lc128
  refine I1 tt ⟨?_⟩
  have d1 : decide ((0 : Int) < s.size) = true := by rw [decide_eq_true_eq]; omega
  have d2 : decide ((s.size : Int) < 19) = true := by rw [decide_eq_true_eq]; omega
  have h0 := hd 0 (by omega)
  obtain ⟨a, ha⟩ : ∃ a, bt s 0 = a := ⟨_, rfl⟩
  have hsa : ((s.data.toList.getD 0 0).toNat : Int) = a := ha
  rw [ha] at h0
  have q1 : ((a : Int) == 45) = false := by rw [beq_eq_false_iff_ne, ne_eq]; omega
  have q2 : ((a : Int) == 43) = false := by rw [beq_eq_false_iff_ne, ne_eq]; omega
  have em : List.map (fun b : UInt8 => AV.v (Value.int .u8 (b.toNat : Int))) s.data.toList = ints .u8 (bytesOf s) := by simp [ints, bytesOf]
  have hbl := bytesOf_length s
  refine G1 F4 (an d1 (an d2 (an hsa (an q1 (an q2 (an em (an hbl tt))))))) tt tt tt ⟨?_⟩
  refine lavc_loopM ms128_0 (fun m (k : Nat) => m + k = s.size) (fun k => [(6, iv (num s k)), (49, iv k)]) (fun _ => [⟨ints .u8 (bytesOf s), 0, true, 5⟩]) s.size 0 (by omega) ?_ ?_ ?_
  · try unfold ms128_0
    refine A1 tt ⟨?_⟩
    exact ⟨rfl, rfl⟩
  · rfl
  intro m k hk
  try unfold ms128_0
  refine M1 tt ⟨?_⟩
  have hn := num_in s hd k (by omega)
  have hp := pow18 (k := k) (by omega)
  refine G1 F1 (an hbl tt) tt tt tt ⟨?_⟩
  refine cnd rfl (fun hc => ?_) (fun hc => ?_)
  · have hb := hd k (by omega)
    have hbk := bytesOf_at s k (by omega)
    have e1 : IntKind.u8.wrap (bt s k - 48) = bt s k - 48 := by rw [IntKind.wrap_u8]; omega
    have hn1 := num_in s hd (k + 1) (by omega)
    have hp1 := pow18 (k := k + 1) (by omega)
    have hns : num s (k + 1) = num s k * 10 + (bt s k - 48) := rfl
    have d9 : decide (bt s k - 48 > 9) = false := by rw [decide_eq_false_iff_not]; omega
    have e2 := i64z (num s k * 10) (by omega)
    have e3 := i64z (bt s k - 48) (by omega)
    have e4 := i64z (num s k * 10 + (bt s k - 48)) (by omega)
    have e5 := i64n ((k : Int) + 1) (k + 1) (by omega) (by omega)
    refine G1 F4 (an hbl (an hbk (an e1 (an e2 (an e3 (an e4 (an e5 (an d9 tt)))))))) tt tt tt ⟨?_⟩
    refine ⟨m - 1, k + 1, by omega, by omega, ?_, trivial⟩
    try unfold ms128_0
    refine A1 tt ⟨?_⟩
    rfl
  obtain rfl : k = s.size := by omega
  refine G1 F4 (an hsa (an q1 tt)) tt tt tt ⟨?_⟩
  refine R1 tt ⟨?_⟩
  exact end0 (NR.t2 _ _) rfl
theorem Atoi_p (s : ByteArray) (h1 : 1 ≤ s.size) (h2 : s.size ≤ 18) (hd : AllD s) : PCall Tryz.prog glob 111 [.v (.string s)] (.tup [iv (num s s.size), .v .nilIface]) := by
  refine PCall.of ctx.nr nrs (NR.t2 _ _) ?_
  refine lcall111 (by simp) 0 (Nat.le_refl _) ?_
  unfold lc111
  refine I1 tt ⟨?_⟩
  have ap := iAtoi_p s h1 h2 hd
  refine G1 F4 tt (an ap.go tt) tt tt ⟨?_⟩
  refine R1 tt ⟨?_⟩
  exact end0 (NR.t2 _ _) rfl
theorem number_p (s : ByteArray) (h1 : 1 ≤ s.size) (h2 : s.size ≤ 18) (hd : AllD s) : PCall Tryz.prog glob 93 [.v (.string s)] (iv (num s s.size)) := by
  refine PCall.of ctx.nr nrs (NR.v _) ?_
  refine lcall93 (by simp) 0 (Nat.le_refl _) ?_
  unfold lc93
  refine I1 tt ⟨?_⟩
  have ap := Atoi_p s h1 h2 hd
  refine G1 F1 tt (an ap.go tt) tt tt ⟨?_⟩
  refine R1 tt ⟨?_⟩
  exact end0 (NR.v _) rfl
end Go.Abs.S
namespace Go.Abs.C
set_option linter.unusedSimpArgs false
theorem ext_list (s : ByteArray) (a b : Nat) : (s.extract a b).data.toList = (s.data.toList.take b).drop a := by
  have e : (s.extract a b).data.toList = (s.data.toList.take (a + (b - a))).drop a := by
    simp [ByteArray.data_extract, Array.toList_extract, List.take_drop]
  rw [e]
  by_cases h : a ≤ b
  · rw [show a + (b - a) = b from by omega]
  · rw [List.drop_of_length_le (by rw [List.length_take]; omega), List.drop_of_length_le (by rw [List.length_take]; omega)]
def nd (s : ByteArray) : Nat := Lib.countByte s.data.toList 46
def ix (s : ByteArray) : Int := Lib.indexByte s.data.toList 46
/-- A text's parts between dots. -/
def gs : Nat → ByteArray → List ByteArray
  | 0, s => [s]
  | k + 1, s => s.extract 0 (ix s).toNat :: gs k (s.extract ((ix s).toNat + 1) s.size)
def splitP (s : ByteArray) : List ByteArray := gs (nd s) s
end Go.Abs.C
namespace Go.Abs.S
open Go.Proofs
open Go.Abs.H
set_option linter.unusedVariables false
set_option linter.unusedSimpArgs false
set_option maxRecDepth 100000
set_option maxHeartbeats 4000000
theorem okc_d {a : Int} : okc a 100 ↔ (48 ≤ a ∧ a ≤ 57) := by unfold okc; omega
theorem okc_s {a c : Int} (h : c ≠ 100) (h2 : ¬ (48 ≤ c ∧ c ≤ 57)) : okc a c ↔ a = c := by unfold okc; omega
theorem ext_size (s : ByteArray) (a b : Nat) : (s.extract a b).size = min b s.size - a := by simp
theorem bt_ext (s : ByteArray) (a b i : Nat) (h : a + i < b) : bt (s.extract a b) i = bt s (a + i) := by
  unfold bt
  rw [Go.Abs.C.ext_list]
  simp only [List.getD_eq_getElem?_getD, List.getElem?_drop, List.getElem?_take]
  rw [if_pos h]
abbrev dg (s : ByteArray) (i : Nat) : Prop := 48 ≤ bt s i ∧ bt s i ≤ 57
abbrev F19 : ByteArray := ⟨#[100, 100, 100, 100, 45, 100, 100, 45, 100, 100, 84, 100, 100, 58, 100, 100, 58, 100, 100]⟩
abbrev FP : ByteArray := ⟨#[43, 100, 100, 58, 100, 100]⟩
abbrev FM : ByteArray := ⟨#[45, 100, 100, 58, 100, 100]⟩
def D19 (s : ByteArray) : Prop := (dg s 0 ∧ dg s 1 ∧ dg s 2 ∧ dg s 3) ∧ bt s 4 = 45 ∧ (dg s 5 ∧ dg s 6) ∧ bt s 7 = 45 ∧ (dg s 8 ∧ dg s 9) ∧ bt s 10 = 84 ∧ (dg s 11 ∧ dg s 12) ∧ bt s 13 = 58 ∧ (dg s 14 ∧ dg s 15) ∧ bt s 16 = 58 ∧ (dg s 17 ∧ dg s 18)
instance (s : ByteArray) : Decidable (D19 s) := inferInstanceAs (Decidable (_ ∧ _))
theorem f19_size : F19.size = 19 := rfl
theorem fits19 (s : ByteArray) (h : s.size = 19) : Fits s F19 ↔ D19 s := by
  unfold Fits D19
  rw [f19_size, h]
  constructor
  · rintro ⟨_, hk⟩
    have g := fun i (hi : i < 19) => hk i hi
    refine ⟨⟨okc_d.1 (g 0 (by omega)), okc_d.1 (g 1 (by omega)), okc_d.1 (g 2 (by omega)), okc_d.1 (g 3 (by omega))⟩, (okc_s (by decide) (by decide)).1 (g 4 (by omega)), ⟨okc_d.1 (g 5 (by omega)), okc_d.1 (g 6 (by omega))⟩, (okc_s (by decide) (by decide)).1 (g 7 (by omega)), ⟨okc_d.1 (g 8 (by omega)), okc_d.1 (g 9 (by omega))⟩, (okc_s (by decide) (by decide)).1 (g 10 (by omega)), ⟨okc_d.1 (g 11 (by omega)), okc_d.1 (g 12 (by omega))⟩, (okc_s (by decide) (by decide)).1 (g 13 (by omega)), ⟨okc_d.1 (g 14 (by omega)), okc_d.1 (g 15 (by omega))⟩, (okc_s (by decide) (by decide)).1 (g 16 (by omega)), ⟨okc_d.1 (g 17 (by omega)), okc_d.1 (g 18 (by omega))⟩⟩
  · rintro ⟨⟨h0, h1, h2, h3⟩, h4, ⟨h5, h6⟩, h7, ⟨h8, h9⟩, h10, ⟨h11, h12⟩, h13, ⟨h14, h15⟩, h16, ⟨h17, h18⟩⟩
    refine ⟨rfl, fun i hi => ?_⟩
    have hc : i = 0 ∨ i = 1 ∨ i = 2 ∨ i = 3 ∨ i = 4 ∨ i = 5 ∨ i = 6 ∨ i = 7 ∨ i = 8 ∨ i = 9 ∨ i = 10 ∨ i = 11 ∨ i = 12 ∨ i = 13 ∨ i = 14 ∨ i = 15 ∨ i = 16 ∨ i = 17 ∨ i = 18 := by omega
    rcases hc with rfl | rfl | rfl | rfl | rfl | rfl | rfl | rfl | rfl | rfl | rfl | rfl | rfl | rfl | rfl | rfl | rfl | rfl | rfl
    · exact okc_d.2 h0
    · exact okc_d.2 h1
    · exact okc_d.2 h2
    · exact okc_d.2 h3
    · exact (okc_s (by decide) (by decide)).2 h4
    · exact okc_d.2 h5
    · exact okc_d.2 h6
    · exact (okc_s (by decide) (by decide)).2 h7
    · exact okc_d.2 h8
    · exact okc_d.2 h9
    · exact (okc_s (by decide) (by decide)).2 h10
    · exact okc_d.2 h11
    · exact okc_d.2 h12
    · exact (okc_s (by decide) (by decide)).2 h13
    · exact okc_d.2 h14
    · exact okc_d.2 h15
    · exact (okc_s (by decide) (by decide)).2 h16
    · exact okc_d.2 h17
    · exact okc_d.2 h18
/-- A shift's form, its sign c. -/
def DSh (c : Int) (s : ByteArray) : Prop := bt s 0 = c ∧ (dg s 1 ∧ dg s 2) ∧ bt s 3 = 58 ∧ (dg s 4 ∧ dg s 5)
theorem fitsP (s : ByteArray) : Fits s FP ↔ s.size = 6 ∧ DSh 43 s := by
  unfold Fits DSh
  have e : FP.size = 6 := rfl
  rw [e]
  constructor
  · rintro ⟨hs, hk⟩
    have g := fun i (hi : i < 6) => hk i (by omega)
    exact ⟨hs, (okc_s (by decide) (by decide)).1 (g 0 (by omega)), ⟨okc_d.1 (g 1 (by omega)), okc_d.1 (g 2 (by omega))⟩, (okc_s (by decide) (by decide)).1 (g 3 (by omega)), ⟨okc_d.1 (g 4 (by omega)), okc_d.1 (g 5 (by omega))⟩⟩
  · rintro ⟨hs, h0, ⟨h1, h2⟩, h3, ⟨h4, h5⟩⟩
    refine ⟨hs, fun i hi => ?_⟩
    have hc : i = 0 ∨ i = 1 ∨ i = 2 ∨ i = 3 ∨ i = 4 ∨ i = 5 := by omega
    rcases hc with rfl | rfl | rfl | rfl | rfl | rfl
    · exact (okc_s (by decide) (by decide)).2 h0
    · exact okc_d.2 h1
    · exact okc_d.2 h2
    · exact (okc_s (by decide) (by decide)).2 h3
    · exact okc_d.2 h4
    · exact okc_d.2 h5
theorem fitsM (s : ByteArray) : Fits s FM ↔ s.size = 6 ∧ DSh 45 s := by
  unfold Fits DSh
  have e : FM.size = 6 := rfl
  rw [e]
  constructor
  · rintro ⟨hs, hk⟩
    have g := fun i (hi : i < 6) => hk i (by omega)
    exact ⟨hs, (okc_s (by decide) (by decide)).1 (g 0 (by omega)), ⟨okc_d.1 (g 1 (by omega)), okc_d.1 (g 2 (by omega))⟩, (okc_s (by decide) (by decide)).1 (g 3 (by omega)), ⟨okc_d.1 (g 4 (by omega)), okc_d.1 (g 5 (by omega))⟩⟩
  · rintro ⟨hs, h0, ⟨h1, h2⟩, h3, ⟨h4, h5⟩⟩
    refine ⟨hs, fun i hi => ?_⟩
    have hc : i = 0 ∨ i = 1 ∨ i = 2 ∨ i = 3 ∨ i = 4 ∨ i = 5 := by omega
    rcases hc with rfl | rfl | rfl | rfl | rfl | rfl
    · exact (okc_s (by decide) (by decide)).2 h0
    · exact okc_d.2 h1
    · exact okc_d.2 h2
    · exact (okc_s (by decide) (by decide)).2 h3
    · exact okc_d.2 h4
    · exact okc_d.2 h5
def n2 (s : ByteArray) (i : Nat) : Int := (bt s i - 48) * 10 + (bt s (i + 1) - 48)
def n4 (s : ByteArray) (i : Nat) : Int := (((bt s i - 48) * 10 + (bt s (i + 1) - 48)) * 10 + (bt s (i + 2) - 48)) * 10 + (bt s (i + 3) - 48)
def momS (s : ByteArray) : Mom := ⟨⟨n4 s 0, n2 s 5, n2 s 8⟩, n2 s 11, n2 s 14, n2 s 17⟩
/-- The shift's form at place 19. -/
def E25 (s : ByteArray) : Prop := (bt s 19 = 43 ∨ bt s 19 = 45) ∧ (dg s 20 ∧ dg s 21) ∧ bt s 22 = 58 ∧ (dg s 23 ∧ dg s 24)
instance (s : ByteArray) : Decidable (E25 s) := inferInstanceAs (Decidable (_ ∧ _))
def Formed (s : ByteArray) : Prop := D19 s ∧ ((s.size = 20 ∧ bt s 19 = 90) ∨ (s.size = 25 ∧ E25 s))
instance (s : ByteArray) : Decidable (Formed s) := inferInstanceAs (Decidable (_ ∧ _))
def shf (s : ByteArray) : Int := if s.size = 20 then 0 else if bt s 19 = 43 then -(n2 s 20 * 3600 + n2 s 23 * 60) else n2 s 20 * 3600 + n2 s 23 * 60
instance (t : Mom) : Decidable t.ok := inferInstanceAs (Decidable (_ ∧ _))
/-- What a text tells, and the error. -/
def readP (s : ByteArray) : Int × Int :=
  if ¬ Formed s then (0, 2)
  else if s.size = 25 ∧ (23 < n2 s 20 ∨ 59 < n2 s 23) then (0, 12)
  else if ¬ (momS s).ok then (0, 12)
  else if ¬ (tFirst ≤ secs (momS s) + shf s ∧ secs (momS s) + shf s ≤ tLast) then (0, 12)
  else (secs (momS s) + shf s, 0)
theorem allD2 (s : ByteArray) (a : Nat) (hs : a + 2 ≤ s.size) : AllD (s.extract a (a + 2)) ↔ (dg s a ∧ dg s (a + 1)) := by
  unfold AllD
  have hz : (s.extract a (a + 2)).size = 2 := by rw [ext_size]; omega
  rw [hz]
  have e0 := bt_ext s a (a + 2) 0 (by omega)
  have e1 := bt_ext s a (a + 2) 1 (by omega)
  constructor
  · intro h
    have h0 := h 0 (by omega)
    have h1 := h 1 (by omega)
    rw [e0] at h0
    rw [e1] at h1
    exact ⟨h0, h1⟩
  · rintro ⟨h0, h1⟩ i hi
    have hc : i = 0 ∨ i = 1 := by omega
    rcases hc with rfl | rfl
    · rw [e0]; exact h0
    · rw [e1]; exact h1
theorem num2 (s : ByteArray) (a : Nat) (hs : a + 2 ≤ s.size) : num (s.extract a (a + 2)) (s.extract a (a + 2)).size = n2 s a := by
  have hz : (s.extract a (a + 2)).size = 2 := by rw [ext_size]; omega
  rw [hz]
  have e0 := bt_ext s a (a + 2) 0 (by omega)
  have e1 := bt_ext s a (a + 2) 1 (by omega)
  simp only [num, n2, e0, e1]
  simp
theorem allD4 (s : ByteArray) (hs : 4 ≤ s.size) : AllD (s.extract 0 4) ↔ (dg s 0 ∧ dg s 1 ∧ dg s 2 ∧ dg s 3) := by
  unfold AllD
  have hz : (s.extract 0 4).size = 4 := by rw [ext_size]; omega
  rw [hz]
  have e0 := bt_ext s 0 4 0 (by omega)
  have e1 := bt_ext s 0 4 1 (by omega)
  have e2 := bt_ext s 0 4 2 (by omega)
  have e3 := bt_ext s 0 4 3 (by omega)
  simp only [Nat.zero_add] at e0 e1 e2 e3
  constructor
  · intro h
    have h0 := h 0 (by omega)
    have h1 := h 1 (by omega)
    have h2 := h 2 (by omega)
    have h3 := h 3 (by omega)
    rw [e0] at h0
    rw [e1] at h1
    rw [e2] at h2
    rw [e3] at h3
    exact ⟨h0, h1, h2, h3⟩
  · rintro ⟨h0, h1, h2, h3⟩ i hi
    have hc : i = 0 ∨ i = 1 ∨ i = 2 ∨ i = 3 := by omega
    rcases hc with rfl | rfl | rfl | rfl
    · rw [e0]; exact h0
    · rw [e1]; exact h1
    · rw [e2]; exact h2
    · rw [e3]; exact h3
theorem num4 (s : ByteArray) (hs : 4 ≤ s.size) : num (s.extract 0 4) (s.extract 0 4).size = n4 s 0 := by
  have hz : (s.extract 0 4).size = 4 := by rw [ext_size]; omega
  rw [hz]
  have e0 := bt_ext s 0 4 0 (by omega)
  have e1 := bt_ext s 0 4 1 (by omega)
  have e2 := bt_ext s 0 4 2 (by omega)
  have e3 := bt_ext s 0 4 3 (by omega)
  simp only [Nat.zero_add] at e0 e1 e2 e3
  simp only [num, n4, e0, e1, e2, e3]
  simp
theorem n2_in {s : ByteArray} {a : Nat} (h : dg s a ∧ dg s (a + 1)) : 0 ≤ n2 s a ∧ n2 s a ≤ 99 := by
  unfold n2
  unfold dg at h
  omega
theorem n4_in {s : ByteArray} (h : dg s 0 ∧ dg s 1 ∧ dg s 2 ∧ dg s 3) : 0 ≤ n4 s 0 ∧ n4 s 0 ≤ 9999 := by
  unfold n4
  unfold dg at h
  simp only [Nat.zero_add]
  omega
/-- The forms, as the program asks for them. -/
theorem formed_iff (s : ByteArray) (K : Nat) (hK : K = min s.size 19) : Formed s ↔ (Fits (s.extract 0 K) F19 ∧ (s.extract K s.size = ⟨#[90]⟩ ∨ Fits (s.extract K s.size) FP ∨ Fits (s.extract K s.size) FM)) := by
  by_cases hs : s.size < 19
  · have hk : K = s.size := by omega
    constructor
    · rintro ⟨_, h | h⟩ <;> omega
    · rintro ⟨⟨h, _⟩, _⟩
      rw [ext_size, f19_size] at h
      omega
  · have hk : K = 19 := by omega
    subst hk
    have hz : (s.extract 0 19).size = 19 := by rw [ext_size]; omega
    have b0 : ∀ i, i < 19 → bt (s.extract 0 19) i = bt s i := fun i hi => by rw [bt_ext s 0 19 i (by omega), Nat.zero_add]
    have hd : D19 (s.extract 0 19) ↔ D19 s := by
      unfold D19 dg
      rw [b0 0 (by omega), b0 1 (by omega), b0 2 (by omega), b0 3 (by omega), b0 4 (by omega), b0 5 (by omega), b0 6 (by omega), b0 7 (by omega), b0 8 (by omega), b0 9 (by omega), b0 10 (by omega), b0 11 (by omega), b0 12 (by omega), b0 13 (by omega), b0 14 (by omega), b0 15 (by omega), b0 16 (by omega), b0 17 (by omega), b0 18 (by omega)]
    have hez : (s.extract 19 s.size).size = s.size - 19 := by rw [ext_size]; omega
    have b1 : ∀ i, 19 + i < s.size → bt (s.extract 19 s.size) i = bt s (19 + i) := fun i hi => bt_ext s 19 s.size i hi
    have hZ : s.extract 19 s.size = ⟨#[90]⟩ ↔ (s.size = 20 ∧ bt s 19 = 90) := by
      constructor
      · intro h
        have h1 : (s.extract 19 s.size).size = 1 := by rw [h]; rfl
        have h2 : s.size = 20 := by omega
        have h3 := b1 0 (by omega)
        rw [h] at h3
        exact ⟨h2, h3.symm⟩
      · rintro ⟨h1, h2⟩
        have h3 := b1 0 (by omega)
        rw [Nat.add_zero, h2] at h3
        apply WideShapes.bytes_inj
        have hl : (s.extract 19 s.size).data.toList.length = 1 := by
          have : (s.extract 19 s.size).size = 1 := by omega
          rw [Array.length_toList]
          exact this
        match hm : (s.extract 19 s.size).data.toList, hl with
        | [c], _ =>
          unfold bt at h3
          rw [hm] at h3
          have h4 : (c.toNat : Int) = 90 := h3
          have : c.toNat = 90 := by omega
          have : c = 90 := UInt8.toNat_inj.1 this
          rw [this]
    have hS : ∀ c, ((s.extract 19 s.size).size = 6 ∧ DSh c (s.extract 19 s.size)) ↔ (s.size = 25 ∧ bt s 19 = c ∧ (dg s 20 ∧ dg s 21) ∧ bt s 22 = 58 ∧ (dg s 23 ∧ dg s 24)) := by
      intro c
      rw [hez]
      constructor
      · rintro ⟨h1, h2⟩
        unfold DSh dg at h2
        rw [b1 0 (by omega), b1 1 (by omega), b1 2 (by omega), b1 3 (by omega), b1 4 (by omega), b1 5 (by omega)] at h2
        exact ⟨by omega, h2⟩
      · rintro ⟨h1, h2⟩
        refine ⟨by omega, ?_⟩
        unfold DSh dg
        rw [b1 0 (by omega), b1 1 (by omega), b1 2 (by omega), b1 3 (by omega), b1 4 (by omega), b1 5 (by omega)]
        exact h2
    rw [fits19 _ hz, hd, fitsP, fitsM, hZ, hS 43, hS 45]
    unfold Formed E25
    constructor
    · rintro ⟨h1, h2 | ⟨h2, h3 | h3, h4⟩⟩
      · exact ⟨h1, .inl h2⟩
      · exact ⟨h1, .inr (.inl ⟨h2, h3, h4⟩)⟩
      · exact ⟨h1, .inr (.inr ⟨h2, h3, h4⟩)⟩
    · rintro ⟨h1, h2 | ⟨h2, h3, h4⟩ | ⟨h2, h3, h4⟩⟩
      · exact ⟨h1, .inl h2⟩
      · exact ⟨h1, .inr ⟨h2, .inl h3, h4⟩⟩
      · exact ⟨h1, .inr ⟨h2, .inr h3, h4⟩⟩
end Go.Abs.S
namespace Go.Abs.S
attribute [local go_sem] lguard aopO aop aenv toAV tput aLoad aStore vcells aBin aNilI aUn aAlloc aBox aBuild aBSlice afill aConv isIntT aappZ aCap aArr aMM aMake aSlice bnd3 bnd aFldAddr aFld aIdxAddr aIdx aExt aLen aCopy aEq0 bAV aUb aapp aappQ agh acont List.getD_cons_zero List.getD_cons_succ List.set_cons_zero List.set_cons_succ List.getElem?_cons_zero List.getElem?_cons_succ List.length_cons List.length_nil List.map_cons List.map_nil ints_length if_true if_false Bool.false_eq_true true_and and_true eq_self ne_eq not_false_eq_true not_true_eq_false beq_self_eq_true Nat.zero_add Nat.add_zero Nat.mul_one Nat.zero_mul Int.toNat_natCast List.toList_toArray List.all_cons List.all_nil AV.one Value.oneCell' Bool.and_true Bool.true_and forall_const true_implies false_implies implies_true Option.map_some Option.map_none Option.isSome_some Option.isSome_none imp_self rdP_flat rdP_row splice_one ints_set ints_get List.append_nil List.cons_append List.nil_append List.getElem?_toArray List.drop_zero ints_drop ints_take List.take_of_length_le splice_all ints_one Option.some.injEq Option.getD_some List.length_replicate zArr List.map_replicate rep_ints splice_intsR List.length_set List.length_append List.flatten_replicate_singleton rep_slice rep_string rep_bool rep_iface List.replicate_zero if_pos if_neg List.mapM_cons List.mapM_nil Option.pure_def Option.bind_eq_bind Option.bind_some Bool.true_eq_false Bool.not_false Bool.not_true get_concat set_concat
open Go.Proofs
open Go.Abs.H
set_option linter.unusedVariables false
set_option linter.unusedSimpArgs false
set_option maxRecDepth 100000
set_option maxHeartbeats 2000000
/-- How many digits, below 10000. -/
def nd4 (n : Nat) : Nat := if n < 10 then 1 else if n < 100 then 2 else if n < 1000 then 3 else 4
def dd (n : Nat) : List Int := digs n (nd4 n)
theorem small_p (n : Nat) (h : n < 100) : PCall Tryz.prog glob 129 [iv n] (.v (.string (strOf (dd n)))) := by
  refine PCall.of ctx.nr nrs (NR.v _) ?_
  refine lcall129 (by simp) 0 (Nat.le_refl _) ?_
  unfold lc129
  refine I1 tt ⟨?_⟩
  by_cases h10 : n < 10
  · have d1 : decide ((n : Int) < 10) = true := by rw [decide_eq_true_eq]; omega
    have e1 := i64n ((n : Int) + 1) (n + 1) (by omega) (by omega)
    refine G1 F1 (an d1 tt) tt tt tt ⟨?_⟩
    refine cnd rfl (fun hc => ?_) (fun hc => ?_)
    · repeat (first
        | (with_reducible refine lops_step fun K hK => ?_; simp (disch := first | exact dch | fail) only [go_sem, Nat.reduceAdd, Nat.reduceSub, reduceIte, Nat.reduceEqDiff, Int.reduceToNat, Int.reduceBEq, Int.reduceBNe, e1, List.size_toArray, List.length_cons, List.length_nil, Nat.zero_add, Nat.reduceAdd]; (repeat (with_reducible refine And.intro acl ?_)); (first | (refine hK _ _ ?_) | (refine ⟨_, rfl, hK _ _ ?_⟩) | (refine Or.inl (hK _ _ ?_))); clear hK K)
        | (with_reducible refine lops_nil ?_)
        | (with_reducible first | refine lavc_reg ?_ | refine lavc_seq ?_ | refine lavc_block ?_ | refine lavc_skip ?_ | refine lavc_exit ?_ | refine lavc_ret ?_ | refine lavcR_round ?_)
        | (simp only [↓reduceIte, Nat.reduceEqDiff, reduceCtorEq]))
      refine R1 tt ⟨?_⟩
      exact end0 (NR.v _) (by
        congr 2
        revert h10
        revert n
        decide +kernel)
    · cases hc
  · have d1 : decide ((n : Int) < 10) = false := by rw [decide_eq_false_iff_not]; omega
    have e1 := i64n ((n : Int) * 2) (n * 2) (by omega) (by omega)
    have e2 := i64n (((n * 2 : Nat) : Int) + 2) (n * 2 + 2) (by omega) (by omega)
    refine G1 F1 (an d1 tt) tt tt tt ⟨?_⟩
    refine cnd rfl (fun hc => ?_) (fun hc => ?_)
    · cases hc
    repeat (first
      | (with_reducible refine lops_step fun K hK => ?_; simp (disch := first | exact dch | fail) only [go_sem, Nat.reduceAdd, Nat.reduceSub, reduceIte, Nat.reduceEqDiff, Int.reduceToNat, Int.reduceBEq, Int.reduceBNe, e1, e2, List.size_toArray, List.length_cons, List.length_nil, Nat.zero_add, Nat.reduceAdd]; (repeat (with_reducible refine And.intro acl ?_)); (first | (refine hK _ _ ?_) | (refine ⟨_, rfl, hK _ _ ?_⟩) | (refine Or.inl (hK _ _ ?_))); clear hK K)
      | (with_reducible refine lops_nil ?_)
      | (with_reducible first | refine lavc_reg ?_ | refine lavc_seq ?_ | refine lavc_block ?_ | refine lavc_skip ?_ | refine lavc_exit ?_ | refine lavc_ret ?_ | refine lavcR_round ?_)
      | (simp only [↓reduceIte, Nat.reduceEqDiff, reduceCtorEq]))
    refine R1 tt ⟨?_⟩
    exact end0 (NR.v _) (by
      congr 2
      clear d1 e1 e2
      revert h10
      revert h
      revert n
      decide +kernel)
def ln (x : Nat) : Nat := if x < 2 then 1 else if x < 4 then 2 else if x < 8 then 3 else if x < 16 then 4 else if x < 32 then 5 else if x < 64 then 6 else if x < 128 then 7 else 8
theorem Len64_p (n : Nat) (h1 : 100 ≤ n) (h2 : n < 10000) : PCall Tryz.prog glob 139 [.v (.int .u64 n)] (iv ((if n < 256 then ln n else 8 + ln (n / 256) : Nat) : Int)) := by
  refine PCall.of ctx.nr nrs (NR.v _) ?_
  refine lcall139 (by simp) 0 (Nat.le_refl _) ?_
  unfold lc139
  refine I1 tt ⟨?_⟩
  have d1 : decide ((n : Int) ≥ 4294967296) = false := by rw [decide_eq_false_iff_not]; omega
  have d2 : decide ((n : Int) ≥ 65536) = false := by rw [decide_eq_false_iff_not]; omega
  have hsz : Lib.len8tab.size = 256 := by decide +kernel
  have tab : ∀ x, x < 256 → 1 ≤ x → (Lib.len8tab.data.toList.getD x 0).toNat = ln x := by decide +kernel
  have lnle : ∀ x, ln x ≤ 8 := fun x => by unfold ln; repeat' split
                                           all_goals omega
  by_cases h3 : n < 256
  · have d3 : decide ((n : Int) ≥ 256) = false := by rw [decide_eq_false_iff_not]; omega
    have w8 : IntKind.u8.wrap (n : Int) = n := by rw [IntKind.wrap_u8]; omega
    have t8 := tab n h3 (by omega)
    have s8 := i64n ((ln n : Nat) : Int) (ln n) rfl (by have := lnle n; omega)
    rw [if_pos h3]
    repeat (first
      | (with_reducible refine lops_step fun K hK => ?_; simp (disch := first | exact dch | fail) only [go_sem, Nat.reduceAdd, Nat.reduceSub, reduceIte, Nat.reduceEqDiff, Int.reduceToNat, Int.reduceBEq, Int.reduceBNe, d1, d2, d3, hsz, w8, t8, s8, Int.toNat_natCast, Int.zero_add]; (try (first | (refine And.intro (fun _ => ?_) (fun h => absurd h (by decide))) | (refine And.intro (fun h => absurd h (by decide)) (fun _ => ?_)))); (repeat (with_reducible refine And.intro acl ?_)); (first | (refine hK _ _ ?_) | (refine ⟨_, rfl, hK _ _ ?_⟩) | (refine Or.inl (hK _ _ ?_))); clear hK K)
      | (with_reducible refine lops_nil ?_)
      | (with_reducible first | refine lavc_reg ?_ | refine lavc_seq ?_ | refine lavc_block ?_ | refine lavc_skip ?_ | refine lavc_exit ?_ | refine lavc_ret ?_ | refine lavcR_round ?_)
      | (refine lavc_cond rfl (fun _ => ?_) (fun hc => absurd hc (by decide)))
      | (refine lavc_cond rfl (fun hc => absurd hc (by decide)) (fun _ => ?_))
      | (simp only [↓reduceIte, Nat.reduceEqDiff, reduceCtorEq]))
    refine R1 tt ⟨?_⟩
    exact end0 (NR.v _) rfl
  · have d3 : decide ((n : Int) ≥ 256) = true := by rw [decide_eq_true_eq]; omega
    rw [if_neg h3]
    have q1 : n / 2 ^ 8 = n / 256 := rfl
    have sh : shrI .u64 (n : Int) 8 = ((n / 256 : Nat) : Int) := by rw [shrI_le _ _ _ (by decide)]; rfl
    have w8 : IntKind.u8.wrap ((n / 256 : Nat) : Int) = ((n / 256 : Nat) : Int) := by rw [IntKind.wrap_u8]; omega
    have t8 := tab (n / 256) (by omega) (by omega)
    have l8 := lnle (n / 256)
    have s0 := i64n ((ln (n / 256) : Nat) : Int) (ln (n / 256)) rfl (by omega)
    have s8 := i64n (8 + ((ln (n / 256) : Nat) : Int)) (8 + ln (n / 256)) (by omega) (by omega)
    have s9 := i64z 8 (by omega)
    repeat (first
      | (with_reducible refine lops_step fun K hK => ?_; simp (disch := first | exact dch | fail) only [go_sem, Nat.reduceAdd, Nat.reduceSub, reduceIte, Nat.reduceEqDiff, Int.reduceToNat, Int.reduceBEq, Int.reduceBNe, sh, s9, s0, d1, d2, d3, hsz, w8, t8, s8, Int.toNat_natCast, Int.zero_add]; (try (first | (refine And.intro (fun _ => ?_) (fun h => absurd h (by decide))) | (refine And.intro (fun h => absurd h (by decide)) (fun _ => ?_)))); (repeat (with_reducible refine And.intro acl ?_)); (first | (refine hK _ _ ?_) | (refine ⟨_, rfl, hK _ _ ?_⟩) | (refine Or.inl (hK _ _ ?_))); clear hK K)
      | (with_reducible refine lops_nil ?_)
      | (with_reducible first | refine lavc_reg ?_ | refine lavc_seq ?_ | refine lavc_block ?_ | refine lavc_skip ?_ | refine lavc_exit ?_ | refine lavc_ret ?_ | refine lavcR_round ?_)
      | (refine lavc_cond rfl (fun _ => ?_) (fun hc => absurd hc (by decide)))
      | (refine lavc_cond rfl (fun hc => absurd hc (by decide)) (fun _ => ?_))
      | (simp only [↓reduceIte, Nat.reduceEqDiff, reduceCtorEq]))
    refine R1 tt ⟨?_⟩
    exact end0 (NR.v _) rfl
theorem log10_p (x : Nat) (h : x ≤ 64) : PCall Tryz.prog glob 138 [iv x] (iv ((x * 78913 / 262144 : Nat) : Int)) := by
  refine PCall.of ctx.nr nrs (NR.v _) ?_
  refine lcall138 (by simp) 0 (Nat.le_refl _) ?_
  unfold lc138
  refine I1 tt ⟨?_⟩
  have e1 := i64n ((x : Int) * 78913) (x * 78913) (by omega) (by omega)
  have sh : shrI .i64 ((x * 78913 : Nat) : Int) 18 = ((x * 78913 / 262144 : Nat) : Int) := by rw [shrI_le _ _ _ (by decide)]; rfl
  repeat (first
    | (with_reducible refine lops_step fun K hK => ?_; simp (disch := first | exact dch | fail) only [go_sem, Nat.reduceAdd, Nat.reduceSub, reduceIte, Nat.reduceEqDiff, Int.reduceToNat, Int.reduceBEq, Int.reduceBNe, e1, sh]; (repeat (with_reducible refine And.intro acl ?_)); (first | (refine hK _ _ ?_) | (refine ⟨_, rfl, hK _ _ ?_⟩) | (refine Or.inl (hK _ _ ?_))); clear hK K)
    | (with_reducible refine lops_nil ?_)
    | (with_reducible first | refine lavc_reg ?_ | refine lavc_seq ?_ | refine lavc_block ?_ | refine lavc_skip ?_ | refine lavc_exit ?_ | refine lavc_ret ?_ | refine lavcR_round ?_)
    | (simp only [↓reduceIte, Nat.reduceEqDiff, reduceCtorEq]))
  refine R1 tt ⟨?_⟩
  exact end0 (NR.v _) rfl
theorem bool2_p (b : Bool) : PCall Tryz.prog glob 140 [.v (.bool b)] (iv (if b then 1 else 0)) := by
  refine PCall.of ctx.nr nrs (NR.v _) ?_
  refine lcall140 (by simp) 0 (Nat.le_refl _) ?_
  unfold lc140
  refine I1 tt ⟨?_⟩
  cases b
  · refine G1 F4 tt tt tt tt ⟨?_⟩
    refine R1 tt ⟨?_⟩
    exact end0 (NR.v _) rfl
  · refine G1 F4 tt tt tt tt ⟨?_⟩
    refine R1 tt ⟨?_⟩
    exact end0 (NR.v _) rfl
theorem numDigits_p (n : Nat) (h1 : 100 ≤ n) (h2 : n < 10000) : PCall Tryz.prog glob 130 [.v (.int .u64 n)] (iv (nd4 n)) := by
  refine PCall.of ctx.nr nrs (NR.v _) ?_
  refine lcall130 (by simp) 0 (Nat.le_refl _) ?_
  unfold lc130
  refine I1 tt ⟨?_⟩
  have lp := Len64_p n h1 h2
  obtain ⟨L, hL⟩ : ∃ L : Nat, (if n < 256 then ln n else 8 + ln (n / 256)) = L := ⟨_, rfl⟩
  rw [hL] at lp
  have hcase : (L ≤ 9 ∧ 7 ≤ L ∧ n < 512) ∨ (L = 10 ∧ 512 ≤ n ∧ n < 1024) ∨ (L ≤ 13 ∧ 11 ≤ L ∧ 1024 ≤ n) ∨ (L = 14 ∧ 8192 ≤ n) := by
    unfold ln at hL
    repeat' split at hL
    all_goals omega
  have gp := log10_p L (by omega)
  have hln : lay_internal_strconv_uint64pow10.length = 20 := rfl
  have g2 : lay_internal_strconv_uint64pow10.getD 2 0 = 100 := rfl
  have g3 : lay_internal_strconv_uint64pow10.getD 3 0 = 1000 := rfl
  have g4 : lay_internal_strconv_uint64pow10.getD 4 0 = 10000 := rfl
  have bt := bool2_p true
  have bf := bool2_p false
  rcases hcase with h | h | h | h
  · have e : L * 78913 / 262144 = 2 := by omega
    have hr : nd4 n = 3 := by unfold nd4; rw [if_neg (by omega), if_neg (by omega), if_pos (by omega)]
    rw [e] at gp
    rw [hr]
    have d1 : decide ((n : Int) ≥ 100) = true := by rw [decide_eq_true_eq]; omega
    refine G1 F1 (an hln (an g2 (an d1 tt))) (an lp.go (an gp.go (an bt.go (an bf.go tt)))) tt tt ⟨?_⟩
    refine R1 tt ⟨?_⟩
    exact end0 (NR.v _) rfl
  · have e : L * 78913 / 262144 = 3 := by omega
    rw [e] at gp
    by_cases hk : n < 1000
    · have hr : nd4 n = 3 := by unfold nd4; rw [if_neg (by omega), if_neg (by omega), if_pos (by omega)]
      rw [hr]
      have d1 : decide ((n : Int) ≥ 1000) = false := by rw [decide_eq_false_iff_not]; omega
      refine G1 F1 (an hln (an g3 (an d1 tt))) (an lp.go (an gp.go (an bt.go (an bf.go tt)))) tt tt ⟨?_⟩
      refine R1 tt ⟨?_⟩
      exact end0 (NR.v _) rfl
    · have hr : nd4 n = 4 := by unfold nd4; rw [if_neg (by omega), if_neg (by omega), if_neg (by omega)]
      rw [hr]
      have d1 : decide ((n : Int) ≥ 1000) = true := by rw [decide_eq_true_eq]; omega
      refine G1 F1 (an hln (an g3 (an d1 tt))) (an lp.go (an gp.go (an bt.go (an bf.go tt)))) tt tt ⟨?_⟩
      refine R1 tt ⟨?_⟩
      exact end0 (NR.v _) rfl
  · have e : L * 78913 / 262144 = 3 := by omega
    have hr : nd4 n = 4 := by unfold nd4; rw [if_neg (by omega), if_neg (by omega), if_neg (by omega)]
    rw [e] at gp
    rw [hr]
    have d1 : decide ((n : Int) ≥ 1000) = true := by rw [decide_eq_true_eq]; omega
    refine G1 F1 (an hln (an g3 (an d1 tt))) (an lp.go (an gp.go (an bt.go (an bf.go tt)))) tt tt ⟨?_⟩
    refine R1 tt ⟨?_⟩
    exact end0 (NR.v _) rfl
  · have e : L * 78913 / 262144 = 4 := by omega
    have hr : nd4 n = 4 := by unfold nd4; rw [if_neg (by omega), if_neg (by omega), if_neg (by omega)]
    rw [e] at gp
    rw [hr]
    have d1 : decide ((n : Int) ≥ 10000) = false := by rw [decide_eq_false_iff_not]; omega
    refine G1 F1 (an hln (an g4 (an d1 tt))) (an lp.go (an gp.go (an bt.go (an bf.go tt)))) tt tt ⟨?_⟩
    refine R1 tt ⟨?_⟩
    exact end0 (NR.v _) rfl
end Go.Abs.S
namespace Go.Abs.S
attribute [local go_sem] lguard aopO aop aenv toAV tput aLoad aStore vcells aBin aNilI aUn aAlloc aBox aBuild aBSlice afill aConv isIntT aappZ aCap aArr aMM aMake aSlice bnd3 bnd aFldAddr aFld aIdxAddr aIdx aExt aLen aCopy aEq0 bAV aUb aapp aappQ agh acont List.getD_cons_zero List.getD_cons_succ List.set_cons_zero List.set_cons_succ List.getElem?_cons_zero List.getElem?_cons_succ List.length_cons List.length_nil List.map_cons List.map_nil ints_length if_true if_false Bool.false_eq_true true_and and_true eq_self ne_eq not_false_eq_true not_true_eq_false beq_self_eq_true Nat.zero_add Nat.add_zero Nat.mul_one Nat.zero_mul Int.toNat_natCast List.toList_toArray List.all_cons List.all_nil AV.one Value.oneCell' Bool.and_true Bool.true_and forall_const true_implies false_implies implies_true Option.map_some Option.map_none Option.isSome_some Option.isSome_none imp_self rdP_flat rdP_row splice_one ints_set ints_get List.append_nil List.cons_append List.nil_append List.getElem?_toArray List.drop_zero ints_drop ints_take List.take_of_length_le splice_all ints_one Option.some.injEq Option.getD_some List.length_replicate zArr List.map_replicate rep_ints splice_intsR List.length_set List.length_append List.flatten_replicate_singleton rep_slice rep_string rep_bool rep_iface List.replicate_zero if_pos if_neg List.mapM_cons List.mapM_nil Option.pure_def Option.bind_eq_bind Option.bind_some Bool.true_eq_false Bool.not_false Bool.not_true get_concat set_concat
open Go.Proofs
open Go.Abs.H
set_option linter.unusedVariables false
set_option linter.unusedSimpArgs false
set_option maxRecDepth 100000
set_option maxHeartbeats 2000000
theorem FormatInt_p (n : Nat) (h2 : n < 10000) : PCall Tryz.prog glob 113 [iv n, iv 10] (.v (.string (strOf (dd n)))) := by
  refine PCall.of ctx.nr nrs (NR.v _) ?_
  refine lcall113 (by simp) 0 (Nat.le_refl _) ?_
  unfold lc113
  refine I1 tt ⟨?_⟩
  have d0 : decide ((0 : Int) ≤ n) = true := by rw [decide_eq_true_eq]; omega
  by_cases h1 : n < 100
  · have sp := small_p n h1
    have d1 : decide ((n : Int) < 100) = true := by rw [decide_eq_true_eq]; omega
    refine G1 F4 (an d0 (an d1 tt)) (an sp.go tt) tt tt ⟨?_⟩
    refine R1 tt ⟨?_⟩
    exact end0 (NR.v _) rfl
  have d1 : decide ((n : Int) < 100) = false := by rw [decide_eq_false_iff_not]; omega
  have d2 : decide ((n : Int) < 0) = false := by rw [decide_eq_false_iff_not]; omega
  have np := numDigits_p n (by omega) h2
  have hn4 : nd4 n = 3 ∨ nd4 n = 4 := by unfold nd4; rw [if_neg (by omega), if_neg (by omega)]; split <;> simp
  have hn5 : n < 10 ^ nd4 n := by
    unfold nd4
    rw [if_neg (by omega), if_neg (by omega)]
    split
    · simpa using by omega
    · simpa using h2
  have e1 : IntKind.u64.wrap (n : Int) = n := by rw [IntKind.wrap_u64]; omega
  unfold dd
  obtain ⟨N, hN⟩ : ∃ N, nd4 n = N := ⟨_, rfl⟩
  rw [hN] at np hn4 hn5 ⊢
  have e2 := i64n (1 + (N : Int)) (1 + N) (by omega) (by omega)
  have hz24 : ∀ y ∈ List.replicate 24 (0 : Int), 0 ≤ y ∧ y ≤ 255 := by decide
  have s1 : 1 + N - 1 = N := by omega
  have fa := format_a (cap := 23) (x := true) (H := [⟨ints .u8 (List.replicate 24 0), 0, true, 162⟩]) (b := 0) (l := List.replicate 24 0) rfl hz24 (show 1 ≤ N by omega) (by simp; omega) (by simp) hn5 (by omega)
  have tk : List.take N (List.drop 1 (List.take 1 (List.replicate 24 (0 : Int)) ++ digs n N ++ List.drop (1 + N) (List.replicate 24 0))) = digs n N := by
    have h1 : List.take 1 (List.replicate 24 (0 : Int)) = [0] := rfl
    rw [h1, List.append_assoc]
    show List.take N (digs n N ++ _) = _
    exact List.take_left' (digs_length _ _)
  have ln1 : 24 ≤ (List.take 1 (List.replicate 24 (0 : Int))).length + (digs n N).length + (List.drop (1 + N) (List.replicate 24 (0 : Int))).length := by simp [digs_length]; omega
  repeat (first
    | (with_reducible refine lops_step fun K hK => ?_; simp (disch := first | exact dch | fail) only [go_sem, Nat.reduceAdd, Nat.reduceSub, reduceIte, Nat.reduceEqDiff, Int.reduceToNat, Int.reduceBEq, Int.reduceBNe, d0, d1, d2, e1, e2, s1]; (try (first | (refine And.intro (fun _ => ?_) (fun h => absurd h (by decide))) | (refine And.intro (fun h => absurd h (by decide)) (fun _ => ?_)))); (repeat (with_reducible refine And.intro acl ?_)); (first | (refine hK _ _ ?_) | (refine ⟨_, rfl, hK _ _ ?_⟩) | (refine Or.inl (hK _ _ ?_)) | (refine ⟨_, _, Or.inl (np.go _), (by first | exact ⟨[], (List.append_nil _).symm⟩ | exact ⟨_, rfl⟩), hK _ _ ?_⟩) | (refine ⟨_, _, Or.inl (np.go _), hK _ _ ?_⟩) | (refine ⟨_, _, Or.inl (np.go _).weakQ, hK _ _ ?_⟩) | (refine ⟨_, _, Or.inl (fa), (by first | exact ⟨[], (List.append_nil _).symm⟩ | exact ⟨_, rfl⟩), hK _ _ ?_⟩) | (refine ⟨_, _, Or.inl (fa), hK _ _ ?_⟩) | (refine ⟨_, _, Or.inl (fa).weakQ, hK _ _ ?_⟩)); clear hK K)
    | (with_reducible refine lops_nil ?_)
    | (with_reducible first | refine lavc_reg ?_ | refine lavc_seq ?_ | refine lavc_block ?_ | refine lavc_skip ?_ | refine lavc_exit ?_ | refine lavc_ret ?_ | refine lavcR_round ?_)
    | (refine lavc_cond rfl (fun _ => ?_) (fun hc => absurd hc (by decide)))
    | (refine lavc_cond rfl (fun hc => absurd hc (by decide)) (fun _ => ?_))
    | (simp only [↓reduceIte, Nat.reduceEqDiff, reduceCtorEq]))
  refine R1 tt ⟨?_⟩
  exact end0 (NR.v _) (by rw [tk])
theorem iItoa_p (n : Nat) (h2 : n < 10000) : PCall Tryz.prog glob 98 [iv n] (.v (.string (strOf (dd n)))) := by
  refine PCall.of ctx.nr nrs (NR.v _) ?_
  refine lcall98 (by simp) 0 (Nat.le_refl _) ?_
  unfold lc98
  refine I1 tt ⟨?_⟩
  have fp := FormatInt_p n h2
  have e1 := i64n (n : Int) n rfl (by omega)
  refine G1 F1 (an e1 tt) (an fp.go tt) tt tt ⟨?_⟩
  refine R1 tt ⟨?_⟩
  exact end0 (NR.v _) rfl
theorem Itoa_p (n : Nat) (h2 : n < 10000) : PCall Tryz.prog glob 75 [iv n] (.v (.string (strOf (dd n)))) := by
  refine PCall.of ctx.nr nrs (NR.v _) ?_
  refine lcall75 (by simp) 0 (Nat.le_refl _) ?_
  unfold lc75
  refine I1 tt ⟨?_⟩
  have fp := iItoa_p n h2
  refine G1 F1 tt (an fp.go tt) tt tt ⟨?_⟩
  refine R1 tt ⟨?_⟩
  exact end0 (NR.v _) rfl
theorem digs1 (n : Nat) : digs n 1 = [((48 + n % 10 : Nat) : Int)] := by simp [digs]
theorem digs2 (n : Nat) : digs n 2 = [((48 + n / 10 % 10 : Nat) : Int), ((48 + n % 10 : Nat) : Int)] := by simp [digs, List.range_succ]
theorem digs3 (n : Nat) : digs n 3 = [((48 + n / 100 % 10 : Nat) : Int), ((48 + n / 10 % 10 : Nat) : Int), ((48 + n % 10 : Nat) : Int)] := by simp [digs, List.range_succ]
theorem digs4 (n : Nat) : digs n 4 = [((48 + n / 1000 % 10 : Nat) : Int), ((48 + n / 100 % 10 : Nat) : Int), ((48 + n / 10 % 10 : Nat) : Int), ((48 + n % 10 : Nat) : Int)] := by simp [digs, List.range_succ]
theorem pad4 (n : Nat) (h : n < 10000) : List.replicate (4 - nd4 n) 48 ++ dd n = digs n 4 := by
  unfold dd nd4
  have z3 : n < 1000 → ((48 + n / 1000 % 10 : Nat) : Int) = 48 := fun _ => by omega
  have z2 : n < 100 → ((48 + n / 100 % 10 : Nat) : Int) = 48 := fun _ => by omega
  have z1 : n < 10 → ((48 + n / 10 % 10 : Nat) : Int) = 48 := fun _ => by omega
  split
  · rw [digs1, digs4, z3 (by omega), z2 (by omega), z1 (by omega)]; rfl
  split
  · rw [digs2, digs4, z3 (by omega), z2 (by omega)]; rfl
  split
  · rw [digs3, digs4, z3 (by omega)]; rfl
  · rfl
theorem pad2 (n : Nat) (h : n < 100) : List.replicate (2 - nd4 n) 48 ++ dd n = digs n 2 := by
  unfold dd nd4
  have z1 : n < 10 → ((48 + n / 10 % 10 : Nat) : Int) = 48 := fun _ => by omega
  split
  · rw [digs1, digs2, z1 (by omega)]; rfl
  · first | rfl | (rw [if_pos h]; rfl)
theorem strOf_append (a b : List Int) : strOf a ++ strOf b = strOf (a ++ b) := by
  apply WideShapes.bytes_inj
  simp [strOf]
theorem dd_length (n : Nat) : (dd n).length = nd4 n := digs_length _ _
theorem nd4_le (n : Nat) : 1 ≤ nd4 n ∧ nd4 n ≤ 4 := by
  unfold nd4
  split
  · omega
  split
  · omega
  split
  · omega
  · omega
theorem padded4_p (n : Nat) (h : n < 10000) : PCall Tryz.prog glob 49 [iv n, iv 4] (.v (.string (strOf (digs n 4)))) := by
  refine PCall.of ctx.nr nrs (NR.v _) ?_
  refine lcall49 (by simp) 0 (Nat.le_refl _) ?_
  unfold lc49
  refine I1 tt ⟨?_⟩
  have ip := Itoa_p n h
  have hl := nd4_le n
  have rp := rep_c (4 - nd4 n) (by omega)
  have hs : (dd n).length = nd4 n := dd_length n
  have e1 := i64n (4 - (nd4 n : Int)) (4 - nd4 n) (by omega) (by omega)
  repeat (first
    | (with_reducible refine lops_step fun K hK => ?_; simp (disch := first | exact dch | fail) only [go_sem, Nat.reduceAdd, Nat.reduceSub, reduceIte, Nat.reduceEqDiff, Int.reduceToNat, Int.reduceBEq, Int.reduceBNe, hs, e1, str_size, List.length_replicate, strOf_append, pad4 n h]; (repeat (with_reducible refine And.intro acl ?_)); (first | (refine hK _ _ ?_) | (refine ⟨_, rfl, hK _ _ ?_⟩) | (refine Or.inl (hK _ _ ?_)) | (refine ⟨_, _, Or.inl (ip.go _), (by first | exact ⟨[], (List.append_nil _).symm⟩ | exact ⟨_, rfl⟩), hK _ _ ?_⟩) | (refine ⟨_, _, Or.inl (ip.go _), hK _ _ ?_⟩) | (refine ⟨_, _, Or.inl (ip.go _).weakQ, hK _ _ ?_⟩) | (refine ⟨_, _, Or.inl (rp.go _), (by first | exact ⟨[], (List.append_nil _).symm⟩ | exact ⟨_, rfl⟩), hK _ _ ?_⟩) | (refine ⟨_, _, Or.inl (rp.go _), hK _ _ ?_⟩) | (refine ⟨_, _, Or.inl (rp.go _).weakQ, hK _ _ ?_⟩)); clear hK K)
    | (with_reducible refine lops_nil ?_)
    | (with_reducible first | refine lavc_reg ?_ | refine lavc_seq ?_ | refine lavc_block ?_ | refine lavc_skip ?_ | refine lavc_exit ?_ | refine lavc_ret ?_ | refine lavcR_round ?_)
    | (simp only [↓reduceIte, Nat.reduceEqDiff, reduceCtorEq]))
  refine R1 tt ⟨?_⟩
  exact end0 (NR.v _) rfl
theorem padded2_p (n : Nat) (h : n < 100) : PCall Tryz.prog glob 49 [iv n, iv 2] (.v (.string (strOf (digs n 2)))) := by
  refine PCall.of ctx.nr nrs (NR.v _) ?_
  refine lcall49 (by simp) 0 (Nat.le_refl _) ?_
  unfold lc49
  refine I1 tt ⟨?_⟩
  have ip := Itoa_p n (by omega)
  have hl := nd4_le n
  have hl2 : nd4 n ≤ 2 := by
    unfold nd4
    split
    · omega
    · first | omega | (rw [if_pos h]; omega)
  have rp := rep_c (2 - nd4 n) (by omega)
  have hs : (dd n).length = nd4 n := dd_length n
  have e1 := i64n (2 - (nd4 n : Int)) (2 - nd4 n) (by omega) (by omega)
  repeat (first
    | (with_reducible refine lops_step fun K hK => ?_; simp (disch := first | exact dch | fail) only [go_sem, Nat.reduceAdd, Nat.reduceSub, reduceIte, Nat.reduceEqDiff, Int.reduceToNat, Int.reduceBEq, Int.reduceBNe, hs, e1, str_size, List.length_replicate, strOf_append, pad2 n h]; (repeat (with_reducible refine And.intro acl ?_)); (first | (refine hK _ _ ?_) | (refine ⟨_, rfl, hK _ _ ?_⟩) | (refine Or.inl (hK _ _ ?_)) | (refine ⟨_, _, Or.inl (ip.go _), (by first | exact ⟨[], (List.append_nil _).symm⟩ | exact ⟨_, rfl⟩), hK _ _ ?_⟩) | (refine ⟨_, _, Or.inl (ip.go _), hK _ _ ?_⟩) | (refine ⟨_, _, Or.inl (ip.go _).weakQ, hK _ _ ?_⟩) | (refine ⟨_, _, Or.inl (rp.go _), (by first | exact ⟨[], (List.append_nil _).symm⟩ | exact ⟨_, rfl⟩), hK _ _ ?_⟩) | (refine ⟨_, _, Or.inl (rp.go _), hK _ _ ?_⟩) | (refine ⟨_, _, Or.inl (rp.go _).weakQ, hK _ _ ?_⟩)); clear hK K)
    | (with_reducible refine lops_nil ?_)
    | (with_reducible first | refine lavc_reg ?_ | refine lavc_seq ?_ | refine lavc_block ?_ | refine lavc_skip ?_ | refine lavc_exit ?_ | refine lavc_ret ?_ | refine lavcR_round ?_)
    | (simp only [↓reduceIte, Nat.reduceEqDiff, reduceCtorEq]))
  refine R1 tt ⟨?_⟩
  exact end0 (NR.v _) rfl
end Go.Abs.S
namespace Go.Abs.S
attribute [local go_sem] lguard aopO aop aenv toAV tput aLoad aStore vcells aBin aNilI aUn aAlloc aBox aBuild aBSlice afill aConv isIntT aappZ aCap aArr aMM aMake aSlice bnd3 bnd aFldAddr aFld aIdxAddr aIdx aExt aLen aCopy aEq0 bAV aUb aapp aappQ agh acont List.getD_cons_zero List.getD_cons_succ List.set_cons_zero List.set_cons_succ List.getElem?_cons_zero List.getElem?_cons_succ List.length_cons List.length_nil List.map_cons List.map_nil ints_length if_true if_false Bool.false_eq_true true_and and_true eq_self ne_eq not_false_eq_true not_true_eq_false beq_self_eq_true Nat.zero_add Nat.add_zero Nat.mul_one Nat.zero_mul Int.toNat_natCast List.toList_toArray List.all_cons List.all_nil AV.one Value.oneCell' Bool.and_true Bool.true_and forall_const true_implies false_implies implies_true Option.map_some Option.map_none Option.isSome_some Option.isSome_none imp_self rdP_flat rdP_row splice_one ints_set ints_get List.append_nil List.cons_append List.nil_append List.getElem?_toArray List.drop_zero ints_drop ints_take List.take_of_length_le splice_all ints_one Option.some.injEq Option.getD_some List.length_replicate zArr List.map_replicate rep_ints splice_intsR List.length_set List.length_append List.flatten_replicate_singleton rep_slice rep_string rep_bool rep_iface List.replicate_zero if_pos if_neg List.mapM_cons List.mapM_nil Option.pure_def Option.bind_eq_bind Option.bind_some Bool.true_eq_false Bool.not_false Bool.not_true get_concat set_concat
open Go.Proofs
open Go.Abs.H
set_option linter.unusedVariables false
set_option linter.unusedSimpArgs false
set_option maxRecDepth 100000
set_option maxHeartbeats 2000000
theorem ahead_366 (k : Nat) : aheadY k ≤ 366 * k := by
  unfold aheadY
  omega
theorem of_p (t : Mom) (ht : t.ok) : PCall Tryz.prog glob 47 [iv (secs t)] (mv t) := by
  refine PCall.of ctx.nr nrs (NR.mv t) ?_
  refine lcall47 (by simp) 0 (Nat.le_refl _) ?_
  unfold lc47
  refine I1 tt ⟨?_⟩
  have hp := secs_parts ht
  have hin := secs_in ht
  obtain ⟨hx, hh⟩ := ht
  have hyr := day_year hx
  have ha := hx.all
  have hdb := day_bound hx
  have hdd : dayN t.x = aheadY t.x.y + msum t.x.y (t.x.m - 1).toNat + t.x.d - 1 := rfl
  have hdm := hx.2
  unfold tFirst tLast at hin
  obtain ⟨N, hN⟩ : ∃ N : Nat, secs t + 62167219200 = N := ⟨(secs t + 62167219200).toNat, by omega⟩
  rw [hN] at hp
  obtain ⟨⟨y0, m0, d⟩, h, i, s⟩ := t
  simp only at hp hh hyr ha hdd hdb hdm
  obtain ⟨y, rfl⟩ := Int.eq_ofNat_of_zero_le (show 0 ≤ y0 by omega)
  obtain ⟨mm, rfl⟩ : ∃ mm : Nat, m0 = (mm : Int) + 1 := ⟨(m0 - 1).toNat, by omega⟩
  have emm : ((mm : Int) + 1 - 1).toNat = mm := by omega
  rw [emm] at hdd
  obtain ⟨n, hn⟩ : ∃ n, secs ⟨⟨(y : Int), (mm : Int) + 1, d⟩, h, i, s⟩ = n := ⟨_, rfl⟩
  obtain ⟨Dd, hD⟩ : ∃ Dd, dayN ⟨(y : Int), (mm : Int) + 1, d⟩ = Dd := ⟨_, rfl⟩
  rw [hn] at hN hin
  rw [hD] at hp hyr hdb hdd
  rw [hn]
  clear hn hD
  obtain ⟨D, rfl⟩ := Int.eq_ofNat_of_zero_le hdb.1
  have p1 : N / 86400 = D := by omega
  have w1 := i64n (n + 62167219200) N hN (by omega)
  have t1 : (N : Int).tdiv 86400 = (D : Int) := by rw [← p1]; exact tdivN N 86400
  have w2 := i64n (D : Int) D rfl (by omega)
  have t2 : (D : Int).tdiv 366 = ((D / 366 : Nat) : Int) := tdivN D 366
  have w3 := i64n ((D / 366 : Nat) : Int) (D / 366) rfl (by omega)
  refine G1 F1 (an w1 (an w2 (an w3 (an t1 (an t2 tt))))) tt tt tt ⟨?_⟩
  have hY0 : D / 366 ≤ y := by
    rcases Nat.lt_or_ge y (D / 366) with hlt | hge
    · have a1 := ahead_le (a := (y : Int) + 1) (b := ((D / 366 : Nat) : Int)) (by omega) (by omega)
      have a2 := ahead_366 (D / 366)
      omega
    · exact hge
  refine lavc_loopM ms47_0 (fun m (Y : Nat) => m + Y = y) (fun Y => []) (fun Y => [⟨[iv 0, iv 0, iv 0, iv 0, iv 0, iv 0], 0, true, 87⟩, ⟨[iv Y, iv 1, iv D], 0, true, 85⟩]) (y - D / 366) (D / 366) (by omega) ?_ ?_ ?_
  · try unfold ms47_0
    exact A0 tt
  · rfl
  intro m Y hY
  try unfold ms47_0
  refine M1 tt ⟨?_⟩
  have e1 := i64n ((Y : Int) + 1) (Y + 1) (by omega) (by omega)
  have ap := ahead_p (Y + 1) (by omega)
  refine G1 F1 (an e1 (an t1 (an w2 tt))) (an ap.go tt) tt tt ⟨?_⟩
  refine cnd rfl (fun hc => ?_) (fun hc => ?_)
  · have hlt : Y < y := by
      rcases Nat.lt_or_ge Y y with hlt | hge
      · exact hlt
      · obtain rfl : Y = y := by omega
        rw [Int.natCast_succ] at hc
        omega
    refine G1 F1 (an e1 tt) tt tt tt ⟨?_⟩
    refine ⟨m - 1, Y + 1, by omega, by omega, ?_, rfl⟩
    try unfold ms47_0
    exact A0 tt
  obtain rfl : Y = y := by
    rcases Nat.lt_or_ge Y y with hlt | hge
    · have a1 := ahead_le (a := ((Y + 1 : Nat) : Int)) (b := (y : Int)) (by omega) (by omega)
      omega
    · omega
  clear ap
  have ap := ahead_p Y (by omega)
  have b0 := ahead_in (k := (Y : Int)) (by omega) (by omega)
  have bs := msum_in (Y : Int) mm (by omega)
  have f1 := i64z (aheadY Y - 1) (by omega)
  have f2 : IntKind.i64.wrap ((D : Int) - (aheadY Y - 1)) = msum Y mm + d - msum Y 0 := by
    have z : msum Y 0 = 0 := rfl
    rw [i64z _ (by omega)]
    omega
  refine G1 F1 (an f1 (an f2 tt)) (an ap.go tt) tt tt ⟨?_⟩
  refine lavc_loopM ms47_1 (fun m (q : Nat) => m + q = mm) (fun q => []) (fun q => [⟨[iv 0, iv 0, iv 0, iv 0, iv 0, iv 0], 0, true, 87⟩, ⟨[iv Y, iv ((q : Int) + 1), iv (msum Y mm + d - msum Y q)], 0, true, 85⟩]) mm 0 (by omega) ?_ ?_ ?_
  · try unfold ms47_1
    exact A0 tt
  · rfl
  clear m hY
  intro m q hq
  try unfold ms47_1
  refine M1 tt ⟨?_⟩
  have dp := Days_p (Y : Int) ((q : Int) + 1) (by omega)
  have bq := msum_in (Y : Int) q (by omega)
  have bm := mdays_le (Y : Int) ((q : Int) + 1)
  have eq1 : msum Y (q + 1) = msum Y q + mdays Y ((q : Int) + 1) := rfl
  refine G1 F1 tt (an dp.go tt) tt tt ⟨?_⟩
  refine cnd rfl (fun hc => ?_) (fun hc => ?_)
  · have hlt : q < mm := by
      rcases Nat.lt_or_ge q mm with hlt | hge
      · exact hlt
      · obtain rfl : q = mm := by omega
        omega
    have g1 : IntKind.i64.wrap (msum Y mm + d - msum Y q - mdays Y ((q : Int) + 1)) = msum Y mm + d - msum Y (q + 1) := by
      rw [i64z _ (by omega)]
      omega
    have g2 := i64n ((q : Int) + 1 + 1) (q + 2) (by omega) (by omega)
    refine G1 F1 (an g1 (an g2 tt)) (an dp.go tt) tt tt ⟨?_⟩
    refine ⟨m - 1, q + 1, by omega, by omega, ?_, ?_⟩
    · try unfold ms47_1
      exact A0 tt
    · rw [show (((q + 1 : Nat) : Int) + 1) = ((q + 2 : Nat) : Int) from by omega]
  obtain rfl : q = mm := by
    rcases Nat.lt_or_ge q mm with hlt | hge
    · have := msum_mono (Y : Int) (a := q + 1) (b := mm) (by omega)
      omega
    · omega
  have ed : msum Y q + d - msum Y q = d := by omega
  have r1 : (N : Int).tmod 86400 = ((N % 86400 : Nat) : Int) := tmodN N 86400
  have r2 := i64n ((N % 86400 : Nat) : Int) (N % 86400) rfl (by omega)
  have r3 : ((N % 86400 : Nat) : Int).tdiv 3600 = h := by rw [show ((N % 86400 : Nat) : Int).tdiv 3600 = ((N % 86400 / 3600 : Nat) : Int) from tdivN _ 3600]; omega
  have r4 : ((N % 86400 : Nat) : Int).tmod 3600 = ((N % 86400 % 3600 : Nat) : Int) := tmodN _ 3600
  have r5 := i64n ((N % 86400 % 3600 : Nat) : Int) (N % 86400 % 3600) rfl (by omega)
  have r6 : ((N % 86400 % 3600 : Nat) : Int).tdiv 60 = i := by rw [show ((N % 86400 % 3600 : Nat) : Int).tdiv 60 = ((N % 86400 % 3600 / 60 : Nat) : Int) from tdivN _ 60]; omega
  have r7 : ((N % 86400 : Nat) : Int).tmod 60 = s := by rw [show ((N % 86400 : Nat) : Int).tmod 60 = ((N % 86400 % 60 : Nat) : Int) from tmodN _ 60]; omega
  have r8 := i64z h (by omega)
  have r9 := i64z i (by omega)
  have r10 := i64z s (by omega)
  have s0 : ∀ a b c : AV, splice (ints .i64 (List.replicate 6 0)) 0 [a, b, c] = [a, b, c, iv 0, iv 0, iv 0] := fun _ _ _ => rfl
  have s3 : ∀ a b c d e f x : AV, splice [a, b, c, d, e, f] 3 [x] = [a, b, c, x, e, f] := fun _ _ _ _ _ _ _ => rfl
  have s4 : ∀ a b c d e f x : AV, splice [a, b, c, d, e, f] 4 [x] = [a, b, c, d, x, f] := fun _ _ _ _ _ _ _ => rfl
  have s5 : ∀ a b c d e f x : AV, splice [a, b, c, d, e, f] 5 [x] = [a, b, c, d, e, x] := fun _ _ _ _ _ _ _ => rfl
  repeat (first
    | (with_reducible refine lops_step fun K hK => ?_; simp (disch := first | exact dch | fail) only [go_sem, Nat.reduceAdd, Nat.reduceSub, reduceIte, Nat.reduceEqDiff, Int.reduceToNat, Int.reduceBEq, Int.reduceBNe, s0, s3, s4, s5, List.length_cons, List.length_nil, ed, r1, r2, r3, r4, r5, r6, r7, r8, r9, r10]; (repeat (with_reducible refine And.intro acl ?_)); (first | (refine hK _ _ ?_) | (refine ⟨_, rfl, hK _ _ ?_⟩) | (refine Or.inl (hK _ _ ?_))); clear hK K)
    | (with_reducible refine lops_nil ?_)
    | (with_reducible first | refine lavc_reg ?_ | refine lavc_seq ?_ | refine lavc_block ?_ | refine lavc_skip ?_ | refine lavc_exit ?_ | refine lavc_ret ?_ | refine lavcR_round ?_)
    | (simp only [↓reduceIte, Nat.reduceEqDiff, reduceCtorEq]))
  refine R1 tt ⟨?_⟩
  exact end0 (NR.mv _) rfl
end Go.Abs.S
namespace Go.Abs.S
open Go.Proofs
set_option maxRecDepth 100000
def impCodB : FuncId → Bool := fun f => f == 16 || f == 17 || f == 18 || f == 30 || f == 31 || f == 32 || f == 48 || f == 50 || f == 57 || f == 58 || f == 74 || f == 86 || f == 100 || f == 116
/-- (*strings.Builder).WriteString -/
def lc48 : LCode := .seq (.reg []
  [o1 4 (.assign (.const (.int .i64 0))),
  o1 5 (.assign (.const .nilIface))]) (.seq (.reg []
  [o1 6 (.move (.tmp 0)),
  o1 7 (.call ⟨.value (.func 74), #[.tmp 6], #[89]⟩)]) (.seq (.reg []
  [o1 8 (.move (.tmp 0)),
  o1 9 (.move (.tmp 0)),
  o1 10 (.nilCheck (.tmp 9)),
  o1 11 (.fieldAddr 91 (.tmp 10) 1),
  o1 12 (.load 22 (.tmp 11)),
  o1 13 (.move (.tmp 1)),
  o1 14 (.call ⟨.builtin .append, #[.tmp 12, .tmp 13], #[22, 9]⟩),
  o1 15 (.nilCheck (.tmp 8)),
  o1 16 (.fieldAddr 91 (.tmp 15) 1),
  o3 (.store 22 (.tmp 16) (.tmp 14))]) (.seq (.reg []
  [o1 17 (.move (.tmp 1)),
  o1 18 (.call ⟨.builtin .len, #[.tmp 17], #[9]⟩),
  o1 4 (.assign (.tmp 18)),
  o1 5 (.assign (.const .nilIface))]) (.ret))))
theorem ls48 : Tryz.f48.body.map (strip Tryz.prog impCodB) = some lc48 := by kernel_rfl
theorem lcallk48 {args : List AV} (hargs : args.length ≤ 19) {H0 : AHeap} {r0 : AV} {H0' : AHeap}
    (h : lavc Tryz.prog glob lc48 (args ++ List.replicate (19 - args.length) (.v undef)) H0 fun e t H => (e = .normal ∨ e = .ret) ∧ aret Tryz.prog t H [Go.ResultVar.tmp 4, Go.ResultVar.tmp 5] fun r => r = r0 ∧ H = H0') :
    ACall Tryz.prog glob false 48 args H0 r0 H0' := LCallK' ctx Tryz.func48 (by kernel_rfl) ls48 (by kernel_rfl) (by kernel_rfl) hargs h
/-- (*strings.Builder).String -/
def lc50 : LCode := .seq (.reg []
  [o1 2 (.assign (.const (.string { data := #[] })))]) (.seq (.reg [o1 3 (.move (.tmp 0)),
  o1 4 (.nilCheck (.tmp 3)),
  o1 5 (.fieldAddr 91 (.tmp 4) 1),
  o1 6 (.load 22 (.tmp 5)),
  o1 7 (.call ⟨.builtin .unsafeSliceData, #[.tmp 6], #[22]⟩),
  o1 8 (.move (.tmp 0)),
  o1 9 (.nilCheck (.tmp 8)),
  o1 10 (.fieldAddr 91 (.tmp 9) 1),
  o1 11 (.load 22 (.tmp 10)),
  o1 12 (.call ⟨.builtin .len, #[.tmp 11], #[22]⟩)]
  [o1 13 (.call ⟨.builtin .unsafeString, #[.tmp 7, .tmp 12], #[125, 3]⟩),
  o1 2 (.assign (.tmp 13))]) (.ret))
theorem ls50 : Tryz.f50.body.map (strip Tryz.prog impCodB) = some lc50 := by kernel_rfl
theorem lcallk50 {args : List AV} (hargs : args.length ≤ 14) {H0 : AHeap} {r0 : AV} {H0' : AHeap}
    (h : lavc Tryz.prog glob lc50 (args ++ List.replicate (14 - args.length) (.v undef)) H0 fun e t H => (e = .normal ∨ e = .ret) ∧ aret Tryz.prog t H [Go.ResultVar.tmp 2] fun r => r = r0 ∧ H = H0') :
    ACall Tryz.prog glob false 50 args H0 r0 H0' := LCallK' ctx Tryz.func50 (by kernel_rfl) ls50 (by kernel_rfl) (by kernel_rfl) hargs h
end Go.Abs.S
namespace Go.Abs.S
attribute [local go_sem] lguard aopO aop aenv toAV tput aLoad aStore vcells aBin aNilI aUn aAlloc aBox aBuild aBSlice afill aConv isIntT aappZ aCap aArr aMM aMake aSlice bnd3 bnd aFldAddr aFld aIdxAddr aIdx aExt aLen aCopy aEq0 bAV aUb aapp aappQ agh acont List.getD_cons_zero List.getD_cons_succ List.set_cons_zero List.set_cons_succ List.getElem?_cons_zero List.getElem?_cons_succ List.length_cons List.length_nil List.map_cons List.map_nil ints_length if_true if_false Bool.false_eq_true true_and and_true eq_self ne_eq not_false_eq_true not_true_eq_false beq_self_eq_true Nat.zero_add Nat.add_zero Nat.mul_one Nat.zero_mul Int.toNat_natCast List.toList_toArray List.all_cons List.all_nil AV.one Value.oneCell' Bool.and_true Bool.true_and forall_const true_implies false_implies implies_true Option.map_some Option.map_none Option.isSome_some Option.isSome_none imp_self rdP_flat rdP_row splice_one ints_set ints_get List.append_nil List.cons_append List.nil_append List.getElem?_toArray List.drop_zero ints_drop ints_take List.take_of_length_le splice_all ints_one Option.some.injEq Option.getD_some List.length_replicate zArr List.map_replicate rep_ints splice_intsR List.length_set List.length_append List.flatten_replicate_singleton rep_slice rep_string rep_bool rep_iface List.replicate_zero if_pos if_neg List.mapM_cons List.mapM_nil Option.pure_def Option.bind_eq_bind Option.bind_some Bool.true_eq_false Bool.not_false Bool.not_true get_concat set_concat
open Go.Proofs
set_option linter.unusedVariables false
set_option linter.unusedSimpArgs false
set_option maxRecDepth 100000
set_option maxHeartbeats 2000000
theorem sizeB : (Tryz.prog.info? 91).map (·.size) = some 2 := by kernel_rfl
theorem liesB1 : sameLayout Tryz.prog Tryz.prog.depth 91 91 = true := by kernel_rfl
theorem depthB : Tryz.prog.depth - 1 + 1 = Tryz.prog.depth := by kernel_rfl
theorem cellsB : Tryz.prog.cellsOf 91 = 2 := by kernel_rfl
theorem liesB (m : Nat) (h : 2 ≤ m) : liesAt Tryz.prog Tryz.prog.depth 91 (m / Tryz.prog.cellsOf 91) 0 91 1 = true := by
  have h1 : ∀ d, rowAt Tryz.prog (sameLayout Tryz.prog Tryz.prog.depth · 91) (d + 1) 91 (m / Tryz.prog.cellsOf 91) 0 1 = true := by
    intro d
    have h2 : 1 ≤ m / 2 := by omega
    simp [rowAt, cellsB, liesB1, h2]
  have h3 : ∀ d, liesAt Tryz.prog (d + 1) 91 (m / Tryz.prog.cellsOf 91) 0 91 1 = true := by
    intro d
    have := h1 (Tryz.prog.depth - 1)
    rw [depthB] at this
    simp [liesAt, this]
  have := h3 (Tryz.prog.depth - 1)
  rwa [depthB] at this
theorem noEscape (x : Value) (w : World) : (callFunc 97 #[x]).run Tryz.prog w = .ok (.value x) w := by
  rw [run_callFunc_extern Tryz.func97 (by kernel_rfl) (by kernel_rfl) (by kernel_rfl) (e := Extern.AbiNoEscape.same) (by kernel_rfl)]
  rw [Lib.run_noEscape]
  rfl
theorem check_used (b : Nat) (w : World) (h0 : w.cell? ⟨b, 0, none⟩ = some (.pointer (some ⟨b, 0, none⟩))) :
    Calls Tryz.prog 74 #[.pointer (some ⟨b, 0, none⟩)] w fun e w' => e = .returned (.tuple #[]) ∧ w' = w := by
  obtain ⟨j, hj, _⟩ := Option.map_eq_some_iff.1 sizeB
  go_enter Tryz.func74, Tryz.ntmps74
  go_wp2
  rw [Lib.run_neq_ptr_same w _ Tryz.underlying89 hj]
  go_wp2
  go_end0
  exact ⟨rfl, rfl⟩
theorem check_fresh (b m : Nat) (hm : 2 ≤ m) (w : World) (h0 : w.cell? ⟨b, 0, none⟩ = some (.pointer none)) (hsh : w.shape? b = some (91, m)) (hfz : w.frozen? ⟨b, 0, none⟩ = false) :
    Calls Tryz.prog 74 #[.pointer (some ⟨b, 0, none⟩)] w fun e w' => e = .returned (.tuple #[]) ∧ w' = w.setCell ⟨b, 0, none⟩ (.pointer (some ⟨b, 0, none⟩)) := by
  obtain ⟨j, hj, hjs⟩ := Option.map_eq_some_iff.1 sizeB
  go_enter Tryz.func74, Tryz.ntmps74
  go_wp2
  rw [Lib.run_to_unsafe w ⟨b, 0, none⟩ Tryz.underlying89 Tryz.underlying136 hj (by rw [hjs]; decide) hsh (by show 0 < m; omega)]
  simp only [Result.andThen]
  rw [Oper.upon_value]
  go_wp2
  rw [noEscape]
  rw [Oper.upon_value]
  go_wp2
  rw [Lib.run_from_unsafe w ⟨b, 0, none⟩ Tryz.underlying136 Tryz.underlying89 hj hsh (liesB m hm)]
  simp only [Result.andThen]
  rw [Oper.upon_value]
  go_wp2
  go_end0
  exact ⟨rfl, rfl⟩
/-- The check whether a builder was copied: nothing that is seen here turns. -/
theorem check_a {H : AHeap} {b v : Nat} {y : AV} (hb : H[b]? = some ⟨[.bad b v, y], v, true, 91⟩) : ACall Tryz.prog glob false 74 [.ptr b v 0] H (.tup []) H := by
  refine ⟨⟨_, Tryz.func74, by kernel_rfl, by kernel_rfl⟩, fun σ w us hu ha rel => ?_⟩
  obtain ⟨u0, rfl⟩ : ∃ u, us = #[u] := by
    obtain ⟨l⟩ := us
    match l, hu with
    | [u], _ => exact ⟨u, rfl⟩
  have h0 := ha 0 (by simp)
  simp only [List.getD_cons_zero] at h0
  have e0 : (#[u0] : Array Value).getD 0 undef = u0 := rfl
  rw [e0] at h0
  cases h0 with
  | @ptr _ _ _ l hρ =>
    obtain ⟨B, base, lim⟩ := l
    obtain rfl : base = 0 := rel.base0 _ _ _ hρ
    obtain ⟨C, fr, c1, c2, c3, c4, c5⟩ := rel.blk b _ _ hb rfl hρ
    obtain ⟨u, d1, d2⟩ := c5 0 (by simp)
    obtain ⟨uy, y1, y2⟩ := c5 1 (by simp)
    simp only [Nat.zero_add, Nat.add_zero, List.getD_cons_zero, List.getD_cons_succ, List.length_cons, List.length_nil] at *
    have hcell : w.cell? ⟨B, 0, none⟩ = some u := by simp only [World.cell?, c1]; exact d1
    have hC : 2 ≤ C.size := by omega
    cases d2 with
    | bad h =>
      rw [hρ] at h
      cases h
      refine (check_used B w hcell).mono ?_
      rintro e w' ⟨rfl, rfl⟩
      exact ⟨_, rfl, Res.same rel (.tup _ rfl (fun j hj => by simp at hj))⟩
    | bad0 =>
      refine (check_fresh B lim c3 w hcell (by simp [World.shape?, c1, c2]) (by
        simp only [World.frozen?, c1]
        rcases c4 with h | h
        · simp; omega
        · simp; omega)).mono ?_
      rintro e w' ⟨rfl, rfl⟩
      have hup := rel.upd hb rfl hρ (C := C.setIfInBounds 0 (.pointer (some ⟨B, 0, none⟩))) (fr := fr) (w' := w.setCell ⟨B, 0, none⟩ (.pointer (some ⟨B, 0, none⟩))) [.bad b v, y] (setCell_blk w B 0 _ C _ fr c1) (by simpa using c2) (by simpa using c3) c4 (fun j hj => by
        match j, hj with
        | 0, _ =>
          refine ⟨.pointer (some ⟨B, 0, none⟩), ?_, by simpa using AR.bad hρ⟩
          simp only [Nat.zero_add]
          rw [Array.getElem?_setIfInBounds_self_of_lt (by omega)]
        | 1, _ =>
          refine ⟨uy, ?_, by simpa using y2⟩
          simp only [Nat.zero_add]
          rw [Array.getElem?_setIfInBounds_ne (by omega)]
          exact y1) (fun B' hB => by
        simp only [World.setCell]
        rw [Array.getElem?_modify, if_neg (fun e => hB e.symm)]) (by simp [World.setCell]) rfl rfl rfl
      rw [set_same hb] at hup
      exact ⟨_, rfl, σ, .tup _ rfl (fun j hj => by simp at hj), hup.1, hup.2.1, fun h => by cases h⟩
theorem ne_bld {H : AHeap} {b v b1 v1 n : Nat} {acc : List Int} {e e1 : TypeId} (hb : H[b]? = some ⟨[.bad b v, .bsl b1 v1 n], v, true, e⟩) (h1 : H[b1]? = some ⟨ints .u8 acc, v1, true, e1⟩) : b ≠ b1 := by
  rintro rfl
  rw [hb] at h1
  cases acc with
  | nil => simp [ints] at h1
  | cons a l => simp [ints] at h1
theorem String_a {H : AHeap} {b v b1 v1 n : Nat} {acc : List Int} (hb : H[b]? = some ⟨[.bad b v, .bsl b1 v1 n], v, true, 91⟩) (h1 : H[b1]? = some ⟨ints .u8 acc, v1, true, 5⟩) (hn : n = acc.length) (hl : acc.length ≤ 9223372036854775807) (hu : ∀ x ∈ acc, 0 ≤ x ∧ x ≤ 255) :
    ACall Tryz.prog glob false 50 [.ptr b v 0] H (.v (.string (strOf acc))) (H.set b1 ⟨ints .u8 acc, v1, false, 5⟩) := by
  have hu8 : u8s (ints .u8 acc) := u8s_ints.2 hu
  refine lcallk50 (by simp) ?_
  unfold lc50
  refine I1 tt ⟨?_⟩
  repeat (first
    | (with_reducible refine lops_step fun K hK => ?_; simp (disch := first | exact dch | fail) only [go_sem, Nat.reduceAdd, Nat.reduceSub, reduceIte, Nat.reduceEqDiff, Int.reduceToNat, Int.reduceBEq, Int.reduceBNe, hb, h1, hn, aUsd, aUst, ints_length]; (repeat (with_reducible refine And.intro acl ?_)); (first | (refine hK _ _ ?_) | (refine ⟨_, rfl, hK _ _ ?_⟩) | (refine Or.inl (hK _ _ ?_)) | (refine ⟨_, _, Or.inl (check_a hb), (by first | exact ⟨[], (List.append_nil _).symm⟩ | exact ⟨_, rfl⟩), hK _ _ ?_⟩) | (refine ⟨_, _, Or.inl (check_a hb), hK _ _ ?_⟩) | (refine ⟨_, _, Or.inl (check_a hb).weakQ, hK _ _ ?_⟩)); clear hK K)
    | (with_reducible refine lops_nil ?_)
    | (with_reducible first | refine lavc_reg ?_ | refine lavc_seq ?_ | refine lavc_block ?_ | refine lavc_skip ?_ | refine lavc_exit ?_ | refine lavc_ret ?_ | refine lavcR_round ?_)
    | (simp only [↓reduceIte, Nat.reduceEqDiff, reduceCtorEq]))
  refine And.intro (by simp) ?_
  simp (disch := first | exact dch | fail) only [go_sem, Nat.reduceAdd, Nat.reduceSub, reduceIte, Nat.reduceEqDiff, Int.reduceToNat, Int.reduceBEq, Int.reduceBNe, aret, aretL, aret1, aenv]
  (repeat (with_reducible refine And.intro acl ?_))
end Go.Abs.S
namespace Go.Abs.S
attribute [local go_sem] lguard aopO aop aenv toAV tput aLoad aStore vcells aBin aNilI aUn aAlloc aBox aBuild aBSlice afill aConv isIntT aappZ aCap aArr aMM aMake aSlice bnd3 bnd aFldAddr aFld aIdxAddr aIdx aExt aLen aCopy aEq0 bAV aUb aapp aappQ agh acont List.getD_cons_zero List.getD_cons_succ List.set_cons_zero List.set_cons_succ List.getElem?_cons_zero List.getElem?_cons_succ List.length_cons List.length_nil List.map_cons List.map_nil ints_length if_true if_false Bool.false_eq_true true_and and_true eq_self ne_eq not_false_eq_true not_true_eq_false beq_self_eq_true Nat.zero_add Nat.add_zero Nat.mul_one Nat.zero_mul Int.toNat_natCast List.toList_toArray List.all_cons List.all_nil AV.one Value.oneCell' Bool.and_true Bool.true_and forall_const true_implies false_implies implies_true Option.map_some Option.map_none Option.isSome_some Option.isSome_none imp_self rdP_flat rdP_row splice_one ints_set ints_get List.append_nil List.cons_append List.nil_append List.getElem?_toArray List.drop_zero ints_drop ints_take List.take_of_length_le splice_all ints_one Option.some.injEq Option.getD_some List.length_replicate zArr List.map_replicate rep_ints splice_intsR List.length_set List.length_append List.flatten_replicate_singleton rep_slice rep_string rep_bool rep_iface List.replicate_zero if_pos if_neg List.mapM_cons List.mapM_nil Option.pure_def Option.bind_eq_bind Option.bind_some Bool.true_eq_false Bool.not_false Bool.not_true get_concat set_concat
open Go.Proofs
set_option linter.unusedVariables false
set_option linter.unusedSimpArgs false
set_option maxRecDepth 100000
set_option maxHeartbeats 2000000
theorem WriteString_a {H : AHeap} {b v b1 v1 n : Nat} {acc : List Int} {s : ByteArray} (hb : H[b]? = some ⟨[.bad b v, .bsl b1 v1 n], v, true, 91⟩) (h1 : H[b1]? = some ⟨ints .u8 acc, v1, true, 5⟩) (hn : n = acc.length) (hl : acc.length + s.size ≤ 140737488355328) :
    ACall Tryz.prog glob false 48 [.ptr b v 0, .v (.string s)] H (.tup [.v (.int .i64 s.size), .v .nilIface]) ((H.set b1 ⟨ints .u8 (acc ++ bytesOf s), v1 + 1, true, 5⟩).set b ⟨[.bad b v, .bsl b1 (v1 + 1) (n + s.size)], v, true, 91⟩) := by
  have hne := ne_bld hb h1
  refine lcallk48 (by simp) ?_
  unfold lc48
  refine I1 tt ⟨?_⟩
  have em : List.map (fun b : UInt8 => AV.v (Value.int .u8 (b.toNat : Int))) s.data.toList = ints .u8 (bytesOf s) := by simp [ints, bytesOf]
  repeat (first
    | (with_reducible refine lops_step fun K hK => ?_; simp (disch := first | exact dch | fail) only [go_sem, Nat.reduceAdd, Nat.reduceSub, reduceIte, Nat.reduceEqDiff, Int.reduceToNat, Int.reduceBEq, Int.reduceBNe, hb, h1, hn, em, ints_one, List.getElem?_set_ne hne.symm]; (repeat (with_reducible refine And.intro acl ?_)); (first | (refine hK _ _ ?_) | (refine ⟨_, rfl, hK _ _ ?_⟩) | (refine Or.inr (hK _ _ ?_)) | (refine Or.inr ⟨rfl, hK _ _ ?_⟩) | (refine ⟨_, _, Or.inl (check_a hb), (by first | exact ⟨[], (List.append_nil _).symm⟩ | exact ⟨_, rfl⟩), hK _ _ ?_⟩) | (refine ⟨_, _, Or.inl (check_a hb), hK _ _ ?_⟩) | (refine ⟨_, _, Or.inl (check_a hb).weakQ, hK _ _ ?_⟩)); clear hK K)
    | (with_reducible refine lops_nil ?_)
    | (with_reducible first | refine lavc_reg ?_ | refine lavc_seq ?_ | refine lavc_block ?_ | refine lavc_skip ?_ | refine lavc_exit ?_ | refine lavc_ret ?_ | refine lavcR_round ?_)
    | (simp only [↓reduceIte, Nat.reduceEqDiff, reduceCtorEq]))
  refine R1 tt ⟨?_⟩
  rw [ints_append, hn]
end Go.Abs.S
namespace Go.Abs.S
attribute [local go_sem] lguard aopO aop aenv toAV tput aLoad aStore vcells aBin aNilI aUn aAlloc aBox aBuild aBSlice afill aConv isIntT aappZ aCap aArr aMM aMake aSlice bnd3 bnd aFldAddr aFld aIdxAddr aIdx aExt aLen aCopy aEq0 bAV aUb aapp aappQ agh acont List.getD_cons_zero List.getD_cons_succ List.set_cons_zero List.set_cons_succ List.getElem?_cons_zero List.getElem?_cons_succ List.length_cons List.length_nil List.map_cons List.map_nil ints_length if_true if_false Bool.false_eq_true true_and and_true eq_self ne_eq not_false_eq_true not_true_eq_false beq_self_eq_true Nat.zero_add Nat.add_zero Nat.mul_one Nat.zero_mul Int.toNat_natCast List.toList_toArray List.all_cons List.all_nil AV.one Value.oneCell' Bool.and_true Bool.true_and forall_const true_implies false_implies implies_true Option.map_some Option.map_none Option.isSome_some Option.isSome_none imp_self rdP_flat rdP_row splice_one ints_set ints_get List.append_nil List.cons_append List.nil_append List.getElem?_toArray List.drop_zero ints_drop ints_take List.take_of_length_le splice_all ints_one Option.some.injEq Option.getD_some List.length_replicate zArr List.map_replicate rep_ints splice_intsR List.length_set List.length_append List.flatten_replicate_singleton rep_slice rep_string rep_bool rep_iface List.replicate_zero if_pos if_neg List.mapM_cons List.mapM_nil Option.pure_def Option.bind_eq_bind Option.bind_some Bool.true_eq_false Bool.not_false Bool.not_true get_concat set_concat
open Go.Proofs
open Go.Abs.H
set_option linter.unusedVariables false
set_option linter.unusedSimpArgs false
set_option maxRecDepth 100000
set_option maxHeartbeats 4000000
/-- A moment's text. -/
def txt (t : Mom) : List Int := digs t.x.y.toNat 4 ++ (45 :: digs t.x.m.toNat 2) ++ (45 :: digs t.x.d.toNat 2) ++ (84 :: digs t.h.toNat 2) ++ (58 :: digs t.i.toNat 2) ++ (58 :: digs t.s.toNat 2) ++ [90]
theorem digs_byte (u n : Nat) : ∀ x ∈ digs u n, 48 ≤ x ∧ x ≤ 57 := fun x hx => by
  obtain ⟨t, _, rfl⟩ := List.mem_map.1 hx
  have : u / 10 ^ (n - 1 - t) % 10 < 10 := Nat.mod_lt _ (by decide)
  generalize u / 10 ^ (n - 1 - t) % 10 = q at *
  omega
theorem digs_bytes (u n : Nat) : bytesOf (strOf (digs u n)) = digs u n := bytes_str fun x hx => by have := digs_byte u n x hx; omega
theorem sep_bytes (c : Int) (hc : 0 ≤ c ∧ c ≤ 255) (u n : Nat) : bytesOf (strOf (c :: digs u n)) = c :: digs u n := bytes_str fun x hx => by
  rcases List.mem_cons.1 hx with rfl | hx
  · exact hc
  · have := digs_byte u n x hx
    omega
theorem Text_p (t : Mom) (ht : t.ok) : PCall Tryz.prog glob 27 [iv (secs t)] (.tup [.v (.string (strOf (txt t))), iv 0]) := by
  refine PCall.of ctx.nr nrs (NR.t2 _ _) ?_
  refine lcall27 (by simp) 0 (Nat.le_refl _) ?_
  unfold lc27
  refine I1 tt ⟨?_⟩
  have tp := time_p (secs t)
  rw [decide_eq_true (secs_in ht)] at tp
  have op := of_p t ht
  have ha := ht.1.all
  have hh := ht.2
  obtain ⟨y, hy⟩ := Int.eq_ofNat_of_zero_le (show 0 ≤ t.x.y by omega)
  obtain ⟨m, hm⟩ := Int.eq_ofNat_of_zero_le (show 0 ≤ t.x.m by omega)
  obtain ⟨d, hd⟩ := Int.eq_ofNat_of_zero_le (show 0 ≤ t.x.d by omega)
  obtain ⟨h, hh0⟩ := Int.eq_ofNat_of_zero_le (show 0 ≤ t.h by omega)
  obtain ⟨i, hi0⟩ := Int.eq_ofNat_of_zero_le (show 0 ≤ t.i by omega)
  obtain ⟨s, hs0⟩ := Int.eq_ofNat_of_zero_le (show 0 ≤ t.s by omega)
  have etx : txt t = digs y 4 ++ (45 :: digs m 2) ++ (45 :: digs d 2) ++ (84 :: digs h 2) ++ (58 :: digs i 2) ++ (58 :: digs s 2) ++ [90] := by
    unfold txt
    rw [hy, hm, hd, hh0, hi0, hs0]
    rfl
  have emv : mv t = .agg [iv y, iv m, iv d, iv h, iv i, iv s] := by unfold mv; rw [hy, hm, hd, hh0, hi0, hs0]
  rw [emv] at op
  rw [etx]
  obtain ⟨n, hn⟩ : ∃ n, secs t = n := ⟨_, rfl⟩
  rw [hn] at tp op ⊢
  have py := padded4_p y (by omega)
  have pm := padded2_p m (by omega)
  have pd := padded2_p d (by omega)
  have ph := padded2_p h (by omega)
  have pi := padded2_p i (by omega)
  have ps := padded2_p s (by omega)
  have z2 : (strOf (digs y 4)).size = 4 := by rw [str_size, digs_length]
  have e22 : ∀ (u : Nat), (strOf (digs u 2)).size = 2 := fun u => by rw [str_size, digs_length]
  have e3 : ∀ (c : Int) (u : Nat), (strOf (c :: digs u 2)).size = 3 := fun c u => by rw [str_size, List.length_cons, digs_length]
  have k0 : ({ data := #[45, 45, 84, 58, 58] } : ByteArray).extract 0 1 = strOf [45] := rfl
  have k1 : ({ data := #[45, 45, 84, 58, 58] } : ByteArray).extract 1 2 = strOf [45] := rfl
  have k2 : ({ data := #[45, 45, 84, 58, 58] } : ByteArray).extract 2 3 = strOf [84] := rfl
  have k3 : ({ data := #[45, 45, 84, 58, 58] } : ByteArray).extract 3 4 = strOf [58] := rfl
  have k4 : ({ data := #[45, 45, 84, 58, 58] } : ByteArray).extract 4 5 = strOf [58] := rfl
  have s1 : ∀ c, (strOf [c]).size = 1 := fun c => by rw [str_size]; rfl
  have ks : ({ data := #[45, 45, 84, 58, 58] } : ByteArray).size = 5 := rfl
  have b45 := fun u => sep_bytes 45 (by decide) u 2
  have b84 := fun u => sep_bytes 84 (by decide) u 2
  have b58 := fun u => sep_bytes 58 (by decide) u 2
  have by4 := digs_bytes y 4
  refine lavc_seq (lavc_reg ?_)
  refine G1 F2 tt tt tt tt ⟨?_⟩
  refine lavc_reg ?_
  refine G1 F2 tt (an tp.go tt) tt tt ⟨?_⟩
  refine lavc_condF rfl ?_
  refine lavc_skip ?_
  refine lavc_seq (lavc_reg ?_)
  refine G1 F2 tt (an op.go tt) tt tt ⟨?_⟩
  refine lavc_reg ?_
  refine G1 F2 tt tt tt tt ⟨?_⟩
  refine lavc_bld 1 5 rfl rfl ?_
  repeat (first
    | (with_reducible refine lops_step fun K hK => ?_; simp (disch := first | exact dch | fail) only [go_sem, Nat.reduceAdd, Nat.reduceSub, reduceIte, Nat.reduceEqDiff, Int.reduceToNat, Int.reduceBEq, Int.reduceBNe, by4, z2]; (repeat (with_reducible refine And.intro acl ?_)); (first | (refine hK _ _ ?_) | (refine ⟨_, rfl, hK _ _ ?_⟩) | (refine Or.inl (hK _ _ ?_)) | (refine ⟨_, _, Or.inl (py.go _), (by first | exact ⟨[], (List.append_nil _).symm⟩ | exact ⟨_, rfl⟩), hK _ _ ?_⟩) | (refine ⟨_, _, Or.inl (py.go _), hK _ _ ?_⟩) | (refine ⟨_, _, Or.inl (py.go _).weakQ, hK _ _ ?_⟩) | (refine ⟨_, _, Or.inl ((WriteString_a (b := 1) (b1 := 2) rfl rfl rfl (by rw [z2]; decide))), (by first | exact ⟨[], (List.append_nil _).symm⟩ | exact ⟨_, rfl⟩), hK _ _ ?_⟩) | (refine ⟨_, _, Or.inl ((WriteString_a (b := 1) (b1 := 2) rfl rfl rfl (by rw [z2]; decide))), hK _ _ ?_⟩) | (refine ⟨_, _, Or.inl ((WriteString_a (b := 1) (b1 := 2) rfl rfl rfl (by rw [z2]; decide))).weakQ, hK _ _ ?_⟩)); clear hK K)
    | (with_reducible refine lops_nil ?_)
    | (with_reducible first | refine lavc_reg ?_ | refine lavc_seq ?_ | refine lavc_block ?_ | refine lavc_skip ?_ | refine lavc_exit ?_ | refine lavc_ret ?_ | refine lavcR_round ?_)
    | (simp only [↓reduceIte, Nat.reduceEqDiff, reduceCtorEq]))
  have bl : (((((List.replicate 5 (0 : Int)).set 0 m).set 1 d).set 2 h).set 3 i).set 4 s = [(m : Int), d, h, i, s] := rfl
  have i1 : IntKind.i64.wrap (0 + 1) = 1 := by decide
  have i2 : IntKind.i64.wrap (1 + 1) = 2 := by decide
  have i3 : IntKind.i64.wrap (2 + 1) = 3 := by decide
  have i4 : IntKind.i64.wrap (3 + 1) = 4 := by decide
  have i5 : IntKind.i64.wrap (4 + 1) = 5 := by decide
  have dB : ∀ u n : Nat, ∀ x ∈ digs u n, 0 ≤ x ∧ x ≤ 255 := fun u n x hx => by have := digs_byte u n x hx; omega
  have cB : ∀ (c : Int) (u : Nat), 0 ≤ c ∧ c ≤ 255 → ∀ x ∈ c :: digs u 2, 0 ≤ x ∧ x ≤ 255 := fun c u hc x hx => by
    rcases List.mem_cons.1 hx with rfl | hx
    · exact hc
    · exact dB _ _ x hx
  have aB : ∀ a b : List Int, (∀ x ∈ a, 0 ≤ x ∧ x ≤ 255) → (∀ x ∈ b, 0 ≤ x ∧ x ≤ 255) → ∀ x ∈ a ++ b, 0 ≤ x ∧ x ≤ 255 := fun a b h1 h2 x hx => (List.mem_append.1 hx).elim (h1 x) (h2 x)
  have hu := aB _ _ (aB _ _ (aB _ _ (aB _ _ (aB _ _ (dB y 4) (cB 45 m (by decide))) (cB 45 d (by decide))) (cB 84 h (by decide))) (cB 58 i (by decide))) (cB 58 s (by decide))
  have hfin : (strOf (digs y 4 ++ 45 :: digs m 2 ++ 45 :: digs d 2 ++ 84 :: digs h 2 ++ 58 :: digs i 2 ++ 58 :: digs s 2)).size + (#[90] : Array UInt8).size ≤ 9223372036854775807 := by
    rw [str_size]
    simp [digs_length]
  refine lavc_rounds 6 ?_
  repeat (first
    | (with_reducible refine lops_step fun K hK => ?_; simp (disch := first | exact dch | fail) only [go_sem, Nat.reduceAdd, Nat.reduceSub, reduceIte, Nat.reduceEqDiff, Int.reduceToNat, Int.reduceBEq, Int.reduceBNe, bl, i1, i2, i3, i4, i5, List.getD_cons_zero, List.getD_cons_succ, ks, k0, k1, k2, k3, k4, s1, e22, e3, b45, b84, b58, strOf_append, List.cons_append, List.nil_append]; (try (first | (refine And.intro (fun _ => ?_) (fun h => absurd h (by decide))) | (refine And.intro (fun h => absurd h (by decide)) (fun _ => ?_)))); (repeat (with_reducible refine And.intro acl ?_)); (first | (refine hK _ _ ?_) | (refine ⟨_, rfl, hK _ _ ?_⟩) | (refine Or.inl (hK _ _ ?_)) | (refine ⟨_, _, Or.inl (pm.go _), (by first | exact ⟨[], (List.append_nil _).symm⟩ | exact ⟨_, rfl⟩), hK _ _ ?_⟩) | (refine ⟨_, _, Or.inl (pm.go _), hK _ _ ?_⟩) | (refine ⟨_, _, Or.inl (pm.go _).weakQ, hK _ _ ?_⟩) | (refine ⟨_, _, Or.inl (pd.go _), (by first | exact ⟨[], (List.append_nil _).symm⟩ | exact ⟨_, rfl⟩), hK _ _ ?_⟩) | (refine ⟨_, _, Or.inl (pd.go _), hK _ _ ?_⟩) | (refine ⟨_, _, Or.inl (pd.go _).weakQ, hK _ _ ?_⟩) | (refine ⟨_, _, Or.inl (ph.go _), (by first | exact ⟨[], (List.append_nil _).symm⟩ | exact ⟨_, rfl⟩), hK _ _ ?_⟩) | (refine ⟨_, _, Or.inl (ph.go _), hK _ _ ?_⟩) | (refine ⟨_, _, Or.inl (ph.go _).weakQ, hK _ _ ?_⟩) | (refine ⟨_, _, Or.inl (pi.go _), (by first | exact ⟨[], (List.append_nil _).symm⟩ | exact ⟨_, rfl⟩), hK _ _ ?_⟩) | (refine ⟨_, _, Or.inl (pi.go _), hK _ _ ?_⟩) | (refine ⟨_, _, Or.inl (pi.go _).weakQ, hK _ _ ?_⟩) | (refine ⟨_, _, Or.inl (ps.go _), (by first | exact ⟨[], (List.append_nil _).symm⟩ | exact ⟨_, rfl⟩), hK _ _ ?_⟩) | (refine ⟨_, _, Or.inl (ps.go _), hK _ _ ?_⟩) | (refine ⟨_, _, Or.inl (ps.go _).weakQ, hK _ _ ?_⟩) | (refine ⟨_, _, Or.inl ((WriteString_a (b := 1) (b1 := 2) rfl rfl rfl (by simp only [e3, List.length_append, List.length_cons, digs_length]; decide))), (by first | exact ⟨[], (List.append_nil _).symm⟩ | exact ⟨_, rfl⟩), hK _ _ ?_⟩) | (refine ⟨_, _, Or.inl ((WriteString_a (b := 1) (b1 := 2) rfl rfl rfl (by simp only [e3, List.length_append, List.length_cons, digs_length]; decide))), hK _ _ ?_⟩) | (refine ⟨_, _, Or.inl ((WriteString_a (b := 1) (b1 := 2) rfl rfl rfl (by simp only [e3, List.length_append, List.length_cons, digs_length]; decide))).weakQ, hK _ _ ?_⟩) | (refine ⟨_, _, Or.inl ((String_a (b := 1) (b1 := 2) rfl rfl rfl (by simp [digs_length]) hu)), (by first | exact ⟨[], (List.append_nil _).symm⟩ | exact ⟨_, rfl⟩), hK _ _ ?_⟩) | (refine ⟨_, _, Or.inl ((String_a (b := 1) (b1 := 2) rfl rfl rfl (by simp [digs_length]) hu)), hK _ _ ?_⟩) | (refine ⟨_, _, Or.inl ((String_a (b := 1) (b1 := 2) rfl rfl rfl (by simp [digs_length]) hu)).weakQ, hK _ _ ?_⟩)); clear hK K)
    | (with_reducible refine lops_nil ?_)
    | (with_reducible first | refine lavc_reg ?_ | refine lavc_seq ?_ | refine lavc_block ?_ | refine lavc_skip ?_ | refine lavc_exit ?_ | refine lavc_ret ?_ | refine lavcR_round ?_)
    | (refine lavc_cond rfl (fun _ => ?_) (fun hc => absurd hc (by decide)))
    | (refine lavc_cond rfl (fun hc => absurd hc (by decide)) (fun _ => ?_))
    | (simp only [↓reduceIte, Nat.reduceEqDiff, reduceCtorEq]))
  refine R1 tt ⟨?_⟩
  exact end0 (NR.t2 _ _) (by
    have e : ({ data := #[90] } : ByteArray) = strOf [90] := rfl
    rw [e, strOf_append])
end Go.Abs.S
namespace Go.Abs.S
attribute [local go_sem] lguard aopO aop aenv toAV tput aLoad aStore vcells aBin aNilI aUn aAlloc aBox aBuild aBSlice afill aConv isIntT aappZ aCap aArr aMM aMake aSlice bnd3 bnd aFldAddr aFld aIdxAddr aIdx aExt aLen aCopy aEq0 bAV aUb aapp aappQ agh acont List.getD_cons_zero List.getD_cons_succ List.set_cons_zero List.set_cons_succ List.getElem?_cons_zero List.getElem?_cons_succ List.length_cons List.length_nil List.map_cons List.map_nil ints_length if_true if_false Bool.false_eq_true true_and and_true eq_self ne_eq not_false_eq_true not_true_eq_false beq_self_eq_true Nat.zero_add Nat.add_zero Nat.mul_one Nat.zero_mul Int.toNat_natCast List.toList_toArray List.all_cons List.all_nil AV.one Value.oneCell' Bool.and_true Bool.true_and forall_const true_implies false_implies implies_true Option.map_some Option.map_none Option.isSome_some Option.isSome_none imp_self rdP_flat rdP_row splice_one ints_set ints_get List.append_nil List.cons_append List.nil_append List.getElem?_toArray List.drop_zero ints_drop ints_take List.take_of_length_le splice_all ints_one Option.some.injEq Option.getD_some List.length_replicate zArr List.map_replicate rep_ints splice_intsR List.length_set List.length_append List.flatten_replicate_singleton rep_slice rep_string rep_bool rep_iface List.replicate_zero if_pos if_neg List.mapM_cons List.mapM_nil Option.pure_def Option.bind_eq_bind Option.bind_some Bool.true_eq_false Bool.not_false Bool.not_true get_concat set_concat
open Go.Proofs
open Go.Abs.H
set_option linter.unusedVariables false
set_option linter.unusedSimpArgs false
set_option maxRecDepth 100000
set_option maxHeartbeats 4000000
theorem str_beq (a b : ByteArray) : (a.toList == b.toList) = decide (a = b) := by
  rw [Bool.eq_iff_iff, beq_iff_eq, decide_eq_true_eq, ByteArray.toList_eq, ByteArray.toList_eq]
  exact ⟨fun h => WideShapes.bytes_inj h, fun h => by rw [h]⟩
theorem goodP_ok (t : Mom) (h0 : 0 ≤ t.h) (h1 : 0 ≤ t.i) (h2 : 0 ≤ t.s) : goodP t = decide t.ok := by
  unfold goodP
  rw [Bool.eq_iff_iff, decide_eq_true_eq, decide_eq_true_eq]
  unfold Mom.ok Date.ok
  constructor
  · rintro ⟨a, b, c, d, e, f, g⟩
    exact ⟨⟨c, d⟩, h0, e, h1, f, h2, g⟩
  · rintro ⟨⟨c, d⟩, _, e, _, f, _, g⟩
    have := mdays_pos (y := t.x.y) (m := t.x.m) (by omega)
    exact ⟨this.2.2.1, this.2.2.2, c, d, e, f, g⟩
theorem Read_bad (s : ByteArray) (hs : s.size ≤ 1000000) (h : ¬ Formed s) : PCall Tryz.prog glob 68 [.v (.string s)] (.tup [iv 0, iv 2]) := by
  refine PCall.of ctx.nr nrs (NR.t2 _ _) ?_
  refine lcall68 (by simp) 0 (Nat.le_refl _) ?_
  unfold lc68
  refine I1 tt ⟨?_⟩
  obtain ⟨K, hK⟩ : ∃ K, min s.size 19 = K := ⟨_, rfl⟩
  have hf := mt (formed_iff s K hK.symm).2 h
  have hif : (if (s.size : Int) < 19 then (s.size : Int) else 19) = (K : Int) := by
    split <;> omega
  have hif2 : (if (19 : Int) < (s.size : Int) then (19 : Int) else (s.size : Int)) = (K : Int) := by
    split <;> omega
  have hz0 : (s.extract 0 K).size ≤ 1000000 := by rw [ext_size]; omega
  have hz1 : (s.extract K s.size).size ≤ 1000000 := by rw [ext_size]; omega
  have f0 := fits_p (s.extract 0 K) F19 hz0 (by decide)
  have f1 := fits_p (s.extract K s.size) FP hz1 (by decide)
  have f2 := fits_p (s.extract K s.size) FM hz1 (by decide)
  obtain ⟨B, hB⟩ : ∃ B, s.extract 0 K = B := ⟨_, rfl⟩
  obtain ⟨E, hE⟩ : ∃ E, s.extract K s.size = E := ⟨_, rfl⟩
  rw [hB] at f0 hf
  rw [hE] at f1 f2 hf
  by_cases g0 : Fits B F19
  · rw [decide_eq_true g0] at f0
    have g1 : ¬ (E = ⟨#[90]⟩) := fun e => hf ⟨g0, .inl e⟩
    have g2 : ¬ Fits E FP := fun e => hf ⟨g0, .inr (.inl e)⟩
    have g3 : ¬ Fits E FM := fun e => hf ⟨g0, .inr (.inr e)⟩
    rw [decide_eq_false g2] at f1
    rw [decide_eq_false g3] at f2
    have q : (E.toList == (⟨#[90]⟩ : ByteArray).toList) = false := by rw [str_beq, decide_eq_false g1]
    refine G1 F4 (an hif (an hif2 (an hB (an hE (an q tt))))) (an f0.go (an f1.go (an f2.go tt))) tt tt ⟨?_⟩
    refine R1 tt ⟨?_⟩
    exact end0 (NR.t2 _ _) rfl
  · rw [decide_eq_false g0] at f0
    refine G1 F4 (an hif (an hif2 (an hB (an hE tt)))) (an f0.go tt) tt tt ⟨?_⟩
    refine R1 tt ⟨?_⟩
    exact end0 (NR.t2 _ _) rfl
end Go.Abs.S
