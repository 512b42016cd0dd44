/- Code, as it is looked at; written by wip/leancode.py. A listed package-level variable whose datum is plain (numbers, bools, texts, structs and arrays of these) holds just the cells that its type and d -/
import Derived.Test.YtdbpaahdonplbaaDoorJP3
import Derived.Carry
import Derived.FnData
import Derived.KernelRfl
import Derived.MakeChecks
import Derived.OpenShut
import Derived.ProofKit
namespace Go.Abs.S
open Go.Proofs
set_option maxRecDepth 100000
def impCodL : FuncId → Bool := fun f => f == 26 || f == 27 || f == 29 || f == 30 || f == 31 || f == 37 || f == 39 || f == 40 || f == 41 || f == 42 || f == 48 || f == 54 || f == 55 || f == 75
/-- escutcheon/escutcheonlaw20.PageGets -/
def lc3 : LCode := .seq (.reg []
  [o1 3 (.box 26 (.tmp 0)),
  o1 6 (.assign (.const (.bool false)))]) (.seq (.seq (.reg []
  [o1 14 (.call ⟨.value (.func 8), #[], #[]⟩),
  o1 15 (.unOp .not 4 (.tmp 14)),
  o1 16 (.move (.tmp 15)),
  o2 17 (.load 26 (.tmp 3)) 16 false,
  o2 18 (.call ⟨.value (.func 9), #[.tmp 17, .const (.int .i64 12)], #[26, 3]⟩) 16 false,
  o2 19 (.unOp .not 4 (.tmp 18)) 16 false,
  o1 20 (.pick (.tmp 16) (.const (.bool true)) (.tmp 19)),
  o1 21 (.move (.tmp 20)),
  o2 22 (.move (.tmp 2)) 21 false,
  o2 23 (.call ⟨.builtin .len, #[.tmp 22], #[23]⟩) 21 false,
  o2 24 (.binOp .gtr 3 (.tmp 23) (.const (.int .i64 20)) 3) 21 false,
  o1 25 (.pick (.tmp 21) (.const (.bool true)) (.tmp 24))]) (.cond (.tmp 25) (.seq (.reg []
  [o1 26 (.call ⟨.value (.func 8), #[], #[]⟩),
  o1 6 (.assign (.tmp 26))]) (.ret)) (.skip))) (.seq (.reg []
  [o1 28 (.load 26 (.tmp 3)),
  o1 29 (.move (.tmp 1)),
  o1 30 (.call ⟨.value (.func 10), #[.tmp 28, .tmp 29], #[26, 9]⟩),
  o1 27 (.move (.tmp 30)),
  o1 31 (.extract (.tmp 27) 0),
  o1 32 (.extract (.tmp 27) 1),
  o1 7 (.alloc 26),
  o3 (.store 26 (.tmp 7) (.tmp 31)),
  o1 8 (.assign (.tmp 32))]) (.seq (.reg []
  [o1 9 (.assign (.const (.int .i64 (-1))))]) (.seq (.seq (.reg []
  [o1 33 (.fieldAddr 26 (.tmp 3) 2),
  o1 34 (.load 23 (.tmp 33)),
  o1 35 (.call ⟨.builtin .len, #[.tmp 34], #[23]⟩),
  o1 36 (.binOp .sub 3 (.tmp 35) (.const (.int .i64 1)) 3),
  o1 10 (.assign (.tmp 36))]) (.block 0 (.loop (.seq (.seq (.reg []
  [o1 37 (.move (.tmp 10)),
  o1 38 (.binOp .geq 3 (.tmp 37) (.const (.int .i64 0)) 3)]) (.cond (.tmp 38) (.skip) (.exit 0))) (.seq (.block 1 (.seq (.reg []
  [o1 41 (.fieldAddr 26 (.tmp 3) 2),
  o1 42 (.load 23 (.tmp 41)),
  o1 43 (.move (.tmp 10)),
  o1 44 (.indexAddr 23 (.tmp 42) (.tmp 43)),
  o1 45 (.load 9 (.tmp 44)),
  o1 46 (.move (.tmp 1)),
  o1 47 (.binOp .eql 9 (.tmp 45) (.tmp 46) 9)]) (.cond (.tmp 47) (.reg []
  [o1 48 (.move (.tmp 10)),
  o1 9 (.assign (.tmp 48))]) (.skip)))) (.reg []
  [o1 39 (.move (.tmp 10)),
  o1 40 (.binOp .sub 3 (.tmp 39) (.const (.int .i64 1)) 3),
  o1 10 (.assign (.tmp 40))])))))) (.seq (.reg []
  [o1 49 (.fieldAddr 26 (.tmp 3) 0),
  o1 50 (.load 22 (.tmp 49)),
  o1 51 (.binOp .eql 22 (.tmp 50) (.const (.int .i64 6)) 22),
  o1 52 (.move (.tmp 51)),
  o2 53 (.move (.tmp 9)) 52 true,
  o2 54 (.binOp .geq 3 (.tmp 53) (.const (.int .i64 0)) 3) 52 true,
  o1 55 (.pick (.tmp 52) (.tmp 54) (.const (.bool false))),
  o1 56 (.move (.tmp 55)),
  o2 57 (.move (.tmp 9)) 56 true,
  o2 58 (.fieldAddr 26 (.tmp 3) 3) 56 true,
  o2 59 (.load 24 (.tmp 58)) 56 true,
  o2 60 (.call ⟨.builtin .len, #[.tmp 59], #[24]⟩) 56 true,
  o2 61 (.binOp .lss 3 (.tmp 57) (.tmp 60) 3) 56 true,
  o1 62 (.pick (.tmp 56) (.tmp 61) (.const (.bool false))),
  o1 11 (.assign (.tmp 62))]) (.seq (.seq (.reg [o1 63 (.move (.tmp 8)),
  o1 64 (.move (.tmp 11)),
  o1 65 (.binOp .neq 4 (.tmp 63) (.tmp 64) 4),
  o1 66 (.move (.tmp 65)),
  o2 67 (.move (.tmp 11)) 66 false,
  o2 68 (.move (.tmp 67)) 66 false,
  o2 69 (.load 26 (.tmp 7)) 68 true,
  o2 70 (.fieldAddr 26 (.tmp 3) 3) 68 true,
  o2 71 (.load 24 (.tmp 70)) 68 true,
  o2 72 (.move (.tmp 9)) 68 true,
  o2 73 (.indexAddr 24 (.tmp 71) (.tmp 72)) 68 true,
  o2 74 (.load 26 (.tmp 73)) 68 true,
  o2 75 (.call ⟨.value (.func 11), #[.tmp 69, .tmp 74], #[26, 26]⟩) 68 true,
  o2 76 (.unOp .not 4 (.tmp 75)) 68 true,
  o2 77 (.pick (.tmp 68) (.tmp 76) (.const (.bool false))) 66 false,
  o1 78 (.pick (.tmp 66) (.const (.bool true)) (.tmp 77)),
  o1 79 (.move (.tmp 78)),
  o2 80 (.move (.tmp 11)) 79 false,
  o2 81 (.unOp .not 4 (.tmp 80)) 79 false,
  o2 82 (.move (.tmp 81)) 79 false,
  o2 83 (.load 26 (.tmp 7)) 82 true,
  o2 84 (.build 26 #[]) 82 true,
  o2 85 (.call ⟨.value (.func 11), #[.tmp 83, .tmp 84], #[26, 26]⟩) 82 true,
  o2 86 (.unOp .not 4 (.tmp 85)) 82 true,
  o2 87 (.pick (.tmp 82) (.tmp 86) (.const (.bool false))) 79 false,
  o1 88 (.pick (.tmp 79) (.const (.bool true)) (.tmp 87))]
  []) (.cond (.tmp 88) (.seq (.reg []
  [o1 6 (.assign (.const (.bool false)))]) (.ret)) (.skip))) (.seq (.reg []
  [o1 89 (.move (.tmp 2)),
  o1 90 (.call ⟨.value (.func 12), #[.tmp 89], #[23]⟩),
  o1 12 (.alloc 26),
  o3 (.store 26 (.tmp 12) (.tmp 90))]) (.seq (.seq (.reg []
  [o1 91 (.fieldAddr 26 (.tmp 12) 0),
  o1 92 (.load 22 (.tmp 91)),
  o1 93 (.binOp .neq 22 (.tmp 92) (.const (.int .i64 6)) 22),
  o1 94 (.move (.tmp 93)),
  o2 95 (.fieldAddr 26 (.tmp 12) 2) 94 false,
  o2 96 (.load 23 (.tmp 95)) 94 false,
  o2 97 (.call ⟨.builtin .len, #[.tmp 96], #[23]⟩) 94 false,
  o2 98 (.move (.tmp 2)) 94 false,
  o2 99 (.call ⟨.builtin .len, #[.tmp 98], #[23]⟩) 94 false,
  o2 100 (.binOp .quo 3 (.tmp 99) (.const (.int .i64 2)) 3) 94 false,
  o2 101 (.binOp .neq 3 (.tmp 97) (.tmp 100) 3) 94 false,
  o1 102 (.pick (.tmp 94) (.const (.bool true)) (.tmp 101)),
  o1 103 (.move (.tmp 102)),
  o2 104 (.fieldAddr 26 (.tmp 12) 3) 103 false,
  o2 105 (.load 24 (.tmp 104)) 103 false,
  o2 106 (.call ⟨.builtin .len, #[.tmp 105], #[24]⟩) 103 false,
  o2 107 (.move (.tmp 2)) 103 false,
  o2 108 (.call ⟨.builtin .len, #[.tmp 107], #[23]⟩) 103 false,
  o2 109 (.binOp .quo 3 (.tmp 108) (.const (.int .i64 2)) 3) 103 false,
  o2 110 (.binOp .neq 3 (.tmp 106) (.tmp 109) 3) 103 false,
  o1 111 (.pick (.tmp 103) (.const (.bool true)) (.tmp 110))]) (.cond (.tmp 111) (.seq (.reg []
  [o1 6 (.assign (.const (.bool false)))]) (.ret)) (.skip))) (.seq (.seq (.reg []
  [o1 112 (.fieldAddr 26 (.tmp 12) 2),
  o1 113 (.load 23 (.tmp 112)),
  o1 114 (.call ⟨.builtin .len, #[.tmp 113], #[23]⟩),
  o1 115 (.move (.const (.int .i64 0)))]) (.block 2 (.loop (.seq (.reg []
  [o1 116 (.binOp .lss 3 (.tmp 115) (.tmp 114) 3)]) (.seq (.cond (.tmp 116) (.skip) (.exit 2)) (.seq (.block 3 (.seq (.reg []
  [o1 117 (.move (.tmp 115)),
  o1 13 (.assign (.tmp 117))]) (.seq (.reg [o1 118 (.fieldAddr 26 (.tmp 12) 2),
  o1 119 (.load 23 (.tmp 118)),
  o1 120 (.move (.tmp 13)),
  o1 121 (.indexAddr 23 (.tmp 119) (.tmp 120)),
  o1 122 (.load 9 (.tmp 121)),
  o1 123 (.move (.tmp 2)),
  o1 124 (.move (.tmp 13)),
  o1 125 (.binOp .mul 3 (.const (.int .i64 2)) (.tmp 124) 3),
  o1 126 (.indexAddr 23 (.tmp 123) (.tmp 125)),
  o1 127 (.load 9 (.tmp 126)),
  o1 128 (.binOp .neq 9 (.tmp 122) (.tmp 127) 9),
  o1 129 (.move (.tmp 128)),
  o2 130 (.fieldAddr 26 (.tmp 12) 3) 129 false,
  o2 131 (.load 24 (.tmp 130)) 129 false,
  o2 132 (.move (.tmp 13)) 129 false,
  o2 133 (.indexAddr 24 (.tmp 131) (.tmp 132)) 129 false,
  o2 134 (.load 26 (.tmp 133)) 129 false,
  o2 135 (.move (.tmp 2)) 129 false,
  o2 136 (.move (.tmp 13)) 129 false,
  o2 137 (.binOp .mul 3 (.const (.int .i64 2)) (.tmp 136) 3) 129 false,
  o2 138 (.binOp .add 3 (.tmp 137) (.const (.int .i64 1)) 3) 129 false,
  o2 139 (.indexAddr 23 (.tmp 135) (.tmp 138)) 129 false,
  o2 140 (.load 9 (.tmp 139)) 129 false,
  o2 141 (.build 26 #[(0, .const (.int .i64 4)), (1, .tmp 140)]) 129 false,
  o2 142 (.call ⟨.value (.func 11), #[.tmp 134, .tmp 141], #[26, 26]⟩) 129 false,
  o2 143 (.unOp .not 4 (.tmp 142)) 129 false,
  o1 144 (.pick (.tmp 129) (.const (.bool true)) (.tmp 143))]
  []) (.cond (.tmp 144) (.seq (.reg []
  [o1 6 (.assign (.const (.bool false)))]) (.ret)) (.skip))))) (.reg []
  [o1 145 (.binOp .add 3 (.tmp 115) (.const (.int .i64 1)) 3),
  o1 115 (.move (.tmp 145))]))))))) (.seq (.reg []
  [o1 6 (.assign (.const (.bool true)))]) (.ret)))))))))))
def ms3_0 : List Nat := [0, 4, 5, 9, 10, 14, 15, 16, 17, 18, 19, 20, 21, 22, 23, 24, 25, 26, 27, 28, 29, 30, 31, 32, 33, 34, 35, 36, 37, 38, 39, 40, 41, 42, 43, 44, 45, 46, 47, 48]
def ms3_1 : List Nat := [0, 1, 3, 4, 5, 6, 7, 8, 9, 10, 11, 13, 14, 15, 16, 17, 18, 19, 20, 21, 22, 23, 24, 25, 26, 27, 28, 29, 30, 31, 32, 33, 34, 35, 36, 37, 38, 39, 40, 41, 42, 43, 44, 45, 46, 47, 48, 49, 50, 51, 52, 53, 54, 55, 56, 57, 58, 59, 60, 61, 62, 63, 64, 65, 66, 67, 68, 69, 70, 71, 72, 73, 74, 75, 76, 77, 78, 79, 80, 81, 82, 83, 84, 85, 86, 87, 88, 89, 90, 91, 92, 93, 94, 95, 96, 97, 98, 99, 100, 101, 102, 103, 104, 105, 106, 107, 108, 109, 110, 111, 112, 113, 115, 116, 117, 118, 119, 120, 121, 122, 123, 124, 125, 126, 127, 128, 129, 130, 131, 132, 133, 134, 135, 136, 137, 138, 139, 140, 141, 142, 143, 144, 145]
theorem ls3 : Tryd.f3.body.map (strip Tryd.prog impCodL) = some lc3 := by kernel_rfl
theorem lcall3 : LC 3 146 lc3 [.tmp 6] := LC.of Tryd.func3 (by kernel_rfl) ls3 (by kernel_rfl) (by kernel_rfl)
/-- escutcheon/escutcheonlaw20.PageSame -/
def lc6 : LCode := .seq (.reg []
  [o1 2 (.box 26 (.tmp 0)),
  o1 3 (.box 26 (.tmp 1)),
  o1 4 (.assign (.const (.bool false)))]) (.seq (.seq (.reg []
  [o1 5 (.call ⟨.value (.func 8), #[], #[]⟩),
  o1 6 (.unOp .not 4 (.tmp 5)),
  o1 7 (.move (.tmp 6)),
  o2 8 (.load 26 (.tmp 2)) 7 false,
  o2 9 (.call ⟨.value (.func 9), #[.tmp 8, .const (.int .i64 12)], #[26, 3]⟩) 7 false,
  o2 10 (.unOp .not 4 (.tmp 9)) 7 false,
  o1 11 (.pick (.tmp 7) (.const (.bool true)) (.tmp 10)),
  o1 12 (.move (.tmp 11)),
  o2 13 (.load 26 (.tmp 3)) 12 false,
  o2 14 (.call ⟨.value (.func 9), #[.tmp 13, .const (.int .i64 12)], #[26, 3]⟩) 12 false,
  o2 15 (.unOp .not 4 (.tmp 14)) 12 false,
  o1 16 (.pick (.tmp 12) (.const (.bool true)) (.tmp 15))]) (.cond (.tmp 16) (.seq (.reg []
  [o1 17 (.call ⟨.value (.func 8), #[], #[]⟩),
  o1 4 (.assign (.tmp 17))]) (.ret)) (.skip))) (.seq (.reg [o1 18 (.load 26 (.tmp 2)),
  o1 19 (.load 26 (.tmp 3)),
  o1 20 (.call ⟨.value (.func 11), #[.tmp 18, .tmp 19], #[26, 26]⟩),
  o1 21 (.load 26 (.tmp 2)),
  o1 22 (.call ⟨.value (.func 18), #[.tmp 21], #[26]⟩),
  o1 23 (.load 26 (.tmp 3)),
  o1 24 (.call ⟨.value (.func 18), #[.tmp 23], #[26]⟩),
  o1 25 (.call ⟨.value (.func 20), #[.tmp 22, .tmp 24], #[45, 45]⟩),
  o1 26 (.binOp .eql 4 (.tmp 20) (.tmp 25) 4),
  o1 27 (.move (.tmp 26)),
  o2 28 (.load 26 (.tmp 2)) 27 true,
  o2 29 (.load 26 (.tmp 2)) 27 true,
  o2 30 (.call ⟨.value (.func 11), #[.tmp 28, .tmp 29], #[26, 26]⟩) 27 true,
  o1 31 (.pick (.tmp 27) (.tmp 30) (.const (.bool false))),
  o1 4 (.assign (.tmp 31))]
  []) (.ret)))
theorem ls6 : Tryd.f6.body.map (strip Tryd.prog impCodL) = some lc6 := by kernel_rfl
theorem lcall6 : LC 6 32 lc6 [.tmp 4] := LC.of Tryd.func6 (by kernel_rfl) ls6 (by kernel_rfl) (by kernel_rfl)
/-- escutcheon/escutcheonlaw20.PageTexts -/
def lc4 : LCode := .seq (.reg []
  [o1 2 (.assign (.const (.bool false)))]) (.seq (.seq (.reg []
  [o1 8 (.call ⟨.value (.func 8), #[], #[]⟩),
  o1 9 (.unOp .not 4 (.tmp 8)),
  o1 10 (.move (.tmp 9)),
  o2 11 (.move (.tmp 0)) 10 false,
  o2 12 (.call ⟨.builtin .len, #[.tmp 11], #[9]⟩) 10 false,
  o2 13 (.binOp .gtr 3 (.tmp 12) (.const (.int .i64 200)) 3) 10 false,
  o1 14 (.pick (.tmp 10) (.const (.bool true)) (.tmp 13))]) (.cond (.tmp 14) (.seq (.reg []
  [o1 15 (.call ⟨.value (.func 8), #[], #[]⟩),
  o1 2 (.assign (.tmp 15))]) (.ret)) (.skip))) (.seq (.reg []
  [o1 16 (.move (.tmp 0)),
  o1 17 (.build 26 #[(0, .const (.int .i64 4)), (1, .tmp 16)]),
  o1 3 (.alloc 26),
  o3 (.store 26 (.tmp 3) (.tmp 17))]) (.seq (.reg []
  [o1 19 (.load 26 (.tmp 3)),
  o1 20 (.call ⟨.value (.func 13), #[.tmp 19], #[26]⟩),
  o1 18 (.move (.tmp 20)),
  o1 21 (.extract (.tmp 18) 0),
  o1 22 (.extract (.tmp 18) 1),
  o1 4 (.assign (.tmp 21)),
  o1 5 (.assign (.tmp 22))]) (.seq (.seq (.reg []
  [o1 23 (.move (.tmp 0)),
  o1 24 (.call ⟨.value (.func 14), #[.tmp 23], #[9]⟩),
  o1 25 (.unOp .not 4 (.tmp 24))]) (.cond (.tmp 25) (.seq (.reg []
  [o1 26 (.move (.tmp 5)),
  o1 27 (.binOp .eql 34 (.tmp 26) (.const (.int .i64 2)) 34),
  o1 28 (.move (.tmp 27)),
  o2 29 (.move (.tmp 4)) 28 true,
  o2 30 (.binOp .eql 9 (.tmp 29) (.const (.string { data := #[] })) 9) 28 true,
  o1 31 (.pick (.tmp 28) (.tmp 30) (.const (.bool false))),
  o1 2 (.assign (.tmp 31))]) (.ret)) (.skip))) (.seq (.reg []
  [o1 33 (.move (.tmp 4)),
  o1 34 (.binOp .add 9 (.const (.string { data := #[32] })) (.tmp 33) 9),
  o1 35 (.binOp .add 9 (.tmp 34) (.const (.string { data := #[10] })) 9),
  o1 36 (.call ⟨.value (.func 15), #[.tmp 35], #[9]⟩),
  o1 32 (.move (.tmp 36)),
  o1 37 (.extract (.tmp 32) 0),
  o1 38 (.extract (.tmp 32) 1),
  o1 6 (.alloc 26),
  o3 (.store 26 (.tmp 6) (.tmp 37)),
  o1 7 (.assign (.tmp 38))]) (.seq (.reg []
  [o1 39 (.move (.tmp 5)),
  o1 40 (.binOp .eql 34 (.tmp 39) (.const (.int .i64 0)) 34),
  o1 41 (.move (.tmp 40)),
  o2 42 (.move (.tmp 7)) 41 true,
  o2 43 (.binOp .eql 34 (.tmp 42) (.const (.int .i64 0)) 34) 41 true,
  o1 44 (.pick (.tmp 41) (.tmp 43) (.const (.bool false))),
  o1 45 (.move (.tmp 44)),
  o2 46 (.fieldAddr 26 (.tmp 6) 0) 45 true,
  o2 47 (.load 22 (.tmp 46)) 45 true,
  o2 48 (.binOp .eql 22 (.tmp 47) (.const (.int .i64 4)) 22) 45 true,
  o1 49 (.pick (.tmp 45) (.tmp 48) (.const (.bool false))),
  o1 50 (.move (.tmp 49)),
  o2 51 (.fieldAddr 26 (.tmp 6) 1) 50 true,
  o2 52 (.load 9 (.tmp 51)) 50 true,
  o2 53 (.move (.tmp 0)) 50 true,
  o2 54 (.binOp .eql 9 (.tmp 52) (.tmp 53) 9) 50 true,
  o1 55 (.pick (.tmp 50) (.tmp 54) (.const (.bool false))),
  o1 56 (.move (.tmp 55)),
  o2 57 (.move (.tmp 4)) 56 true,
  o2 58 (.move (.tmp 0)) 56 true,
  o2 59 (.call ⟨.value (.func 16), #[.tmp 58], #[9]⟩) 56 true,
  o2 60 (.binOp .eql 9 (.tmp 57) (.tmp 59) 9) 56 true,
  o1 61 (.pick (.tmp 56) (.tmp 60) (.const (.bool false))),
  o1 2 (.assign (.tmp 61))]) (.ret)))))))
theorem ls4 : Tryd.f4.body.map (strip Tryd.prog impCodL) = some lc4 := by kernel_rfl
theorem lcall4 : LC 4 62 lc4 [.tmp 2] := LC.of Tryd.func4 (by kernel_rfl) ls4 (by kernel_rfl) (by kernel_rfl)
/-- escutcheon/escutcheonlaw20.PageFulls -/
def lc5 : LCode := .seq (.reg []
  [o1 4 (.assign (.const (.bool false)))]) (.seq (.seq (.reg []
  [o1 14 (.call ⟨.value (.func 8), #[], #[]⟩),
  o1 15 (.unOp .not 4 (.tmp 14))]) (.cond (.tmp 15) (.seq (.reg []
  [o1 4 (.assign (.const (.bool false)))]) (.ret)) (.skip))) (.seq (.reg []
  [o1 16 (.move (.tmp 0)),
  o1 17 (.binOp .rem 5 (.tmp 16) (.const (.int .u8 8)) 5),
  o1 18 (.convert 5 3 (.tmp 17)),
  o1 19 (.binOp .add 3 (.const (.int .i64 60)) (.tmp 18) 3),
  o1 5 (.assign (.tmp 19))]) (.seq (.reg []
  [o1 20 (.build 26 #[(0, .const (.int .i64 6))]),
  o1 21 (.build 26 #[(0, .const (.int .i64 5))]),
  o1 6 (.alloc 26),
  o1 7 (.alloc 26),
  o3 (.store 26 (.tmp 6) (.tmp 20)),
  o3 (.store 26 (.tmp 7) (.tmp 21))]) (.seq (.seq (.reg []
  [o1 22 (.move (.tmp 5)),
  o1 23 (.move (.const (.int .i64 0)))]) (.block 0 (.loop (.seq (.reg []
  [o1 24 (.binOp .lss 3 (.tmp 23) (.tmp 22) 3)]) (.seq (.cond (.tmp 24) (.skip) (.exit 0)) (.seq (.block 1 (.seq (.reg []
  [o1 25 (.move (.tmp 23)),
  o1 8 (.assign (.tmp 25))]) (.seq (.reg []
  [o1 26 (.fieldAddr 26 (.tmp 6) 2),
  o1 27 (.load 23 (.tmp 26)),
  o1 28 (.move (.tmp 8)),
  o1 29 (.binOp .quo 3 (.tmp 28) (.const (.int .i64 26)) 3),
  o1 30 (.binOp .add 3 (.const (.int .i64 97)) (.tmp 29) 3),
  o1 31 (.convert 3 5 (.tmp 30)),
  o1 32 (.move (.tmp 8)),
  o1 33 (.binOp .rem 3 (.tmp 32) (.const (.int .i64 26)) 3),
  o1 34 (.binOp .add 3 (.const (.int .i64 97)) (.tmp 33) 3),
  o1 35 (.convert 3 5 (.tmp 34)),
  o1 36 (.buildSlice 41 2 #[(0, .tmp 31), (1, .tmp 35)]),
  o1 37 (.convert 41 9 (.tmp 36)),
  o1 38 (.buildSlice 23 1 #[(0, .tmp 37)]),
  o1 39 (.call ⟨.builtin .append, #[.tmp 27, .tmp 38], #[23, 23]⟩),
  o1 40 (.fieldAddr 26 (.tmp 6) 2),
  o3 (.store 23 (.tmp 40) (.tmp 39))]) (.seq (.reg []
  [o1 41 (.fieldAddr 26 (.tmp 6) 3),
  o1 42 (.load 24 (.tmp 41)),
  o1 43 (.build 26 #[]),
  o1 44 (.buildSlice 24 1 #[(0, .tmp 43)]),
  o1 45 (.call ⟨.builtin .append, #[.tmp 42, .tmp 44], #[24, 24]⟩),
  o1 46 (.fieldAddr 26 (.tmp 6) 3),
  o3 (.store 24 (.tmp 46) (.tmp 45))]) (.reg []
  [o1 47 (.fieldAddr 26 (.tmp 7) 3),
  o1 48 (.load 24 (.tmp 47)),
  o1 49 (.build 26 #[]),
  o1 50 (.buildSlice 24 1 #[(0, .tmp 49)]),
  o1 51 (.call ⟨.builtin .append, #[.tmp 48, .tmp 50], #[24, 24]⟩),
  o1 52 (.fieldAddr 26 (.tmp 7) 3),
  o3 (.store 24 (.tmp 52) (.tmp 51))]))))) (.reg []
  [o1 53 (.binOp .add 3 (.tmp 23) (.const (.int .i64 1)) 3),
  o1 23 (.move (.tmp 53))]))))))) (.seq (.seq (.reg []
  [o1 54 (.move (.tmp 1))]) (.cond (.tmp 54) (.reg [o1 55 (.fieldAddr 26 (.tmp 6) 2),
  o1 56 (.load 23 (.tmp 55)),
  o1 57 (.move (.tmp 5)),
  o1 58 (.binOp .sub 3 (.tmp 57) (.const (.int .i64 1)) 3),
  o1 59 (.fieldAddr 26 (.tmp 6) 2),
  o1 60 (.load 23 (.tmp 59)),
  o1 61 (.indexAddr 23 (.tmp 60) (.const (.int .i64 0))),
  o1 62 (.load 9 (.tmp 61)),
  o1 63 (.indexAddr 23 (.tmp 56) (.tmp 58))]
  [o3 (.store 9 (.tmp 63) (.tmp 62))]) (.skip))) (.seq (.reg []
  [o1 9 (.assign (.const (.int .i64 0)))]) (.seq (.block 2 (.seq (.reg []
  [o1 65 (.move (.tmp 5)),
  o1 66 (.binOp .gtr 3 (.tmp 65) (.const (.int .i64 64)) 3),
  o1 64 (.assign (.tmp 66))]) (.cond (.tmp 64) (.reg []
  [o1 9 (.assign (.const (.int .i64 11)))]) (.seq (.reg []
  [o1 68 (.move (.tmp 1)),
  o1 67 (.assign (.tmp 68))]) (.cond (.tmp 67) (.reg []
  [o1 9 (.assign (.const (.int .i64 10)))]) (.skip)))))) (.seq (.reg []
  [o1 70 (.load 26 (.tmp 6)),
  o1 71 (.call ⟨.value (.func 18), #[.tmp 70], #[26]⟩),
  o1 72 (.call ⟨.value (.func 17), #[.tmp 71], #[45]⟩),
  o1 73 (.call ⟨.value (.func 15), #[.tmp 72], #[9]⟩),
  o1 69 (.move (.tmp 73)),
  o1 74 (.extract (.tmp 69) 0),
  o1 75 (.extract (.tmp 69) 1),
  o1 10 (.alloc 26),
  o3 (.store 26 (.tmp 10) (.tmp 74)),
  o1 11 (.assign (.tmp 75))]) (.seq (.reg []
  [o1 77 (.load 26 (.tmp 7)),
  o1 78 (.call ⟨.value (.func 18), #[.tmp 77], #[26]⟩),
  o1 79 (.call ⟨.value (.func 17), #[.tmp 78], #[45]⟩),
  o1 80 (.call ⟨.value (.func 15), #[.tmp 79], #[9]⟩),
  o1 76 (.move (.tmp 80)),
  o1 81 (.extract (.tmp 76) 0),
  o1 82 (.extract (.tmp 76) 1),
  o1 12 (.alloc 26),
  o3 (.store 26 (.tmp 12) (.tmp 81)),
  o1 13 (.assign (.tmp 82))]) (.seq (.reg []
  [o1 83 (.load 26 (.tmp 6)),
  o1 84 (.call ⟨.value (.func 19), #[.tmp 83], #[26]⟩),
  o1 85 (.move (.tmp 9)),
  o1 86 (.binOp .eql 34 (.tmp 84) (.tmp 85) 34),
  o1 87 (.move (.tmp 86)),
  o2 88 (.move (.tmp 11)) 87 true,
  o2 89 (.move (.tmp 9)) 87 true,
  o2 90 (.binOp .eql 34 (.tmp 88) (.tmp 89) 34) 87 true,
  o1 91 (.pick (.tmp 87) (.tmp 90) (.const (.bool false))),
  o1 92 (.move (.tmp 91)),
  o2 93 (.load 26 (.tmp 7)) 92 true,
  o2 94 (.call ⟨.value (.func 19), #[.tmp 93], #[26]⟩) 92 true,
  o2 95 (.binOp .eql 34 (.tmp 94) (.const (.int .i64 0)) 34) 92 true,
  o2 96 (.move (.tmp 5)) 92 true,
  o2 97 (.binOp .leq 3 (.tmp 96) (.const (.int .i64 64)) 3) 92 true,
  o2 98 (.binOp .eql 4 (.tmp 95) (.tmp 97) 4) 92 true,
  o1 99 (.pick (.tmp 92) (.tmp 98) (.const (.bool false))),
  o1 100 (.move (.tmp 99)),
  o2 101 (.move (.tmp 13)) 100 true,
  o2 102 (.binOp .eql 34 (.tmp 101) (.const (.int .i64 0)) 34) 100 true,
  o2 103 (.move (.tmp 5)) 100 true,
  o2 104 (.binOp .leq 3 (.tmp 103) (.const (.int .i64 64)) 3) 100 true,
  o2 105 (.binOp .eql 4 (.tmp 102) (.tmp 104) 4) 100 true,
  o1 106 (.pick (.tmp 100) (.tmp 105) (.const (.bool false))),
  o1 4 (.assign (.tmp 106))]) (.ret)))))))))))
def ms5_0 : List Nat := [0, 2, 3, 8, 14, 15, 16, 17, 18, 19, 20, 21, 23, 24, 25, 26, 27, 28, 29, 30, 31, 32, 33, 34, 35, 36, 37, 38, 39, 40, 41, 42, 43, 44, 45, 46, 47, 48, 49, 50, 51, 52, 53]
/-- escutcheon/escutcheonlaw20.PageNumbers -/
def lc7 : LCode := .seq (.reg []
  [o1 2 (.assign (.const (.bool false)))]) (.seq (.seq (.reg []
  [o1 9 (.call ⟨.value (.func 8), #[], #[]⟩),
  o1 10 (.unOp .not 4 (.tmp 9)),
  o1 11 (.move (.tmp 10)),
  o2 12 (.move (.tmp 0)) 11 false,
  o2 13 (.call ⟨.builtin .len, #[.tmp 12], #[9]⟩) 11 false,
  o2 14 (.binOp .gtr 3 (.tmp 13) (.const (.int .i64 60)) 3) 11 false,
  o1 15 (.pick (.tmp 11) (.const (.bool true)) (.tmp 14))]) (.cond (.tmp 15) (.seq (.reg []
  [o1 16 (.call ⟨.value (.func 8), #[], #[]⟩),
  o1 2 (.assign (.tmp 16))]) (.ret)) (.skip))) (.seq (.reg []
  [o1 17 (.move (.tmp 0)),
  o1 18 (.build 26 #[(0, .const (.int .i64 3)), (1, .tmp 17)]),
  o1 3 (.alloc 26),
  o3 (.store 26 (.tmp 3) (.tmp 18))]) (.seq (.reg []
  [o1 19 (.move (.tmp 0)),
  o1 20 (.binOp .neq 9 (.tmp 19) (.const (.string { data := #[] })) 9),
  o1 21 (.move (.tmp 20)),
  o2 22 (.move (.tmp 0)) 21 true,
  o2 23 (.call ⟨.builtin .len, #[.tmp 22], #[9]⟩) 21 true,
  o2 24 (.binOp .leq 3 (.tmp 23) (.const (.int .i64 40)) 3) 21 true,
  o1 25 (.pick (.tmp 21) (.tmp 24) (.const (.bool false))),
  o1 26 (.move (.tmp 25)),
  o2 27 (.move (.tmp 0)) 26 true,
  o2 28 (.call ⟨.value (.func 21), #[.tmp 27, .const (.int .i64 0)], #[9, 3]⟩) 26 true,
  o2 29 (.move (.tmp 0)) 26 true,
  o2 30 (.call ⟨.builtin .len, #[.tmp 29], #[9]⟩) 26 true,
  o2 31 (.binOp .eql 3 (.tmp 28) (.tmp 30) 3) 26 true,
  o1 32 (.pick (.tmp 26) (.tmp 31) (.const (.bool false))),
  o1 4 (.assign (.tmp 32))]) (.seq (.reg []
  [o1 34 (.load 26 (.tmp 3)),
  o1 35 (.call ⟨.value (.func 13), #[.tmp 34], #[26]⟩),
  o1 33 (.move (.tmp 35)),
  o1 36 (.extract (.tmp 33) 0),
  o1 37 (.extract (.tmp 33) 1),
  o1 5 (.assign (.tmp 36)),
  o1 6 (.assign (.tmp 37))]) (.seq (.reg []
  [o1 39 (.move (.tmp 0)),
  o1 40 (.binOp .add 9 (.const (.string { data := #[91] })) (.tmp 39) 9),
  o1 41 (.binOp .add 9 (.tmp 40) (.const (.string { data := #[93] })) 9),
  o1 42 (.call ⟨.value (.func 15), #[.tmp 41], #[9]⟩),
  o1 38 (.move (.tmp 42)),
  o1 43 (.extract (.tmp 38) 0),
  o1 44 (.extract (.tmp 38) 1),
  o1 7 (.alloc 26),
  o3 (.store 26 (.tmp 7) (.tmp 43)),
  o1 8 (.assign (.tmp 44))]) (.seq (.seq (.reg []
  [o1 45 (.move (.tmp 4)),
  o1 46 (.unOp .not 4 (.tmp 45))]) (.cond (.tmp 46) (.seq (.reg []
  [o1 47 (.move (.tmp 6)),
  o1 48 (.binOp .eql 34 (.tmp 47) (.const (.int .i64 2)) 34),
  o1 49 (.move (.tmp 48)),
  o2 50 (.move (.tmp 5)) 49 true,
  o2 51 (.binOp .eql 9 (.tmp 50) (.const (.string { data := #[] })) 9) 49 true,
  o1 52 (.pick (.tmp 49) (.tmp 51) (.const (.bool false))),
  o1 53 (.move (.tmp 52)),
  o2 54 (.move (.tmp 8)) 53 true,
  o2 55 (.binOp .neq 34 (.tmp 54) (.const (.int .i64 0)) 34) 53 true,
  o2 56 (.move (.tmp 55)) 53 true,
  o2 57 (.load 26 (.tmp 7)) 56 false,
  o2 58 (.load 26 (.tmp 3)) 56 false,
  o2 59 (.buildSlice 24 1 #[(0, .tmp 58)]) 56 false,
  o2 60 (.build 26 #[(0, .const (.int .i64 5)), (3, .tmp 59)]) 56 false,
  o2 61 (.call ⟨.value (.func 11), #[.tmp 57, .tmp 60], #[26, 26]⟩) 56 false,
  o2 62 (.unOp .not 4 (.tmp 61)) 56 false,
  o2 63 (.pick (.tmp 56) (.const (.bool true)) (.tmp 62)) 53 true,
  o1 64 (.pick (.tmp 53) (.tmp 63) (.const (.bool false))),
  o1 2 (.assign (.tmp 64))]) (.ret)) (.skip))) (.seq (.reg []
  [o1 65 (.move (.tmp 6)),
  o1 66 (.binOp .eql 34 (.tmp 65) (.const (.int .i64 0)) 34),
  o1 67 (.move (.tmp 66)),
  o2 68 (.move (.tmp 5)) 67 true,
  o2 69 (.move (.tmp 0)) 67 true,
  o2 70 (.binOp .eql 9 (.tmp 68) (.tmp 69) 9) 67 true,
  o1 71 (.pick (.tmp 67) (.tmp 70) (.const (.bool false))),
  o1 72 (.move (.tmp 71)),
  o2 73 (.move (.tmp 8)) 72 true,
  o2 74 (.binOp .eql 34 (.tmp 73) (.const (.int .i64 0)) 34) 72 true,
  o1 75 (.pick (.tmp 72) (.tmp 74) (.const (.bool false))),
  o1 76 (.move (.tmp 75)),
  o2 77 (.load 26 (.tmp 7)) 76 true,
  o2 78 (.load 26 (.tmp 3)) 76 true,
  o2 79 (.buildSlice 24 1 #[(0, .tmp 78)]) 76 true,
  o2 80 (.build 26 #[(0, .const (.int .i64 5)), (3, .tmp 79)]) 76 true,
  o2 81 (.call ⟨.value (.func 11), #[.tmp 77, .tmp 80], #[26, 26]⟩) 76 true,
  o1 82 (.pick (.tmp 76) (.tmp 81) (.const (.bool false))),
  o1 2 (.assign (.tmp 82))]) (.ret))))))))
theorem ls7 : Tryd.f7.body.map (strip Tryd.prog impCodL) = some lc7 := by kernel_rfl
theorem lcall7 : LC 7 83 lc7 [.tmp 2] := LC.of Tryd.func7 (by kernel_rfl) ls7 (by kernel_rfl) (by kernel_rfl)
end Go.Abs.S
namespace Go.Proofs.YtdbpaahdonplbaaDoor.LaidCells
variable {H : Type}
/-- The cells of plain data (numbers, bools, texts, structs and arrays of these), by type. -/
def expFields (P : Program) (go : TypeId → DataW H → Option (List Value)) : List Field → List (DataW H) → Nat → Option (List Value)
  | [], [], _ => some []
  | f :: fs, d :: ds, off => if f.offset = off then (go f.type d).bind fun l => if l.length = P.cellsOf f.type then (expFields P go fs ds (off + l.length)).map (l ++ ·) else none else none
  | _, _, _ => none
def expElems (go : DataW H → Option (List Value)) (size : Nat) : List (DataW H) → Option (List Value)
  | [] => some []
  | d :: ds => (go d).bind fun l => if l.length = size then (expElems go size ds).map (l ++ ·) else none
def exp (P : Program) : Nat → TypeId → DataW H → Option (List Value)
  | 0, _, _ => none
  | n + 1, t, d =>
    match P.underlying t, d with
    | some (.int k), .lit (.int k' i) => if k' = k then some [.int k i] else none
    | some .bool, .lit (.bool b) => some [.bool b]
    | some .string, .lit (.string s) => some [.string ⟨s.toArray⟩]
    | some (.struct fs), .agg ds => (expFields P (exp P n) fs.toList ds 0).bind fun l => if l.length = P.cellsOf t then some l else none
    | some (.array m e), .agg ds => if ds.length = m then (expElems (exp P n e) (P.cellsOf e) ds).bind fun l => if l.length = P.cellsOf t then some l else none else none
    | _, _ => none

section
variable {enc : TypeId × Value → H} {P : Program} {w : World} {base : Nat} {spare : Nat → Bool} {held : Bool}
theorem trod_struct {fuel : Nat} {t : TypeId} {fs : Array Field} {cs : List Value} {x : DataW H × List MemPlace} (ht : P.underlying t = some (.struct fs)) (h : DataW.trod enc P w base spare held fuel t cs = some x) :
    ∃ (xs : List (DataW H × List MemPlace)) (m : Nat), x.1 = .agg (xs.map (·.1)) ∧ cs.length = P.cellsOf t ∧ fs.toList.mapM (fun f => DataW.trod enc P w base spare held m f.type ((cs.drop f.offset).take (P.cellsOf f.type))) = some xs := by
  cases fuel with
  | zero => simp [DataW.trod] at h
  | succ m =>
    unfold DataW.trod at h
    rw [ht] at h
    split at h <;> simp_all
    obtain ⟨h1, xs, h2, rfl⟩ := h
    exact ⟨xs, rfl, m, h2⟩
theorem fields_eq (go : TypeId → DataW H → Option (List Value)) (rd : TypeId → List Value → Option (DataW H × List MemPlace))
    (hgo : ∀ t cs x l, rd t cs = some x → go t x.1 = some l → cs = l) (cs : List Value) :
    ∀ (fs : List Field) (xs : List (DataW H × List MemPlace)) (off : Nat) (l : List Value), fs.mapM (fun f => rd f.type ((cs.drop f.offset).take (P.cellsOf f.type))) = some xs →
      expFields P go fs (xs.map (·.1)) off = some l → (cs.drop off).take l.length = l
  | [], xs, off, l, h, he => by
    simp at h
    subst h
    simp [expFields] at he
    subst he
    rfl
  | f :: fs, xs, off, l, h, he => by
    rw [List.mapM_cons] at h
    simp only [Option.bind_eq_bind, Option.bind_eq_some_iff, Option.pure_def, Option.some.injEq] at h
    obtain ⟨y, hy, ys, hys, rfl⟩ := h
    simp only [List.map_cons, expFields] at he
    split at he
    case isFalse => cases he
    case isTrue ho =>
      simp only [Option.bind_eq_some_iff] at he
      obtain ⟨l1, h1, he⟩ := he
      split at he
      case isFalse => cases he
      case isTrue hl =>
        simp only [Option.map_eq_some_iff] at he
        obtain ⟨l2, h2, rfl⟩ := he
        have e1 := hgo _ _ _ _ hy h1
        rw [ho, ← hl] at e1
        have e2 := fields_eq go rd hgo cs fs ys (off + l1.length) l2 hys h2
        rw [List.length_append, List.take_add, e1, List.drop_drop, e2]
theorem elems_eq (go : DataW H → Option (List Value)) (rd : List Value → Option (DataW H × List MemPlace)) (size : Nat)
    (hgo : ∀ cs x l, rd cs = some x → go x.1 = some l → cs = l) (cs : List Value) :
    ∀ (xs : List (DataW H × List MemPlace)) (j : Nat) (l : List Value), (∀ i, i < xs.length → rd ((cs.drop ((j + i) * size)).take size) = xs[i]?) →
      expElems go size (xs.map (·.1)) = some l → (cs.drop (j * size)).take l.length = l
  | [], j, l, h, he => by
    simp [expElems] at he
    subst he
    rfl
  | x :: xs, j, l, h, he => by
    simp only [List.map_cons, expElems, Option.bind_eq_some_iff] at he
    obtain ⟨l1, h1, he⟩ := he
    split at he
    case isFalse => cases he
    case isTrue hl =>
      simp only [Option.map_eq_some_iff] at he
      obtain ⟨l2, h2, rfl⟩ := he
      have e0 := h 0 (by simp)
      simp only [Nat.add_zero, List.getElem?_cons_zero] at e0
      have e1 := hgo _ _ _ e0 h1
      have e2 := elems_eq go rd size hgo cs xs (j + 1) l2 (fun i hi => by
        have := h (i + 1) (by simp; omega)
        rw [show j + 1 + i = j + (i + 1) from by omega]
        simpa using this) h2
      rw [List.length_append, List.take_add, hl, e1, List.drop_drop, show j * size + size = (j + 1) * size from by rw [Nat.succ_mul], e2]
theorem cells_of_exp : ∀ (n fuel : Nat) (t : TypeId) (cs : List Value) (x : DataW H × List MemPlace) (l : List Value), DataW.trod enc P w base spare held fuel t cs = some x → exp P n t x.1 = some l → cs = l
  | 0, _, _, _, _, _, _, he => by simp [exp] at he
  | n + 1, fuel, t, cs, x, l, h, he => by
    unfold exp at he
    split at he
    · rename_i k k' i ht hd
      obtain ⟨m, rfl, hx, _⟩ := DataW.trod_int ht h
      rw [hx] at hd
      simp at hd
      obtain ⟨rfl, rfl⟩ := hd
      simpa using he
    · rename_i b ht hd
      obtain ⟨b', rfl, hx⟩ := DataW.trod_bool ht h
      rw [hx] at hd
      simp at hd
      subst hd
      simpa using he
    · rename_i b ht hd
      obtain ⟨b', rfl, hx, _⟩ := DataW.trod_string ht h
      rw [hx] at hd
      simp at hd
      subst hd
      simpa using he
    · rename_i fs ds ht hd
      obtain ⟨xs, m, hx, hl, hm⟩ := trod_struct ht h
      rw [hx] at hd
      simp only [DataW.agg.injEq] at hd
      subst hd
      simp only [Option.bind_eq_some_iff] at he
      obtain ⟨l1, h1, he⟩ := he
      split at he
      case isFalse => cases he
      case isTrue hl1 =>
        obtain rfl := Option.some.inj he
        have := fields_eq (exp P n) (DataW.trod enc P w base spare held m) (fun t cs x l => cells_of_exp n m t cs x l) cs fs.toList xs 0 l1 hm h1
        rw [List.drop_zero, List.take_of_length_le (by omega)] at this
        exact this
    · rename_i m e ds ht hd
      obtain ⟨xs, m', _, hx, hl, hxl, hel⟩ := DataW.trod_array ht h
      rw [hx] at hd
      simp only [DataW.agg.injEq] at hd
      subst hd
      split at he
      case isFalse => cases he
      case isTrue hn =>
        simp only [Option.bind_eq_some_iff] at he
        obtain ⟨l1, h1, he⟩ := he
        split at he
        case isFalse => cases he
        case isTrue hl1 =>
          obtain rfl := Option.some.inj he
          have := elems_eq (exp P n e) (DataW.trod enc P w base spare held m' e) (P.cellsOf e) (fun cs x l => cells_of_exp n m' e cs x l) cs xs 0 l1 (fun i hi => by rw [Nat.zero_add]; exact hel i (by omega)) h1
          rw [Nat.zero_mul, List.drop_zero, List.take_of_length_le (by omega)] at this
          exact this
    · cases he
end
/-- A listed variable's cells. -/
theorem laid_cell {P : Program} {laid : List (String × DataW Unit)} {w : World} (h : laidMet P laid w) {n : String} {d : DataW Unit} (hm : (n, d) ∈ laid) {g k : Nat} {t : TypeId} {l : List Value}
    (hg : P.globalNamed n = some g) (ht : (P.globals[g]?).map (·.type) = some t) (he : exp P k t d = some l) (i : Nat) : w.cell? ⟨g, i, none⟩ = l[i]? := by
  obtain ⟨ps, hv, h2⟩ := h
  clear h2
  induction laid generalizing ps with
  | nil => cases hm
  | cons y r ih =>
    obtain ⟨n', d'⟩ := y
    obtain ⟨g', t', cs, fuel, p, q, hg', ht', hw, htr, hr, _⟩ := hv
    rcases List.mem_cons.1 hm with hm | hm
    · obtain ⟨rfl, rfl⟩ := Prod.mk.inj hm
      obtain rfl := Option.some.inj (hg.symm.trans hg')
      obtain rfl := Option.some.inj (ht.symm.trans ht')
      have := cells_of_exp k fuel t cs.toList _ l htr he
      rw [World.var?_cell hg hw i, ← this]
      simp
    · exact ih hm q hr
end Go.Proofs.YtdbpaahdonplbaaDoor.LaidCells
