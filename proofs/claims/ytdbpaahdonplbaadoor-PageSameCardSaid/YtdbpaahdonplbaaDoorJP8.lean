/- Code, as it is looked at; written by wip/leancode.py. -/
import Derived.Test.YtdbpaahdonplbaaDoorJP3
namespace Go.Abs.S
open Go.Proofs
set_option maxRecDepth 100000
def impCodD : FuncId → Bool := fun f => f == 26 || f == 27 || f == 29 || f == 30 || f == 31 || f == 37 || f == 39 || f == 40 || f == 41 || f == 42 || f == 48 || f == 54 || f == 55 || f == 75
/-- escutcheon/escutcheonref20.is -/
def lc34 : LCode := .seq (.reg []
  [o1 6 (.assign (.const (.bool false)))]) (.seq (.reg []
  [o1 7 (.move (.tmp 1)),
  o1 8 (.move (.tmp 2)),
  o1 9 (.call ⟨.builtin .len, #[.tmp 8], #[9]⟩),
  o1 10 (.binOp .add 3 (.tmp 7) (.tmp 9) 3),
  o1 11 (.move (.tmp 0)),
  o1 12 (.call ⟨.builtin .len, #[.tmp 11], #[9]⟩),
  o1 13 (.binOp .leq 3 (.tmp 10) (.tmp 12) 3),
  o1 14 (.move (.tmp 13)),
  o2 15 (.move (.tmp 0)) 14 true,
  o2 16 (.move (.tmp 1)) 14 true,
  o2 17 (.move (.tmp 1)) 14 true,
  o2 18 (.move (.tmp 2)) 14 true,
  o2 19 (.call ⟨.builtin .len, #[.tmp 18], #[9]⟩) 14 true,
  o2 20 (.binOp .add 3 (.tmp 17) (.tmp 19) 3) 14 true,
  o2 21 (.slice 9 (.tmp 15) (some (.tmp 16)) (some (.tmp 20)) none) 14 true,
  o2 22 (.move (.tmp 2)) 14 true,
  o2 23 (.binOp .eql 9 (.tmp 21) (.tmp 22) 9) 14 true,
  o1 24 (.pick (.tmp 14) (.tmp 23) (.const (.bool false))),
  o1 6 (.assign (.tmp 24))]) (.ret))
theorem ls34 : Tryd.f34.body.map (strip Tryd.prog impCodD) = some lc34 := by kernel_rfl
theorem lcall34 : LC 34 25 lc34 [.tmp 6] := LC.of Tryd.func34 (by kernel_rfl) ls34 (by kernel_rfl) (by kernel_rfl)
/-- escutcheon/escutcheonref20.digits -/
def lc35 : LCode := .seq (.reg []
  [o1 4 (.assign (.const (.int .i64 0)))]) (.seq (.block 0 (.loop (.seq (.seq (.reg []
  [o1 5 (.move (.tmp 1)),
  o1 6 (.move (.tmp 0)),
  o1 7 (.call ⟨.builtin .len, #[.tmp 6], #[9]⟩),
  o1 8 (.binOp .lss 3 (.tmp 5) (.tmp 7) 3),
  o1 9 (.move (.tmp 8)),
  o2 10 (.move (.tmp 0)) 9 true,
  o2 11 (.move (.tmp 1)) 9 true,
  o2 12 (.index 9 (.tmp 10) (.tmp 11)) 9 true,
  o2 13 (.binOp .geq 5 (.tmp 12) (.const (.int .u8 48)) 5) 9 true,
  o1 14 (.pick (.tmp 9) (.tmp 13) (.const (.bool false))),
  o1 15 (.move (.tmp 14)),
  o2 16 (.move (.tmp 0)) 15 true,
  o2 17 (.move (.tmp 1)) 15 true,
  o2 18 (.index 9 (.tmp 16) (.tmp 17)) 15 true,
  o2 19 (.binOp .leq 5 (.tmp 18) (.const (.int .u8 57)) 5) 15 true,
  o1 20 (.pick (.tmp 15) (.tmp 19) (.const (.bool false)))]) (.cond (.tmp 20) (.skip) (.exit 0))) (.block 1 (.reg []
  [o1 21 (.move (.tmp 1)),
  o1 22 (.binOp .add 3 (.tmp 21) (.const (.int .i64 1)) 3),
  o1 1 (.assign (.tmp 22))]))))) (.seq (.reg []
  [o1 23 (.move (.tmp 1)),
  o1 4 (.assign (.tmp 23))]) (.ret)))
def ms35_0 : List Nat := [1, 2, 3, 5, 6, 7, 8, 9, 10, 11, 12, 13, 14, 15, 16, 17, 18, 19, 20, 21, 22]
theorem ls35 : Tryd.f35.body.map (strip Tryd.prog impCodD) = some lc35 := by kernel_rfl
theorem lcall35 : LC 35 24 lc35 [.tmp 4] := LC.of Tryd.func35 (by kernel_rfl) ls35 (by kernel_rfl) (by kernel_rfl)
/-- escutcheon/escutcheonref20.Number -/
def lc21 : LCode := .seq (.reg []
  [o1 4 (.assign (.const (.int .i64 0)))]) (.seq (.reg []
  [o1 10 (.move (.tmp 1)),
  o1 5 (.assign (.tmp 10))]) (.seq (.seq (.reg []
  [o1 11 (.move (.tmp 0)),
  o1 12 (.move (.tmp 5)),
  o1 13 (.call ⟨.value (.func 34), #[.tmp 11, .tmp 12, .const (.string { data := #[45] })], #[9, 3, 9]⟩)]) (.cond (.tmp 13) (.reg []
  [o1 14 (.move (.tmp 5)),
  o1 15 (.binOp .add 3 (.tmp 14) (.const (.int .i64 1)) 3),
  o1 5 (.assign (.tmp 15))]) (.skip))) (.seq (.seq (.reg []
  [o1 16 (.move (.tmp 0)),
  o1 17 (.move (.tmp 5)),
  o1 18 (.call ⟨.value (.func 34), #[.tmp 16, .tmp 17, .const (.string { data := #[48] })], #[9, 3, 9]⟩)]) (.cond (.tmp 18) (.reg []
  [o1 19 (.move (.tmp 5)),
  o1 20 (.binOp .add 3 (.tmp 19) (.const (.int .i64 1)) 3),
  o1 5 (.assign (.tmp 20))]) (.seq (.reg []
  [o1 21 (.move (.tmp 0)),
  o1 22 (.move (.tmp 5)),
  o1 23 (.call ⟨.value (.func 35), #[.tmp 21, .tmp 22], #[9, 3]⟩),
  o1 6 (.assign (.tmp 23))]) (.seq (.seq (.reg []
  [o1 24 (.move (.tmp 6)),
  o1 25 (.move (.tmp 5)),
  o1 26 (.binOp .eql 3 (.tmp 24) (.tmp 25) 3)]) (.cond (.tmp 26) (.seq (.reg []
  [o1 27 (.move (.tmp 1)),
  o1 4 (.assign (.tmp 27))]) (.ret)) (.skip))) (.reg []
  [o1 28 (.move (.tmp 6)),
  o1 5 (.assign (.tmp 28))]))))) (.seq (.seq (.reg []
  [o1 29 (.move (.tmp 0)),
  o1 30 (.move (.tmp 5)),
  o1 31 (.call ⟨.value (.func 34), #[.tmp 29, .tmp 30, .const (.string { data := #[46] })], #[9, 3, 9]⟩)]) (.cond (.tmp 31) (.seq (.reg []
  [o1 32 (.move (.tmp 0)),
  o1 33 (.move (.tmp 5)),
  o1 34 (.binOp .add 3 (.tmp 33) (.const (.int .i64 1)) 3),
  o1 35 (.call ⟨.value (.func 35), #[.tmp 32, .tmp 34], #[9, 3]⟩),
  o1 7 (.assign (.tmp 35))]) (.seq (.seq (.reg []
  [o1 36 (.move (.tmp 7)),
  o1 37 (.move (.tmp 5)),
  o1 38 (.binOp .add 3 (.tmp 37) (.const (.int .i64 1)) 3),
  o1 39 (.binOp .eql 3 (.tmp 36) (.tmp 38) 3)]) (.cond (.tmp 39) (.seq (.reg []
  [o1 40 (.move (.tmp 1)),
  o1 4 (.assign (.tmp 40))]) (.ret)) (.skip))) (.reg []
  [o1 41 (.move (.tmp 7)),
  o1 5 (.assign (.tmp 41))]))) (.skip))) (.seq (.seq (.reg []
  [o1 42 (.move (.tmp 0)),
  o1 43 (.move (.tmp 5)),
  o1 44 (.call ⟨.value (.func 34), #[.tmp 42, .tmp 43, .const (.string { data := #[101] })], #[9, 3, 9]⟩),
  o1 45 (.move (.tmp 44)),
  o2 46 (.move (.tmp 0)) 45 false,
  o2 47 (.move (.tmp 5)) 45 false,
  o2 48 (.call ⟨.value (.func 34), #[.tmp 46, .tmp 47, .const (.string { data := #[69] })], #[9, 3, 9]⟩) 45 false,
  o1 49 (.pick (.tmp 45) (.const (.bool true)) (.tmp 48))]) (.cond (.tmp 49) (.seq (.reg []
  [o1 50 (.move (.tmp 5)),
  o1 51 (.binOp .add 3 (.tmp 50) (.const (.int .i64 1)) 3),
  o1 8 (.assign (.tmp 51))]) (.seq (.seq (.reg []
  [o1 52 (.move (.tmp 0)),
  o1 53 (.move (.tmp 8)),
  o1 54 (.call ⟨.value (.func 34), #[.tmp 52, .tmp 53, .const (.string { data := #[43] })], #[9, 3, 9]⟩),
  o1 55 (.move (.tmp 54)),
  o2 56 (.move (.tmp 0)) 55 false,
  o2 57 (.move (.tmp 8)) 55 false,
  o2 58 (.call ⟨.value (.func 34), #[.tmp 56, .tmp 57, .const (.string { data := #[45] })], #[9, 3, 9]⟩) 55 false,
  o1 59 (.pick (.tmp 55) (.const (.bool true)) (.tmp 58))]) (.cond (.tmp 59) (.reg []
  [o1 60 (.move (.tmp 8)),
  o1 61 (.binOp .add 3 (.tmp 60) (.const (.int .i64 1)) 3),
  o1 8 (.assign (.tmp 61))]) (.skip))) (.seq (.reg []
  [o1 62 (.move (.tmp 0)),
  o1 63 (.move (.tmp 8)),
  o1 64 (.call ⟨.value (.func 35), #[.tmp 62, .tmp 63], #[9, 3]⟩),
  o1 9 (.assign (.tmp 64))]) (.seq (.seq (.reg []
  [o1 65 (.move (.tmp 9)),
  o1 66 (.move (.tmp 8)),
  o1 67 (.binOp .eql 3 (.tmp 65) (.tmp 66) 3)]) (.cond (.tmp 67) (.seq (.reg []
  [o1 68 (.move (.tmp 1)),
  o1 4 (.assign (.tmp 68))]) (.ret)) (.skip))) (.reg []
  [o1 69 (.move (.tmp 9)),
  o1 5 (.assign (.tmp 69))]))))) (.skip))) (.seq (.reg []
  [o1 70 (.move (.tmp 5)),
  o1 4 (.assign (.tmp 70))]) (.ret)))))))
def mj21_0 : List Nat := [2, 3, 5, 10, 11, 12, 13, 14, 15]
def mj21_1 : List Nat := [2, 3, 4, 5, 6, 10, 11, 12, 13, 14, 15, 16, 17, 18, 19, 20, 21, 22, 23, 24, 25, 26, 27, 28]
def mj21_2 : List Nat := [2, 3, 4, 10, 11, 12, 13, 14, 15, 16, 17, 18, 19, 20, 21, 22, 23, 24, 25, 26, 27]
def mj21_3 : List Nat := [2, 3, 4, 5, 6, 7, 10, 11, 12, 13, 14, 15, 16, 17, 18, 19, 20, 21, 22, 23, 24, 25, 26, 27, 28, 29, 30, 31, 32, 33, 34, 35, 36, 37, 38, 39, 40, 41]
def mj21_4 : List Nat := [2, 3, 4, 6, 10, 11, 12, 13, 14, 15, 16, 17, 18, 19, 20, 21, 22, 23, 24, 25, 26, 27, 28, 29, 30, 31, 32, 33, 34, 35, 36, 37, 38, 39, 40]
def mj21_5 : List Nat := [0, 1, 2, 3, 4, 5, 6, 7, 8, 9, 10, 11, 12, 13, 14, 15, 16, 17, 18, 19, 20, 21, 22, 23, 24, 25, 26, 27, 28, 29, 30, 31, 32, 33, 34, 35, 36, 37, 38, 39, 40, 41, 42, 43, 44, 45, 46, 47, 48, 49, 50, 51, 52, 53, 54, 55, 56, 57, 58, 59, 60, 61, 62, 63, 64, 65, 66, 67, 68, 69]
def mj21_6 : List Nat := [2, 3, 6, 7, 8, 10, 11, 12, 13, 14, 15, 16, 17, 18, 19, 20, 21, 22, 23, 24, 25, 26, 27, 28, 29, 30, 31, 32, 33, 34, 35, 36, 37, 38, 39, 40, 41, 42, 43, 44, 45, 46, 47, 48, 49, 50, 51, 52, 53, 54, 55, 56, 57, 58, 59, 60, 61]
def mj21_7 : List Nat := [0, 1, 2, 3, 4, 6, 7, 8, 10, 11, 12, 13, 14, 15, 16, 17, 18, 19, 20, 21, 22, 23, 24, 25, 26, 27, 28, 29, 30, 31, 32, 33, 34, 35, 36, 37, 38, 39, 40, 41, 42, 43, 44, 45, 46, 47, 48, 49, 50, 51, 52, 53, 54, 55, 56, 57, 58, 59, 60, 61, 62, 63, 64, 65, 66, 67, 68]
theorem ls21 : Tryd.f21.body.map (strip Tryd.prog impCodD) = some lc21 := by kernel_rfl
theorem lcall21 : LC 21 71 lc21 [.tmp 4] := LC.of Tryd.func21 (by kernel_rfl) ls21 (by kernel_rfl) (by kernel_rfl)
/-- escutcheon/escutcheonref20.Rune -/
def lc28 : LCode := .seq (.reg []
  [o1 4 (.assign (.const (.int .i64 0)))]) (.seq (.reg []
  [o1 11 (.move (.tmp 0)),
  o1 12 (.move (.tmp 1)),
  o1 13 (.index 9 (.tmp 11) (.tmp 12)),
  o1 14 (.convert 5 3 (.tmp 13)),
  o1 5 (.assign (.tmp 14))]) (.seq (.reg []
  [o1 6 (.assign (.const (.int .i64 0))),
  o1 7 (.assign (.const (.int .i64 0))),
  o1 8 (.assign (.const (.int .i64 0)))]) (.seq (.seq (.reg []
  [o1 15 (.move (.tmp 5)),
  o1 16 (.binOp .lss 3 (.tmp 15) (.const (.int .i64 128)) 3)]) (.cond (.tmp 16) (.seq (.reg []
  [o1 4 (.assign (.const (.int .i64 1)))]) (.ret)) (.skip))) (.seq (.seq (.reg []
  [o1 17 (.move (.tmp 5)),
  o1 18 (.binOp .geq 3 (.tmp 17) (.const (.int .i64 194)) 3),
  o1 19 (.move (.tmp 18)),
  o2 20 (.move (.tmp 5)) 19 true,
  o2 21 (.binOp .lss 3 (.tmp 20) (.const (.int .i64 224)) 3) 19 true,
  o1 22 (.pick (.tmp 19) (.tmp 21) (.const (.bool false)))]) (.cond (.tmp 22) (.reg []
  [o1 23 (.move (.tmp 5)),
  o1 24 (.binOp .sub 3 (.tmp 23) (.const (.int .i64 192)) 3),
  o1 6 (.assign (.const (.int .i64 1))),
  o1 7 (.assign (.tmp 24)),
  o1 8 (.assign (.const (.int .i64 128)))]) (.skip))) (.seq (.seq (.reg []
  [o1 25 (.move (.tmp 5)),
  o1 26 (.binOp .geq 3 (.tmp 25) (.const (.int .i64 224)) 3),
  o1 27 (.move (.tmp 26)),
  o2 28 (.move (.tmp 5)) 27 true,
  o2 29 (.binOp .lss 3 (.tmp 28) (.const (.int .i64 240)) 3) 27 true,
  o1 30 (.pick (.tmp 27) (.tmp 29) (.const (.bool false)))]) (.cond (.tmp 30) (.reg []
  [o1 31 (.move (.tmp 5)),
  o1 32 (.binOp .sub 3 (.tmp 31) (.const (.int .i64 224)) 3),
  o1 6 (.assign (.const (.int .i64 2))),
  o1 7 (.assign (.tmp 32)),
  o1 8 (.assign (.const (.int .i64 2048)))]) (.skip))) (.seq (.seq (.reg []
  [o1 33 (.move (.tmp 5)),
  o1 34 (.binOp .geq 3 (.tmp 33) (.const (.int .i64 240)) 3),
  o1 35 (.move (.tmp 34)),
  o2 36 (.move (.tmp 5)) 35 true,
  o2 37 (.binOp .lss 3 (.tmp 36) (.const (.int .i64 245)) 3) 35 true,
  o1 38 (.pick (.tmp 35) (.tmp 37) (.const (.bool false)))]) (.cond (.tmp 38) (.reg []
  [o1 39 (.move (.tmp 5)),
  o1 40 (.binOp .sub 3 (.tmp 39) (.const (.int .i64 240)) 3),
  o1 6 (.assign (.const (.int .i64 3))),
  o1 7 (.assign (.tmp 40)),
  o1 8 (.assign (.const (.int .i64 65536)))]) (.skip))) (.seq (.seq (.reg []
  [o1 41 (.move (.tmp 6)),
  o1 42 (.binOp .eql 3 (.tmp 41) (.const (.int .i64 0)) 3),
  o1 43 (.move (.tmp 42)),
  o2 44 (.move (.tmp 1)) 43 false,
  o2 45 (.move (.tmp 6)) 43 false,
  o2 46 (.binOp .add 3 (.tmp 44) (.tmp 45) 3) 43 false,
  o2 47 (.move (.tmp 0)) 43 false,
  o2 48 (.call ⟨.builtin .len, #[.tmp 47], #[9]⟩) 43 false,
  o2 49 (.binOp .geq 3 (.tmp 46) (.tmp 48) 3) 43 false,
  o1 50 (.pick (.tmp 43) (.const (.bool true)) (.tmp 49))]) (.cond (.tmp 50) (.seq (.reg []
  [o1 4 (.assign (.const (.int .i64 0)))]) (.ret)) (.skip))) (.seq (.seq (.reg []
  [o1 9 (.assign (.const (.int .i64 1)))]) (.block 0 (.loop (.seq (.seq (.reg []
  [o1 51 (.move (.tmp 9)),
  o1 52 (.move (.tmp 6)),
  o1 53 (.binOp .leq 3 (.tmp 51) (.tmp 52) 3)]) (.cond (.tmp 53) (.skip) (.exit 0))) (.seq (.block 1 (.seq (.reg []
  [o1 56 (.move (.tmp 0)),
  o1 57 (.move (.tmp 1)),
  o1 58 (.move (.tmp 9)),
  o1 59 (.binOp .add 3 (.tmp 57) (.tmp 58) 3),
  o1 60 (.index 9 (.tmp 56) (.tmp 59)),
  o1 61 (.convert 5 3 (.tmp 60)),
  o1 10 (.assign (.tmp 61))]) (.seq (.seq (.reg []
  [o1 62 (.move (.tmp 10)),
  o1 63 (.binOp .lss 3 (.tmp 62) (.const (.int .i64 128)) 3),
  o1 64 (.move (.tmp 63)),
  o2 65 (.move (.tmp 10)) 64 false,
  o2 66 (.binOp .geq 3 (.tmp 65) (.const (.int .i64 192)) 3) 64 false,
  o1 67 (.pick (.tmp 64) (.const (.bool true)) (.tmp 66))]) (.cond (.tmp 67) (.seq (.reg []
  [o1 4 (.assign (.const (.int .i64 0)))]) (.ret)) (.skip))) (.reg []
  [o1 68 (.move (.tmp 7)),
  o1 69 (.binOp .mul 3 (.tmp 68) (.const (.int .i64 64)) 3),
  o1 70 (.move (.tmp 10)),
  o1 71 (.binOp .add 3 (.tmp 69) (.tmp 70) 3),
  o1 72 (.binOp .sub 3 (.tmp 71) (.const (.int .i64 128)) 3),
  o1 7 (.assign (.tmp 72))])))) (.reg []
  [o1 54 (.move (.tmp 9)),
  o1 55 (.binOp .add 3 (.tmp 54) (.const (.int .i64 1)) 3),
  o1 9 (.assign (.tmp 55))])))))) (.seq (.seq (.reg []
  [o1 73 (.move (.tmp 7)),
  o1 74 (.move (.tmp 8)),
  o1 75 (.binOp .lss 3 (.tmp 73) (.tmp 74) 3),
  o1 76 (.move (.tmp 75)),
  o2 77 (.move (.tmp 7)) 76 false,
  o2 78 (.binOp .gtr 3 (.tmp 77) (.const (.int .i64 1114111)) 3) 76 false,
  o1 79 (.pick (.tmp 76) (.const (.bool true)) (.tmp 78)),
  o1 80 (.move (.tmp 79)),
  o2 81 (.move (.tmp 7)) 80 false,
  o2 82 (.binOp .geq 3 (.tmp 81) (.const (.int .i64 55296)) 3) 80 false,
  o2 83 (.move (.tmp 82)) 80 false,
  o2 84 (.move (.tmp 7)) 83 true,
  o2 85 (.binOp .leq 3 (.tmp 84) (.const (.int .i64 57343)) 3) 83 true,
  o2 86 (.pick (.tmp 83) (.tmp 85) (.const (.bool false))) 80 false,
  o1 87 (.pick (.tmp 80) (.const (.bool true)) (.tmp 86))]) (.cond (.tmp 87) (.seq (.reg []
  [o1 4 (.assign (.const (.int .i64 0)))]) (.ret)) (.skip))) (.seq (.reg []
  [o1 88 (.move (.tmp 6)),
  o1 89 (.binOp .add 3 (.tmp 88) (.const (.int .i64 1)) 3),
  o1 4 (.assign (.tmp 89))]) (.ret)))))))))))
def ms28_0 : List Nat := [2, 3, 4, 5, 7, 9, 10, 11, 12, 13, 14, 15, 16, 17, 18, 19, 20, 21, 22, 23, 24, 25, 26, 27, 28, 29, 30, 31, 32, 33, 34, 35, 36, 37, 38, 39, 40, 41, 42, 43, 44, 45, 46, 47, 48, 49, 50, 51, 52, 53, 54, 55, 56, 57, 58, 59, 60, 61, 62, 63, 64, 65, 66, 67, 68, 69, 70, 71, 72]
theorem ls28 : Tryd.f28.body.map (strip Tryd.prog impCodD) = some lc28 := by kernel_rfl
theorem lcall28 : LC 28 90 lc28 [.tmp 4] := LC.of Tryd.func28 (by kernel_rfl) ls28 (by kernel_rfl) (by kernel_rfl)
/-- escutcheon/escutcheonref20.Right -/
def lc14 : LCode := .seq (.reg []
  [o1 2 (.assign (.const (.bool false)))]) (.seq (.seq (.reg []
  [o1 3 (.assign (.const (.int .i64 0)))]) (.block 0 (.loop (.seq (.seq (.reg []
  [o1 5 (.move (.tmp 3)),
  o1 6 (.move (.tmp 0)),
  o1 7 (.call ⟨.builtin .len, #[.tmp 6], #[9]⟩),
  o1 8 (.binOp .lss 3 (.tmp 5) (.tmp 7) 3)]) (.cond (.tmp 8) (.skip) (.exit 0))) (.block 1 (.seq (.reg []
  [o1 9 (.move (.tmp 0)),
  o1 10 (.move (.tmp 3)),
  o1 11 (.call ⟨.value (.func 28), #[.tmp 9, .tmp 10], #[9, 3]⟩),
  o1 4 (.assign (.tmp 11))]) (.seq (.seq (.reg []
  [o1 12 (.move (.tmp 4)),
  o1 13 (.binOp .eql 3 (.tmp 12) (.const (.int .i64 0)) 3)]) (.cond (.tmp 13) (.seq (.reg []
  [o1 2 (.assign (.const (.bool false)))]) (.ret)) (.skip))) (.reg []
  [o1 14 (.move (.tmp 3)),
  o1 15 (.move (.tmp 4)),
  o1 16 (.binOp .add 3 (.tmp 14) (.tmp 15) 3),
  o1 3 (.assign (.tmp 16))])))))))) (.seq (.reg []
  [o1 2 (.assign (.const (.bool true)))]) (.ret)))
def ms14_0 : List Nat := [1, 2, 3, 4, 5, 6, 7, 8, 9, 10, 11, 12, 13, 14, 15, 16]
theorem ls14 : Tryd.f14.body.map (strip Tryd.prog impCodD) = some lc14 := by kernel_rfl
theorem lcall14 : LC 14 17 lc14 [.tmp 2] := LC.of Tryd.func14 (by kernel_rfl) ls14 (by kernel_rfl) (by kernel_rfl)
/-- escutcheon/escutcheonlaw20.Ref -/
def lc18 : LCode := .seq (.reg []
  [o1 1 (.box 26 (.tmp 0)),
  o1 2 (.alloc 45)]) (.seq (.reg []
  [o1 6 (.fieldAddr 26 (.tmp 1) 0),
  o1 7 (.load 22 (.tmp 6)),
  o1 8 (.fieldAddr 26 (.tmp 1) 1),
  o1 9 (.load 9 (.tmp 8)),
  o1 10 (.fieldAddr 26 (.tmp 1) 2),
  o1 11 (.load 23 (.tmp 10)),
  o1 12 (.build 45 #[(0, .tmp 7), (1, .tmp 9), (2, .tmp 11)]),
  o1 3 (.alloc 45),
  o3 (.store 45 (.tmp 3) (.tmp 12))]) (.seq (.seq (.reg []
  [o1 13 (.fieldAddr 26 (.tmp 1) 3),
  o1 14 (.load 24 (.tmp 13)),
  o1 15 (.call ⟨.builtin .len, #[.tmp 14], #[24]⟩),
  o1 16 (.move (.const (.int .i64 0)))]) (.block 0 (.loop (.seq (.reg []
  [o1 17 (.binOp .lss 3 (.tmp 16) (.tmp 15) 3)]) (.seq (.cond (.tmp 17) (.skip) (.exit 0)) (.seq (.block 1 (.seq (.reg []
  [o1 18 (.indexAddr 24 (.tmp 14) (.tmp 16)),
  o1 19 (.load 26 (.tmp 18)),
  o1 5 (.alloc 26),
  o3 (.store 26 (.tmp 5) (.tmp 19))]) (.reg [o1 20 (.fieldAddr 45 (.tmp 3) 3),
  o1 21 (.load 43 (.tmp 20)),
  o1 22 (.load 26 (.tmp 5)),
  o1 23 (.call ⟨.value (.func 18), #[.tmp 22], #[26]⟩),
  o1 24 (.buildSlice 43 1 #[(0, .tmp 23)])]
  [o1 25 (.call ⟨.builtin .append, #[.tmp 21, .tmp 24], #[43, 43]⟩),
  o1 26 (.fieldAddr 45 (.tmp 3) 3),
  o3 (.store 43 (.tmp 26) (.tmp 25))]))) (.reg []
  [o1 27 (.binOp .add 3 (.tmp 16) (.const (.int .i64 1)) 3),
  o1 16 (.move (.tmp 27))]))))))) (.seq (.reg []
  [o1 28 (.load 45 (.tmp 3)),
  o3 (.store 45 (.tmp 2) (.tmp 28))]) (.ret))))
def ms18_0 : List Nat := [0, 1, 4, 5, 6, 7, 8, 9, 10, 11, 12, 13, 16, 17, 18, 19, 20, 21, 22, 23, 24, 25, 26, 27]
theorem ls18 : Tryd.f18.body.map (strip Tryd.prog impCodD) = some lc18 := by kernel_rfl
theorem lcall18 : LC 18 29 lc18 [.cell 2 45] := LC.of Tryd.func18 (by kernel_rfl) ls18 (by kernel_rfl) (by kernel_rfl)
end Go.Abs.S
