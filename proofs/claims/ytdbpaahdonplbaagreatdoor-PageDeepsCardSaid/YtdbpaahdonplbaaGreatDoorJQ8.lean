/- Code, as it is looked at; written by wip/leancode.py. The document's numbers: is, digits, Number. The document's Rune; written by gen_rune.py. -/
import Derived.Test.YtdbpaahdonplbaaGreatDoorJQ3
namespace Go.Abs.S
open Go.Proofs
set_option maxRecDepth 100000
def impCodD : FuncId → Bool := fun f => f == 17 || f == 18 || f == 19 || f == 20 || f == 21 || f == 29 || f == 31 || f == 32 || f == 33 || f == 34 || f == 40 || f == 46 || f == 47 || f == 68
/-- escutcheon/escutcheonref20.is -/
def lc25 : LCode := .seq (.reg []
  [o1 6 (.assign (.const (.bool false)))]) (.seq (.reg []
  [o1 7 (.move (.tmp 1)),
  o1 8 (.move (.tmp 2)),
  o1 9 (.call ⟨.builtin .len, #[.tmp 8], #[9]⟩),
  o1 10 (.binOp .add 3 (.tmp 7) (.tmp 9) 3),
  o1 11 (.move (.tmp 0)),
  o1 12 (.call ⟨.builtin .len, #[.tmp 11], #[9]⟩),
  o1 13 (.binOp .leq 3 (.tmp 10) (.tmp 12) 3),
  o1 14 (.move (.tmp 13)),
  o2 15 (.move (.tmp 0)) 14 true,
  o2 16 (.move (.tmp 1)) 14 true,
  o2 17 (.move (.tmp 1)) 14 true,
  o2 18 (.move (.tmp 2)) 14 true,
  o2 19 (.call ⟨.builtin .len, #[.tmp 18], #[9]⟩) 14 true,
  o2 20 (.binOp .add 3 (.tmp 17) (.tmp 19) 3) 14 true,
  o2 21 (.slice 9 (.tmp 15) (some (.tmp 16)) (some (.tmp 20)) none) 14 true,
  o2 22 (.move (.tmp 2)) 14 true,
  o2 23 (.binOp .eql 9 (.tmp 21) (.tmp 22) 9) 14 true,
  o1 24 (.pick (.tmp 14) (.tmp 23) (.const (.bool false))),
  o1 6 (.assign (.tmp 24))]) (.ret))
theorem ls25 : Tryz.f25.body.map (strip Tryz.prog impCodD) = some lc25 := by kernel_rfl
theorem lcall25 : LC 25 25 lc25 [.tmp 6] := LC.of Tryz.func25 (by kernel_rfl) ls25 (by kernel_rfl) (by kernel_rfl)
/-- escutcheon/escutcheonref20.digits -/
def lc26 : LCode := .seq (.reg []
  [o1 4 (.assign (.const (.int .i64 0)))]) (.seq (.block 0 (.loop (.seq (.seq (.reg []
  [o1 5 (.move (.tmp 1)),
  o1 6 (.move (.tmp 0)),
  o1 7 (.call ⟨.builtin .len, #[.tmp 6], #[9]⟩),
  o1 8 (.binOp .lss 3 (.tmp 5) (.tmp 7) 3),
  o1 9 (.move (.tmp 8)),
  o2 10 (.move (.tmp 0)) 9 true,
  o2 11 (.move (.tmp 1)) 9 true,
  o2 12 (.index 9 (.tmp 10) (.tmp 11)) 9 true,
  o2 13 (.binOp .geq 5 (.tmp 12) (.const (.int .u8 48)) 5) 9 true,
  o1 14 (.pick (.tmp 9) (.tmp 13) (.const (.bool false))),
  o1 15 (.move (.tmp 14)),
  o2 16 (.move (.tmp 0)) 15 true,
  o2 17 (.move (.tmp 1)) 15 true,
  o2 18 (.index 9 (.tmp 16) (.tmp 17)) 15 true,
  o2 19 (.binOp .leq 5 (.tmp 18) (.const (.int .u8 57)) 5) 15 true,
  o1 20 (.pick (.tmp 15) (.tmp 19) (.const (.bool false)))]) (.cond (.tmp 20) (.skip) (.exit 0))) (.block 1 (.reg []
  [o1 21 (.move (.tmp 1)),
  o1 22 (.binOp .add 3 (.tmp 21) (.const (.int .i64 1)) 3),
  o1 1 (.assign (.tmp 22))]))))) (.seq (.reg []
  [o1 23 (.move (.tmp 1)),
  o1 4 (.assign (.tmp 23))]) (.ret)))
def ms26_0 : List Nat := [1, 2, 3, 5, 6, 7, 8, 9, 10, 11, 12, 13, 14, 15, 16, 17, 18, 19, 20, 21, 22]
theorem ls26 : Tryz.f26.body.map (strip Tryz.prog impCodD) = some lc26 := by kernel_rfl
theorem lcall26 : LC 26 24 lc26 [.tmp 4] := LC.of Tryz.func26 (by kernel_rfl) ls26 (by kernel_rfl) (by kernel_rfl)
/-- escutcheon/escutcheonref20.Number -/
def lc13 : LCode := .seq (.reg []
  [o1 4 (.assign (.const (.int .i64 0)))]) (.seq (.reg []
  [o1 10 (.move (.tmp 1)),
  o1 5 (.assign (.tmp 10))]) (.seq (.seq (.reg []
  [o1 11 (.move (.tmp 0)),
  o1 12 (.move (.tmp 5)),
  o1 13 (.call ⟨.value (.func 25), #[.tmp 11, .tmp 12, .const (.string { data := #[45] })], #[9, 3, 9]⟩)]) (.cond (.tmp 13) (.reg []
  [o1 14 (.move (.tmp 5)),
  o1 15 (.binOp .add 3 (.tmp 14) (.const (.int .i64 1)) 3),
  o1 5 (.assign (.tmp 15))]) (.skip))) (.seq (.seq (.reg []
  [o1 16 (.move (.tmp 0)),
  o1 17 (.move (.tmp 5)),
  o1 18 (.call ⟨.value (.func 25), #[.tmp 16, .tmp 17, .const (.string { data := #[48] })], #[9, 3, 9]⟩)]) (.cond (.tmp 18) (.reg []
  [o1 19 (.move (.tmp 5)),
  o1 20 (.binOp .add 3 (.tmp 19) (.const (.int .i64 1)) 3),
  o1 5 (.assign (.tmp 20))]) (.seq (.reg []
  [o1 21 (.move (.tmp 0)),
  o1 22 (.move (.tmp 5)),
  o1 23 (.call ⟨.value (.func 26), #[.tmp 21, .tmp 22], #[9, 3]⟩),
  o1 6 (.assign (.tmp 23))]) (.seq (.seq (.reg []
  [o1 24 (.move (.tmp 6)),
  o1 25 (.move (.tmp 5)),
  o1 26 (.binOp .eql 3 (.tmp 24) (.tmp 25) 3)]) (.cond (.tmp 26) (.seq (.reg []
  [o1 27 (.move (.tmp 1)),
  o1 4 (.assign (.tmp 27))]) (.ret)) (.skip))) (.reg []
  [o1 28 (.move (.tmp 6)),
  o1 5 (.assign (.tmp 28))]))))) (.seq (.seq (.reg []
  [o1 29 (.move (.tmp 0)),
  o1 30 (.move (.tmp 5)),
  o1 31 (.call ⟨.value (.func 25), #[.tmp 29, .tmp 30, .const (.string { data := #[46] })], #[9, 3, 9]⟩)]) (.cond (.tmp 31) (.seq (.reg []
  [o1 32 (.move (.tmp 0)),
  o1 33 (.move (.tmp 5)),
  o1 34 (.binOp .add 3 (.tmp 33) (.const (.int .i64 1)) 3),
  o1 35 (.call ⟨.value (.func 26), #[.tmp 32, .tmp 34], #[9, 3]⟩),
  o1 7 (.assign (.tmp 35))]) (.seq (.seq (.reg []
  [o1 36 (.move (.tmp 7)),
  o1 37 (.move (.tmp 5)),
  o1 38 (.binOp .add 3 (.tmp 37) (.const (.int .i64 1)) 3),
  o1 39 (.binOp .eql 3 (.tmp 36) (.tmp 38) 3)]) (.cond (.tmp 39) (.seq (.reg []
  [o1 40 (.move (.tmp 1)),
  o1 4 (.assign (.tmp 40))]) (.ret)) (.skip))) (.reg []
  [o1 41 (.move (.tmp 7)),
  o1 5 (.assign (.tmp 41))]))) (.skip))) (.seq (.seq (.reg []
  [o1 42 (.move (.tmp 0)),
  o1 43 (.move (.tmp 5)),
  o1 44 (.call ⟨.value (.func 25), #[.tmp 42, .tmp 43, .const (.string { data := #[101] })], #[9, 3, 9]⟩),
  o1 45 (.move (.tmp 44)),
  o2 46 (.move (.tmp 0)) 45 false,
  o2 47 (.move (.tmp 5)) 45 false,
  o2 48 (.call ⟨.value (.func 25), #[.tmp 46, .tmp 47, .const (.string { data := #[69] })], #[9, 3, 9]⟩) 45 false,
  o1 49 (.pick (.tmp 45) (.const (.bool true)) (.tmp 48))]) (.cond (.tmp 49) (.seq (.reg []
  [o1 50 (.move (.tmp 5)),
  o1 51 (.binOp .add 3 (.tmp 50) (.const (.int .i64 1)) 3),
  o1 8 (.assign (.tmp 51))]) (.seq (.seq (.reg []
  [o1 52 (.move (.tmp 0)),
  o1 53 (.move (.tmp 8)),
  o1 54 (.call ⟨.value (.func 25), #[.tmp 52, .tmp 53, .const (.string { data := #[43] })], #[9, 3, 9]⟩),
  o1 55 (.move (.tmp 54)),
  o2 56 (.move (.tmp 0)) 55 false,
  o2 57 (.move (.tmp 8)) 55 false,
  o2 58 (.call ⟨.value (.func 25), #[.tmp 56, .tmp 57, .const (.string { data := #[45] })], #[9, 3, 9]⟩) 55 false,
  o1 59 (.pick (.tmp 55) (.const (.bool true)) (.tmp 58))]) (.cond (.tmp 59) (.reg []
  [o1 60 (.move (.tmp 8)),
  o1 61 (.binOp .add 3 (.tmp 60) (.const (.int .i64 1)) 3),
  o1 8 (.assign (.tmp 61))]) (.skip))) (.seq (.reg []
  [o1 62 (.move (.tmp 0)),
  o1 63 (.move (.tmp 8)),
  o1 64 (.call ⟨.value (.func 26), #[.tmp 62, .tmp 63], #[9, 3]⟩),
  o1 9 (.assign (.tmp 64))]) (.seq (.seq (.reg []
  [o1 65 (.move (.tmp 9)),
  o1 66 (.move (.tmp 8)),
  o1 67 (.binOp .eql 3 (.tmp 65) (.tmp 66) 3)]) (.cond (.tmp 67) (.seq (.reg []
  [o1 68 (.move (.tmp 1)),
  o1 4 (.assign (.tmp 68))]) (.ret)) (.skip))) (.reg []
  [o1 69 (.move (.tmp 9)),
  o1 5 (.assign (.tmp 69))]))))) (.skip))) (.seq (.reg []
  [o1 70 (.move (.tmp 5)),
  o1 4 (.assign (.tmp 70))]) (.ret)))))))
def mj13_0 : List Nat := [2, 3, 5, 10, 11, 12, 13, 14, 15]
def mj13_1 : List Nat := [2, 3, 4, 5, 6, 10, 11, 12, 13, 14, 15, 16, 17, 18, 19, 20, 21, 22, 23, 24, 25, 26, 27, 28]
def mj13_2 : List Nat := [2, 3, 4, 10, 11, 12, 13, 14, 15, 16, 17, 18, 19, 20, 21, 22, 23, 24, 25, 26, 27]
def mj13_3 : List Nat := [2, 3, 4, 5, 6, 7, 10, 11, 12, 13, 14, 15, 16, 17, 18, 19, 20, 21, 22, 23, 24, 25, 26, 27, 28, 29, 30, 31, 32, 33, 34, 35, 36, 37, 38, 39, 40, 41]
def mj13_4 : List Nat := [2, 3, 4, 6, 10, 11, 12, 13, 14, 15, 16, 17, 18, 19, 20, 21, 22, 23, 24, 25, 26, 27, 28, 29, 30, 31, 32, 33, 34, 35, 36, 37, 38, 39, 40]
def mj13_5 : List Nat := [0, 1, 2, 3, 4, 5, 6, 7, 8, 9, 10, 11, 12, 13, 14, 15, 16, 17, 18, 19, 20, 21, 22, 23, 24, 25, 26, 27, 28, 29, 30, 31, 32, 33, 34, 35, 36, 37, 38, 39, 40, 41, 42, 43, 44, 45, 46, 47, 48, 49, 50, 51, 52, 53, 54, 55, 56, 57, 58, 59, 60, 61, 62, 63, 64, 65, 66, 67, 68, 69]
def mj13_6 : List Nat := [2, 3, 6, 7, 8, 10, 11, 12, 13, 14, 15, 16, 17, 18, 19, 20, 21, 22, 23, 24, 25, 26, 27, 28, 29, 30, 31, 32, 33, 34, 35, 36, 37, 38, 39, 40, 41, 42, 43, 44, 45, 46, 47, 48, 49, 50, 51, 52, 53, 54, 55, 56, 57, 58, 59, 60, 61]
def mj13_7 : List Nat := [0, 1, 2, 3, 4, 6, 7, 8, 10, 11, 12, 13, 14, 15, 16, 17, 18, 19, 20, 21, 22, 23, 24, 25, 26, 27, 28, 29, 30, 31, 32, 33, 34, 35, 36, 37, 38, 39, 40, 41, 42, 43, 44, 45, 46, 47, 48, 49, 50, 51, 52, 53, 54, 55, 56, 57, 58, 59, 60, 61, 62, 63, 64, 65, 66, 67, 68]
theorem ls13 : Tryz.f13.body.map (strip Tryz.prog impCodD) = some lc13 := by kernel_rfl
theorem lcall13 : LC 13 71 lc13 [.tmp 4] := LC.of Tryz.func13 (by kernel_rfl) ls13 (by kernel_rfl) (by kernel_rfl)
/-- escutcheon/escutcheonref20.Rune -/
def lc27 : LCode := .seq (.reg []
  [o1 4 (.assign (.const (.int .i64 0)))]) (.seq (.reg []
  [o1 11 (.move (.tmp 0)),
  o1 12 (.move (.tmp 1)),
  o1 13 (.index 9 (.tmp 11) (.tmp 12)),
  o1 14 (.convert 5 3 (.tmp 13)),
  o1 5 (.assign (.tmp 14))]) (.seq (.reg []
  [o1 6 (.assign (.const (.int .i64 0))),
  o1 7 (.assign (.const (.int .i64 0))),
  o1 8 (.assign (.const (.int .i64 0)))]) (.seq (.seq (.reg []
  [o1 15 (.move (.tmp 5)),
  o1 16 (.binOp .lss 3 (.tmp 15) (.const (.int .i64 128)) 3)]) (.cond (.tmp 16) (.seq (.reg []
  [o1 4 (.assign (.const (.int .i64 1)))]) (.ret)) (.skip))) (.seq (.seq (.reg []
  [o1 17 (.move (.tmp 5)),
  o1 18 (.binOp .geq 3 (.tmp 17) (.const (.int .i64 194)) 3),
  o1 19 (.move (.tmp 18)),
  o2 20 (.move (.tmp 5)) 19 true,
  o2 21 (.binOp .lss 3 (.tmp 20) (.const (.int .i64 224)) 3) 19 true,
  o1 22 (.pick (.tmp 19) (.tmp 21) (.const (.bool false)))]) (.cond (.tmp 22) (.reg []
  [o1 23 (.move (.tmp 5)),
  o1 24 (.binOp .sub 3 (.tmp 23) (.const (.int .i64 192)) 3),
  o1 6 (.assign (.const (.int .i64 1))),
  o1 7 (.assign (.tmp 24)),
  o1 8 (.assign (.const (.int .i64 128)))]) (.skip))) (.seq (.seq (.reg []
  [o1 25 (.move (.tmp 5)),
  o1 26 (.binOp .geq 3 (.tmp 25) (.const (.int .i64 224)) 3),
  o1 27 (.move (.tmp 26)),
  o2 28 (.move (.tmp 5)) 27 true,
  o2 29 (.binOp .lss 3 (.tmp 28) (.const (.int .i64 240)) 3) 27 true,
  o1 30 (.pick (.tmp 27) (.tmp 29) (.const (.bool false)))]) (.cond (.tmp 30) (.reg []
  [o1 31 (.move (.tmp 5)),
  o1 32 (.binOp .sub 3 (.tmp 31) (.const (.int .i64 224)) 3),
  o1 6 (.assign (.const (.int .i64 2))),
  o1 7 (.assign (.tmp 32)),
  o1 8 (.assign (.const (.int .i64 2048)))]) (.skip))) (.seq (.seq (.reg []
  [o1 33 (.move (.tmp 5)),
  o1 34 (.binOp .geq 3 (.tmp 33) (.const (.int .i64 240)) 3),
  o1 35 (.move (.tmp 34)),
  o2 36 (.move (.tmp 5)) 35 true,
  o2 37 (.binOp .lss 3 (.tmp 36) (.const (.int .i64 245)) 3) 35 true,
  o1 38 (.pick (.tmp 35) (.tmp 37) (.const (.bool false)))]) (.cond (.tmp 38) (.reg []
  [o1 39 (.move (.tmp 5)),
  o1 40 (.binOp .sub 3 (.tmp 39) (.const (.int .i64 240)) 3),
  o1 6 (.assign (.const (.int .i64 3))),
  o1 7 (.assign (.tmp 40)),
  o1 8 (.assign (.const (.int .i64 65536)))]) (.skip))) (.seq (.seq (.reg []
  [o1 41 (.move (.tmp 6)),
  o1 42 (.binOp .eql 3 (.tmp 41) (.const (.int .i64 0)) 3),
  o1 43 (.move (.tmp 42)),
  o2 44 (.move (.tmp 1)) 43 false,
  o2 45 (.move (.tmp 6)) 43 false,
  o2 46 (.binOp .add 3 (.tmp 44) (.tmp 45) 3) 43 false,
  o2 47 (.move (.tmp 0)) 43 false,
  o2 48 (.call ⟨.builtin .len, #[.tmp 47], #[9]⟩) 43 false,
  o2 49 (.binOp .geq 3 (.tmp 46) (.tmp 48) 3) 43 false,
  o1 50 (.pick (.tmp 43) (.const (.bool true)) (.tmp 49))]) (.cond (.tmp 50) (.seq (.reg []
  [o1 4 (.assign (.const (.int .i64 0)))]) (.ret)) (.skip))) (.seq (.seq (.reg []
  [o1 9 (.assign (.const (.int .i64 1)))]) (.block 0 (.loop (.seq (.seq (.reg []
  [o1 51 (.move (.tmp 9)),
  o1 52 (.move (.tmp 6)),
  o1 53 (.binOp .leq 3 (.tmp 51) (.tmp 52) 3)]) (.cond (.tmp 53) (.skip) (.exit 0))) (.seq (.block 1 (.seq (.reg []
  [o1 56 (.move (.tmp 0)),
  o1 57 (.move (.tmp 1)),
  o1 58 (.move (.tmp 9)),
  o1 59 (.binOp .add 3 (.tmp 57) (.tmp 58) 3),
  o1 60 (.index 9 (.tmp 56) (.tmp 59)),
  o1 61 (.convert 5 3 (.tmp 60)),
  o1 10 (.assign (.tmp 61))]) (.seq (.seq (.reg []
  [o1 62 (.move (.tmp 10)),
  o1 63 (.binOp .lss 3 (.tmp 62) (.const (.int .i64 128)) 3),
  o1 64 (.move (.tmp 63)),
  o2 65 (.move (.tmp 10)) 64 false,
  o2 66 (.binOp .geq 3 (.tmp 65) (.const (.int .i64 192)) 3) 64 false,
  o1 67 (.pick (.tmp 64) (.const (.bool true)) (.tmp 66))]) (.cond (.tmp 67) (.seq (.reg []
  [o1 4 (.assign (.const (.int .i64 0)))]) (.ret)) (.skip))) (.reg []
  [o1 68 (.move (.tmp 7)),
  o1 69 (.binOp .mul 3 (.tmp 68) (.const (.int .i64 64)) 3),
  o1 70 (.move (.tmp 10)),
  o1 71 (.binOp .add 3 (.tmp 69) (.tmp 70) 3),
  o1 72 (.binOp .sub 3 (.tmp 71) (.const (.int .i64 128)) 3),
  o1 7 (.assign (.tmp 72))])))) (.reg []
  [o1 54 (.move (.tmp 9)),
  o1 55 (.binOp .add 3 (.tmp 54) (.const (.int .i64 1)) 3),
  o1 9 (.assign (.tmp 55))])))))) (.seq (.seq (.reg []
  [o1 73 (.move (.tmp 7)),
  o1 74 (.move (.tmp 8)),
  o1 75 (.binOp .lss 3 (.tmp 73) (.tmp 74) 3),
  o1 76 (.move (.tmp 75)),
  o2 77 (.move (.tmp 7)) 76 false,
  o2 78 (.binOp .gtr 3 (.tmp 77) (.const (.int .i64 1114111)) 3) 76 false,
  o1 79 (.pick (.tmp 76) (.const (.bool true)) (.tmp 78)),
  o1 80 (.move (.tmp 79)),
  o2 81 (.move (.tmp 7)) 80 false,
  o2 82 (.binOp .geq 3 (.tmp 81) (.const (.int .i64 55296)) 3) 80 false,
  o2 83 (.move (.tmp 82)) 80 false,
  o2 84 (.move (.tmp 7)) 83 true,
  o2 85 (.binOp .leq 3 (.tmp 84) (.const (.int .i64 57343)) 3) 83 true,
  o2 86 (.pick (.tmp 83) (.tmp 85) (.const (.bool false))) 80 false,
  o1 87 (.pick (.tmp 80) (.const (.bool true)) (.tmp 86))]) (.cond (.tmp 87) (.seq (.reg []
  [o1 4 (.assign (.const (.int .i64 0)))]) (.ret)) (.skip))) (.seq (.reg []
  [o1 88 (.move (.tmp 6)),
  o1 89 (.binOp .add 3 (.tmp 88) (.const (.int .i64 1)) 3),
  o1 4 (.assign (.tmp 89))]) (.ret)))))))))))
def ms27_0 : List Nat := [2, 3, 4, 5, 7, 9, 10, 11, 12, 13, 14, 15, 16, 17, 18, 19, 20, 21, 22, 23, 24, 25, 26, 27, 28, 29, 30, 31, 32, 33, 34, 35, 36, 37, 38, 39, 40, 41, 42, 43, 44, 45, 46, 47, 48, 49, 50, 51, 52, 53, 54, 55, 56, 57, 58, 59, 60, 61, 62, 63, 64, 65, 66, 67, 68, 69, 70, 71, 72]
theorem ls27 : Tryz.f27.body.map (strip Tryz.prog impCodD) = some lc27 := by kernel_rfl
theorem lcall27 : LC 27 90 lc27 [.tmp 4] := LC.of Tryz.func27 (by kernel_rfl) ls27 (by kernel_rfl) (by kernel_rfl)
/-- escutcheon/escutcheonref20.Right -/
def lc14 : LCode := .seq (.reg []
  [o1 2 (.assign (.const (.bool false)))]) (.seq (.seq (.reg []
  [o1 3 (.assign (.const (.int .i64 0)))]) (.block 0 (.loop (.seq (.seq (.reg []
  [o1 5 (.move (.tmp 3)),
  o1 6 (.move (.tmp 0)),
  o1 7 (.call ⟨.builtin .len, #[.tmp 6], #[9]⟩),
  o1 8 (.binOp .lss 3 (.tmp 5) (.tmp 7) 3)]) (.cond (.tmp 8) (.skip) (.exit 0))) (.block 1 (.seq (.reg []
  [o1 9 (.move (.tmp 0)),
  o1 10 (.move (.tmp 3)),
  o1 11 (.call ⟨.value (.func 27), #[.tmp 9, .tmp 10], #[9, 3]⟩),
  o1 4 (.assign (.tmp 11))]) (.seq (.seq (.reg []
  [o1 12 (.move (.tmp 4)),
  o1 13 (.binOp .eql 3 (.tmp 12) (.const (.int .i64 0)) 3)]) (.cond (.tmp 13) (.seq (.reg []
  [o1 2 (.assign (.const (.bool false)))]) (.ret)) (.skip))) (.reg []
  [o1 14 (.move (.tmp 3)),
  o1 15 (.move (.tmp 4)),
  o1 16 (.binOp .add 3 (.tmp 14) (.tmp 15) 3),
  o1 3 (.assign (.tmp 16))])))))))) (.seq (.reg []
  [o1 2 (.assign (.const (.bool true)))]) (.ret)))
def ms14_0 : List Nat := [1, 2, 3, 4, 5, 6, 7, 8, 9, 10, 11, 12, 13, 14, 15, 16]
theorem ls14 : Tryz.f14.body.map (strip Tryz.prog impCodD) = some lc14 := by kernel_rfl
theorem lcall14 : LC 14 17 lc14 [.tmp 2] := LC.of Tryz.func14 (by kernel_rfl) ls14 (by kernel_rfl) (by kernel_rfl)
/-- escutcheon/escutcheonref20.has -/
def lc15 : LCode := .seq (.reg []
  [o1 4 (.assign (.const (.bool false)))]) (.seq (.seq (.reg []
  [o1 6 (.move (.tmp 0)),
  o1 7 (.call ⟨.builtin .len, #[.tmp 6], #[23]⟩),
  o1 8 (.move (.const (.int .i64 0)))]) (.block 0 (.loop (.seq (.reg []
  [o1 9 (.binOp .lss 3 (.tmp 8) (.tmp 7) 3)]) (.seq (.cond (.tmp 9) (.skip) (.exit 0)) (.seq (.block 1 (.seq (.reg []
  [o1 10 (.move (.tmp 8)),
  o1 5 (.assign (.tmp 10))]) (.seq (.reg []
  [o1 11 (.move (.tmp 0)),
  o1 12 (.move (.tmp 5)),
  o1 13 (.indexAddr 23 (.tmp 11) (.tmp 12)),
  o1 14 (.load 9 (.tmp 13)),
  o1 15 (.move (.tmp 1)),
  o1 16 (.binOp .eql 9 (.tmp 14) (.tmp 15) 9)]) (.cond (.tmp 16) (.seq (.reg []
  [o1 4 (.assign (.const (.bool true)))]) (.ret)) (.skip))))) (.reg []
  [o1 17 (.binOp .add 3 (.tmp 8) (.const (.int .i64 1)) 3),
  o1 8 (.move (.tmp 17))]))))))) (.seq (.reg []
  [o1 4 (.assign (.const (.bool false)))]) (.ret)))
def ms15_0 : List Nat := [2, 3, 4, 5, 6, 8, 9, 10, 11, 12, 13, 14, 15, 16, 17]
theorem ls15 : Tryz.f15.body.map (strip Tryz.prog impCodD) = some lc15 := by kernel_rfl
theorem lcall15 : LC 15 18 lc15 [.tmp 4] := LC.of Tryz.func15 (by kernel_rfl) ls15 (by kernel_rfl) (by kernel_rfl)
/-- escutcheon/escutcheonref20.Good -/
def lc7 : LCode := .seq (.reg []
  [o1 2 (.box 32 (.tmp 0)),
  o1 4 (.assign (.const (.int .i64 0)))]) (.seq (.seq (.reg []
  [o1 10 (.move (.tmp 1)),
  o1 11 (.binOp .gtr 3 (.tmp 10) (.const (.int .i64 8)) 3)]) (.cond (.tmp 11) (.seq (.reg []
  [o1 4 (.assign (.const (.int .i64 9)))]) (.ret)) (.skip))) (.seq (.reg []
  [o1 12 (.fieldAddr 32 (.tmp 2) 0),
  o1 13 (.load 3 (.tmp 12)),
  o1 14 (.binOp .lss 3 (.tmp 13) (.const (.int .i64 0)) 3),
  o1 15 (.move (.tmp 14)),
  o2 16 (.fieldAddr 32 (.tmp 2) 0) 15 false,
  o2 17 (.load 3 (.tmp 16)) 15 false,
  o2 18 (.binOp .gtr 3 (.tmp 17) (.const (.int .i64 6)) 3) 15 false,
  o1 19 (.pick (.tmp 15) (.const (.bool true)) (.tmp 18)),
  o1 20 (.move (.tmp 19)),
  o2 21 (.fieldAddr 32 (.tmp 2) 0) 20 false,
  o2 22 (.load 3 (.tmp 21)) 20 false,
  o2 23 (.binOp .neq 3 (.tmp 22) (.const (.int .i64 6)) 3) 20 false,
  o2 24 (.move (.tmp 23)) 20 false,
  o2 25 (.fieldAddr 32 (.tmp 2) 2) 24 true,
  o2 26 (.load 23 (.tmp 25)) 24 true,
  o2 27 (.call ⟨.builtin .len, #[.tmp 26], #[23]⟩) 24 true,
  o2 28 (.binOp .gtr 3 (.tmp 27) (.const (.int .i64 0)) 3) 24 true,
  o2 29 (.pick (.tmp 24) (.tmp 28) (.const (.bool false))) 20 false,
  o1 30 (.pick (.tmp 20) (.const (.bool true)) (.tmp 29)),
  o1 31 (.move (.tmp 30)),
  o2 32 (.fieldAddr 32 (.tmp 2) 0) 31 false,
  o2 33 (.load 3 (.tmp 32)) 31 false,
  o2 34 (.binOp .lss 3 (.tmp 33) (.const (.int .i64 5)) 3) 31 false,
  o2 35 (.move (.tmp 34)) 31 false,
  o2 36 (.fieldAddr 32 (.tmp 2) 3) 35 true,
  o2 37 (.load 30 (.tmp 36)) 35 true,
  o2 38 (.call ⟨.builtin .len, #[.tmp 37], #[30]⟩) 35 true,
  o2 39 (.binOp .gtr 3 (.tmp 38) (.const (.int .i64 0)) 3) 35 true,
  o2 40 (.pick (.tmp 35) (.tmp 39) (.const (.bool false))) 31 false,
  o1 41 (.pick (.tmp 31) (.const (.bool true)) (.tmp 40)),
  o1 42 (.move (.tmp 41)),
  o2 43 (.fieldAddr 32 (.tmp 2) 0) 42 false,
  o2 44 (.load 3 (.tmp 43)) 42 false,
  o2 45 (.binOp .neq 3 (.tmp 44) (.const (.int .i64 3)) 3) 42 false,
  o2 46 (.move (.tmp 45)) 42 false,
  o2 47 (.fieldAddr 32 (.tmp 2) 0) 46 true,
  o2 48 (.load 3 (.tmp 47)) 46 true,
  o2 49 (.binOp .neq 3 (.tmp 48) (.const (.int .i64 4)) 3) 46 true,
  o2 50 (.pick (.tmp 46) (.tmp 49) (.const (.bool false))) 42 false,
  o2 51 (.move (.tmp 50)) 42 false,
  o2 52 (.fieldAddr 32 (.tmp 2) 1) 51 true,
  o2 53 (.load 9 (.tmp 52)) 51 true,
  o2 54 (.binOp .neq 9 (.tmp 53) (.const (.string { data := #[] })) 9) 51 true,
  o2 55 (.pick (.tmp 51) (.tmp 54) (.const (.bool false))) 42 false,
  o1 56 (.pick (.tmp 42) (.const (.bool true)) (.tmp 55)),
  o1 57 (.move (.tmp 56)),
  o2 58 (.fieldAddr 32 (.tmp 2) 0) 57 false,
  o2 59 (.load 3 (.tmp 58)) 57 false,
  o2 60 (.binOp .eql 3 (.tmp 59) (.const (.int .i64 6)) 3) 57 false,
  o2 61 (.move (.tmp 60)) 57 false,
  o2 62 (.fieldAddr 32 (.tmp 2) 2) 61 true,
  o2 63 (.load 23 (.tmp 62)) 61 true,
  o2 64 (.call ⟨.builtin .len, #[.tmp 63], #[23]⟩) 61 true,
  o2 65 (.fieldAddr 32 (.tmp 2) 3) 61 true,
  o2 66 (.load 30 (.tmp 65)) 61 true,
  o2 67 (.call ⟨.builtin .len, #[.tmp 66], #[30]⟩) 61 true,
  o2 68 (.binOp .neq 3 (.tmp 64) (.tmp 67) 3) 61 true,
  o2 69 (.pick (.tmp 61) (.tmp 68) (.const (.bool false))) 57 false,
  o1 70 (.pick (.tmp 57) (.const (.bool true)) (.tmp 69)),
  o1 5 (.assign (.tmp 70))]) (.seq (.seq (.reg [o1 71 (.fieldAddr 32 (.tmp 2) 0),
  o1 72 (.load 3 (.tmp 71)),
  o1 73 (.binOp .eql 3 (.tmp 72) (.const (.int .i64 3)) 3),
  o1 74 (.move (.tmp 73)),
  o2 75 (.fieldAddr 32 (.tmp 2) 1) 74 true,
  o2 76 (.load 9 (.tmp 75)) 74 true,
  o2 77 (.binOp .eql 9 (.tmp 76) (.const (.string { data := #[] })) 9) 74 true,
  o2 78 (.move (.tmp 77)) 74 true,
  o2 79 (.fieldAddr 32 (.tmp 2) 1) 78 false,
  o2 80 (.load 9 (.tmp 79)) 78 false,
  o2 81 (.call ⟨.builtin .len, #[.tmp 80], #[9]⟩) 78 false,
  o2 82 (.binOp .gtr 3 (.tmp 81) (.const (.int .i64 40)) 3) 78 false,
  o2 83 (.pick (.tmp 78) (.const (.bool true)) (.tmp 82)) 74 true,
  o2 84 (.move (.tmp 83)) 74 true,
  o2 85 (.fieldAddr 32 (.tmp 2) 1) 84 false,
  o2 86 (.load 9 (.tmp 85)) 84 false,
  o2 87 (.call ⟨.value (.func 13), #[.tmp 86, .const (.int .i64 0)], #[9, 3]⟩) 84 false,
  o2 88 (.fieldAddr 32 (.tmp 2) 1) 84 false,
  o2 89 (.load 9 (.tmp 88)) 84 false,
  o2 90 (.call ⟨.builtin .len, #[.tmp 89], #[9]⟩) 84 false,
  o2 91 (.binOp .neq 3 (.tmp 87) (.tmp 90) 3) 84 false,
  o2 92 (.pick (.tmp 84) (.const (.bool true)) (.tmp 91)) 74 true,
  o1 93 (.pick (.tmp 74) (.tmp 92) (.const (.bool false))),
  o1 94 (.move (.tmp 93)),
  o2 95 (.fieldAddr 32 (.tmp 2) 0) 94 false,
  o2 96 (.load 3 (.tmp 95)) 94 false,
  o2 97 (.binOp .eql 3 (.tmp 96) (.const (.int .i64 4)) 3) 94 false,
  o2 98 (.move (.tmp 97)) 94 false,
  o2 99 (.fieldAddr 32 (.tmp 2) 1) 98 true,
  o2 100 (.load 9 (.tmp 99)) 98 true,
  o2 101 (.call ⟨.value (.func 14), #[.tmp 100], #[9]⟩) 98 true,
  o2 102 (.unOp .not 4 (.tmp 101)) 98 true,
  o2 103 (.pick (.tmp 98) (.tmp 102) (.const (.bool false))) 94 false,
  o1 104 (.pick (.tmp 94) (.const (.bool true)) (.tmp 103))]
  []) (.cond (.tmp 104) (.reg []
  [o1 5 (.assign (.const (.bool true)))]) (.skip))) (.seq (.seq (.reg []
  [o1 105 (.fieldAddr 32 (.tmp 2) 2),
  o1 106 (.load 23 (.tmp 105)),
  o1 107 (.call ⟨.builtin .len, #[.tmp 106], #[23]⟩),
  o1 108 (.move (.const (.int .i64 0)))]) (.block 0 (.loop (.seq (.reg []
  [o1 109 (.binOp .lss 3 (.tmp 108) (.tmp 107) 3)]) (.seq (.cond (.tmp 109) (.skip) (.exit 0)) (.seq (.block 1 (.seq (.reg []
  [o1 110 (.move (.tmp 108)),
  o1 6 (.assign (.tmp 110))]) (.reg []
  [o1 111 (.move (.tmp 5)),
  o1 112 (.move (.tmp 111)),
  o2 113 (.fieldAddr 32 (.tmp 2) 2) 112 false,
  o2 114 (.load 23 (.tmp 113)) 112 false,
  o2 115 (.move (.tmp 6)) 112 false,
  o2 116 (.indexAddr 23 (.tmp 114) (.tmp 115)) 112 false,
  o2 117 (.load 9 (.tmp 116)) 112 false,
  o2 118 (.call ⟨.value (.func 14), #[.tmp 117], #[9]⟩) 112 false,
  o2 119 (.unOp .not 4 (.tmp 118)) 112 false,
  o1 120 (.pick (.tmp 112) (.const (.bool true)) (.tmp 119)),
  o1 5 (.assign (.tmp 120))]))) (.reg []
  [o1 121 (.binOp .add 3 (.tmp 108) (.const (.int .i64 1)) 3),
  o1 108 (.move (.tmp 121))]))))))) (.seq (.seq (.reg []
  [o1 122 (.move (.tmp 5))]) (.cond (.tmp 122) (.seq (.reg []
  [o1 4 (.assign (.const (.int .i64 2)))]) (.ret)) (.skip))) (.seq (.seq (.reg []
  [o1 123 (.fieldAddr 32 (.tmp 2) 3),
  o1 124 (.load 30 (.tmp 123)),
  o1 125 (.call ⟨.builtin .len, #[.tmp 124], #[30]⟩),
  o1 126 (.binOp .gtr 3 (.tmp 125) (.const (.int .i64 64)) 3)]) (.cond (.tmp 126) (.seq (.reg []
  [o1 4 (.assign (.const (.int .i64 11)))]) (.ret)) (.skip))) (.seq (.seq (.reg []
  [o1 127 (.fieldAddr 32 (.tmp 2) 2),
  o1 128 (.load 23 (.tmp 127)),
  o1 129 (.call ⟨.builtin .len, #[.tmp 128], #[23]⟩),
  o1 130 (.move (.const (.int .i64 0)))]) (.block 2 (.loop (.seq (.reg []
  [o1 131 (.binOp .lss 3 (.tmp 130) (.tmp 129) 3)]) (.seq (.cond (.tmp 131) (.skip) (.exit 2)) (.seq (.block 3 (.seq (.reg []
  [o1 132 (.move (.tmp 130)),
  o1 7 (.assign (.tmp 132))]) (.seq (.reg [o1 133 (.fieldAddr 32 (.tmp 2) 2),
  o1 134 (.load 23 (.tmp 133)),
  o1 135 (.move (.tmp 7)),
  o1 136 (.slice 23 (.tmp 134) none (some (.tmp 135)) none),
  o1 137 (.fieldAddr 32 (.tmp 2) 2),
  o1 138 (.load 23 (.tmp 137)),
  o1 139 (.move (.tmp 7)),
  o1 140 (.indexAddr 23 (.tmp 138) (.tmp 139)),
  o1 141 (.load 9 (.tmp 140)),
  o1 142 (.call ⟨.value (.func 15), #[.tmp 136, .tmp 141], #[23, 9]⟩)]
  []) (.cond (.tmp 142) (.seq (.reg []
  [o1 4 (.assign (.const (.int .i64 10)))]) (.ret)) (.skip))))) (.reg []
  [o1 143 (.binOp .add 3 (.tmp 130) (.const (.int .i64 1)) 3),
  o1 130 (.move (.tmp 143))]))))))) (.seq (.seq (.reg []
  [o1 144 (.fieldAddr 32 (.tmp 2) 3),
  o1 145 (.load 30 (.tmp 144)),
  o1 146 (.call ⟨.builtin .len, #[.tmp 145], #[30]⟩),
  o1 147 (.move (.const (.int .i64 0)))]) (.block 4 (.loop (.seq (.reg []
  [o1 148 (.binOp .lss 3 (.tmp 147) (.tmp 146) 3)]) (.seq (.cond (.tmp 148) (.skip) (.exit 4)) (.seq (.block 5 (.seq (.reg []
  [o1 149 (.move (.tmp 147)),
  o1 8 (.assign (.tmp 149))]) (.seq (.reg []
  [o1 150 (.fieldAddr 32 (.tmp 2) 3),
  o1 151 (.load 30 (.tmp 150)),
  o1 152 (.move (.tmp 8)),
  o1 153 (.indexAddr 30 (.tmp 151) (.tmp 152)),
  o1 154 (.load 32 (.tmp 153)),
  o1 155 (.move (.tmp 1)),
  o1 156 (.binOp .add 3 (.tmp 155) (.const (.int .i64 1)) 3),
  o1 157 (.call ⟨.value (.func 7), #[.tmp 154, .tmp 156], #[32, 3]⟩),
  o1 9 (.assign (.tmp 157))]) (.seq (.reg []
  [o1 158 (.move (.tmp 9)),
  o1 159 (.binOp .neq 3 (.tmp 158) (.const (.int .i64 0)) 3)]) (.cond (.tmp 159) (.seq (.reg []
  [o1 160 (.move (.tmp 9)),
  o1 4 (.assign (.tmp 160))]) (.ret)) (.skip)))))) (.reg []
  [o1 161 (.binOp .add 3 (.tmp 147) (.const (.int .i64 1)) 3),
  o1 147 (.move (.tmp 161))]))))))) (.seq (.reg []
  [o1 4 (.assign (.const (.int .i64 0)))]) (.ret))))))))))
def ms7_0 : List Nat := [0, 3, 5, 6, 10, 11, 12, 13, 14, 15, 16, 17, 18, 19, 20, 21, 22, 23, 24, 25, 26, 27, 28, 29, 30, 31, 32, 33, 34, 35, 36, 37, 38, 39, 40, 41, 42, 43, 44, 45, 46, 47, 48, 49, 50, 51, 52, 53, 54, 55, 56, 57, 58, 59, 60, 61, 62, 63, 64, 65, 66, 67, 68, 69, 70, 71, 72, 73, 74, 75, 76, 77, 78, 79, 80, 81, 82, 83, 84, 85, 86, 87, 88, 89, 90, 91, 92, 93, 94, 95, 96, 97, 98, 99, 100, 101, 102, 103, 104, 105, 106, 108, 109, 110, 111, 112, 113, 114, 115, 116, 117, 118, 119, 120, 121]
def ms7_1 : List Nat := [0, 3, 4, 5, 6, 7, 10, 11, 12, 13, 14, 15, 16, 17, 18, 19, 20, 21, 22, 23, 24, 25, 26, 27, 28, 29, 30, 31, 32, 33, 34, 35, 36, 37, 38, 39, 40, 41, 42, 43, 44, 45, 46, 47, 48, 49, 50, 51, 52, 53, 54, 55, 56, 57, 58, 59, 60, 61, 62, 63, 64, 65, 66, 67, 68, 69, 70, 71, 72, 73, 74, 75, 76, 77, 78, 79, 80, 81, 82, 83, 84, 85, 86, 87, 88, 89, 90, 91, 92, 93, 94, 95, 96, 97, 98, 99, 100, 101, 102, 103, 104, 105, 106, 107, 108, 109, 110, 111, 112, 113, 114, 115, 116, 117, 118, 119, 120, 121, 122, 123, 124, 125, 126, 127, 128, 130, 131, 132, 133, 134, 135, 136, 137, 138, 139, 140, 141, 142, 143]
def ms7_2 : List Nat := [0, 3, 4, 5, 6, 7, 8, 9, 10, 11, 12, 13, 14, 15, 16, 17, 18, 19, 20, 21, 22, 23, 24, 25, 26, 27, 28, 29, 30, 31, 32, 33, 34, 35, 36, 37, 38, 39, 40, 41, 42, 43, 44, 45, 46, 47, 48, 49, 50, 51, 52, 53, 54, 55, 56, 57, 58, 59, 60, 61, 62, 63, 64, 65, 66, 67, 68, 69, 70, 71, 72, 73, 74, 75, 76, 77, 78, 79, 80, 81, 82, 83, 84, 85, 86, 87, 88, 89, 90, 91, 92, 93, 94, 95, 96, 97, 98, 99, 100, 101, 102, 103, 104, 105, 106, 107, 108, 109, 110, 111, 112, 113, 114, 115, 116, 117, 118, 119, 120, 121, 122, 123, 124, 125, 126, 127, 128, 129, 130, 131, 132, 133, 134, 135, 136, 137, 138, 139, 140, 141, 142, 143, 144, 145, 147, 148, 149, 150, 151, 152, 153, 154, 155, 156, 157, 158, 159, 160, 161]
theorem ls7 : Tryz.f7.body.map (strip Tryz.prog impCodD) = some lc7 := by kernel_rfl
theorem lcall7 : LC 7 162 lc7 [.tmp 4] := LC.of Tryz.func7 (by kernel_rfl) ls7 (by kernel_rfl) (by kernel_rfl)
/-- escutcheon/escutcheonlaw20.Ref -/
def lc8 : LCode := .seq (.reg []
  [o1 1 (.box 26 (.tmp 0)),
  o1 2 (.alloc 32)]) (.seq (.reg []
  [o1 6 (.fieldAddr 26 (.tmp 1) 0),
  o1 7 (.load 22 (.tmp 6)),
  o1 8 (.fieldAddr 26 (.tmp 1) 1),
  o1 9 (.load 9 (.tmp 8)),
  o1 10 (.fieldAddr 26 (.tmp 1) 2),
  o1 11 (.load 23 (.tmp 10)),
  o1 12 (.build 32 #[(0, .tmp 7), (1, .tmp 9), (2, .tmp 11)]),
  o1 3 (.alloc 32),
  o3 (.store 32 (.tmp 3) (.tmp 12))]) (.seq (.seq (.reg []
  [o1 13 (.fieldAddr 26 (.tmp 1) 3),
  o1 14 (.load 24 (.tmp 13)),
  o1 15 (.call ⟨.builtin .len, #[.tmp 14], #[24]⟩),
  o1 16 (.move (.const (.int .i64 0)))]) (.block 0 (.loop (.seq (.reg []
  [o1 17 (.binOp .lss 3 (.tmp 16) (.tmp 15) 3)]) (.seq (.cond (.tmp 17) (.skip) (.exit 0)) (.seq (.block 1 (.seq (.reg []
  [o1 18 (.indexAddr 24 (.tmp 14) (.tmp 16)),
  o1 19 (.load 26 (.tmp 18)),
  o1 5 (.alloc 26),
  o3 (.store 26 (.tmp 5) (.tmp 19))]) (.reg [o1 20 (.fieldAddr 32 (.tmp 3) 3),
  o1 21 (.load 30 (.tmp 20)),
  o1 22 (.load 26 (.tmp 5)),
  o1 23 (.call ⟨.value (.func 8), #[.tmp 22], #[26]⟩),
  o1 24 (.buildSlice 30 1 #[(0, .tmp 23)])]
  [o1 25 (.call ⟨.builtin .append, #[.tmp 21, .tmp 24], #[30, 30]⟩),
  o1 26 (.fieldAddr 32 (.tmp 3) 3),
  o3 (.store 30 (.tmp 26) (.tmp 25))]))) (.reg []
  [o1 27 (.binOp .add 3 (.tmp 16) (.const (.int .i64 1)) 3),
  o1 16 (.move (.tmp 27))]))))))) (.seq (.reg []
  [o1 28 (.load 32 (.tmp 3)),
  o3 (.store 32 (.tmp 2) (.tmp 28))]) (.ret))))
def ms8_0 : List Nat := [0, 1, 4, 5, 6, 7, 8, 9, 10, 11, 12, 13, 16, 17, 18, 19, 20, 21, 22, 23, 24, 25, 26, 27]
theorem ls8 : Tryz.f8.body.map (strip Tryz.prog impCodD) = some lc8 := by kernel_rfl
theorem lcall8 : LC 8 29 lc8 [.cell 2 32] := LC.of Tryz.func8 (by kernel_rfl) ls8 (by kernel_rfl) (by kernel_rfl)
end Go.Abs.S
namespace Go.Abs.S
attribute [local go_sem] lguard aopO aop aenv toAV tput aLoad aStore vcells aBin aNilI aUn aAlloc aBox aBuild aBSlice afill aConv isIntT aappZ aCap aArr aMM aMake aSlice bnd3 bnd aFldAddr aFld aIdxAddr aIdx aExt aLen aCopy aEq0 bAV aUb aapp aappQ agh acont List.getD_cons_zero List.getD_cons_succ List.set_cons_zero List.set_cons_succ List.getElem?_cons_zero List.getElem?_cons_succ List.length_cons List.length_nil List.map_cons List.map_nil ints_length if_true if_false Bool.false_eq_true true_and and_true eq_self ne_eq not_false_eq_true not_true_eq_false beq_self_eq_true Nat.zero_add Nat.add_zero Nat.mul_one Nat.zero_mul Int.toNat_natCast List.toList_toArray List.all_cons List.all_nil AV.one Value.oneCell' Bool.and_true Bool.true_and forall_const true_implies false_implies implies_true Option.map_some Option.map_none Option.isSome_some Option.isSome_none imp_self rdP_flat rdP_row splice_one ints_set ints_get List.append_nil List.cons_append List.nil_append List.getElem?_toArray List.drop_zero ints_drop ints_take List.take_of_length_le splice_all ints_one Option.some.injEq Option.getD_some List.length_replicate zArr List.map_replicate rep_ints splice_intsR List.length_set List.length_append List.flatten_replicate_singleton rep_slice rep_string rep_bool rep_iface List.replicate_zero if_pos if_neg List.mapM_cons List.mapM_nil Option.pure_def Option.bind_eq_bind Option.bind_some Bool.true_eq_false Bool.not_false Bool.not_true get_concat set_concat
open Go.Proofs
set_option linter.unusedVariables false
set_option linter.unusedSimpArgs false
set_option maxRecDepth 100000
set_option maxHeartbeats 4000000
/-- Does a byte stand at a place? -/
def isB (l : List UInt8) (a : Nat) (c : UInt8) : Bool := decide (a < l.length) && (l.getD a 0 == c)
theorem take1 (l : List UInt8) (a : Nat) (h : a < l.length) : (l.drop a).take (a + 1 - a) = [l.getD a 0] := by
  rw [List.drop_eq_getElem_cons h, List.getD_eq_getElem?_getD, List.getElem?_eq_getElem h, show a + 1 - a = 1 by omega]
  rfl
theorem is1_p (l : List UInt8) (a : Nat) (hl : l.length ≤ 9223372036854775000) (ha : a ≤ l.length) (c : UInt8) : PCall Tryz.prog glob 25 [.v (.string (bs l)), .v (.int .i64 a), .v (.string (bs [c]))] (.v (.bool (isB l a c))) := by
  refine PCall.of ctx.nr nrs (NR.v _) ?_
  refine lcall25 (by simp) 0 (Nat.le_refl _) ?_
  unfold lc25
  refine I1 tt ⟨?_⟩
  have e1 := i64n ((a : Int) + ((1 : Nat) : Int)) (a + 1) (by omega) (by omega)
  unfold isB
  by_cases h : a < l.length
  · have d1 : decide (((a + 1 : Nat) : Int) ≤ l.length) = true := by rw [decide_eq_true_eq]; omega
    have t1 := take1 l a h
    rw [decide_eq_true h, Bool.true_and]
    have q : ([l.getD a 0] == [c]) = (l.getD a 0 == c) := by simp
    refine G1 F4 (an e1 (an d1 (an t1 (an q tt)))) tt tt tt ⟨?_⟩
    refine R1 tt ⟨?_⟩
    exact end0 (NR.v _) rfl
  · have d1 : decide (((a + 1 : Nat) : Int) ≤ l.length) = false := by rw [decide_eq_false_iff_not]; omega
    rw [decide_eq_false h, Bool.false_and]
    refine G1 F4 (an e1 (an d1 tt)) tt tt tt ⟨?_⟩
    refine R1 tt ⟨?_⟩
    exact end0 (NR.v _) rfl
theorem rdig_p (l : List UInt8) (hl : l.length ≤ 9223372036854775000) (a : Nat) (ha : a ≤ l.length) : PCall Tryz.prog glob 26 [.v (.string (bs l)), .v (.int .i64 a)] (.v (.int .i64 ((a + dgL (l.drop a) : Nat) : Int))) := by
  refine PCall.of ctx.nr nrs (NR.v _) ?_
  refine lcall26 (by simp) 0 (Nat.le_refl _) ?_
  unfold lc26
  refine I1 tt ⟨?_⟩
  obtain ⟨V, hV⟩ : ∃ V, a + dgL (l.drop a) = V := ⟨_, rfl⟩
  rw [hV]
  refine G1 F4 tt tt tt tt ⟨?_⟩
  refine lavc_loopM ms26_0 (fun m (k : Nat) => m + k = l.length ∧ k + dgL (l.drop k) = V) (fun k => [(1, .v (.int .i64 k))]) (fun _ => []) (l.length - a) a ⟨by omega, hV⟩ ?_ rfl ?_
  · refine ALe.mk ?_
    simp only [ms26_0, putAll, blank, List.foldl_cons, List.foldl_nil, List.set_cons_succ, List.set_cons_zero, List.cons_append, List.nil_append, ALe0, true_or, or_true, and_true, true_and, eq_self, reduceCtorEq, false_or]
    try rfl
  rintro m k ⟨hk, hi⟩
  try unfold ms26_0
  refine M1 tt ⟨?_⟩
  by_cases hkl : k < l.length
  · rw [dgL_step l k hkl] at hi
    obtain ⟨c, hc⟩ : ∃ c, l.getD k 0 = c := ⟨_, rfl⟩
    rw [hc] at hi
    have d1 : decide ((k : Int) < l.length) = true := by rw [decide_eq_true_eq]; omega
    have e3 := i64n ((k : Int) + 1) (k + 1) (by omega) (by omega)
    obtain ⟨a, ha⟩ : ∃ a, decide ((c.toNat : Int) ≥ 48) = a := ⟨_, rfl⟩
    obtain ⟨b, hb⟩ : ∃ b, decide ((c.toNat : Int) ≤ 57) = b := ⟨_, rfl⟩
    have hD : isD c = (a && b) := by rw [← ha, ← hb]; rfl
    rw [hD] at hi
    cases a <;> cases b
    · rw [if_neg (by decide)] at hi
      refine G1 F4 (an d1 (an hc (an ha (an hb tt)))) tt tt tt ⟨?_⟩
      refine R1 tt ⟨?_⟩
      exact end0 (NR.v _) (by rw [← hi]; rfl)
    · rw [if_neg (by decide)] at hi
      refine G1 F4 (an d1 (an hc (an ha (an hb tt)))) tt tt tt ⟨?_⟩
      refine R1 tt ⟨?_⟩
      exact end0 (NR.v _) (by rw [← hi]; rfl)
    · rw [if_neg (by decide)] at hi
      refine G1 F4 (an d1 (an hc (an ha (an hb tt)))) tt tt tt ⟨?_⟩
      refine R1 tt ⟨?_⟩
      exact end0 (NR.v _) (by rw [← hi]; rfl)
    · rw [if_pos (by decide)] at hi
      refine G1 F4 (an d1 (an hc (an ha (an hb (an e3 tt))))) tt tt tt ⟨?_⟩
      refine ⟨m - 1, k + 1, by omega, ⟨by omega, by omega⟩, ?_, (by first | rfl | trivial)⟩
      try unfold ms26_0
      exact A0 tt
  · have hk2 : k = l.length := by omega
    rw [hk2, List.drop_length, dgL] at hi
    have d1 : decide ((k : Int) < l.length) = false := by rw [decide_eq_false_iff_not]; omega
    refine G1 F4 (an d1 tt) tt tt tt ⟨?_⟩
    refine R1 tt ⟨?_⟩
    exact end0 (NR.v _) (by rw [← hi, hk2]; rfl)
theorem isB_iff (l : List UInt8) (a : Nat) (c : UInt8) : isB l a c = true ↔ a < l.length ∧ (l.getD a 0).toNat = c.toNat := by
  unfold isB
  rw [Bool.and_eq_true, decide_eq_true_iff, beq_iff_eq]
  exact ⟨fun h => ⟨h.1, by rw [h.2]⟩, fun h => ⟨h.1, UInt8.toNat_inj.1 h.2⟩⟩
theorem sgL_is (l : List UInt8) : sgL l = if isB l 0 45 = true then 1 else 0 := by
  unfold sgL
  cases l with
  | nil => rfl
  | cons c r =>
    have e : ([45] : List UInt8).isPrefixOf (c :: r) = isB (c :: r) 0 45 := by
      rw [Bool.eq_iff_iff, isB_iff]
      simp only [List.isPrefixOf, Bool.and_true, beq_iff_eq, List.length_cons, Nat.zero_lt_succ, true_and, List.getD_cons_zero]
      exact ⟨fun h => by rw [← h], fun h => (UInt8.toNat_inj.1 h).symm⟩
    rw [e]
theorem intL_is (l : List UInt8) (a : Nat) : intL l a = if isB l a 48 = true then 1 else dgL (l.drop a) := by
  unfold intL
  by_cases h : isB l a 48 = true
  · rw [if_pos h]
    obtain ⟨h1, h2⟩ := (isB_iff l a 48).1 h
    have e : dgL (l.drop a) = dgL (l.drop (a + 1)) + 1 := by
      rw [dgL_step l a h1, if_pos]
      unfold isD
      rw [h2]
      rfl
    by_cases h3 : 1 < dgL (l.drop a)
    · rw [if_pos ⟨h3, h2⟩]
    · rw [if_neg (fun h => h3 h.1)]
      omega
  · rw [if_neg h]
    by_cases h3 : 1 < dgL (l.drop a) ∧ (l.getD a 0).toNat = 48
    · exfalso
      refine h ((isB_iff l a 48).2 ⟨?_, h3.2⟩)
      have := dgL_le (l.drop a)
      rw [List.length_drop] at this
      omega
    · rw [if_neg h3]
theorem fracL_is (l : List UInt8) (a : Nat) : fracL l a = if isB l a 46 = true then (if dgL (l.drop (a + 1)) = 0 then none else some (a + 1 + dgL (l.drop (a + 1)))) else some a := by
  unfold fracL
  by_cases h : isB l a 46 = true
  · rw [if_pos h, if_pos (show a < l.length ∧ (l.getD a 0).toNat = 46 from (isB_iff l a 46).1 h)]
    split
    · rfl
    · rw [Nat.add_assoc]
  · rw [if_neg h, if_neg (show ¬ (a < l.length ∧ (l.getD a 0).toNat = 46) from fun g => h ((isB_iff l a 46).2 g))]
theorem powS_is (l : List UInt8) (k : Nat) : powS l k = if (isB l k 43 || isB l k 45) = true then k + 1 else k := by
  unfold powS
  by_cases h : (isB l k 43 || isB l k 45) = true
  · rw [if_pos h, if_pos]
    rcases Bool.or_eq_true _ _ ▸ h with h | h
    · obtain ⟨h1, h2⟩ := (isB_iff l k 43).1 h
      exact ⟨h1, .inl h2⟩
    · obtain ⟨h1, h2⟩ := (isB_iff l k 45).1 h
      exact ⟨h1, .inr h2⟩
  · rw [if_neg h, if_neg]
    rintro ⟨h1, h2 | h2⟩
    · exact h (by rw [(isB_iff l k 43).2 ⟨h1, h2⟩]; rfl)
    · exact h (by rw [(isB_iff l k 45).2 ⟨h1, h2⟩, Bool.or_true])
theorem powL_is (l : List UInt8) (a : Nat) : powL l a = if (isB l a 101 || isB l a 69) = true then (if dgL (l.drop (powS l (a + 1))) = 0 then none else some (powS l (a + 1) + dgL (l.drop (powS l (a + 1))))) else some a := by
  unfold powL
  by_cases h : (isB l a 101 || isB l a 69) = true
  · rw [if_pos h, if_pos]
    rcases Bool.or_eq_true _ _ ▸ h with h | h
    · obtain ⟨h1, h2⟩ := (isB_iff l a 101).1 h
      exact ⟨h1, .inl h2⟩
    · obtain ⟨h1, h2⟩ := (isB_iff l a 69).1 h
      exact ⟨h1, .inr h2⟩
  · rw [if_neg h, if_neg]
    rintro ⟨h1, h2 | h2⟩
    · exact h (by rw [(isB_iff l a 101).2 ⟨h1, h2⟩]; rfl)
    · exact h (by rw [(isB_iff l a 69).2 ⟨h1, h2⟩, Bool.or_true])
theorem rnum_p (l : List UInt8) (hl : l.length ≤ 9223372036854770000) : PCall Tryz.prog glob 13 [.v (.string (bs l)), .v (.int .i64 0)] (.v (.int .i64 (nuL l))) := by
  refine PCall.of ctx.nr nrs (NR.v _) ?_
  refine lcall13 (by simp) 0 (Nat.le_refl _) ?_
  unfold lc13
  refine I1 tt ⟨?_⟩
  have ip : ∀ (a : Nat) (c : UInt8), a ≤ l.length → PCall Tryz.prog glob 25 [.v (.string (bs l)), .v (.int .i64 a), .v (.string ⟨#[c]⟩)] (.v (.bool (isB l a c))) := fun a c h => is1_p l a (by omega) h c
  have dp : ∀ a : Nat, a ≤ l.length → PCall Tryz.prog glob 26 [.v (.string (bs l)), .v (.int .i64 a)] (.v (.int .i64 ((a + dgL (l.drop a) : Nat) : Int))) := fun a h => rdig_p l (by omega) a h
  have hs2 := sgL_le l
  have hs3 := sgL_is l
  have p0 : PCall Tryz.prog glob 25 [.v (.string (bs l)), .v (.int .i64 0), .v (.string ⟨#[45]⟩)] (.v (.bool (isB l 0 45))) := ip 0 45 (Nat.zero_le _)
  obtain ⟨sg, hsg⟩ : ∃ b, isB l 0 45 = b := ⟨_, rfl⟩
  rw [hsg] at p0 hs3
  refine G1 F1 tt (an p0.go tt) tt tt ⟨?_⟩
  refine lavc_join mj13_0 (fun (_ : Unit) => True) (fun _ => [(5, .v (.int .i64 (sgL l)))]) (fun _ => []) ?_ ?_
  · cases sg
    · rw [hs3]
      refine G1 F4 tt tt tt tt ⟨?_⟩
      refine ⟨(), trivial, ?_, (by first | rfl | trivial)⟩
      try unfold mj13_0
      refine A1 tt ⟨?_⟩
      rfl
    · rw [hs3]
      refine G1 F4 tt tt tt tt ⟨?_⟩
      refine ⟨(), trivial, ?_, (by first | rfl | trivial)⟩
      try unfold mj13_0
      refine A1 tt ⟨?_⟩
      rfl
  intro _ _
  try unfold mj13_0
  refine M1 tt ⟨?_⟩
  unfold nuL
  obtain ⟨a, ha⟩ : ∃ a, sgL l = a := ⟨_, rfl⟩
  rw [ha] at hs2 ⊢
  clear hs3 hsg p0 ha
  have i1 := intL_le l a hs2
  have hi := intL_is l a
  have i2 := dgd_le l a hs2
  have pz := ip a 48 hs2
  have dz := dp a hs2
  obtain ⟨z, hz⟩ : ∃ b, isB l a 48 = b := ⟨_, rfl⟩
  rw [hz] at pz hi
  obtain ⟨n, hn⟩ : ∃ n, dgL (l.drop a) = n := ⟨_, rfl⟩
  rw [hn] at dz hi i2
  refine G1 F1 tt (an pz.go tt) tt tt ⟨?_⟩
  refine lavc_join mj13_1 (fun (_ : Unit) => intL l a ≠ 0) (fun _ => [(5, .v (.int .i64 ((a + intL l a : Nat) : Int)))]) (fun _ => []) ?_ ?_
  · cases z
    · rw [if_neg (by decide)] at hi
      rw [hi] at i1 ⊢
      by_cases h0 : n = 0
      · subst h0
        have q : (((a + 0 : Nat) : Int) == (a : Int)) = true := by rw [beq_iff_eq]; omega
        refine G1 F4 (an q tt) (an dz.go tt) tt tt ⟨?_⟩
        refine R1 tt ⟨?_⟩
        exact end0 (NR.v _) rfl
      · have q : (((a + n : Nat) : Int) == (a : Int)) = false := by rw [beq_eq_false_iff_ne, ne_eq]; omega
        refine G1 F4 (an q tt) (an dz.go tt) tt tt ⟨?_⟩
        refine ⟨(), h0, ?_, (by first | rfl | trivial)⟩
        refine ALe.mk ?_
        simp only [mj13_1, putAll, blank, List.foldl_cons, List.foldl_nil, List.set_cons_succ, List.set_cons_zero, List.cons_append, List.nil_append, ALe0, true_or, or_true, and_true, true_and, eq_self, reduceCtorEq, false_or]
        try rfl
    · rw [if_pos rfl] at hi
      rw [hi] at i1 ⊢
      have e1 := i64n ((a : Int) + 1) (a + 1) (by omega) (by omega)
      refine G1 F4 (an e1 tt) tt tt tt ⟨?_⟩
      refine ⟨(), by decide, ?_, (by first | rfl | trivial)⟩
      refine ALe.mk ?_
      simp only [mj13_1, putAll, blank, List.foldl_cons, List.foldl_nil, List.set_cons_succ, List.set_cons_zero, List.cons_append, List.nil_append, ALe0, true_or, or_true, and_true, true_and, eq_self, reduceCtorEq, false_or]
      try rfl
  intro _ h0
  try unfold mj13_1
  refine M1 tt ⟨?_⟩
  rw [if_neg h0]
  obtain ⟨b, hb⟩ : ∃ b, a + intL l a = b := ⟨_, rfl⟩
  rw [hb] at i1 ⊢
  clear hi hz hn dz pz i2 h0 hb hs2
  have pd := ip b 46 i1
  have hf := fracL_is l b
  obtain ⟨d, hd⟩ : ∃ x, isB l b 46 = x := ⟨_, rfl⟩
  rw [hd] at pd hf
  refine G1 F1 tt (an pd.go tt) tt tt ⟨?_⟩
  refine lavc_join mj13_3 (fun (x : Nat) => fracL l b = some x) (fun x => [(5, .v (.int .i64 x))]) (fun _ => []) ?_ ?_
  · cases d
    · rw [if_neg (by decide)] at hf
      refine G1 F4 tt tt tt tt ⟨?_⟩
      refine ⟨_, hf, ?_, (by first | rfl | trivial)⟩
      refine ALe.mk ?_
      simp only [mj13_3, putAll, blank, List.foldl_cons, List.foldl_nil, List.set_cons_succ, List.set_cons_zero, List.cons_append, List.nil_append, ALe0, true_or, or_true, and_true, true_and, eq_self, reduceCtorEq, false_or]
      try rfl
    · rw [if_pos rfl] at hf
      have hbl := ((isB_iff l b 46).1 hd).1
      have e1 := i64n ((b : Int) + 1) (b + 1) (by omega) (by omega)
      have dq := dp (b + 1) hbl
      obtain ⟨n2, hn2⟩ : ∃ n, dgL (l.drop (b + 1)) = n := ⟨_, rfl⟩
      rw [hn2] at dq hf
      by_cases h20 : n2 = 0
      · subst h20
        rw [if_pos rfl] at hf
        rw [hf]
        have q : (((b + 1 + 0 : Nat) : Int) == ((b + 1 : Nat) : Int)) = true := beq_self_eq_true ((b + 1 : Nat) : Int)
        refine G1 F4 (an e1 (an q tt)) (an dq.go tt) tt tt ⟨?_⟩
        refine R1 tt ⟨?_⟩
        exact end0 (NR.v _) rfl
      · rw [if_neg h20] at hf
        have q : (((b + 1 + n2 : Nat) : Int) == ((b + 1 : Nat) : Int)) = false := by rw [beq_eq_false_iff_ne, ne_eq]; omega
        refine G1 F4 (an e1 (an q tt)) (an dq.go tt) tt tt ⟨?_⟩
        refine ⟨_, hf, ?_, (by first | rfl | trivial)⟩
        refine ALe.mk ?_
        simp only [mj13_3, putAll, blank, List.foldl_cons, List.foldl_nil, List.set_cons_succ, List.set_cons_zero, List.cons_append, List.nil_append, ALe0, true_or, or_true, and_true, true_and, eq_self, reduceCtorEq, false_or]
        try rfl
  intro x hx
  try unfold mj13_3
  refine M1 tt ⟨?_⟩
  have i3 := fracL_le l b x i1 hx
  rw [hx]
  clear hf hd pd hx
  show lavc _ _ _ _ _ _
  rw [Option.bind_some]
  have hw := powL_is l x
  have pe := ip x 101 i3
  have pE := ip x 69 i3
  obtain ⟨e, he⟩ : ∃ y, isB l x 101 = y := ⟨_, rfl⟩
  obtain ⟨g, hg⟩ : ∃ y, isB l x 69 = y := ⟨_, rfl⟩
  rw [he] at pe hw
  rw [hg] at pE hw
  by_cases heg : (e || g) = true
  · have hxl : x < l.length := by
      rcases Bool.or_eq_true _ _ ▸ heg with h | h
      · rw [h] at he
        exact ((isB_iff l x 101).1 he).1
      · rw [h] at hg
        exact ((isB_iff l x 69).1 hg).1
    rw [if_pos heg] at hw
    have e1 := i64n ((x : Int) + 1) (x + 1) (by omega) (by omega)
    obtain ⟨k, hk⟩ : ∃ k, x + 1 = k := ⟨_, rfl⟩
    rw [hk] at hw e1
    have hkl : k ≤ l.length := by omega
    have hps := powS_is l k
    have hpl := powS_le l k hkl
    have pp := ip k 43 hkl
    have pm := ip k 45 hkl
    obtain ⟨u, hu⟩ : ∃ y, isB l k 43 = y := ⟨_, rfl⟩
    obtain ⟨v, hv⟩ : ∃ y, isB l k 45 = y := ⟨_, rfl⟩
    rw [hu] at pp hps
    rw [hv] at pm hps
    obtain ⟨y, hy⟩ : ∃ y, powS l k = y := ⟨_, rfl⟩
    rw [hy] at hps hpl hw
    have dq := dp y hpl
    obtain ⟨n2, hn2⟩ : ∃ n, dgL (l.drop y) = n := ⟨_, rfl⟩
    rw [hn2] at dq hw
    rw [hw]
    have e2 := i64n ((k : Int) + 1) (k + 1) (by omega) (by omega)
    have q : (((y + n2 : Nat) : Int) == (y : Int)) = decide (n2 = 0) := by
      rw [Bool.eq_iff_iff, beq_iff_eq, decide_eq_true_iff]
      omega
    clear he hg hu hv hw hn2 hy
    by_cases h20 : n2 = 0
    · rw [decide_eq_true h20] at q
      rw [if_pos h20]
      cases e <;> cases g <;> cases u <;> cases v
      all_goals first
        | exact absurd heg (by decide)
        | (simp only [Bool.or_true, Bool.true_or, Bool.or_false, Bool.false_eq_true, if_true, if_false] at hps
           subst hps
           refine G1 F4 (an e1 (an e2 (an q tt))) (an pe.go (an pE.go (an pp.go (an pm.go (an dq.go tt))))) tt tt ⟨?_⟩
           refine R1 tt ⟨?_⟩
           exact end0 (NR.v _) rfl)
    · rw [decide_eq_false h20] at q
      rw [if_neg h20]
      cases e <;> cases g <;> cases u <;> cases v
      all_goals first
        | exact absurd heg (by decide)
        | (simp only [Bool.or_true, Bool.true_or, Bool.or_false, Bool.false_eq_true, if_true, if_false] at hps
           subst hps
           refine G1 F4 (an e1 (an e2 (an q tt))) (an pe.go (an pE.go (an pp.go (an pm.go (an dq.go tt))))) tt tt ⟨?_⟩
           refine R1 tt ⟨?_⟩
           exact end0 (NR.v _) rfl)
  · rw [if_neg heg] at hw
    rw [hw]
    cases e <;> cases g
    · refine G1 F4 tt (an pe.go (an pE.go tt)) tt tt ⟨?_⟩
      refine R1 tt ⟨?_⟩
      exact end0 (NR.v _) rfl
    all_goals exact absurd rfl heg
end Go.Abs.S
namespace Go.Abs.S
attribute [local go_sem] lguard aopO aop aenv toAV tput aLoad aStore vcells aBin aNilI aUn aAlloc aBox aBuild aBSlice afill aConv isIntT aappZ aCap aArr aMM aMake aSlice bnd3 bnd aFldAddr aFld aIdxAddr aIdx aExt aLen aCopy aEq0 bAV aUb aapp aappQ agh acont List.getD_cons_zero List.getD_cons_succ List.set_cons_zero List.set_cons_succ List.getElem?_cons_zero List.getElem?_cons_succ List.length_cons List.length_nil List.map_cons List.map_nil ints_length if_true if_false Bool.false_eq_true true_and and_true eq_self ne_eq not_false_eq_true not_true_eq_false beq_self_eq_true Nat.zero_add Nat.add_zero Nat.mul_one Nat.zero_mul Int.toNat_natCast List.toList_toArray List.all_cons List.all_nil AV.one Value.oneCell' Bool.and_true Bool.true_and forall_const true_implies false_implies implies_true Option.map_some Option.map_none Option.isSome_some Option.isSome_none imp_self rdP_flat rdP_row splice_one ints_set ints_get List.append_nil List.cons_append List.nil_append List.getElem?_toArray List.drop_zero ints_drop ints_take List.take_of_length_le splice_all ints_one Option.some.injEq Option.getD_some List.length_replicate zArr List.map_replicate rep_ints splice_intsR List.length_set List.length_append List.flatten_replicate_singleton rep_slice rep_string rep_bool rep_iface List.replicate_zero if_pos if_neg List.mapM_cons List.mapM_nil Option.pure_def Option.bind_eq_bind Option.bind_some Bool.true_eq_false Bool.not_false Bool.not_true get_concat set_concat
open Go.Proofs
set_option linter.unusedVariables false
set_option linter.unusedSimpArgs false
set_option maxRecDepth 100000
set_option maxHeartbeats 8000000
theorem rune_p (l : List UInt8) (hl : l.length ≤ 9223372036854770000) (a : Nat) (ha : a < l.length) : PCall Tryz.prog glob 27 [.v (.string (bs l)), .v (.int .i64 a)] (.v (.int .i64 (runeL (l.drop a)))) := by
  refine PCall.of ctx.nr nrs (NR.v _) ?_
  refine lcall27 (by simp) 0 (Nat.le_refl _) ?_
  unfold lc27
  refine I1 tt ⟨?_⟩
  unfold runeL
  rw [bw_drop, bw_drop, bw_drop, bw_drop, List.length_drop, Nat.add_zero]
  have b0 := bw_lt l a
  have b1 := bw_lt l (a + 1)
  have b2 := bw_lt l (a + 2)
  have b3 := bw_lt l (a + 3)
  obtain ⟨c, hc⟩ : ∃ c, bw l a = c := ⟨_, rfl⟩
  obtain ⟨d1, hd1⟩ : ∃ c, bw l (a + 1) = c := ⟨_, rfl⟩
  obtain ⟨d2, hd2⟩ : ∃ c, bw l (a + 2) = c := ⟨_, rfl⟩
  obtain ⟨d3, hd3⟩ : ∃ c, bw l (a + 3) = c := ⟨_, rfl⟩
  have g0 : (l.getD a 0).toNat = c := hc
  have g1 : (l.getD (a + 1) 0).toNat = d1 := hd1
  have g2 : (l.getD (a + 2) 0).toNat = d2 := hd2
  have g3 : (l.getD (a + 3) 0).toNat = d3 := hd3
  rw [hc] at b0 ⊢
  rw [hd1] at b1 ⊢
  rw [hd2] at b2 ⊢
  rw [hd3] at b3 ⊢
  clear hc hd1 hd2 hd3
  have w0 := i64n (c : Int) c rfl (by omega)
  have w1 := i64n (d1 : Int) d1 rfl (by omega)
  have w2 := i64n (d2 : Int) d2 rfl (by omega)
  have w3 := i64n (d3 : Int) d3 rfl (by omega)
  have i1 := i64n ((a : Int) + 1) (a + 1) (by omega) (by omega)
  have i2 := i64n ((a : Int) + 2) (a + 2) (by omega) (by omega)
  have i3 := i64n ((a : Int) + 3) (a + 3) (by omega) (by omega)
  have j1 : IntKind.i64.wrap ((1 : Int) + 1) = 2 := by decide
  have j2 : IntKind.i64.wrap ((2 : Int) + 1) = 3 := by decide
  have j3 : IntKind.i64.wrap ((3 : Int) + 1) = 4 := by decide
  by_cases c0 : c < 128
  · rw [if_pos c0]
    have q0 : decide ((c : Int) < 128) = true := by rw [decide_eq_true_eq]; omega
    refine G1 F4 (an g0 (an w0 (an q0 tt))) tt tt tt ⟨?_⟩
    refine R1 tt ⟨?_⟩
    exact end0 (NR.v _) rfl
  rw [if_neg c0]
  have q0 : decide ((c : Int) < 128) = false := by rw [decide_eq_false_iff_not]; omega
  by_cases c1 : 194 ≤ c ∧ c < 224
  · rw [if_pos c1]
    have p194 : decide ((c : Int) ≥ 194) = true := by rw [decide_eq_true_eq]; omega
    have p224 : decide ((c : Int) < 224) = true := by rw [decide_eq_true_eq]; omega
    have p224b : decide ((c : Int) ≥ 224) = false := by rw [decide_eq_false_iff_not]; omega
    have p240 : decide ((c : Int) < 240) = true := by rw [decide_eq_true_eq]; omega
    have p240b : decide ((c : Int) ≥ 240) = false := by rw [decide_eq_false_iff_not]; omega
    have p245 : decide ((c : Int) < 245) = true := by rw [decide_eq_true_eq]; omega
    have e0 := i64n ((c : Int) - 192) (c - 192) (by omega) (by omega)
    obtain ⟨x0, hx0⟩ : ∃ x, c - 192 = x := ⟨_, rfl⟩
    rw [hx0] at e0 ⊢
    have hb : x0 < 64 := by omega
    by_cases hin : 1 < l.length - a
    case neg =>
      rw [if_neg (fun h => hin h.1)]
      have qe : decide (((a + 1 : Nat) : Int) ≥ (l.length : Int)) = true := by rw [decide_eq_true_eq]; omega
      refine G1 F4 (an g0 (an w0 (an q0 (an p194 (an p224 (an p240 (an p245 (an p224b (an p240b (an e0 (an i1 (an i2 (an i3 (an qe tt)))))))))))))) tt tt tt ⟨?_⟩
      refine R1 tt ⟨?_⟩
      exact end0 (NR.v _) rfl
    have qe : decide (((a + 1 : Nat) : Int) ≥ (l.length : Int)) = false := by rw [decide_eq_false_iff_not]; omega
    by_cases o1 : okc d1
    case neg =>
      rw [if_neg (fun h => o1 h.2.1)]
      unfold okc at o1
      by_cases u1 : d1 < 128
      · have r1 : decide ((d1 : Int) < 128) = true := by rw [decide_eq_true_eq]; omega
        refine G1 F4 (an g0 (an w0 (an q0 (an p194 (an p224 (an p240 (an p245 (an p224b (an p240b (an e0 (an i1 (an i2 (an i3 (an qe tt)))))))))))))) tt tt tt ⟨?_⟩
        refine lavc_rounds 3 ?_
        refine G1 F4 (an g0 (an w0 (an q0 (an p194 (an p224 (an p240 (an p245 (an p224b (an p240b (an e0 (an i1 (an i2 (an i3 (an j1 (an j2 (an j3 (an qe (an g1 (an w1 (an r1 tt)))))))))))))))))))) tt tt tt ⟨?_⟩
        refine R1 tt ⟨?_⟩
        exact end0 (NR.v _) rfl
      · have r1 : decide ((d1 : Int) < 128) = false := by rw [decide_eq_false_iff_not]; omega
        have s1 : decide ((d1 : Int) ≥ 192) = true := by rw [decide_eq_true_eq]; omega
        refine G1 F4 (an g0 (an w0 (an q0 (an p194 (an p224 (an p240 (an p245 (an p224b (an p240b (an e0 (an i1 (an i2 (an i3 (an qe tt)))))))))))))) tt tt tt ⟨?_⟩
        refine lavc_rounds 3 ?_
        refine G1 F4 (an g0 (an w0 (an q0 (an p194 (an p224 (an p240 (an p245 (an p224b (an p240b (an e0 (an i1 (an i2 (an i3 (an j1 (an j2 (an j3 (an qe (an g1 (an w1 (an r1 (an s1 tt))))))))))))))))))))) tt tt tt ⟨?_⟩
        refine R1 tt ⟨?_⟩
        exact end0 (NR.v _) rfl
    have o1' := o1
    unfold okc at o1'
    have ok1a : decide ((d1 : Int) < 128) = false := by rw [decide_eq_false_iff_not]; omega
    have ok1b : decide ((d1 : Int) ≥ 192) = false := by rw [decide_eq_false_iff_not]; omega
    have y1 := i64n ((x0 : Int) * 64) (x0 * 64) (by omega) (by omega)
    obtain ⟨m1, hm1⟩ : ∃ x, x0 * 64 = x := ⟨_, rfl⟩
    rw [hm1] at y1 ⊢
    have z1 := i64n ((m1 : Int) + (d1 : Int)) (m1 + d1) (by omega) (by omega)
    have v1 := i64n (((m1 + d1 : Nat) : Int) - 128) (m1 + (d1 - 128)) (by omega) (by omega)
    obtain ⟨x1, hx1⟩ : ∃ x, m1 + (d1 - 128) = x := ⟨_, rfl⟩
    rw [hx1] at v1 ⊢
    obtain ⟨n1, hn1⟩ : ∃ x, m1 + d1 = x := ⟨_, rfl⟩
    rw [hn1] at z1 v1
    by_cases hf : fitv 128 x1
    · rw [if_pos ⟨hin, o1, hf⟩]
      unfold fitv at hf
      have f1 : decide ((x1 : Int) < 128) = false := by rw [decide_eq_false_iff_not]; omega
      have f2 : decide ((x1 : Int) > 1114111) = false := by rw [decide_eq_false_iff_not]; omega
      by_cases h3 : 55296 ≤ x1
      · exfalso; omega
      · have f3 : decide ((x1 : Int) ≥ 55296) = false := by rw [decide_eq_false_iff_not]; omega
        refine G1 F4 (an g0 (an w0 (an q0 (an p194 (an p224 (an p240 (an p245 (an p224b (an p240b (an e0 (an i1 (an i2 (an i3 (an qe tt)))))))))))))) tt tt tt ⟨?_⟩
        refine lavc_rounds 3 ?_
        refine G1 F4 (an g0 (an w0 (an q0 (an p194 (an p224 (an p240 (an p245 (an p224b (an p240b (an e0 (an i1 (an i2 (an i3 (an j1 (an j2 (an j3 (an qe (an g1 (an w1 (an y1 (an z1 (an v1 (an ok1a (an ok1b (an f1 (an f2 (an f3 tt))))))))))))))))))))))))))) tt tt tt ⟨?_⟩
        refine R1 tt ⟨?_⟩
        exact end0 (NR.v _) rfl
    · rw [if_neg (fun h => hf h.2.2)]
      unfold fitv at hf
      by_cases h1 : x1 < 128
      · exfalso; omega
      have f1 : decide ((x1 : Int) < 128) = false := by rw [decide_eq_false_iff_not]; omega
      by_cases h2 : x1 > 1114111
      · exfalso; omega
      exfalso; omega
  rw [if_neg c1]
  by_cases c2 : 224 ≤ c ∧ c < 240
  · rw [if_pos c2]
    have p194 : decide ((c : Int) ≥ 194) = true := by rw [decide_eq_true_eq]; omega
    have p224 : decide ((c : Int) < 224) = false := by rw [decide_eq_false_iff_not]; omega
    have p224b : decide ((c : Int) ≥ 224) = true := by rw [decide_eq_true_eq]; omega
    have p240 : decide ((c : Int) < 240) = true := by rw [decide_eq_true_eq]; omega
    have p240b : decide ((c : Int) ≥ 240) = false := by rw [decide_eq_false_iff_not]; omega
    have p245 : decide ((c : Int) < 245) = true := by rw [decide_eq_true_eq]; omega
    have e0 := i64n ((c : Int) - 224) (c - 224) (by omega) (by omega)
    obtain ⟨x0, hx0⟩ : ∃ x, c - 224 = x := ⟨_, rfl⟩
    rw [hx0] at e0 ⊢
    have hb : x0 < 64 := by omega
    by_cases hin : 2 < l.length - a
    case neg =>
      rw [if_neg (fun h => hin h.1)]
      have qe : decide (((a + 2 : Nat) : Int) ≥ (l.length : Int)) = true := by rw [decide_eq_true_eq]; omega
      refine G1 F4 (an g0 (an w0 (an q0 (an p194 (an p224 (an p240 (an p245 (an p224b (an p240b (an e0 (an i1 (an i2 (an i3 (an qe tt)))))))))))))) tt tt tt ⟨?_⟩
      refine R1 tt ⟨?_⟩
      exact end0 (NR.v _) rfl
    have qe : decide (((a + 2 : Nat) : Int) ≥ (l.length : Int)) = false := by rw [decide_eq_false_iff_not]; omega
    by_cases o1 : okc d1
    case neg =>
      rw [if_neg (fun h => o1 h.2.1)]
      unfold okc at o1
      by_cases u1 : d1 < 128
      · have r1 : decide ((d1 : Int) < 128) = true := by rw [decide_eq_true_eq]; omega
        refine G1 F4 (an g0 (an w0 (an q0 (an p194 (an p224 (an p240 (an p245 (an p224b (an p240b (an e0 (an i1 (an i2 (an i3 (an qe tt)))))))))))))) tt tt tt ⟨?_⟩
        refine lavc_rounds 4 ?_
        refine G1 F4 (an g0 (an w0 (an q0 (an p194 (an p224 (an p240 (an p245 (an p224b (an p240b (an e0 (an i1 (an i2 (an i3 (an j1 (an j2 (an j3 (an qe (an g1 (an w1 (an r1 tt)))))))))))))))))))) tt tt tt ⟨?_⟩
        refine R1 tt ⟨?_⟩
        exact end0 (NR.v _) rfl
      · have r1 : decide ((d1 : Int) < 128) = false := by rw [decide_eq_false_iff_not]; omega
        have s1 : decide ((d1 : Int) ≥ 192) = true := by rw [decide_eq_true_eq]; omega
        refine G1 F4 (an g0 (an w0 (an q0 (an p194 (an p224 (an p240 (an p245 (an p224b (an p240b (an e0 (an i1 (an i2 (an i3 (an qe tt)))))))))))))) tt tt tt ⟨?_⟩
        refine lavc_rounds 4 ?_
        refine G1 F4 (an g0 (an w0 (an q0 (an p194 (an p224 (an p240 (an p245 (an p224b (an p240b (an e0 (an i1 (an i2 (an i3 (an j1 (an j2 (an j3 (an qe (an g1 (an w1 (an r1 (an s1 tt))))))))))))))))))))) tt tt tt ⟨?_⟩
        refine R1 tt ⟨?_⟩
        exact end0 (NR.v _) rfl
    have o1' := o1
    unfold okc at o1'
    have ok1a : decide ((d1 : Int) < 128) = false := by rw [decide_eq_false_iff_not]; omega
    have ok1b : decide ((d1 : Int) ≥ 192) = false := by rw [decide_eq_false_iff_not]; omega
    have y1 := i64n ((x0 : Int) * 64) (x0 * 64) (by omega) (by omega)
    obtain ⟨m1, hm1⟩ : ∃ x, x0 * 64 = x := ⟨_, rfl⟩
    rw [hm1] at y1 ⊢
    have z1 := i64n ((m1 : Int) + (d1 : Int)) (m1 + d1) (by omega) (by omega)
    have v1 := i64n (((m1 + d1 : Nat) : Int) - 128) (m1 + (d1 - 128)) (by omega) (by omega)
    obtain ⟨x1, hx1⟩ : ∃ x, m1 + (d1 - 128) = x := ⟨_, rfl⟩
    rw [hx1] at v1 ⊢
    obtain ⟨n1, hn1⟩ : ∃ x, m1 + d1 = x := ⟨_, rfl⟩
    rw [hn1] at z1 v1
    by_cases o2 : okc d2
    case neg =>
      rw [if_neg (fun h => o2 h.2.2.1)]
      unfold okc at o2
      by_cases u2 : d2 < 128
      · have r2 : decide ((d2 : Int) < 128) = true := by rw [decide_eq_true_eq]; omega
        refine G1 F4 (an g0 (an w0 (an q0 (an p194 (an p224 (an p240 (an p245 (an p224b (an p240b (an e0 (an i1 (an i2 (an i3 (an qe tt)))))))))))))) tt tt tt ⟨?_⟩
        refine lavc_rounds 4 ?_
        refine G1 F4 (an g0 (an w0 (an q0 (an p194 (an p224 (an p240 (an p245 (an p224b (an p240b (an e0 (an i1 (an i2 (an i3 (an j1 (an j2 (an j3 (an qe (an g1 (an w1 (an g2 (an w2 (an y1 (an z1 (an v1 (an ok1a (an ok1b (an r2 tt))))))))))))))))))))))))))) tt tt tt ⟨?_⟩
        refine R1 tt ⟨?_⟩
        exact end0 (NR.v _) rfl
      · have r2 : decide ((d2 : Int) < 128) = false := by rw [decide_eq_false_iff_not]; omega
        have s2 : decide ((d2 : Int) ≥ 192) = true := by rw [decide_eq_true_eq]; omega
        refine G1 F4 (an g0 (an w0 (an q0 (an p194 (an p224 (an p240 (an p245 (an p224b (an p240b (an e0 (an i1 (an i2 (an i3 (an qe tt)))))))))))))) tt tt tt ⟨?_⟩
        refine lavc_rounds 4 ?_
        refine G1 F4 (an g0 (an w0 (an q0 (an p194 (an p224 (an p240 (an p245 (an p224b (an p240b (an e0 (an i1 (an i2 (an i3 (an j1 (an j2 (an j3 (an qe (an g1 (an w1 (an g2 (an w2 (an y1 (an z1 (an v1 (an ok1a (an ok1b (an r2 (an s2 tt)))))))))))))))))))))))))))) tt tt tt ⟨?_⟩
        refine R1 tt ⟨?_⟩
        exact end0 (NR.v _) rfl
    have o2' := o2
    unfold okc at o2'
    have ok2a : decide ((d2 : Int) < 128) = false := by rw [decide_eq_false_iff_not]; omega
    have ok2b : decide ((d2 : Int) ≥ 192) = false := by rw [decide_eq_false_iff_not]; omega
    have y2 := i64n ((x1 : Int) * 64) (x1 * 64) (by omega) (by omega)
    obtain ⟨m2, hm2⟩ : ∃ x, x1 * 64 = x := ⟨_, rfl⟩
    rw [hm2] at y2 ⊢
    have z2 := i64n ((m2 : Int) + (d2 : Int)) (m2 + d2) (by omega) (by omega)
    have v2 := i64n (((m2 + d2 : Nat) : Int) - 128) (m2 + (d2 - 128)) (by omega) (by omega)
    obtain ⟨x2, hx2⟩ : ∃ x, m2 + (d2 - 128) = x := ⟨_, rfl⟩
    rw [hx2] at v2 ⊢
    obtain ⟨n2, hn2⟩ : ∃ x, m2 + d2 = x := ⟨_, rfl⟩
    rw [hn2] at z2 v2
    by_cases hf : fitv 2048 x2
    · rw [if_pos ⟨hin, o1, o2, hf⟩]
      unfold fitv at hf
      have f1 : decide ((x2 : Int) < 2048) = false := by rw [decide_eq_false_iff_not]; omega
      have f2 : decide ((x2 : Int) > 1114111) = false := by rw [decide_eq_false_iff_not]; omega
      by_cases h3 : 55296 ≤ x2
      · have f3 : decide ((x2 : Int) ≥ 55296) = true := by rw [decide_eq_true_eq]; omega
        have f4 : decide ((x2 : Int) ≤ 57343) = false := by rw [decide_eq_false_iff_not]; omega
        refine G1 F4 (an g0 (an w0 (an q0 (an p194 (an p224 (an p240 (an p245 (an p224b (an p240b (an e0 (an i1 (an i2 (an i3 (an qe tt)))))))))))))) tt tt tt ⟨?_⟩
        refine lavc_rounds 4 ?_
        refine G1 F4 (an g0 (an w0 (an q0 (an p194 (an p224 (an p240 (an p245 (an p224b (an p240b (an e0 (an i1 (an i2 (an i3 (an j1 (an j2 (an j3 (an qe (an g1 (an w1 (an g2 (an w2 (an y1 (an z1 (an v1 (an ok1a (an ok1b (an y2 (an z2 (an v2 (an ok2a (an ok2b (an f1 (an f2 (an f3 (an f4 tt))))))))))))))))))))))))))))))))))) tt tt tt ⟨?_⟩
        refine R1 tt ⟨?_⟩
        exact end0 (NR.v _) rfl
      · have f3 : decide ((x2 : Int) ≥ 55296) = false := by rw [decide_eq_false_iff_not]; omega
        refine G1 F4 (an g0 (an w0 (an q0 (an p194 (an p224 (an p240 (an p245 (an p224b (an p240b (an e0 (an i1 (an i2 (an i3 (an qe tt)))))))))))))) tt tt tt ⟨?_⟩
        refine lavc_rounds 4 ?_
        refine G1 F4 (an g0 (an w0 (an q0 (an p194 (an p224 (an p240 (an p245 (an p224b (an p240b (an e0 (an i1 (an i2 (an i3 (an j1 (an j2 (an j3 (an qe (an g1 (an w1 (an g2 (an w2 (an y1 (an z1 (an v1 (an ok1a (an ok1b (an y2 (an z2 (an v2 (an ok2a (an ok2b (an f1 (an f2 (an f3 tt)))))))))))))))))))))))))))))))))) tt tt tt ⟨?_⟩
        refine R1 tt ⟨?_⟩
        exact end0 (NR.v _) rfl
    · rw [if_neg (fun h => hf h.2.2.2)]
      unfold fitv at hf
      by_cases h1 : x2 < 2048
      · have f1 : decide ((x2 : Int) < 2048) = true := by rw [decide_eq_true_eq]; omega
        refine G1 F4 (an g0 (an w0 (an q0 (an p194 (an p224 (an p240 (an p245 (an p224b (an p240b (an e0 (an i1 (an i2 (an i3 (an qe tt)))))))))))))) tt tt tt ⟨?_⟩
        refine lavc_rounds 4 ?_
        refine G1 F4 (an g0 (an w0 (an q0 (an p194 (an p224 (an p240 (an p245 (an p224b (an p240b (an e0 (an i1 (an i2 (an i3 (an j1 (an j2 (an j3 (an qe (an g1 (an w1 (an g2 (an w2 (an y1 (an z1 (an v1 (an ok1a (an ok1b (an y2 (an z2 (an v2 (an ok2a (an ok2b (an f1 tt)))))))))))))))))))))))))))))))) tt tt tt ⟨?_⟩
        refine R1 tt ⟨?_⟩
        exact end0 (NR.v _) rfl
      have f1 : decide ((x2 : Int) < 2048) = false := by rw [decide_eq_false_iff_not]; omega
      by_cases h2 : x2 > 1114111
      · exfalso; omega
      have f2 : decide ((x2 : Int) > 1114111) = false := by rw [decide_eq_false_iff_not]; omega
      have f3 : decide ((x2 : Int) ≥ 55296) = true := by rw [decide_eq_true_eq]; omega
      have f4 : decide ((x2 : Int) ≤ 57343) = true := by rw [decide_eq_true_eq]; omega
      refine G1 F4 (an g0 (an w0 (an q0 (an p194 (an p224 (an p240 (an p245 (an p224b (an p240b (an e0 (an i1 (an i2 (an i3 (an qe tt)))))))))))))) tt tt tt ⟨?_⟩
      refine lavc_rounds 4 ?_
      refine G1 F4 (an g0 (an w0 (an q0 (an p194 (an p224 (an p240 (an p245 (an p224b (an p240b (an e0 (an i1 (an i2 (an i3 (an j1 (an j2 (an j3 (an qe (an g1 (an w1 (an g2 (an w2 (an y1 (an z1 (an v1 (an ok1a (an ok1b (an y2 (an z2 (an v2 (an ok2a (an ok2b (an f1 (an f2 (an f3 (an f4 tt))))))))))))))))))))))))))))))))))) tt tt tt ⟨?_⟩
      refine R1 tt ⟨?_⟩
      exact end0 (NR.v _) rfl
  rw [if_neg c2]
  by_cases c3 : 240 ≤ c ∧ c < 245
  · rw [if_pos c3]
    have p194 : decide ((c : Int) ≥ 194) = true := by rw [decide_eq_true_eq]; omega
    have p224 : decide ((c : Int) < 224) = false := by rw [decide_eq_false_iff_not]; omega
    have p224b : decide ((c : Int) ≥ 224) = true := by rw [decide_eq_true_eq]; omega
    have p240 : decide ((c : Int) < 240) = false := by rw [decide_eq_false_iff_not]; omega
    have p240b : decide ((c : Int) ≥ 240) = true := by rw [decide_eq_true_eq]; omega
    have p245 : decide ((c : Int) < 245) = true := by rw [decide_eq_true_eq]; omega
    have e0 := i64n ((c : Int) - 240) (c - 240) (by omega) (by omega)
    obtain ⟨x0, hx0⟩ : ∃ x, c - 240 = x := ⟨_, rfl⟩
    rw [hx0] at e0 ⊢
    have hb : x0 < 64 := by omega
    by_cases hin : 3 < l.length - a
    case neg =>
      rw [if_neg (fun h => hin h.1)]
      have qe : decide (((a + 3 : Nat) : Int) ≥ (l.length : Int)) = true := by rw [decide_eq_true_eq]; omega
      refine G1 F4 (an g0 (an w0 (an q0 (an p194 (an p224 (an p240 (an p245 (an p224b (an p240b (an e0 (an i1 (an i2 (an i3 (an qe tt)))))))))))))) tt tt tt ⟨?_⟩
      refine R1 tt ⟨?_⟩
      exact end0 (NR.v _) rfl
    have qe : decide (((a + 3 : Nat) : Int) ≥ (l.length : Int)) = false := by rw [decide_eq_false_iff_not]; omega
    by_cases o1 : okc d1
    case neg =>
      rw [if_neg (fun h => o1 h.2.1)]
      unfold okc at o1
      by_cases u1 : d1 < 128
      · have r1 : decide ((d1 : Int) < 128) = true := by rw [decide_eq_true_eq]; omega
        refine G1 F4 (an g0 (an w0 (an q0 (an p194 (an p224 (an p240 (an p245 (an p224b (an p240b (an e0 (an i1 (an i2 (an i3 (an qe tt)))))))))))))) tt tt tt ⟨?_⟩
        refine lavc_rounds 5 ?_
        refine G1 F4 (an g0 (an w0 (an q0 (an p194 (an p224 (an p240 (an p245 (an p224b (an p240b (an e0 (an i1 (an i2 (an i3 (an j1 (an j2 (an j3 (an qe (an g1 (an w1 (an r1 tt)))))))))))))))))))) tt tt tt ⟨?_⟩
        refine R1 tt ⟨?_⟩
        exact end0 (NR.v _) rfl
      · have r1 : decide ((d1 : Int) < 128) = false := by rw [decide_eq_false_iff_not]; omega
        have s1 : decide ((d1 : Int) ≥ 192) = true := by rw [decide_eq_true_eq]; omega
        refine G1 F4 (an g0 (an w0 (an q0 (an p194 (an p224 (an p240 (an p245 (an p224b (an p240b (an e0 (an i1 (an i2 (an i3 (an qe tt)))))))))))))) tt tt tt ⟨?_⟩
        refine lavc_rounds 5 ?_
        refine G1 F4 (an g0 (an w0 (an q0 (an p194 (an p224 (an p240 (an p245 (an p224b (an p240b (an e0 (an i1 (an i2 (an i3 (an j1 (an j2 (an j3 (an qe (an g1 (an w1 (an r1 (an s1 tt))))))))))))))))))))) tt tt tt ⟨?_⟩
        refine R1 tt ⟨?_⟩
        exact end0 (NR.v _) rfl
    have o1' := o1
    unfold okc at o1'
    have ok1a : decide ((d1 : Int) < 128) = false := by rw [decide_eq_false_iff_not]; omega
    have ok1b : decide ((d1 : Int) ≥ 192) = false := by rw [decide_eq_false_iff_not]; omega
    have y1 := i64n ((x0 : Int) * 64) (x0 * 64) (by omega) (by omega)
    obtain ⟨m1, hm1⟩ : ∃ x, x0 * 64 = x := ⟨_, rfl⟩
    rw [hm1] at y1 ⊢
    have z1 := i64n ((m1 : Int) + (d1 : Int)) (m1 + d1) (by omega) (by omega)
    have v1 := i64n (((m1 + d1 : Nat) : Int) - 128) (m1 + (d1 - 128)) (by omega) (by omega)
    obtain ⟨x1, hx1⟩ : ∃ x, m1 + (d1 - 128) = x := ⟨_, rfl⟩
    rw [hx1] at v1 ⊢
    obtain ⟨n1, hn1⟩ : ∃ x, m1 + d1 = x := ⟨_, rfl⟩
    rw [hn1] at z1 v1
    by_cases o2 : okc d2
    case neg =>
      rw [if_neg (fun h => o2 h.2.2.1)]
      unfold okc at o2
      by_cases u2 : d2 < 128
      · have r2 : decide ((d2 : Int) < 128) = true := by rw [decide_eq_true_eq]; omega
        refine G1 F4 (an g0 (an w0 (an q0 (an p194 (an p224 (an p240 (an p245 (an p224b (an p240b (an e0 (an i1 (an i2 (an i3 (an qe tt)))))))))))))) tt tt tt ⟨?_⟩
        refine lavc_rounds 5 ?_
        refine G1 F4 (an g0 (an w0 (an q0 (an p194 (an p224 (an p240 (an p245 (an p224b (an p240b (an e0 (an i1 (an i2 (an i3 (an j1 (an j2 (an j3 (an qe (an g1 (an w1 (an g2 (an w2 (an y1 (an z1 (an v1 (an ok1a (an ok1b (an r2 tt))))))))))))))))))))))))))) tt tt tt ⟨?_⟩
        refine R1 tt ⟨?_⟩
        exact end0 (NR.v _) rfl
      · have r2 : decide ((d2 : Int) < 128) = false := by rw [decide_eq_false_iff_not]; omega
        have s2 : decide ((d2 : Int) ≥ 192) = true := by rw [decide_eq_true_eq]; omega
        refine G1 F4 (an g0 (an w0 (an q0 (an p194 (an p224 (an p240 (an p245 (an p224b (an p240b (an e0 (an i1 (an i2 (an i3 (an qe tt)))))))))))))) tt tt tt ⟨?_⟩
        refine lavc_rounds 5 ?_
        refine G1 F4 (an g0 (an w0 (an q0 (an p194 (an p224 (an p240 (an p245 (an p224b (an p240b (an e0 (an i1 (an i2 (an i3 (an j1 (an j2 (an j3 (an qe (an g1 (an w1 (an g2 (an w2 (an y1 (an z1 (an v1 (an ok1a (an ok1b (an r2 (an s2 tt)))))))))))))))))))))))))))) tt tt tt ⟨?_⟩
        refine R1 tt ⟨?_⟩
        exact end0 (NR.v _) rfl
    have o2' := o2
    unfold okc at o2'
    have ok2a : decide ((d2 : Int) < 128) = false := by rw [decide_eq_false_iff_not]; omega
    have ok2b : decide ((d2 : Int) ≥ 192) = false := by rw [decide_eq_false_iff_not]; omega
    have y2 := i64n ((x1 : Int) * 64) (x1 * 64) (by omega) (by omega)
    obtain ⟨m2, hm2⟩ : ∃ x, x1 * 64 = x := ⟨_, rfl⟩
    rw [hm2] at y2 ⊢
    have z2 := i64n ((m2 : Int) + (d2 : Int)) (m2 + d2) (by omega) (by omega)
    have v2 := i64n (((m2 + d2 : Nat) : Int) - 128) (m2 + (d2 - 128)) (by omega) (by omega)
    obtain ⟨x2, hx2⟩ : ∃ x, m2 + (d2 - 128) = x := ⟨_, rfl⟩
    rw [hx2] at v2 ⊢
    obtain ⟨n2, hn2⟩ : ∃ x, m2 + d2 = x := ⟨_, rfl⟩
    rw [hn2] at z2 v2
    by_cases o3 : okc d3
    case neg =>
      rw [if_neg (fun h => o3 h.2.2.2.1)]
      unfold okc at o3
      by_cases u3 : d3 < 128
      · have r3 : decide ((d3 : Int) < 128) = true := by rw [decide_eq_true_eq]; omega
        refine G1 F4 (an g0 (an w0 (an q0 (an p194 (an p224 (an p240 (an p245 (an p224b (an p240b (an e0 (an i1 (an i2 (an i3 (an qe tt)))))))))))))) tt tt tt ⟨?_⟩
        refine lavc_rounds 5 ?_
        repeat (first
          | (with_reducible refine lops_step fun K hK => ?_; simp (disch := first | exact dch | fail) only [go_sem, Nat.reduceAdd, Nat.reduceSub, reduceIte, Nat.reduceEqDiff, Int.reduceToNat, Int.reduceBEq, Int.reduceBNe, g0, w0, q0, p194, p224, p240, p245, p224b, p240b, e0, i1, i2, i3, j1, j2, j3, qe, g1, w1, g2, w2, g3, w3, y1, z1, v1, ok1a, ok1b, y2, z2, v2, ok2a, ok2b, r3]; (try (first | (refine And.intro (fun _ => ?_) (fun h => absurd h (by decide))) | (refine And.intro (fun h => absurd h (by decide)) (fun _ => ?_)))); (repeat (with_reducible refine And.intro acl ?_)); (first | (refine hK _ _ ?_) | (refine ⟨_, rfl, hK _ _ ?_⟩) | (refine Or.inl (hK _ _ ?_))); clear hK K)
          | (with_reducible refine lops_nil ?_)
          | (with_reducible first | refine lavc_reg ?_ | refine lavc_seq ?_ | refine lavc_block ?_ | refine lavc_skip ?_ | refine lavc_exit ?_ | refine lavc_ret ?_ | refine lavcR_round ?_)
          | (refine lavc_cond rfl (fun _ => ?_) (fun hc => absurd hc (by decide)))
          | (refine lavc_cond rfl (fun hc => absurd hc (by decide)) (fun _ => ?_))
          | (simp only [↓reduceIte, Nat.reduceEqDiff, reduceCtorEq]))
        refine R1 tt ⟨?_⟩
        exact end0 (NR.v _) rfl
      · have r3 : decide ((d3 : Int) < 128) = false := by rw [decide_eq_false_iff_not]; omega
        have s3 : decide ((d3 : Int) ≥ 192) = true := by rw [decide_eq_true_eq]; omega
        refine G1 F4 (an g0 (an w0 (an q0 (an p194 (an p224 (an p240 (an p245 (an p224b (an p240b (an e0 (an i1 (an i2 (an i3 (an qe tt)))))))))))))) tt tt tt ⟨?_⟩
        refine lavc_rounds 5 ?_
        repeat (first
          | (with_reducible refine lops_step fun K hK => ?_; simp (disch := first | exact dch | fail) only [go_sem, Nat.reduceAdd, Nat.reduceSub, reduceIte, Nat.reduceEqDiff, Int.reduceToNat, Int.reduceBEq, Int.reduceBNe, g0, w0, q0, p194, p224, p240, p245, p224b, p240b, e0, i1, i2, i3, j1, j2, j3, qe, g1, w1, g2, w2, g3, w3, y1, z1, v1, ok1a, ok1b, y2, z2, v2, ok2a, ok2b, r3, s3]; (try (first | (refine And.intro (fun _ => ?_) (fun h => absurd h (by decide))) | (refine And.intro (fun h => absurd h (by decide)) (fun _ => ?_)))); (repeat (with_reducible refine And.intro acl ?_)); (first | (refine hK _ _ ?_) | (refine ⟨_, rfl, hK _ _ ?_⟩) | (refine Or.inl (hK _ _ ?_))); clear hK K)
          | (with_reducible refine lops_nil ?_)
          | (with_reducible first | refine lavc_reg ?_ | refine lavc_seq ?_ | refine lavc_block ?_ | refine lavc_skip ?_ | refine lavc_exit ?_ | refine lavc_ret ?_ | refine lavcR_round ?_)
          | (refine lavc_cond rfl (fun _ => ?_) (fun hc => absurd hc (by decide)))
          | (refine lavc_cond rfl (fun hc => absurd hc (by decide)) (fun _ => ?_))
          | (simp only [↓reduceIte, Nat.reduceEqDiff, reduceCtorEq]))
        refine R1 tt ⟨?_⟩
        exact end0 (NR.v _) rfl
    have o3' := o3
    unfold okc at o3'
    have ok3a : decide ((d3 : Int) < 128) = false := by rw [decide_eq_false_iff_not]; omega
    have ok3b : decide ((d3 : Int) ≥ 192) = false := by rw [decide_eq_false_iff_not]; omega
    have y3 := i64n ((x2 : Int) * 64) (x2 * 64) (by omega) (by omega)
    obtain ⟨m3, hm3⟩ : ∃ x, x2 * 64 = x := ⟨_, rfl⟩
    rw [hm3] at y3 ⊢
    have z3 := i64n ((m3 : Int) + (d3 : Int)) (m3 + d3) (by omega) (by omega)
    have v3 := i64n (((m3 + d3 : Nat) : Int) - 128) (m3 + (d3 - 128)) (by omega) (by omega)
    obtain ⟨x3, hx3⟩ : ∃ x, m3 + (d3 - 128) = x := ⟨_, rfl⟩
    rw [hx3] at v3 ⊢
    obtain ⟨n3, hn3⟩ : ∃ x, m3 + d3 = x := ⟨_, rfl⟩
    rw [hn3] at z3 v3
    by_cases hf : fitv 65536 x3
    · rw [if_pos ⟨hin, o1, o2, o3, hf⟩]
      unfold fitv at hf
      have f1 : decide ((x3 : Int) < 65536) = false := by rw [decide_eq_false_iff_not]; omega
      have f2 : decide ((x3 : Int) > 1114111) = false := by rw [decide_eq_false_iff_not]; omega
      by_cases h3 : 55296 ≤ x3
      · have f3 : decide ((x3 : Int) ≥ 55296) = true := by rw [decide_eq_true_eq]; omega
        have f4 : decide ((x3 : Int) ≤ 57343) = false := by rw [decide_eq_false_iff_not]; omega
        refine G1 F4 (an g0 (an w0 (an q0 (an p194 (an p224 (an p240 (an p245 (an p224b (an p240b (an e0 (an i1 (an i2 (an i3 (an qe tt)))))))))))))) tt tt tt ⟨?_⟩
        refine lavc_rounds 5 ?_
        refine G1 F4 (an g0 (an w0 (an q0 (an p194 (an p224 (an p240 (an p245 (an p224b (an p240b (an e0 (an i1 (an i2 (an i3 (an j1 (an j2 (an j3 (an qe (an g1 (an w1 (an g2 (an w2 (an g3 (an w3 (an y1 (an z1 (an v1 (an ok1a (an ok1b (an y2 (an z2 (an v2 (an ok2a (an ok2b (an y3 (an z3 (an v3 (an ok3a (an ok3b (an f1 (an f2 (an f3 (an f4 tt)))))))))))))))))))))))))))))))))))))))))) tt tt tt ⟨?_⟩
        refine R1 tt ⟨?_⟩
        exact end0 (NR.v _) rfl
      · exfalso; omega
    · rw [if_neg (fun h => hf h.2.2.2.2)]
      unfold fitv at hf
      by_cases h1 : x3 < 65536
      · have f1 : decide ((x3 : Int) < 65536) = true := by rw [decide_eq_true_eq]; omega
        refine G1 F4 (an g0 (an w0 (an q0 (an p194 (an p224 (an p240 (an p245 (an p224b (an p240b (an e0 (an i1 (an i2 (an i3 (an qe tt)))))))))))))) tt tt tt ⟨?_⟩
        refine lavc_rounds 5 ?_
        refine G1 F4 (an g0 (an w0 (an q0 (an p194 (an p224 (an p240 (an p245 (an p224b (an p240b (an e0 (an i1 (an i2 (an i3 (an j1 (an j2 (an j3 (an qe (an g1 (an w1 (an g2 (an w2 (an g3 (an w3 (an y1 (an z1 (an v1 (an ok1a (an ok1b (an y2 (an z2 (an v2 (an ok2a (an ok2b (an y3 (an z3 (an v3 (an ok3a (an ok3b (an f1 tt))))))))))))))))))))))))))))))))))))))) tt tt tt ⟨?_⟩
        refine R1 tt ⟨?_⟩
        exact end0 (NR.v _) rfl
      have f1 : decide ((x3 : Int) < 65536) = false := by rw [decide_eq_false_iff_not]; omega
      by_cases h2 : x3 > 1114111
      · have f2 : decide ((x3 : Int) > 1114111) = true := by rw [decide_eq_true_eq]; omega
        refine G1 F4 (an g0 (an w0 (an q0 (an p194 (an p224 (an p240 (an p245 (an p224b (an p240b (an e0 (an i1 (an i2 (an i3 (an qe tt)))))))))))))) tt tt tt ⟨?_⟩
        refine lavc_rounds 5 ?_
        refine G1 F4 (an g0 (an w0 (an q0 (an p194 (an p224 (an p240 (an p245 (an p224b (an p240b (an e0 (an i1 (an i2 (an i3 (an j1 (an j2 (an j3 (an qe (an g1 (an w1 (an g2 (an w2 (an g3 (an w3 (an y1 (an z1 (an v1 (an ok1a (an ok1b (an y2 (an z2 (an v2 (an ok2a (an ok2b (an y3 (an z3 (an v3 (an ok3a (an ok3b (an f1 (an f2 tt)))))))))))))))))))))))))))))))))))))))) tt tt tt ⟨?_⟩
        refine R1 tt ⟨?_⟩
        exact end0 (NR.v _) rfl
      exfalso; omega
  rw [if_neg c3]
  by_cases l194 : c < 194
  · have p194 : decide ((c : Int) ≥ 194) = false := by rw [decide_eq_false_iff_not]; omega
    have p224b : decide ((c : Int) ≥ 224) = false := by rw [decide_eq_false_iff_not]; omega
    have p240b : decide ((c : Int) ≥ 240) = false := by rw [decide_eq_false_iff_not]; omega
    refine G1 F4 (an g0 (an w0 (an q0 (an p194 (an p224b (an p240b tt)))))) tt tt tt ⟨?_⟩
    refine R1 tt ⟨?_⟩
    exact end0 (NR.v _) rfl
  · have p194 : decide ((c : Int) ≥ 194) = true := by rw [decide_eq_true_eq]; omega
    have p224b : decide ((c : Int) ≥ 224) = true := by rw [decide_eq_true_eq]; omega
    have p240b : decide ((c : Int) ≥ 240) = true := by rw [decide_eq_true_eq]; omega
    have p224 : decide ((c : Int) < 224) = false := by rw [decide_eq_false_iff_not]; omega
    have p240 : decide ((c : Int) < 240) = false := by rw [decide_eq_false_iff_not]; omega
    have p245 : decide ((c : Int) < 245) = false := by rw [decide_eq_false_iff_not]; omega
    refine G1 F4 (an g0 (an w0 (an q0 (an p194 (an p224 (an p240 (an p245 (an p224b (an p240b tt))))))))) tt tt tt ⟨?_⟩
    refine R1 tt ⟨?_⟩
    exact end0 (NR.v _) rfl
end Go.Abs.S
