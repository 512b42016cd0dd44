/- Code, as it is looked at; written by wip/leancode.py. -/
import Derived.Test.YtdbpaahdonplbaaDoorJP3
namespace Go.Abs.S
open Go.Proofs
set_option maxRecDepth 100000
def impCodH : FuncId → Bool := fun f => f == 26 || f == 27 || f == 29 || f == 30 || f == 31 || f == 37 || f == 39 || f == 40 || f == 41 || f == 42 || f == 48 || f == 54 || f == 55 || f == 75
/-- escutcheon/escutcheonref20.Same -/
def lc20 : LCode := .seq (.reg []
  [o1 2 (.box 45 (.tmp 0)),
  o1 3 (.box 45 (.tmp 1)),
  o1 4 (.assign (.const (.bool false)))]) (.seq (.seq (.reg []
  [o1 7 (.fieldAddr 45 (.tmp 2) 0),
  o1 8 (.load 3 (.tmp 7)),
  o1 9 (.fieldAddr 45 (.tmp 3) 0),
  o1 10 (.load 3 (.tmp 9)),
  o1 11 (.binOp .neq 3 (.tmp 8) (.tmp 10) 3),
  o1 12 (.move (.tmp 11)),
  o2 13 (.fieldAddr 45 (.tmp 2) 1) 12 false,
  o2 14 (.load 9 (.tmp 13)) 12 false,
  o2 15 (.fieldAddr 45 (.tmp 3) 1) 12 false,
  o2 16 (.load 9 (.tmp 15)) 12 false,
  o2 17 (.binOp .neq 9 (.tmp 14) (.tmp 16) 9) 12 false,
  o1 18 (.pick (.tmp 12) (.const (.bool true)) (.tmp 17)),
  o1 19 (.move (.tmp 18)),
  o2 20 (.fieldAddr 45 (.tmp 2) 2) 19 false,
  o2 21 (.load 23 (.tmp 20)) 19 false,
  o2 22 (.call ⟨.builtin .len, #[.tmp 21], #[23]⟩) 19 false,
  o2 23 (.fieldAddr 45 (.tmp 3) 2) 19 false,
  o2 24 (.load 23 (.tmp 23)) 19 false,
  o2 25 (.call ⟨.builtin .len, #[.tmp 24], #[23]⟩) 19 false,
  o2 26 (.binOp .neq 3 (.tmp 22) (.tmp 25) 3) 19 false,
  o1 27 (.pick (.tmp 19) (.const (.bool true)) (.tmp 26)),
  o1 28 (.move (.tmp 27)),
  o2 29 (.fieldAddr 45 (.tmp 2) 3) 28 false,
  o2 30 (.load 43 (.tmp 29)) 28 false,
  o2 31 (.call ⟨.builtin .len, #[.tmp 30], #[43]⟩) 28 false,
  o2 32 (.fieldAddr 45 (.tmp 3) 3) 28 false,
  o2 33 (.load 43 (.tmp 32)) 28 false,
  o2 34 (.call ⟨.builtin .len, #[.tmp 33], #[43]⟩) 28 false,
  o2 35 (.binOp .neq 3 (.tmp 31) (.tmp 34) 3) 28 false,
  o1 36 (.pick (.tmp 28) (.const (.bool true)) (.tmp 35))]) (.cond (.tmp 36) (.seq (.reg []
  [o1 4 (.assign (.const (.bool false)))]) (.ret)) (.skip))) (.seq (.seq (.reg []
  [o1 37 (.fieldAddr 45 (.tmp 2) 2),
  o1 38 (.load 23 (.tmp 37)),
  o1 39 (.call ⟨.builtin .len, #[.tmp 38], #[23]⟩),
  o1 40 (.move (.const (.int .i64 0)))]) (.block 0 (.loop (.seq (.reg []
  [o1 41 (.binOp .lss 3 (.tmp 40) (.tmp 39) 3)]) (.seq (.cond (.tmp 41) (.skip) (.exit 0)) (.seq (.block 1 (.seq (.reg []
  [o1 42 (.move (.tmp 40)),
  o1 5 (.assign (.tmp 42))]) (.seq (.reg [o1 43 (.fieldAddr 45 (.tmp 2) 2),
  o1 44 (.load 23 (.tmp 43)),
  o1 45 (.move (.tmp 5)),
  o1 46 (.indexAddr 23 (.tmp 44) (.tmp 45)),
  o1 47 (.load 9 (.tmp 46)),
  o1 48 (.fieldAddr 45 (.tmp 3) 2),
  o1 49 (.load 23 (.tmp 48)),
  o1 50 (.move (.tmp 5)),
  o1 51 (.indexAddr 23 (.tmp 49) (.tmp 50)),
  o1 52 (.load 9 (.tmp 51)),
  o1 53 (.binOp .neq 9 (.tmp 47) (.tmp 52) 9)]
  []) (.cond (.tmp 53) (.seq (.reg []
  [o1 4 (.assign (.const (.bool false)))]) (.ret)) (.skip))))) (.reg []
  [o1 54 (.binOp .add 3 (.tmp 40) (.const (.int .i64 1)) 3),
  o1 40 (.move (.tmp 54))]))))))) (.seq (.seq (.reg []
  [o1 55 (.fieldAddr 45 (.tmp 2) 3),
  o1 56 (.load 43 (.tmp 55)),
  o1 57 (.call ⟨.builtin .len, #[.tmp 56], #[43]⟩),
  o1 58 (.move (.const (.int .i64 0)))]) (.block 2 (.loop (.seq (.reg []
  [o1 59 (.binOp .lss 3 (.tmp 58) (.tmp 57) 3)]) (.seq (.cond (.tmp 59) (.skip) (.exit 2)) (.seq (.block 3 (.seq (.reg []
  [o1 60 (.move (.tmp 58)),
  o1 6 (.assign (.tmp 60))]) (.seq (.reg [o1 61 (.fieldAddr 45 (.tmp 2) 3),
  o1 62 (.load 43 (.tmp 61)),
  o1 63 (.move (.tmp 6)),
  o1 64 (.indexAddr 43 (.tmp 62) (.tmp 63)),
  o1 65 (.load 45 (.tmp 64)),
  o1 66 (.fieldAddr 45 (.tmp 3) 3),
  o1 67 (.load 43 (.tmp 66)),
  o1 68 (.move (.tmp 6)),
  o1 69 (.indexAddr 43 (.tmp 67) (.tmp 68)),
  o1 70 (.load 45 (.tmp 69)),
  o1 71 (.call ⟨.value (.func 20), #[.tmp 65, .tmp 70], #[45, 45]⟩),
  o1 72 (.unOp .not 4 (.tmp 71))]
  []) (.cond (.tmp 72) (.seq (.reg []
  [o1 4 (.assign (.const (.bool false)))]) (.ret)) (.skip))))) (.reg []
  [o1 73 (.binOp .add 3 (.tmp 58) (.const (.int .i64 1)) 3),
  o1 58 (.move (.tmp 73))]))))))) (.seq (.reg []
  [o1 4 (.assign (.const (.bool true)))]) (.ret)))))
def ms20_0 : List Nat := [0, 1, 4, 5, 7, 8, 9, 10, 11, 12, 13, 14, 15, 16, 17, 18, 19, 20, 21, 22, 23, 24, 25, 26, 27, 28, 29, 30, 31, 32, 33, 34, 35, 36, 37, 38, 40, 41, 42, 43, 44, 45, 46, 47, 48, 49, 50, 51, 52, 53, 54]
def ms20_1 : List Nat := [0, 1, 4, 5, 6, 7, 8, 9, 10, 11, 12, 13, 14, 15, 16, 17, 18, 19, 20, 21, 22, 23, 24, 25, 26, 27, 28, 29, 30, 31, 32, 33, 34, 35, 36, 37, 38, 39, 40, 41, 42, 43, 44, 45, 46, 47, 48, 49, 50, 51, 52, 53, 54, 55, 56, 58, 59, 60, 61, 62, 63, 64, 65, 66, 67, 68, 69, 70, 71, 72, 73]
theorem ls20 : Tryd.f20.body.map (strip Tryd.prog impCodH) = some lc20 := by kernel_rfl
theorem lcall20 : LC 20 74 lc20 [.tmp 4] := LC.of Tryd.func20 (by kernel_rfl) ls20 (by kernel_rfl) (by kernel_rfl)
/-- escutcheon/escutcheonref20.Print -/
def lc17 : LCode := .seq (.reg []
  [o1 1 (.box 45 (.tmp 0)),
  o1 2 (.assign (.const (.string { data := #[] })))]) (.seq (.reg []
  [o1 6 (.build 68 #[(0, .const (.string { data := #[110, 117, 108, 108] })), (1, .const (.string { data := #[102, 97, 108, 115, 101] })), (2, .const (.string { data := #[116, 114, 117, 101] }))]),
  o1 3 (.alloc 68),
  o3 (.store 68 (.tmp 3) (.tmp 6))]) (.seq (.seq (.reg []
  [o1 7 (.fieldAddr 45 (.tmp 1) 0),
  o1 8 (.load 3 (.tmp 7)),
  o1 9 (.binOp .lss 3 (.tmp 8) (.const (.int .i64 3)) 3)]) (.cond (.tmp 9) (.seq (.reg []
  [o1 10 (.fieldAddr 45 (.tmp 1) 0),
  o1 11 (.load 3 (.tmp 10)),
  o1 12 (.indexAddr 68 (.tmp 3) (.tmp 11)),
  o1 13 (.load 9 (.tmp 12)),
  o1 2 (.assign (.tmp 13))]) (.ret)) (.skip))) (.seq (.seq (.reg []
  [o1 14 (.fieldAddr 45 (.tmp 1) 0),
  o1 15 (.load 3 (.tmp 14)),
  o1 16 (.binOp .eql 3 (.tmp 15) (.const (.int .i64 3)) 3)]) (.cond (.tmp 16) (.seq (.reg []
  [o1 17 (.fieldAddr 45 (.tmp 1) 1),
  o1 18 (.load 9 (.tmp 17)),
  o1 2 (.assign (.tmp 18))]) (.ret)) (.skip))) (.seq (.seq (.reg []
  [o1 19 (.fieldAddr 45 (.tmp 1) 0),
  o1 20 (.load 3 (.tmp 19)),
  o1 21 (.binOp .eql 3 (.tmp 20) (.const (.int .i64 4)) 3)]) (.cond (.tmp 21) (.seq (.reg []
  [o1 22 (.fieldAddr 45 (.tmp 1) 1),
  o1 23 (.load 9 (.tmp 22)),
  o1 24 (.call ⟨.value (.func 16), #[.tmp 23], #[9]⟩),
  o1 2 (.assign (.tmp 24))]) (.ret)) (.skip))) (.seq (.reg []
  [o1 4 (.assign (.const (.string { data := #[] })))]) (.seq (.seq (.reg []
  [o1 25 (.fieldAddr 45 (.tmp 1) 3),
  o1 26 (.load 43 (.tmp 25)),
  o1 27 (.call ⟨.builtin .len, #[.tmp 26], #[43]⟩),
  o1 28 (.move (.const (.int .i64 0)))]) (.block 0 (.loop (.seq (.reg []
  [o1 29 (.binOp .lss 3 (.tmp 28) (.tmp 27) 3)]) (.seq (.cond (.tmp 29) (.skip) (.exit 0)) (.seq (.block 1 (.seq (.reg []
  [o1 30 (.move (.tmp 28)),
  o1 5 (.assign (.tmp 30))]) (.seq (.seq (.reg []
  [o1 31 (.move (.tmp 5)),
  o1 32 (.binOp .gtr 3 (.tmp 31) (.const (.int .i64 0)) 3)]) (.cond (.tmp 32) (.reg []
  [o1 33 (.move (.tmp 4)),
  o1 34 (.binOp .add 9 (.tmp 33) (.const (.string { data := #[44] })) 9),
  o1 4 (.assign (.tmp 34))]) (.skip))) (.seq (.seq (.reg []
  [o1 35 (.fieldAddr 45 (.tmp 1) 0),
  o1 36 (.load 3 (.tmp 35)),
  o1 37 (.binOp .eql 3 (.tmp 36) (.const (.int .i64 6)) 3)]) (.cond (.tmp 37) (.reg []
  [o1 38 (.move (.tmp 4)),
  o1 39 (.fieldAddr 45 (.tmp 1) 2),
  o1 40 (.load 23 (.tmp 39)),
  o1 41 (.move (.tmp 5)),
  o1 42 (.indexAddr 23 (.tmp 40) (.tmp 41)),
  o1 43 (.load 9 (.tmp 42)),
  o1 44 (.call ⟨.value (.func 16), #[.tmp 43], #[9]⟩),
  o1 45 (.binOp .add 9 (.tmp 38) (.tmp 44) 9),
  o1 46 (.binOp .add 9 (.tmp 45) (.const (.string { data := #[58] })) 9),
  o1 4 (.assign (.tmp 46))]) (.skip))) (.reg []
  [o1 47 (.move (.tmp 4)),
  o1 48 (.fieldAddr 45 (.tmp 1) 3),
  o1 49 (.load 43 (.tmp 48)),
  o1 50 (.move (.tmp 5)),
  o1 51 (.indexAddr 43 (.tmp 49) (.tmp 50)),
  o1 52 (.load 45 (.tmp 51)),
  o1 53 (.call ⟨.value (.func 17), #[.tmp 52], #[45]⟩),
  o1 54 (.binOp .add 9 (.tmp 47) (.tmp 53) 9),
  o1 4 (.assign (.tmp 54))]))))) (.reg []
  [o1 55 (.binOp .add 3 (.tmp 28) (.const (.int .i64 1)) 3),
  o1 28 (.move (.tmp 55))]))))))) (.seq (.seq (.reg []
  [o1 56 (.fieldAddr 45 (.tmp 1) 0),
  o1 57 (.load 3 (.tmp 56)),
  o1 58 (.binOp .eql 3 (.tmp 57) (.const (.int .i64 5)) 3)]) (.cond (.tmp 58) (.seq (.reg []
  [o1 59 (.move (.tmp 4)),
  o1 60 (.binOp .add 9 (.const (.string { data := #[91] })) (.tmp 59) 9),
  o1 61 (.binOp .add 9 (.tmp 60) (.const (.string { data := #[93] })) 9),
  o1 2 (.assign (.tmp 61))]) (.ret)) (.skip))) (.seq (.reg []
  [o1 62 (.move (.tmp 4)),
  o1 63 (.binOp .add 9 (.const (.string { data := #[123] })) (.tmp 62) 9),
  o1 64 (.binOp .add 9 (.tmp 63) (.const (.string { data := #[125] })) 9),
  o1 2 (.assign (.tmp 64))]) (.ret)))))))))
def ms17_0 : List Nat := [0, 3, 4, 5, 6, 7, 8, 9, 10, 11, 12, 13, 14, 15, 16, 17, 18, 19, 20, 21, 22, 23, 24, 25, 26, 28, 29, 30, 31, 32, 33, 34, 35, 36, 37, 38, 39, 40, 41, 42, 43, 44, 45, 46, 47, 48, 49, 50, 51, 52, 53, 54, 55]
/-- escutcheon/escutcheonref20.Quoted -/
def lc16 : LCode := .seq (.reg []
  [o1 2 (.assign (.const (.string { data := #[] })))]) (.seq (.reg []
  [o1 3 (.assign (.const (.string { data := #[34] })))]) (.seq (.seq (.reg []
  [o1 4 (.assign (.const (.int .i64 0)))]) (.block 0 (.loop (.seq (.seq (.reg []
  [o1 5 (.move (.tmp 4)),
  o1 6 (.move (.tmp 0)),
  o1 7 (.call ⟨.builtin .len, #[.tmp 6], #[9]⟩),
  o1 8 (.binOp .lss 3 (.tmp 5) (.tmp 7) 3)]) (.cond (.tmp 8) (.skip) (.exit 0))) (.seq (.block 1 (.seq (.seq (.reg []
  [o1 11 (.move (.tmp 0)),
  o1 12 (.move (.tmp 4)),
  o1 13 (.index 9 (.tmp 11) (.tmp 12)),
  o1 14 (.binOp .eql 5 (.tmp 13) (.const (.int .u8 34)) 5),
  o1 15 (.move (.tmp 14)),
  o2 16 (.move (.tmp 0)) 15 false,
  o2 17 (.move (.tmp 4)) 15 false,
  o2 18 (.index 9 (.tmp 16) (.tmp 17)) 15 false,
  o2 19 (.binOp .eql 5 (.tmp 18) (.const (.int .u8 92)) 5) 15 false,
  o1 20 (.pick (.tmp 15) (.const (.bool true)) (.tmp 19))]) (.cond (.tmp 20) (.reg []
  [o1 21 (.move (.tmp 3)),
  o1 22 (.binOp .add 9 (.tmp 21) (.const (.string { data := #[92] })) 9),
  o1 3 (.assign (.tmp 22))]) (.skip))) (.seq (.reg []
  [o1 23 (.move (.tmp 0)),
  o1 24 (.move (.tmp 4)),
  o1 25 (.index 9 (.tmp 23) (.tmp 24)),
  o1 26 (.binOp .lss 5 (.tmp 25) (.const (.int .u8 32)) 5)]) (.cond (.tmp 26) (.reg []
  [o1 27 (.move (.tmp 3)),
  o1 28 (.binOp .add 9 (.tmp 27) (.const (.string { data := #[92, 117, 48, 48] })) 9),
  o1 29 (.move (.tmp 0)),
  o1 30 (.move (.tmp 4)),
  o1 31 (.index 9 (.tmp 29) (.tmp 30)),
  o1 32 (.buildSlice 41 1 #[(0, .tmp 31)]),
  o1 33 (.call ⟨.value (.func 32), #[.tmp 32], #[41]⟩),
  o1 34 (.binOp .add 9 (.tmp 28) (.tmp 33) 9),
  o1 3 (.assign (.tmp 34))]) (.reg []
  [o1 35 (.move (.tmp 3)),
  o1 36 (.move (.tmp 0)),
  o1 37 (.move (.tmp 4)),
  o1 38 (.move (.tmp 4)),
  o1 39 (.binOp .add 3 (.tmp 38) (.const (.int .i64 1)) 3),
  o1 40 (.slice 9 (.tmp 36) (some (.tmp 37)) (some (.tmp 39)) none),
  o1 41 (.binOp .add 9 (.tmp 35) (.tmp 40) 9),
  o1 3 (.assign (.tmp 41))]))))) (.reg []
  [o1 9 (.move (.tmp 4)),
  o1 10 (.binOp .add 3 (.tmp 9) (.const (.int .i64 1)) 3),
  o1 4 (.assign (.tmp 10))])))))) (.seq (.reg []
  [o1 42 (.move (.tmp 3)),
  o1 43 (.binOp .add 9 (.tmp 42) (.const (.string { data := #[34] })) 9),
  o1 2 (.assign (.tmp 43))]) (.ret))))
def ms16_0 : List Nat := [1, 3, 4, 5, 6, 7, 8, 9, 10, 11, 12, 13, 14, 15, 16, 17, 18, 19, 20, 21, 22, 23, 24, 25, 26, 27, 28, 29, 30, 31, 32, 33, 34, 35, 36, 37, 38, 39, 40, 41]
theorem ls16 : Tryd.f16.body.map (strip Tryd.prog impCodH) = some lc16 := by kernel_rfl
theorem lcall16 : LC 16 44 lc16 [.tmp 2] := LC.of Tryd.func16 (by kernel_rfl) ls16 (by kernel_rfl) (by kernel_rfl)
/-- escutcheon/escutcheonref01.Hex -/
def lc32 : LCode := .seq (.reg []
  [o1 2 (.assign (.const (.string { data := #[] })))]) (.seq (.reg []
  [o1 3 (.assign (.const (.slice none 0 0)))]) (.seq (.seq (.reg []
  [o1 5 (.move (.tmp 0)),
  o1 6 (.call ⟨.builtin .len, #[.tmp 5], #[41]⟩),
  o1 7 (.move (.const (.int .i64 0)))]) (.block 0 (.loop (.seq (.reg []
  [o1 8 (.binOp .lss 3 (.tmp 7) (.tmp 6) 3)]) (.seq (.cond (.tmp 8) (.skip) (.exit 0)) (.seq (.block 1 (.seq (.reg []
  [o1 9 (.move (.tmp 7)),
  o1 4 (.assign (.tmp 9))]) (.reg [o1 10 (.move (.tmp 3)),
  o1 11 (.move (.tmp 0)),
  o1 12 (.move (.tmp 4)),
  o1 13 (.indexAddr 41 (.tmp 11) (.tmp 12)),
  o1 14 (.load 5 (.tmp 13)),
  o1 15 (.convert 5 3 (.tmp 14)),
  o1 16 (.binOp .quo 3 (.tmp 15) (.const (.int .i64 16)) 3),
  o1 17 (.call ⟨.value (.func 45), #[.tmp 16], #[3]⟩),
  o1 18 (.move (.tmp 0)),
  o1 19 (.move (.tmp 4)),
  o1 20 (.indexAddr 41 (.tmp 18) (.tmp 19)),
  o1 21 (.load 5 (.tmp 20)),
  o1 22 (.convert 5 3 (.tmp 21)),
  o1 23 (.binOp .rem 3 (.tmp 22) (.const (.int .i64 16)) 3),
  o1 24 (.call ⟨.value (.func 45), #[.tmp 23], #[3]⟩),
  o1 25 (.buildSlice 41 2 #[(0, .tmp 17), (1, .tmp 24)])]
  [o1 26 (.call ⟨.builtin .append, #[.tmp 10, .tmp 25], #[41, 41]⟩),
  o1 3 (.assign (.tmp 26))]))) (.reg []
  [o1 27 (.binOp .add 3 (.tmp 7) (.const (.int .i64 1)) 3),
  o1 7 (.move (.tmp 27))]))))))) (.seq (.reg []
  [o1 28 (.move (.tmp 3)),
  o1 29 (.convert 41 9 (.tmp 28)),
  o1 2 (.assign (.tmp 29))]) (.ret))))
def ms32_0 : List Nat := [1, 3, 4, 5, 7, 8, 9, 10, 11, 12, 13, 14, 15, 16, 17, 18, 19, 20, 21, 22, 23, 24, 25, 26, 27]
theorem ls32 : Tryd.f32.body.map (strip Tryd.prog impCodH) = some lc32 := by kernel_rfl
theorem lcall32 : LC 32 30 lc32 [.tmp 2] := LC.of Tryd.func32 (by kernel_rfl) ls32 (by kernel_rfl) (by kernel_rfl)
/-- escutcheon/escutcheonref01.digit -/
def lc45 : LCode := .seq (.reg []
  [o1 2 (.assign (.const (.int .u8 0)))]) (.seq (.seq (.reg []
  [o1 3 (.move (.tmp 0)),
  o1 4 (.binOp .lss 3 (.tmp 3) (.const (.int .i64 10)) 3)]) (.cond (.tmp 4) (.seq (.reg []
  [o1 5 (.move (.tmp 0)),
  o1 6 (.binOp .add 3 (.const (.int .i64 48)) (.tmp 5) 3),
  o1 7 (.convert 3 5 (.tmp 6)),
  o1 2 (.assign (.tmp 7))]) (.ret)) (.skip))) (.seq (.reg []
  [o1 8 (.move (.tmp 0)),
  o1 9 (.binOp .add 3 (.const (.int .i64 97)) (.tmp 8) 3),
  o1 10 (.binOp .sub 3 (.tmp 9) (.const (.int .i64 10)) 3),
  o1 11 (.convert 3 5 (.tmp 10)),
  o1 2 (.assign (.tmp 11))]) (.ret)))
theorem ls45 : Tryd.f45.body.map (strip Tryd.prog impCodH) = some lc45 := by kernel_rfl
theorem lcall45 : LC 45 12 lc45 [.tmp 2] := LC.of Tryd.func45 (by kernel_rfl) ls45 (by kernel_rfl) (by kernel_rfl)
end Go.Abs.S
