/- Code, as it is looked at; written by wip/leancode.py. -/
import Derived.Test.YtkeacmonhjhgeaaDoorAbsSeat
namespace Go.Abs.S
open Go.Proofs
set_option maxRecDepth 100000
def impCodH : FuncId → Bool := fun f => f == 12 || f == 15 || f == 30 || f == 36
/-- escutcheon/escutcheonref07.Hash -/
def lc10 : LCode := .seq (.reg []
  [⟨some 6, Go.Op.box 25 (Go.Operand.tmp 2), none⟩,
  ⟨some 8, Go.Op.assign (Go.Operand.const (Go.Value.slice none 0 0)), none⟩]) (.seq (.reg []
  [⟨some 9, Go.Op.assign (Go.Operand.const (Go.Value.slice none 0 0)), none⟩]) (.seq (.reg []
  [⟨some 23, Go.Op.fieldAddr 25 (Go.Operand.tmp 6) 0, none⟩,
  ⟨some 24, Go.Op.load 3 (Go.Operand.tmp 23), none⟩,
  ⟨some 25, Go.Op.fieldAddr 25 (Go.Operand.tmp 6) 1, none⟩,
  ⟨some 26, Go.Op.load 3 (Go.Operand.tmp 25), none⟩,
  ⟨some 27, Go.Op.fieldAddr 25 (Go.Operand.tmp 6) 2, none⟩,
  ⟨some 28, Go.Op.load 3 (Go.Operand.tmp 27), none⟩,
  ⟨some 29, Go.Op.move (Go.Operand.tmp 3), none⟩,
  ⟨some 30, Go.Op.build 46 #[(0, Go.Operand.tmp 24), (1, Go.Operand.tmp 26), (2, Go.Operand.tmp 28), (3, Go.Operand.tmp 29), (4, Go.Operand.const (Go.Value.int Go.IntKind.i64 1))], none⟩,
  ⟨some 10, Go.Op.alloc 46, none⟩,
  ⟨none, Go.Op.store 46 (Go.Operand.tmp 10) (Go.Operand.tmp 30), none⟩]) (.seq (.seq (.reg []
  [⟨some 31, Go.Op.move (Go.Operand.const (Go.Value.int Go.IntKind.i64 0)), none⟩]) (.block 0 (.loop (.seq (.reg []
  [⟨some 32, Go.Op.binOp Go.BinOp.lss 3 (Go.Operand.tmp 31) (Go.Operand.const (Go.Value.int Go.IntKind.i64 5)) 3, none⟩]) (.seq (.cond (Go.Operand.tmp 32) (.skip) (.exit 0)) (.seq (.block 1 (.seq (.reg []
  [⟨some 33, Go.Op.move (Go.Operand.tmp 31), none⟩,
  ⟨some 11, Go.Op.assign (Go.Operand.tmp 33), none⟩]) (.reg []
  [⟨some 34, Go.Op.move (Go.Operand.tmp 9), none⟩,
  ⟨some 35, Go.Op.move (Go.Operand.tmp 11), none⟩,
  ⟨some 36, Go.Op.indexAddr 46 (Go.Operand.tmp 10) (Go.Operand.tmp 35), none⟩,
  ⟨some 37, Go.Op.load 3 (Go.Operand.tmp 36), none⟩,
  ⟨some 38, Go.Op.call { callee := Go.Callee.value (Go.Operand.func 19), args := #[Go.Operand.tmp 37], argTypes := #[3] }, none⟩,
  ⟨some 39, Go.Op.call { callee := Go.Callee.builtin Go.Builtin.append, args := #[Go.Operand.tmp 34, Go.Operand.tmp 38], argTypes := #[22, 22] }, none⟩,
  ⟨some 9, Go.Op.assign (Go.Operand.tmp 39), none⟩]))) (.reg []
  [⟨some 40, Go.Op.binOp Go.BinOp.add 3 (Go.Operand.tmp 31) (Go.Operand.const (Go.Value.int Go.IntKind.i64 1)) 3, none⟩,
  ⟨some 31, Go.Op.move (Go.Operand.tmp 40), none⟩]))))))) (.seq (.reg []
  [⟨some 41, Go.Op.move (Go.Operand.tmp 9), none⟩,
  ⟨some 42, Go.Op.move (Go.Operand.tmp 0), none⟩,
  ⟨some 43, Go.Op.move (Go.Operand.tmp 1), none⟩,
  ⟨some 44, Go.Op.buildSlice 44 3 #[(0, Go.Operand.tmp 41), (1, Go.Operand.tmp 42), (2, Go.Operand.tmp 43)], none⟩,
  ⟨some 45, Go.Op.call { callee := Go.Callee.value (Go.Operand.func 20), args := #[Go.Operand.tmp 44], argTypes := #[44] }, none⟩,
  ⟨some 12, Go.Op.assign (Go.Operand.tmp 45), none⟩]) (.seq (.reg []
  [⟨some 46, Go.Op.fieldAddr 25 (Go.Operand.tmp 6) 2, none⟩,
  ⟨some 47, Go.Op.load 3 (Go.Operand.tmp 46), none⟩,
  ⟨some 48, Go.Op.fieldAddr 25 (Go.Operand.tmp 6) 0, none⟩,
  ⟨some 49, Go.Op.load 3 (Go.Operand.tmp 48), none⟩,
  ⟨some 50, Go.Op.binOp Go.BinOp.mul 3 (Go.Operand.tmp 47) (Go.Operand.tmp 49) 3, none⟩,
  ⟨some 51, Go.Op.makeSlice 44 (Go.Operand.tmp 50) (Go.Operand.tmp 50), none⟩,
  ⟨some 13, Go.Op.assign (Go.Operand.tmp 51), none⟩]) (.seq (.seq (.reg []
  [⟨some 14, Go.Op.assign (Go.Operand.const (Go.Value.int Go.IntKind.i64 0)), none⟩]) (.block 2 (.loop (.seq (.seq (.reg []
  [⟨some 52, Go.Op.move (Go.Operand.tmp 14), none⟩,
  ⟨some 53, Go.Op.fieldAddr 25 (Go.Operand.tmp 6) 2, none⟩,
  ⟨some 54, Go.Op.load 3 (Go.Operand.tmp 53), none⟩,
  ⟨some 55, Go.Op.binOp Go.BinOp.lss 3 (Go.Operand.tmp 52) (Go.Operand.tmp 54) 3, none⟩]) (.cond (Go.Operand.tmp 55) (.skip) (.exit 2))) (.seq (.block 3 (.seq (.reg [⟨some 58, Go.Op.move (Go.Operand.tmp 13), none⟩,
  ⟨some 59, Go.Op.move (Go.Operand.tmp 14), none⟩,
  ⟨some 60, Go.Op.fieldAddr 25 (Go.Operand.tmp 6) 0, none⟩,
  ⟨some 61, Go.Op.load 3 (Go.Operand.tmp 60), none⟩,
  ⟨some 62, Go.Op.binOp Go.BinOp.mul 3 (Go.Operand.tmp 59) (Go.Operand.tmp 61) 3, none⟩,
  ⟨some 63, Go.Op.move (Go.Operand.tmp 12), none⟩,
  ⟨some 64, Go.Op.move (Go.Operand.tmp 14), none⟩,
  ⟨some 65, Go.Op.call { callee := Go.Callee.value (Go.Operand.func 19), args := #[Go.Operand.tmp 64], argTypes := #[3] }, none⟩,
  ⟨some 66, Go.Op.call { callee := Go.Callee.value (Go.Operand.func 19), args := #[Go.Operand.const (Go.Value.int Go.IntKind.i64 0)], argTypes := #[3] }, none⟩,
  ⟨some 67, Go.Op.buildSlice 44 3 #[(0, Go.Operand.tmp 63), (1, Go.Operand.tmp 65), (2, Go.Operand.tmp 66)], none⟩,
  ⟨some 68, Go.Op.call { callee := Go.Callee.value (Go.Operand.func 20), args := #[Go.Operand.tmp 67], argTypes := #[44] }, none⟩,
  ⟨some 69, Go.Op.indexAddr 44 (Go.Operand.tmp 58) (Go.Operand.tmp 62), none⟩]
  [⟨none, Go.Op.store 22 (Go.Operand.tmp 69) (Go.Operand.tmp 68), none⟩]) (.reg [⟨some 70, Go.Op.move (Go.Operand.tmp 13), none⟩,
  ⟨some 71, Go.Op.move (Go.Operand.tmp 14), none⟩,
  ⟨some 72, Go.Op.fieldAddr 25 (Go.Operand.tmp 6) 0, none⟩,
  ⟨some 73, Go.Op.load 3 (Go.Operand.tmp 72), none⟩,
  ⟨some 74, Go.Op.binOp Go.BinOp.mul 3 (Go.Operand.tmp 71) (Go.Operand.tmp 73) 3, none⟩,
  ⟨some 75, Go.Op.binOp Go.BinOp.add 3 (Go.Operand.tmp 74) (Go.Operand.const (Go.Value.int Go.IntKind.i64 1)) 3, none⟩,
  ⟨some 76, Go.Op.move (Go.Operand.tmp 12), none⟩,
  ⟨some 77, Go.Op.move (Go.Operand.tmp 14), none⟩,
  ⟨some 78, Go.Op.call { callee := Go.Callee.value (Go.Operand.func 19), args := #[Go.Operand.tmp 77], argTypes := #[3] }, none⟩,
  ⟨some 79, Go.Op.call { callee := Go.Callee.value (Go.Operand.func 19), args := #[Go.Operand.const (Go.Value.int Go.IntKind.i64 1)], argTypes := #[3] }, none⟩,
  ⟨some 80, Go.Op.buildSlice 44 3 #[(0, Go.Operand.tmp 76), (1, Go.Operand.tmp 78), (2, Go.Operand.tmp 79)], none⟩,
  ⟨some 81, Go.Op.call { callee := Go.Callee.value (Go.Operand.func 20), args := #[Go.Operand.tmp 80], argTypes := #[44] }, none⟩,
  ⟨some 82, Go.Op.indexAddr 44 (Go.Operand.tmp 70) (Go.Operand.tmp 75), none⟩]
  [⟨none, Go.Op.store 22 (Go.Operand.tmp 82) (Go.Operand.tmp 81), none⟩]))) (.reg []
  [⟨some 56, Go.Op.move (Go.Operand.tmp 14), none⟩,
  ⟨some 57, Go.Op.binOp Go.BinOp.add 3 (Go.Operand.tmp 56) (Go.Operand.const (Go.Value.int Go.IntKind.i64 1)) 3, none⟩,
  ⟨some 14, Go.Op.assign (Go.Operand.tmp 57), none⟩])))))) (.seq (.seq (.reg []
  [⟨some 15, Go.Op.assign (Go.Operand.const (Go.Value.int Go.IntKind.i64 0)), none⟩]) (.block 4 (.loop (.seq (.seq (.reg []
  [⟨some 83, Go.Op.move (Go.Operand.tmp 15), none⟩,
  ⟨some 84, Go.Op.fieldAddr 25 (Go.Operand.tmp 6) 1, none⟩,
  ⟨some 85, Go.Op.load 3 (Go.Operand.tmp 84), none⟩,
  ⟨some 86, Go.Op.binOp Go.BinOp.lss 3 (Go.Operand.tmp 83) (Go.Operand.tmp 85) 3, none⟩]) (.cond (Go.Operand.tmp 86) (.skip) (.exit 4))) (.seq (.block 5 (.seq (.reg []
  [⟨some 16, Go.Op.assign (Go.Operand.const (Go.Value.int Go.IntKind.i64 0)), none⟩]) (.block 6 (.loop (.seq (.seq (.reg []
  [⟨some 89, Go.Op.move (Go.Operand.tmp 16), none⟩,
  ⟨some 90, Go.Op.fieldAddr 25 (Go.Operand.tmp 6) 2, none⟩,
  ⟨some 91, Go.Op.load 3 (Go.Operand.tmp 90), none⟩,
  ⟨some 92, Go.Op.binOp Go.BinOp.lss 3 (Go.Operand.tmp 89) (Go.Operand.tmp 91) 3, none⟩]) (.cond (Go.Operand.tmp 92) (.skip) (.exit 6))) (.seq (.block 7 (.seq (.reg []
  [⟨some 17, Go.Op.assign (Go.Operand.const (Go.Value.int Go.IntKind.i64 0)), none⟩]) (.block 8 (.loop (.seq (.seq (.reg []
  [⟨some 95, Go.Op.move (Go.Operand.tmp 17), none⟩,
  ⟨some 96, Go.Op.fieldAddr 25 (Go.Operand.tmp 6) 0, none⟩,
  ⟨some 97, Go.Op.load 3 (Go.Operand.tmp 96), none⟩,
  ⟨some 98, Go.Op.binOp Go.BinOp.lss 3 (Go.Operand.tmp 95) (Go.Operand.tmp 97) 3, none⟩]) (.cond (Go.Operand.tmp 98) (.skip) (.exit 8))) (.seq (.block 9 (.seq (.seq (.reg []
  [⟨some 101, Go.Op.move (Go.Operand.tmp 15), none⟩,
  ⟨some 102, Go.Op.binOp Go.BinOp.eql 3 (Go.Operand.tmp 101) (Go.Operand.const (Go.Value.int Go.IntKind.i64 0)) 3, none⟩,
  ⟨some 103, Go.Op.move (Go.Operand.tmp 102), none⟩,
  ⟨some 104, Go.Op.move (Go.Operand.tmp 17), (some (103, true))⟩,
  ⟨some 105, Go.Op.binOp Go.BinOp.lss 3 (Go.Operand.tmp 104) (Go.Operand.const (Go.Value.int Go.IntKind.i64 2)) 3, (some (103, true))⟩,
  ⟨some 106, Go.Op.pick (Go.Operand.tmp 103) (Go.Operand.tmp 105) (Go.Operand.const (Go.Value.bool false)), none⟩]) (.cond (Go.Operand.tmp 106) (.exit 9) (.skip))) (.seq (.reg []
  [⟨some 107, Go.Op.move (Go.Operand.tmp 16), none⟩,
  ⟨some 108, Go.Op.fieldAddr 25 (Go.Operand.tmp 6) 0, none⟩,
  ⟨some 109, Go.Op.load 3 (Go.Operand.tmp 108), none⟩,
  ⟨some 110, Go.Op.binOp Go.BinOp.mul 3 (Go.Operand.tmp 107) (Go.Operand.tmp 109) 3, none⟩,
  ⟨some 18, Go.Op.assign (Go.Operand.tmp 110), none⟩]) (.seq (.reg []
  [⟨some 111, Go.Op.move (Go.Operand.tmp 13), none⟩,
  ⟨some 112, Go.Op.move (Go.Operand.tmp 18), none⟩,
  ⟨some 113, Go.Op.move (Go.Operand.tmp 17), none⟩,
  ⟨some 114, Go.Op.fieldAddr 25 (Go.Operand.tmp 6) 0, none⟩,
  ⟨some 115, Go.Op.load 3 (Go.Operand.tmp 114), none⟩,
  ⟨some 116, Go.Op.binOp Go.BinOp.add 3 (Go.Operand.tmp 113) (Go.Operand.tmp 115) 3, none⟩,
  ⟨some 117, Go.Op.binOp Go.BinOp.sub 3 (Go.Operand.tmp 116) (Go.Operand.const (Go.Value.int Go.IntKind.i64 1)) 3, none⟩,
  ⟨some 118, Go.Op.fieldAddr 25 (Go.Operand.tmp 6) 0, none⟩,
  ⟨some 119, Go.Op.load 3 (Go.Operand.tmp 118), none⟩,
  ⟨some 120, Go.Op.binOp Go.BinOp.rem 3 (Go.Operand.tmp 117) (Go.Operand.tmp 119) 3, none⟩,
  ⟨some 121, Go.Op.binOp Go.BinOp.add 3 (Go.Operand.tmp 112) (Go.Operand.tmp 120) 3, none⟩,
  ⟨some 122, Go.Op.indexAddr 44 (Go.Operand.tmp 111) (Go.Operand.tmp 121), none⟩,
  ⟨some 123, Go.Op.load 22 (Go.Operand.tmp 122), none⟩,
  ⟨some 19, Go.Op.assign (Go.Operand.tmp 123), none⟩]) (.seq (.reg []
  [⟨some 124, Go.Op.move (Go.Operand.tmp 19), none⟩,
  ⟨some 125, Go.Op.call { callee := Go.Callee.value (Go.Operand.func 21), args := #[Go.Operand.tmp 124], argTypes := #[22] }, none⟩,
  ⟨some 20, Go.Op.assign (Go.Operand.tmp 125), none⟩]) (.seq (.reg []
  [⟨some 126, Go.Op.move (Go.Operand.tmp 15), none⟩,
  ⟨some 127, Go.Op.binOp Go.BinOp.eql 3 (Go.Operand.tmp 126) (Go.Operand.const (Go.Value.int Go.IntKind.i64 0)) 3, none⟩]) (.cond (Go.Operand.tmp 127) (.reg []
  [⟨some 128, Go.Op.move (Go.Operand.tmp 13), none⟩,
  ⟨some 129, Go.Op.move (Go.Operand.tmp 18), none⟩,
  ⟨some 130, Go.Op.move (Go.Operand.tmp 17), none⟩,
  ⟨some 131, Go.Op.binOp Go.BinOp.add 3 (Go.Operand.tmp 129) (Go.Operand.tmp 130) 3, none⟩,
  ⟨some 132, Go.Op.move (Go.Operand.tmp 19), none⟩,
  ⟨some 133, Go.Op.move (Go.Operand.tmp 13), none⟩,
  ⟨some 134, Go.Op.move (Go.Operand.tmp 18), none⟩,
  ⟨some 135, Go.Op.move (Go.Operand.tmp 20), none⟩,
  ⟨some 136, Go.Op.binOp Go.BinOp.quo 3 (Go.Operand.tmp 135) (Go.Operand.const (Go.Value.int Go.IntKind.i64 256)) 3, none⟩,
  ⟨some 137, Go.Op.move (Go.Operand.tmp 17), none⟩,
  ⟨some 138, Go.Op.binOp Go.BinOp.sub 3 (Go.Operand.tmp 137) (Go.Operand.const (Go.Value.int Go.IntKind.i64 1)) 3, none⟩,
  ⟨some 139, Go.Op.binOp Go.BinOp.rem 3 (Go.Operand.tmp 136) (Go.Operand.tmp 138) 3, none⟩,
  ⟨some 140, Go.Op.binOp Go.BinOp.add 3 (Go.Operand.tmp 134) (Go.Operand.tmp 139) 3, none⟩,
  ⟨some 141, Go.Op.indexAddr 44 (Go.Operand.tmp 133) (Go.Operand.tmp 140), none⟩,
  ⟨some 142, Go.Op.load 22 (Go.Operand.tmp 141), none⟩,
  ⟨some 143, Go.Op.buildSlice 44 2 #[(0, Go.Operand.tmp 132), (1, Go.Operand.tmp 142)], none⟩,
  ⟨some 144, Go.Op.call { callee := Go.Callee.value (Go.Operand.func 20), args := #[Go.Operand.tmp 143], argTypes := #[44] }, none⟩,
  ⟨some 145, Go.Op.indexAddr 44 (Go.Operand.tmp 128) (Go.Operand.tmp 131), none⟩,
  ⟨none, Go.Op.store 22 (Go.Operand.tmp 145) (Go.Operand.tmp 144), none⟩]) (.reg [⟨some 146, Go.Op.move (Go.Operand.tmp 13), none⟩,
  ⟨some 147, Go.Op.move (Go.Operand.tmp 18), none⟩,
  ⟨some 148, Go.Op.move (Go.Operand.tmp 17), none⟩,
  ⟨some 149, Go.Op.binOp Go.BinOp.add 3 (Go.Operand.tmp 147) (Go.Operand.tmp 148) 3, none⟩,
  ⟨some 150, Go.Op.move (Go.Operand.tmp 19), none⟩,
  ⟨some 151, Go.Op.move (Go.Operand.tmp 13), none⟩,
  ⟨some 152, Go.Op.move (Go.Operand.tmp 20), none⟩,
  ⟨some 153, Go.Op.fieldAddr 25 (Go.Operand.tmp 6) 2, none⟩,
  ⟨some 154, Go.Op.load 3 (Go.Operand.tmp 153), none⟩,
  ⟨some 155, Go.Op.binOp Go.BinOp.rem 3 (Go.Operand.tmp 152) (Go.Operand.tmp 154) 3, none⟩,
  ⟨some 156, Go.Op.fieldAddr 25 (Go.Operand.tmp 6) 0, none⟩,
  ⟨some 157, Go.Op.load 3 (Go.Operand.tmp 156), none⟩,
  ⟨some 158, Go.Op.binOp Go.BinOp.mul 3 (Go.Operand.tmp 155) (Go.Operand.tmp 157) 3, none⟩,
  ⟨some 159, Go.Op.move (Go.Operand.tmp 20), none⟩,
  ⟨some 160, Go.Op.binOp Go.BinOp.quo 3 (Go.Operand.tmp 159) (Go.Operand.const (Go.Value.int Go.IntKind.i64 256)) 3, none⟩,
  ⟨some 161, Go.Op.fieldAddr 25 (Go.Operand.tmp 6) 0, none⟩,
  ⟨some 162, Go.Op.load 3 (Go.Operand.tmp 161), none⟩,
  ⟨some 163, Go.Op.binOp Go.BinOp.rem 3 (Go.Operand.tmp 160) (Go.Operand.tmp 162) 3, none⟩,
  ⟨some 164, Go.Op.binOp Go.BinOp.add 3 (Go.Operand.tmp 158) (Go.Operand.tmp 163) 3, none⟩,
  ⟨some 165, Go.Op.indexAddr 44 (Go.Operand.tmp 151) (Go.Operand.tmp 164), none⟩,
  ⟨some 166, Go.Op.load 22 (Go.Operand.tmp 165), none⟩,
  ⟨some 167, Go.Op.move (Go.Operand.tmp 13), none⟩,
  ⟨some 168, Go.Op.move (Go.Operand.tmp 18), none⟩,
  ⟨some 169, Go.Op.move (Go.Operand.tmp 17), none⟩,
  ⟨some 170, Go.Op.binOp Go.BinOp.add 3 (Go.Operand.tmp 168) (Go.Operand.tmp 169) 3, none⟩,
  ⟨some 171, Go.Op.indexAddr 44 (Go.Operand.tmp 167) (Go.Operand.tmp 170), none⟩,
  ⟨some 172, Go.Op.load 22 (Go.Operand.tmp 171), none⟩,
  ⟨some 173, Go.Op.buildSlice 44 3 #[(0, Go.Operand.tmp 150), (1, Go.Operand.tmp 166), (2, Go.Operand.tmp 172)], none⟩,
  ⟨some 174, Go.Op.call { callee := Go.Callee.value (Go.Operand.func 20), args := #[Go.Operand.tmp 173], argTypes := #[44] }, none⟩,
  ⟨some 175, Go.Op.indexAddr 44 (Go.Operand.tmp 146) (Go.Operand.tmp 149), none⟩]
  [⟨none, Go.Op.store 22 (Go.Operand.tmp 175) (Go.Operand.tmp 174), none⟩])))))))) (.reg []
  [⟨some 99, Go.Op.move (Go.Operand.tmp 17), none⟩,
  ⟨some 100, Go.Op.binOp Go.BinOp.add 3 (Go.Operand.tmp 99) (Go.Operand.const (Go.Value.int Go.IntKind.i64 1)) 3, none⟩,
  ⟨some 17, Go.Op.assign (Go.Operand.tmp 100), none⟩]))))))) (.reg []
  [⟨some 93, Go.Op.move (Go.Operand.tmp 16), none⟩,
  ⟨some 94, Go.Op.binOp Go.BinOp.add 3 (Go.Operand.tmp 93) (Go.Operand.const (Go.Value.int Go.IntKind.i64 1)) 3, none⟩,
  ⟨some 16, Go.Op.assign (Go.Operand.tmp 94), none⟩]))))))) (.reg []
  [⟨some 87, Go.Op.move (Go.Operand.tmp 15), none⟩,
  ⟨some 88, Go.Op.binOp Go.BinOp.add 3 (Go.Operand.tmp 87) (Go.Operand.const (Go.Value.int Go.IntKind.i64 1)) 3, none⟩,
  ⟨some 15, Go.Op.assign (Go.Operand.tmp 88), none⟩])))))) (.seq (.reg []
  [⟨some 21, Go.Op.assign (Go.Operand.const (Go.Value.slice none 0 0)), none⟩]) (.seq (.seq (.reg []
  [⟨some 22, Go.Op.assign (Go.Operand.const (Go.Value.int Go.IntKind.i64 1)), none⟩]) (.block 10 (.loop (.seq (.seq (.reg []
  [⟨some 176, Go.Op.move (Go.Operand.tmp 22), none⟩,
  ⟨some 177, Go.Op.fieldAddr 25 (Go.Operand.tmp 6) 2, none⟩,
  ⟨some 178, Go.Op.load 3 (Go.Operand.tmp 177), none⟩,
  ⟨some 179, Go.Op.binOp Go.BinOp.leq 3 (Go.Operand.tmp 176) (Go.Operand.tmp 178) 3, none⟩]) (.cond (Go.Operand.tmp 179) (.skip) (.exit 10))) (.seq (.block 11 (.reg []
  [⟨some 182, Go.Op.move (Go.Operand.tmp 21), none⟩,
  ⟨some 183, Go.Op.move (Go.Operand.tmp 13), none⟩,
  ⟨some 184, Go.Op.move (Go.Operand.tmp 22), none⟩,
  ⟨some 185, Go.Op.fieldAddr 25 (Go.Operand.tmp 6) 0, none⟩,
  ⟨some 186, Go.Op.load 3 (Go.Operand.tmp 185), none⟩,
  ⟨some 187, Go.Op.binOp Go.BinOp.mul 3 (Go.Operand.tmp 184) (Go.Operand.tmp 186) 3, none⟩,
  ⟨some 188, Go.Op.binOp Go.BinOp.sub 3 (Go.Operand.tmp 187) (Go.Operand.const (Go.Value.int Go.IntKind.i64 1)) 3, none⟩,
  ⟨some 189, Go.Op.indexAddr 44 (Go.Operand.tmp 183) (Go.Operand.tmp 188), none⟩,
  ⟨some 190, Go.Op.load 22 (Go.Operand.tmp 189), none⟩,
  ⟨some 191, Go.Op.buildSlice 44 1 #[(0, Go.Operand.tmp 190)], none⟩,
  ⟨some 192, Go.Op.call { callee := Go.Callee.builtin Go.Builtin.append, args := #[Go.Operand.tmp 182, Go.Operand.tmp 191], argTypes := #[44, 44] }, none⟩,
  ⟨some 21, Go.Op.assign (Go.Operand.tmp 192), none⟩])) (.reg []
  [⟨some 180, Go.Op.move (Go.Operand.tmp 22), none⟩,
  ⟨some 181, Go.Op.binOp Go.BinOp.add 3 (Go.Operand.tmp 180) (Go.Operand.const (Go.Value.int Go.IntKind.i64 1)) 3, none⟩,
  ⟨some 22, Go.Op.assign (Go.Operand.tmp 181), none⟩])))))) (.seq (.reg []
  [⟨some 193, Go.Op.move (Go.Operand.tmp 3), none⟩,
  ⟨some 194, Go.Op.move (Go.Operand.tmp 21), none⟩,
  ⟨some 195, Go.Op.call { callee := Go.Callee.value (Go.Operand.func 23), args := #[Go.Operand.tmp 194], argTypes := #[44] }, none⟩,
  ⟨some 196, Go.Op.call { callee := Go.Callee.value (Go.Operand.func 22), args := #[Go.Operand.tmp 193, Go.Operand.const (Go.Value.slice none 0 0), Go.Operand.tmp 195], argTypes := #[3, 22, 22] }, none⟩,
  ⟨some 8, Go.Op.assign (Go.Operand.tmp 196), none⟩]) (.ret)))))))))))
def ms10_0 : List Nat := [2, 4, 5, 7, 9, 11, 23, 24, 25, 26, 27, 28, 29, 30, 31, 32, 33, 34, 35, 36, 37, 38, 39, 40]
def ms10_1 : List Nat := [0, 1, 2, 4, 5, 7, 9, 10, 11, 14, 23, 24, 25, 26, 27, 28, 29, 30, 31, 32, 33, 34, 35, 36, 37, 38, 39, 40, 41, 42, 43, 44, 45, 46, 47, 48, 49, 50, 51, 52, 53, 54, 55, 56, 57, 58, 59, 60, 61, 62, 63, 64, 65, 66, 67, 68, 69, 70, 71, 72, 73, 74, 75, 76, 77, 78, 79, 80, 81, 82]
def ms10_2 : List Nat := [0, 1, 2, 4, 5, 7, 9, 10, 11, 12, 14, 15, 16, 17, 18, 19, 20, 23, 24, 25, 26, 27, 28, 29, 30, 31, 32, 33, 34, 35, 36, 37, 38, 39, 40, 41, 42, 43, 44, 45, 46, 47, 48, 49, 50, 51, 52, 53, 54, 55, 56, 57, 58, 59, 60, 61, 62, 63, 64, 65, 66, 67, 68, 69, 70, 71, 72, 73, 74, 75, 76, 77, 78, 79, 80, 81, 82, 83, 84, 85, 86, 87, 88, 89, 90, 91, 92, 93, 94, 95, 96, 97, 98, 99, 100, 101, 102, 103, 104, 105, 106, 107, 108, 109, 110, 111, 112, 113, 114, 115, 116, 117, 118, 119, 120, 121, 122, 123, 124, 125, 126, 127, 128, 129, 130, 131, 132, 133, 134, 135, 136, 137, 138, 139, 140, 141, 142, 143, 144, 145, 146, 147, 148, 149, 150, 151, 152, 153, 154, 155, 156, 157, 158, 159, 160, 161, 162, 163, 164, 165, 166, 167, 168, 169, 170, 171, 172, 173, 174, 175]
def ms10_3 : List Nat := [0, 1, 2, 4, 5, 7, 9, 10, 11, 12, 14, 16, 17, 18, 19, 20, 23, 24, 25, 26, 27, 28, 29, 30, 31, 32, 33, 34, 35, 36, 37, 38, 39, 40, 41, 42, 43, 44, 45, 46, 47, 48, 49, 50, 51, 52, 53, 54, 55, 56, 57, 58, 59, 60, 61, 62, 63, 64, 65, 66, 67, 68, 69, 70, 71, 72, 73, 74, 75, 76, 77, 78, 79, 80, 81, 82, 89, 90, 91, 92, 93, 94, 95, 96, 97, 98, 99, 100, 101, 102, 103, 104, 105, 106, 107, 108, 109, 110, 111, 112, 113, 114, 115, 116, 117, 118, 119, 120, 121, 122, 123, 124, 125, 126, 127, 128, 129, 130, 131, 132, 133, 134, 135, 136, 137, 138, 139, 140, 141, 142, 143, 144, 145, 146, 147, 148, 149, 150, 151, 152, 153, 154, 155, 156, 157, 158, 159, 160, 161, 162, 163, 164, 165, 166, 167, 168, 169, 170, 171, 172, 173, 174, 175]
def ms10_4 : List Nat := [0, 1, 2, 4, 5, 7, 9, 10, 11, 12, 14, 17, 18, 19, 20, 23, 24, 25, 26, 27, 28, 29, 30, 31, 32, 33, 34, 35, 36, 37, 38, 39, 40, 41, 42, 43, 44, 45, 46, 47, 48, 49, 50, 51, 52, 53, 54, 55, 56, 57, 58, 59, 60, 61, 62, 63, 64, 65, 66, 67, 68, 69, 70, 71, 72, 73, 74, 75, 76, 77, 78, 79, 80, 81, 82, 95, 96, 97, 98, 99, 100, 101, 102, 103, 104, 105, 106, 107, 108, 109, 110, 111, 112, 113, 114, 115, 116, 117, 118, 119, 120, 121, 122, 123, 124, 125, 126, 127, 128, 129, 130, 131, 132, 133, 134, 135, 136, 137, 138, 139, 140, 141, 142, 143, 144, 145, 146, 147, 148, 149, 150, 151, 152, 153, 154, 155, 156, 157, 158, 159, 160, 161, 162, 163, 164, 165, 166, 167, 168, 169, 170, 171, 172, 173, 174, 175]
def ms10_5 : List Nat := [0, 1, 2, 4, 5, 7, 9, 10, 11, 12, 14, 15, 16, 17, 18, 19, 20, 21, 22, 23, 24, 25, 26, 27, 28, 29, 30, 31, 32, 33, 34, 35, 36, 37, 38, 39, 40, 41, 42, 43, 44, 45, 46, 47, 48, 49, 50, 51, 52, 53, 54, 55, 56, 57, 58, 59, 60, 61, 62, 63, 64, 65, 66, 67, 68, 69, 70, 71, 72, 73, 74, 75, 76, 77, 78, 79, 80, 81, 82, 83, 84, 85, 86, 87, 88, 89, 90, 91, 92, 93, 94, 95, 96, 97, 98, 99, 100, 101, 102, 103, 104, 105, 106, 107, 108, 109, 110, 111, 112, 113, 114, 115, 116, 117, 118, 119, 120, 121, 122, 123, 124, 125, 126, 127, 128, 129, 130, 131, 132, 133, 134, 135, 136, 137, 138, 139, 140, 141, 142, 143, 144, 145, 146, 147, 148, 149, 150, 151, 152, 153, 154, 155, 156, 157, 158, 159, 160, 161, 162, 163, 164, 165, 166, 167, 168, 169, 170, 171, 172, 173, 174, 175, 176, 177, 178, 179, 180, 181, 182, 183, 184, 185, 186, 187, 188, 189, 190, 191, 192]
def mj10_0 : List Nat := [2, 4, 5, 7, 23, 24, 25, 26, 27, 28, 29, 30]
def mj10_1 : List Nat := [0, 1, 2, 4, 5, 7, 9, 10, 11, 23, 24, 25, 26, 27, 28, 29, 30, 31, 32, 33, 34, 35, 36, 37, 38, 39, 40, 41, 42, 43, 44, 45, 46, 47, 48, 49, 50, 51]
def mj10_2 : List Nat := [0, 1, 2, 4, 5, 7, 9, 10, 11, 12, 14, 23, 24, 25, 26, 27, 28, 29, 30, 31, 32, 33, 34, 35, 36, 37, 38, 39, 40, 41, 42, 43, 44, 45, 46, 47, 48, 49, 50, 51, 52, 53, 54, 55, 56, 57, 58, 59, 60, 61, 62, 63, 64, 65, 66, 67, 68, 69, 70, 71, 72, 73, 74, 75, 76, 77, 78, 79, 80, 81, 82]
def mj10_3 : List Nat := [0, 1, 2, 4, 5, 7, 9, 10, 11, 12, 14, 23, 24, 25, 26, 27, 28, 29, 30, 31, 32, 33, 34, 35, 36, 37, 38, 39, 40, 41, 42, 43, 44, 45, 46, 47, 48, 49, 50, 51, 52, 53, 54, 55, 56, 57, 58, 59, 60, 61, 62, 63, 64, 65, 66, 67, 68, 69, 70, 71, 72, 73, 74, 75, 76, 77, 78, 79, 80, 81, 82]
def mj10_4 : List Nat := [0, 1, 2, 4, 5, 7, 9, 10, 11, 12, 14, 23, 24, 25, 26, 27, 28, 29, 30, 31, 32, 33, 34, 35, 36, 37, 38, 39, 40, 41, 42, 43, 44, 45, 46, 47, 48, 49, 50, 51, 52, 53, 54, 55, 56, 57, 58, 59, 60, 61, 62, 63, 64, 65, 66, 67, 68, 69, 70, 71, 72, 73, 74, 75, 76, 77, 78, 79, 80, 81, 82]
def mj10_5 : List Nat := [0, 1, 2, 4, 5, 7, 9, 10, 11, 12, 14, 23, 24, 25, 26, 27, 28, 29, 30, 31, 32, 33, 34, 35, 36, 37, 38, 39, 40, 41, 42, 43, 44, 45, 46, 47, 48, 49, 50, 51, 52, 53, 54, 55, 56, 57, 58, 59, 60, 61, 62, 63, 64, 65, 66, 67, 68, 69, 70, 71, 72, 73, 74, 75, 76, 77, 78, 79, 80, 81, 82]
def mj10_6 : List Nat := [0, 1, 2, 4, 5, 7, 9, 10, 11, 12, 14, 23, 24, 25, 26, 27, 28, 29, 30, 31, 32, 33, 34, 35, 36, 37, 38, 39, 40, 41, 42, 43, 44, 45, 46, 47, 48, 49, 50, 51, 52, 53, 54, 55, 56, 57, 58, 59, 60, 61, 62, 63, 64, 65, 66, 67, 68, 69, 70, 71, 72, 73, 74, 75, 76, 77, 78, 79, 80, 81, 82, 128, 129, 130, 131, 132, 133, 134, 135, 136, 137, 138, 139, 140, 141, 142, 143, 144, 145, 146, 147, 148, 149, 150, 151, 152, 153, 154, 155, 156, 157, 158, 159, 160, 161, 162, 163, 164, 165, 166, 167, 168, 169, 170, 171, 172, 173, 174, 175]
def mj10_7 : List Nat := [0, 1, 2, 4, 5, 7, 9, 10, 11, 12, 14, 15, 16, 17, 18, 19, 20, 23, 24, 25, 26, 27, 28, 29, 30, 31, 32, 33, 34, 35, 36, 37, 38, 39, 40, 41, 42, 43, 44, 45, 46, 47, 48, 49, 50, 51, 52, 53, 54, 55, 56, 57, 58, 59, 60, 61, 62, 63, 64, 65, 66, 67, 68, 69, 70, 71, 72, 73, 74, 75, 76, 77, 78, 79, 80, 81, 82, 83, 84, 85, 86, 87, 88, 89, 90, 91, 92, 93, 94, 95, 96, 97, 98, 99, 100, 101, 102, 103, 104, 105, 106, 107, 108, 109, 110, 111, 112, 113, 114, 115, 116, 117, 118, 119, 120, 121, 122, 123, 124, 125, 126, 127, 128, 129, 130, 131, 132, 133, 134, 135, 136, 137, 138, 139, 140, 141, 142, 143, 144, 145, 146, 147, 148, 149, 150, 151, 152, 153, 154, 155, 156, 157, 158, 159, 160, 161, 162, 163, 164, 165, 166, 167, 168, 169, 170, 171, 172, 173, 174, 175]
theorem ls10 : Tryd.f10.body.map (strip Tryd.prog impCodH) = some lc10 := by kernel_rfl
theorem lcall10 {args : List AV} (hargs : args.length ≤ 197) {H0 : AHeap} (lo : Nat) (hlo : H0.length ≤ lo) {r0 : AV} {H0' : AHeap}
    (h : lavc Tryd.prog glob lc10 (args ++ List.replicate (197 - args.length) (.v undef)) H0 fun e t H => (e = .normal ∨ e = .ret) ∧ aret Tryd.prog t H [Go.ResultVar.tmp 8] fun r => Fin lo H r r0 H0') :
    ACall Tryd.prog glob (H0.length == 0) 10 args H0 r0 H0' := LCall' ctx Tryd.func10 (by kernel_rfl) ls10 (by kernel_rfl) (by kernel_rfl) hargs lo hlo h
theorem lcallk10 {args : List AV} (hargs : args.length ≤ 197) {H0 : AHeap} {r0 : AV} {H0' : AHeap}
    (h : lavc Tryd.prog glob lc10 (args ++ List.replicate (197 - args.length) (.v undef)) H0 fun e t H => (e = .normal ∨ e = .ret) ∧ aret Tryd.prog t H [Go.ResultVar.tmp 8] fun r => r = r0 ∧ H = H0') :
    ACall Tryd.prog glob false 10 args H0 r0 H0' := LCallK' ctx Tryd.func10 (by kernel_rfl) ls10 (by kernel_rfl) (by kernel_rfl) hargs h
/-- escutcheon/escutcheonlaw07.CellarHashes -/
def lc3 : LCode := .seq (.reg []
  [⟨some 3, Go.Op.box 23 (Go.Operand.tmp 0), none⟩,
  ⟨some 4, Go.Op.box 25 (Go.Operand.tmp 1), none⟩,
  ⟨some 6, Go.Op.assign (Go.Operand.const (Go.Value.bool false)), none⟩]) (.seq (.seq (.reg []
  [⟨some 9, Go.Op.call { callee := Go.Callee.value (Go.Operand.func 6), args := #[], argTypes := #[] }, none⟩,
  ⟨some 10, Go.Op.unOp Go.UnOp.not 4 (Go.Operand.tmp 9), none⟩,
  ⟨some 11, Go.Op.move (Go.Operand.tmp 10), none⟩,
  ⟨some 12, Go.Op.indexAddr 23 (Go.Operand.tmp 3) (Go.Operand.const (Go.Value.int Go.IntKind.i64 0)), (some (11, false))⟩,
  ⟨some 13, Go.Op.load 22 (Go.Operand.tmp 12), (some (11, false))⟩,
  ⟨some 14, Go.Op.call { callee := Go.Callee.builtin Go.Builtin.len, args := #[Go.Operand.tmp 13], argTypes := #[22] }, (some (11, false))⟩,
  ⟨some 15, Go.Op.binOp Go.BinOp.gtr 3 (Go.Operand.tmp 14) (Go.Operand.const (Go.Value.int Go.IntKind.i64 100)) 3, (some (11, false))⟩,
  ⟨some 16, Go.Op.pick (Go.Operand.tmp 11) (Go.Operand.const (Go.Value.bool true)) (Go.Operand.tmp 15), none⟩,
  ⟨some 17, Go.Op.move (Go.Operand.tmp 16), none⟩,
  ⟨some 18, Go.Op.indexAddr 23 (Go.Operand.tmp 3) (Go.Operand.const (Go.Value.int Go.IntKind.i64 1)), (some (17, false))⟩,
  ⟨some 19, Go.Op.load 22 (Go.Operand.tmp 18), (some (17, false))⟩,
  ⟨some 20, Go.Op.call { callee := Go.Callee.builtin Go.Builtin.len, args := #[Go.Operand.tmp 19], argTypes := #[22] }, (some (17, false))⟩,
  ⟨some 21, Go.Op.binOp Go.BinOp.gtr 3 (Go.Operand.tmp 20) (Go.Operand.const (Go.Value.int Go.IntKind.i64 100)) 3, (some (17, false))⟩,
  ⟨some 22, Go.Op.pick (Go.Operand.tmp 17) (Go.Operand.const (Go.Value.bool true)) (Go.Operand.tmp 21), none⟩]) (.cond (Go.Operand.tmp 22) (.seq (.reg []
  [⟨some 23, Go.Op.call { callee := Go.Callee.value (Go.Operand.func 6), args := #[], argTypes := #[] }, none⟩,
  ⟨some 6, Go.Op.assign (Go.Operand.tmp 23), none⟩]) (.ret)) (.skip))) (.seq (.seq (.reg [⟨some 24, Go.Op.load 25 (Go.Operand.tmp 4), none⟩,
  ⟨some 25, Go.Op.call { callee := Go.Callee.value (Go.Operand.func 7), args := #[Go.Operand.tmp 24], argTypes := #[25] }, none⟩,
  ⟨some 26, Go.Op.load 25 (Go.Operand.tmp 4), none⟩,
  ⟨some 27, Go.Op.call { callee := Go.Callee.value (Go.Operand.func 8), args := #[Go.Operand.tmp 26], argTypes := #[25] }, none⟩,
  ⟨some 28, Go.Op.binOp Go.BinOp.neq 4 (Go.Operand.tmp 25) (Go.Operand.tmp 27) 4, none⟩]
  []) (.cond (Go.Operand.tmp 28) (.seq (.reg []
  [⟨some 6, Go.Op.assign (Go.Operand.const (Go.Value.bool false)), none⟩]) (.ret)) (.skip))) (.seq (.seq (.reg []
  [⟨some 29, Go.Op.load 25 (Go.Operand.tmp 4), none⟩,
  ⟨some 30, Go.Op.call { callee := Go.Callee.value (Go.Operand.func 8), args := #[Go.Operand.tmp 29], argTypes := #[25] }, none⟩,
  ⟨some 31, Go.Op.move (Go.Operand.tmp 30), none⟩,
  ⟨some 32, Go.Op.fieldAddr 25 (Go.Operand.tmp 4) 0, (some (31, true))⟩,
  ⟨some 33, Go.Op.load 3 (Go.Operand.tmp 32), (some (31, true))⟩,
  ⟨some 34, Go.Op.fieldAddr 25 (Go.Operand.tmp 4) 1, (some (31, true))⟩,
  ⟨some 35, Go.Op.load 3 (Go.Operand.tmp 34), (some (31, true))⟩,
  ⟨some 36, Go.Op.binOp Go.BinOp.mul 3 (Go.Operand.tmp 33) (Go.Operand.tmp 35) 3, (some (31, true))⟩,
  ⟨some 37, Go.Op.fieldAddr 25 (Go.Operand.tmp 4) 2, (some (31, true))⟩,
  ⟨some 38, Go.Op.load 3 (Go.Operand.tmp 37), (some (31, true))⟩,
  ⟨some 39, Go.Op.binOp Go.BinOp.mul 3 (Go.Operand.tmp 36) (Go.Operand.tmp 38) 3, (some (31, true))⟩,
  ⟨some 40, Go.Op.binOp Go.BinOp.gtr 3 (Go.Operand.tmp 39) (Go.Operand.const (Go.Value.int Go.IntKind.i64 80)) 3, (some (31, true))⟩,
  ⟨some 41, Go.Op.pick (Go.Operand.tmp 31) (Go.Operand.tmp 40) (Go.Operand.const (Go.Value.bool false)), none⟩]) (.cond (Go.Operand.tmp 41) (.seq (.reg []
  [⟨some 6, Go.Op.assign (Go.Operand.const (Go.Value.bool true)), none⟩]) (.ret)) (.skip))) (.seq (.reg []
  [⟨some 43, Go.Op.indexAddr 23 (Go.Operand.tmp 3) (Go.Operand.const (Go.Value.int Go.IntKind.i64 0)), none⟩,
  ⟨some 44, Go.Op.load 22 (Go.Operand.tmp 43), none⟩,
  ⟨some 45, Go.Op.indexAddr 23 (Go.Operand.tmp 3) (Go.Operand.const (Go.Value.int Go.IntKind.i64 1)), none⟩,
  ⟨some 46, Go.Op.load 22 (Go.Operand.tmp 45), none⟩,
  ⟨some 47, Go.Op.load 25 (Go.Operand.tmp 4), none⟩,
  ⟨some 48, Go.Op.move (Go.Operand.tmp 2), none⟩,
  ⟨some 49, Go.Op.call { callee := Go.Callee.value (Go.Operand.func 9), args := #[Go.Operand.tmp 44, Go.Operand.tmp 46, Go.Operand.tmp 47, Go.Operand.tmp 48], argTypes := #[22, 22, 25, 3] }, none⟩,
  ⟨some 42, Go.Op.move (Go.Operand.tmp 49), none⟩,
  ⟨some 50, Go.Op.extract (Go.Operand.tmp 42) 0, none⟩,
  ⟨some 51, Go.Op.extract (Go.Operand.tmp 42) 1, none⟩,
  ⟨some 7, Go.Op.assign (Go.Operand.tmp 50), none⟩,
  ⟨some 8, Go.Op.assign (Go.Operand.tmp 51), none⟩]) (.seq (.seq (.reg []
  [⟨some 52, Go.Op.load 25 (Go.Operand.tmp 4), none⟩,
  ⟨some 53, Go.Op.call { callee := Go.Callee.value (Go.Operand.func 8), args := #[Go.Operand.tmp 52], argTypes := #[25] }, none⟩,
  ⟨some 54, Go.Op.unOp Go.UnOp.not 4 (Go.Operand.tmp 53), none⟩,
  ⟨some 55, Go.Op.move (Go.Operand.tmp 54), none⟩,
  ⟨some 56, Go.Op.move (Go.Operand.tmp 2), (some (55, false))⟩,
  ⟨some 57, Go.Op.binOp Go.BinOp.lss 3 (Go.Operand.tmp 56) (Go.Operand.const (Go.Value.int Go.IntKind.i64 1)) 3, (some (55, false))⟩,
  ⟨some 58, Go.Op.pick (Go.Operand.tmp 55) (Go.Operand.const (Go.Value.bool true)) (Go.Operand.tmp 57), none⟩,
  ⟨some 59, Go.Op.move (Go.Operand.tmp 58), none⟩,
  ⟨some 60, Go.Op.move (Go.Operand.tmp 2), (some (59, false))⟩,
  ⟨some 61, Go.Op.binOp Go.BinOp.gtr 3 (Go.Operand.tmp 60) (Go.Operand.const (Go.Value.int Go.IntKind.i64 64)) 3, (some (59, false))⟩,
  ⟨some 62, Go.Op.pick (Go.Operand.tmp 59) (Go.Operand.const (Go.Value.bool true)) (Go.Operand.tmp 61), none⟩]) (.cond (Go.Operand.tmp 62) (.seq (.reg []
  [⟨some 63, Go.Op.move (Go.Operand.tmp 8), none⟩,
  ⟨some 64, Go.Op.binOp Go.BinOp.eql 28 (Go.Operand.tmp 63) (Go.Operand.const (Go.Value.int Go.IntKind.i64 1)) 28, none⟩,
  ⟨some 65, Go.Op.move (Go.Operand.tmp 64), none⟩,
  ⟨some 66, Go.Op.move (Go.Operand.tmp 7), (some (65, true))⟩,
  ⟨some 67, Go.Op.call { callee := Go.Callee.builtin Go.Builtin.len, args := #[Go.Operand.tmp 66], argTypes := #[22] }, (some (65, true))⟩,
  ⟨some 68, Go.Op.binOp Go.BinOp.eql 3 (Go.Operand.tmp 67) (Go.Operand.const (Go.Value.int Go.IntKind.i64 0)) 3, (some (65, true))⟩,
  ⟨some 69, Go.Op.pick (Go.Operand.tmp 65) (Go.Operand.tmp 68) (Go.Operand.const (Go.Value.bool false)), none⟩,
  ⟨some 6, Go.Op.assign (Go.Operand.tmp 69), none⟩]) (.ret)) (.skip))) (.seq (.reg [⟨some 70, Go.Op.move (Go.Operand.tmp 8), none⟩,
  ⟨some 71, Go.Op.binOp Go.BinOp.eql 28 (Go.Operand.tmp 70) (Go.Operand.const (Go.Value.int Go.IntKind.i64 0)) 28, none⟩,
  ⟨some 72, Go.Op.move (Go.Operand.tmp 71), none⟩,
  ⟨some 73, Go.Op.move (Go.Operand.tmp 7), (some (72, true))⟩,
  ⟨some 74, Go.Op.convert 22 9 (Go.Operand.tmp 73), (some (72, true))⟩,
  ⟨some 75, Go.Op.indexAddr 23 (Go.Operand.tmp 3) (Go.Operand.const (Go.Value.int Go.IntKind.i64 0)), (some (72, true))⟩,
  ⟨some 76, Go.Op.load 22 (Go.Operand.tmp 75), (some (72, true))⟩,
  ⟨some 77, Go.Op.indexAddr 23 (Go.Operand.tmp 3) (Go.Operand.const (Go.Value.int Go.IntKind.i64 1)), (some (72, true))⟩,
  ⟨some 78, Go.Op.load 22 (Go.Operand.tmp 77), (some (72, true))⟩,
  ⟨some 79, Go.Op.load 25 (Go.Operand.tmp 4), (some (72, true))⟩,
  ⟨some 80, Go.Op.move (Go.Operand.tmp 2), (some (72, true))⟩,
  ⟨some 81, Go.Op.call { callee := Go.Callee.value (Go.Operand.func 10), args := #[Go.Operand.tmp 76, Go.Operand.tmp 78, Go.Operand.tmp 79, Go.Operand.tmp 80], argTypes := #[22, 22, 25, 3] }, (some (72, true))⟩,
  ⟨some 82, Go.Op.convert 22 9 (Go.Operand.tmp 81), (some (72, true))⟩,
  ⟨some 83, Go.Op.binOp Go.BinOp.eql 9 (Go.Operand.tmp 74) (Go.Operand.tmp 82) 9, (some (72, true))⟩,
  ⟨some 84, Go.Op.pick (Go.Operand.tmp 72) (Go.Operand.tmp 83) (Go.Operand.const (Go.Value.bool false)), none⟩,
  ⟨some 6, Go.Op.assign (Go.Operand.tmp 84), none⟩]
  []) (.ret)))))))
def mj3_0 : List Nat := [0, 1, 5, 6, 9, 10, 11, 12, 13, 14, 15, 16, 17, 18, 19, 20, 21, 22, 23]
def mj3_1 : List Nat := [0, 1, 5, 6, 9, 10, 11, 12, 13, 14, 15, 16, 17, 18, 19, 20, 21, 22, 23, 24, 25, 26, 27, 28]
def mj3_2 : List Nat := [0, 1, 5, 6, 9, 10, 11, 12, 13, 14, 15, 16, 17, 18, 19, 20, 21, 22, 23, 24, 25, 26, 27, 28, 29, 30, 31, 32, 33, 34, 35, 36, 37, 38, 39, 40, 41]
def mj3_3 : List Nat := [0, 1, 5, 6, 9, 10, 11, 12, 13, 14, 15, 16, 17, 18, 19, 20, 21, 22, 23, 24, 25, 26, 27, 28, 29, 30, 31, 32, 33, 34, 35, 36, 37, 38, 39, 40, 41, 42, 43, 44, 45, 46, 47, 48, 49, 50, 51, 52, 53, 54, 55, 56, 57, 58, 59, 60, 61, 62, 63, 64, 65, 66, 67, 68, 69]
theorem ls3 : Tryd.f3.body.map (strip Tryd.prog impCodH) = some lc3 := by kernel_rfl
theorem lcall3 {args : List AV} (hargs : args.length ≤ 85) {H0 : AHeap} (lo : Nat) (hlo : H0.length ≤ lo) {r0 : AV} {H0' : AHeap}
    (h : lavc Tryd.prog glob lc3 (args ++ List.replicate (85 - args.length) (.v undef)) H0 fun e t H => (e = .normal ∨ e = .ret) ∧ aret Tryd.prog t H [Go.ResultVar.tmp 6] fun r => Fin lo H r r0 H0') :
    ACall Tryd.prog glob (H0.length == 0) 3 args H0 r0 H0' := LCall' ctx Tryd.func3 (by kernel_rfl) ls3 (by kernel_rfl) (by kernel_rfl) hargs lo hlo h
theorem lcallk3 {args : List AV} (hargs : args.length ≤ 85) {H0 : AHeap} {r0 : AV} {H0' : AHeap}
    (h : lavc Tryd.prog glob lc3 (args ++ List.replicate (85 - args.length) (.v undef)) H0 fun e t H => (e = .normal ∨ e = .ret) ∧ aret Tryd.prog t H [Go.ResultVar.tmp 6] fun r => r = r0 ∧ H = H0') :
    ACall Tryd.prog glob false 3 args H0 r0 H0' := LCallK' ctx Tryd.func3 (by kernel_rfl) ls3 (by kernel_rfl) (by kernel_rfl) hargs h
end Go.Abs.S
