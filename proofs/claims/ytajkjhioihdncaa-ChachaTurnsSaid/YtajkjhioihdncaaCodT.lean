/- Code, as it is looked at; written by wip/leancode.py. -/
import Derived.Test.YtajkjhioihdncaaAbsSeat
namespace Go.Abs.S
open Go.Proofs
set_option maxRecDepth 100000
def impCodT : FuncId → Bool := fun f => f == 1000037
/-- escutcheon/escutcheonlaw06.ChachaTurns -/
def lc5 : LCode := .seq (.reg []
  [⟨some 5, Go.Op.box 38 (Go.Operand.tmp 2), none⟩,
  ⟨some 6, Go.Op.assign (Go.Operand.const (Go.Value.bool false)), none⟩]) (.seq (.seq (.reg []
  [⟨some 12, Go.Op.call { callee := Go.Callee.value (Go.Operand.func 8), args := #[], argTypes := #[] }, none⟩,
  ⟨some 13, Go.Op.unOp Go.UnOp.not 4 (Go.Operand.tmp 12), none⟩,
  ⟨some 14, Go.Op.move (Go.Operand.tmp 13), none⟩,
  ⟨some 15, Go.Op.move (Go.Operand.tmp 0), (some (14, false))⟩,
  ⟨some 16, Go.Op.call { callee := Go.Callee.builtin Go.Builtin.len, args := #[Go.Operand.tmp 15], argTypes := #[26] }, (some (14, false))⟩,
  ⟨some 17, Go.Op.binOp Go.BinOp.gtr 3 (Go.Operand.tmp 16) (Go.Operand.const (Go.Value.int Go.IntKind.i64 100)) 3, (some (14, false))⟩,
  ⟨some 18, Go.Op.pick (Go.Operand.tmp 14) (Go.Operand.const (Go.Value.bool true)) (Go.Operand.tmp 17), none⟩,
  ⟨some 19, Go.Op.move (Go.Operand.tmp 18), none⟩,
  ⟨some 20, Go.Op.move (Go.Operand.tmp 1), (some (19, false))⟩,
  ⟨some 21, Go.Op.call { callee := Go.Callee.builtin Go.Builtin.len, args := #[Go.Operand.tmp 20], argTypes := #[26] }, (some (19, false))⟩,
  ⟨some 22, Go.Op.binOp Go.BinOp.gtr 3 (Go.Operand.tmp 21) (Go.Operand.const (Go.Value.int Go.IntKind.i64 100)) 3, (some (19, false))⟩,
  ⟨some 23, Go.Op.pick (Go.Operand.tmp 19) (Go.Operand.const (Go.Value.bool true)) (Go.Operand.tmp 22), none⟩,
  ⟨some 24, Go.Op.move (Go.Operand.tmp 23), none⟩,
  ⟨some 25, Go.Op.indexAddr 38 (Go.Operand.tmp 5) (Go.Operand.const (Go.Value.int Go.IntKind.i64 0)), (some (24, false))⟩,
  ⟨some 26, Go.Op.load 26 (Go.Operand.tmp 25), (some (24, false))⟩,
  ⟨some 27, Go.Op.call { callee := Go.Callee.builtin Go.Builtin.len, args := #[Go.Operand.tmp 26], argTypes := #[26] }, (some (24, false))⟩,
  ⟨some 28, Go.Op.binOp Go.BinOp.gtr 3 (Go.Operand.tmp 27) (Go.Operand.const (Go.Value.int Go.IntKind.i64 200)) 3, (some (24, false))⟩,
  ⟨some 29, Go.Op.pick (Go.Operand.tmp 24) (Go.Operand.const (Go.Value.bool true)) (Go.Operand.tmp 28), none⟩,
  ⟨some 30, Go.Op.move (Go.Operand.tmp 29), none⟩,
  ⟨some 31, Go.Op.indexAddr 38 (Go.Operand.tmp 5) (Go.Operand.const (Go.Value.int Go.IntKind.i64 1)), (some (30, false))⟩,
  ⟨some 32, Go.Op.load 26 (Go.Operand.tmp 31), (some (30, false))⟩,
  ⟨some 33, Go.Op.call { callee := Go.Callee.builtin Go.Builtin.len, args := #[Go.Operand.tmp 32], argTypes := #[26] }, (some (30, false))⟩,
  ⟨some 34, Go.Op.binOp Go.BinOp.gtr 3 (Go.Operand.tmp 33) (Go.Operand.const (Go.Value.int Go.IntKind.i64 200)) 3, (some (30, false))⟩,
  ⟨some 35, Go.Op.pick (Go.Operand.tmp 30) (Go.Operand.const (Go.Value.bool true)) (Go.Operand.tmp 34), none⟩]) (.cond (Go.Operand.tmp 35) (.seq (.reg []
  [⟨some 36, Go.Op.call { callee := Go.Callee.value (Go.Operand.func 8), args := #[], argTypes := #[] }, none⟩,
  ⟨some 6, Go.Op.assign (Go.Operand.tmp 36), none⟩]) (.ret)) (.skip))) (.seq (.reg [⟨some 37, Go.Op.buildSlice 26 0 #[], none⟩,
  ⟨some 38, Go.Op.indexAddr 38 (Go.Operand.tmp 5) (Go.Operand.const (Go.Value.int Go.IntKind.i64 0)), none⟩,
  ⟨some 39, Go.Op.load 26 (Go.Operand.tmp 38), none⟩,
  ⟨some 40, Go.Op.call { callee := Go.Callee.builtin Go.Builtin.append, args := #[Go.Operand.tmp 37, Go.Operand.tmp 39], argTypes := #[26, 26] }, none⟩,
  ⟨some 41, Go.Op.indexAddr 38 (Go.Operand.tmp 5) (Go.Operand.const (Go.Value.int Go.IntKind.i64 1)), none⟩,
  ⟨some 42, Go.Op.load 26 (Go.Operand.tmp 41), none⟩]
  [⟨some 43, Go.Op.call { callee := Go.Callee.builtin Go.Builtin.append, args := #[Go.Operand.tmp 40, Go.Operand.tmp 42], argTypes := #[26, 26] }, none⟩,
  ⟨some 7, Go.Op.assign (Go.Operand.tmp 43), none⟩]) (.seq (.reg []
  [⟨some 45, Go.Op.move (Go.Operand.tmp 0), none⟩,
  ⟨some 46, Go.Op.move (Go.Operand.tmp 1), none⟩,
  ⟨some 47, Go.Op.indexAddr 38 (Go.Operand.tmp 5) (Go.Operand.const (Go.Value.int Go.IntKind.i64 0)), none⟩,
  ⟨some 48, Go.Op.load 26 (Go.Operand.tmp 47), none⟩,
  ⟨some 49, Go.Op.indexAddr 38 (Go.Operand.tmp 5) (Go.Operand.const (Go.Value.int Go.IntKind.i64 1)), none⟩,
  ⟨some 50, Go.Op.load 26 (Go.Operand.tmp 49), none⟩,
  ⟨some 51, Go.Op.buildSlice 58 2 #[(0, Go.Operand.tmp 48), (1, Go.Operand.tmp 50)], none⟩,
  ⟨some 52, Go.Op.call { callee := Go.Callee.value (Go.Operand.func 14), args := #[Go.Operand.tmp 45, Go.Operand.tmp 46, Go.Operand.tmp 51], argTypes := #[26, 26, 58] }, none⟩,
  ⟨some 44, Go.Op.move (Go.Operand.tmp 52), none⟩,
  ⟨some 53, Go.Op.extract (Go.Operand.tmp 44) 0, none⟩,
  ⟨some 54, Go.Op.extract (Go.Operand.tmp 44) 1, none⟩,
  ⟨some 8, Go.Op.assign (Go.Operand.tmp 53), none⟩,
  ⟨some 9, Go.Op.assign (Go.Operand.tmp 54), none⟩]) (.seq (.seq (.reg []
  [⟨some 55, Go.Op.move (Go.Operand.tmp 0), none⟩,
  ⟨some 56, Go.Op.call { callee := Go.Callee.builtin Go.Builtin.len, args := #[Go.Operand.tmp 55], argTypes := #[26] }, none⟩,
  ⟨some 57, Go.Op.binOp Go.BinOp.neq 3 (Go.Operand.tmp 56) (Go.Operand.const (Go.Value.int Go.IntKind.i64 32)) 3, none⟩,
  ⟨some 58, Go.Op.move (Go.Operand.tmp 57), none⟩,
  ⟨some 59, Go.Op.move (Go.Operand.tmp 1), (some (58, false))⟩,
  ⟨some 60, Go.Op.call { callee := Go.Callee.builtin Go.Builtin.len, args := #[Go.Operand.tmp 59], argTypes := #[26] }, (some (58, false))⟩,
  ⟨some 61, Go.Op.binOp Go.BinOp.neq 3 (Go.Operand.tmp 60) (Go.Operand.const (Go.Value.int Go.IntKind.i64 24)) 3, (some (58, false))⟩,
  ⟨some 62, Go.Op.pick (Go.Operand.tmp 58) (Go.Operand.const (Go.Value.bool true)) (Go.Operand.tmp 61), none⟩]) (.cond (Go.Operand.tmp 62) (.seq (.reg []
  [⟨some 63, Go.Op.move (Go.Operand.tmp 9), none⟩,
  ⟨some 64, Go.Op.binOp Go.BinOp.eql 34 (Go.Operand.tmp 63) (Go.Operand.const (Go.Value.int Go.IntKind.i64 3)) 34, none⟩,
  ⟨some 65, Go.Op.move (Go.Operand.tmp 64), none⟩,
  ⟨some 66, Go.Op.move (Go.Operand.tmp 8), (some (65, true))⟩,
  ⟨some 67, Go.Op.call { callee := Go.Callee.builtin Go.Builtin.len, args := #[Go.Operand.tmp 66], argTypes := #[26] }, (some (65, true))⟩,
  ⟨some 68, Go.Op.binOp Go.BinOp.eql 3 (Go.Operand.tmp 67) (Go.Operand.const (Go.Value.int Go.IntKind.i64 0)) 3, (some (65, true))⟩,
  ⟨some 69, Go.Op.pick (Go.Operand.tmp 65) (Go.Operand.tmp 68) (Go.Operand.const (Go.Value.bool false)), none⟩,
  ⟨some 6, Go.Op.assign (Go.Operand.tmp 69), none⟩]) (.ret)) (.skip))) (.seq (.reg []
  [⟨some 71, Go.Op.move (Go.Operand.tmp 0), none⟩,
  ⟨some 72, Go.Op.move (Go.Operand.tmp 1), none⟩,
  ⟨some 73, Go.Op.move (Go.Operand.tmp 8), none⟩,
  ⟨some 74, Go.Op.buildSlice 58 1 #[(0, Go.Operand.tmp 73)], none⟩,
  ⟨some 75, Go.Op.call { callee := Go.Callee.value (Go.Operand.func 14), args := #[Go.Operand.tmp 71, Go.Operand.tmp 72, Go.Operand.tmp 74], argTypes := #[26, 26, 58] }, none⟩,
  ⟨some 70, Go.Op.move (Go.Operand.tmp 75), none⟩,
  ⟨some 76, Go.Op.extract (Go.Operand.tmp 70) 0, none⟩,
  ⟨some 77, Go.Op.extract (Go.Operand.tmp 70) 1, none⟩,
  ⟨some 10, Go.Op.assign (Go.Operand.tmp 76), none⟩,
  ⟨some 11, Go.Op.assign (Go.Operand.tmp 77), none⟩]) (.seq (.reg [⟨some 78, Go.Op.move (Go.Operand.tmp 9), none⟩,
  ⟨some 79, Go.Op.binOp Go.BinOp.eql 34 (Go.Operand.tmp 78) (Go.Operand.const (Go.Value.int Go.IntKind.i64 0)) 34, none⟩,
  ⟨some 80, Go.Op.move (Go.Operand.tmp 79), none⟩,
  ⟨some 81, Go.Op.move (Go.Operand.tmp 8), (some (80, true))⟩,
  ⟨some 82, Go.Op.convert 26 9 (Go.Operand.tmp 81), (some (80, true))⟩,
  ⟨some 83, Go.Op.move (Go.Operand.tmp 0), (some (80, true))⟩,
  ⟨some 84, Go.Op.move (Go.Operand.tmp 1), (some (80, true))⟩,
  ⟨some 85, Go.Op.move (Go.Operand.tmp 7), (some (80, true))⟩,
  ⟨some 86, Go.Op.call { callee := Go.Callee.value (Go.Operand.func 15), args := #[Go.Operand.tmp 83, Go.Operand.tmp 84, Go.Operand.tmp 85], argTypes := #[26, 26, 26] }, (some (80, true))⟩,
  ⟨some 87, Go.Op.convert 26 9 (Go.Operand.tmp 86), (some (80, true))⟩,
  ⟨some 88, Go.Op.binOp Go.BinOp.eql 9 (Go.Operand.tmp 82) (Go.Operand.tmp 87) 9, (some (80, true))⟩,
  ⟨some 89, Go.Op.pick (Go.Operand.tmp 80) (Go.Operand.tmp 88) (Go.Operand.const (Go.Value.bool false)), none⟩,
  ⟨some 90, Go.Op.move (Go.Operand.tmp 89), none⟩,
  ⟨some 91, Go.Op.move (Go.Operand.tmp 11), (some (90, true))⟩,
  ⟨some 92, Go.Op.binOp Go.BinOp.eql 34 (Go.Operand.tmp 91) (Go.Operand.const (Go.Value.int Go.IntKind.i64 0)) 34, (some (90, true))⟩,
  ⟨some 93, Go.Op.pick (Go.Operand.tmp 90) (Go.Operand.tmp 92) (Go.Operand.const (Go.Value.bool false)), none⟩,
  ⟨some 94, Go.Op.move (Go.Operand.tmp 93), none⟩,
  ⟨some 95, Go.Op.move (Go.Operand.tmp 10), (some (94, true))⟩,
  ⟨some 96, Go.Op.convert 26 9 (Go.Operand.tmp 95), (some (94, true))⟩,
  ⟨some 97, Go.Op.move (Go.Operand.tmp 7), (some (94, true))⟩,
  ⟨some 98, Go.Op.convert 26 9 (Go.Operand.tmp 97), (some (94, true))⟩,
  ⟨some 99, Go.Op.binOp Go.BinOp.eql 9 (Go.Operand.tmp 96) (Go.Operand.tmp 98) 9, (some (94, true))⟩,
  ⟨some 100, Go.Op.pick (Go.Operand.tmp 94) (Go.Operand.tmp 99) (Go.Operand.const (Go.Value.bool false)), none⟩,
  ⟨some 6, Go.Op.assign (Go.Operand.tmp 100), none⟩]
  []) (.ret)))))))
theorem ls5 : Try.f5.body.map (strip Try.prog impCodT) = some lc5 := by kernel_rfl
theorem lcall5 {args : List AV} (hargs : args.length ≤ 101) {H0 : AHeap} (lo : Nat) (hlo : H0.length ≤ lo) {r0 : AV} {H0' : AHeap}
    (h : lavc Try.prog glob lc5 (args ++ List.replicate (101 - args.length) (.v undef)) H0 fun e t H => (e = .normal ∨ e = .ret) ∧ aret Try.prog t H [Go.ResultVar.tmp 6] fun r => Fin lo H r r0 H0') :
    ACall Try.prog glob (H0.length == 0) 5 args H0 r0 H0' := LCall' ctx Try.func5 (by kernel_rfl) ls5 (by kernel_rfl) (by kernel_rfl) hargs lo hlo h
end Go.Abs.S
