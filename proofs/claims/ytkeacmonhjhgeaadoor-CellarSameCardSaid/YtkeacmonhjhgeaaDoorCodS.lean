/- Code, as it is looked at; written by wip/leancode.py. -/
import Derived.Test.YtkeacmonhjhgeaaDoorAbsSeat
namespace Go.Abs.S
open Go.Proofs
set_option maxRecDepth 100000
def impCodS : FuncId → Bool := fun f => f == 12 || f == 15 || f == 30 || f == 36 || f == 1000047 || f == 1000051
/-- escutcheon/escutcheonlaw07.CellarSame -/
def lc4 : LCode := .seq (.reg []
  [⟨some 3, Go.Op.box 23 (Go.Operand.tmp 0), none⟩,
  ⟨some 6, Go.Op.assign (Go.Operand.const (Go.Value.bool false)), none⟩]) (.seq (.seq (.reg []
  [⟨some 15, Go.Op.call { callee := Go.Callee.value (Go.Operand.func 6), args := #[], argTypes := #[] }, none⟩,
  ⟨some 16, Go.Op.unOp Go.UnOp.not 4 (Go.Operand.tmp 15), none⟩,
  ⟨some 17, Go.Op.move (Go.Operand.tmp 16), none⟩,
  ⟨some 18, Go.Op.indexAddr 23 (Go.Operand.tmp 3) (Go.Operand.const (Go.Value.int Go.IntKind.i64 0)), (some (17, false))⟩,
  ⟨some 19, Go.Op.load 22 (Go.Operand.tmp 18), (some (17, false))⟩,
  ⟨some 20, Go.Op.call { callee := Go.Callee.builtin Go.Builtin.len, args := #[Go.Operand.tmp 19], argTypes := #[22] }, (some (17, false))⟩,
  ⟨some 21, Go.Op.binOp Go.BinOp.gtr 3 (Go.Operand.tmp 20) (Go.Operand.const (Go.Value.int Go.IntKind.i64 100)) 3, (some (17, false))⟩,
  ⟨some 22, Go.Op.pick (Go.Operand.tmp 17) (Go.Operand.const (Go.Value.bool true)) (Go.Operand.tmp 21), none⟩,
  ⟨some 23, Go.Op.move (Go.Operand.tmp 22), none⟩,
  ⟨some 24, Go.Op.indexAddr 23 (Go.Operand.tmp 3) (Go.Operand.const (Go.Value.int Go.IntKind.i64 1)), (some (23, false))⟩,
  ⟨some 25, Go.Op.load 22 (Go.Operand.tmp 24), (some (23, false))⟩,
  ⟨some 26, Go.Op.call { callee := Go.Callee.builtin Go.Builtin.len, args := #[Go.Operand.tmp 25], argTypes := #[22] }, (some (23, false))⟩,
  ⟨some 27, Go.Op.binOp Go.BinOp.gtr 3 (Go.Operand.tmp 26) (Go.Operand.const (Go.Value.int Go.IntKind.i64 100)) 3, (some (23, false))⟩,
  ⟨some 28, Go.Op.pick (Go.Operand.tmp 23) (Go.Operand.const (Go.Value.bool true)) (Go.Operand.tmp 27), none⟩]) (.cond (Go.Operand.tmp 28) (.seq (.reg []
  [⟨some 29, Go.Op.call { callee := Go.Callee.value (Go.Operand.func 6), args := #[], argTypes := #[] }, none⟩,
  ⟨some 6, Go.Op.assign (Go.Operand.tmp 29), none⟩]) (.ret)) (.skip))) (.seq (.reg []
  [⟨some 30, Go.Op.move (Go.Operand.tmp 1), none⟩,
  ⟨some 31, Go.Op.binOp Go.BinOp.rem 5 (Go.Operand.tmp 30) (Go.Operand.const (Go.Value.int Go.IntKind.u8 12)) 5, none⟩,
  ⟨some 32, Go.Op.convert 5 3 (Go.Operand.tmp 31), none⟩,
  ⟨some 33, Go.Op.binOp Go.BinOp.add 3 (Go.Operand.const (Go.Value.int Go.IntKind.i64 4)) (Go.Operand.tmp 32) 3, none⟩,
  ⟨some 34, Go.Op.move (Go.Operand.tmp 1), none⟩,
  ⟨some 35, Go.Op.binOp Go.BinOp.rem 5 (Go.Operand.tmp 34) (Go.Operand.const (Go.Value.int Go.IntKind.u8 2)) 5, none⟩,
  ⟨some 36, Go.Op.convert 5 3 (Go.Operand.tmp 35), none⟩,
  ⟨some 37, Go.Op.binOp Go.BinOp.add 3 (Go.Operand.const (Go.Value.int Go.IntKind.i64 1)) (Go.Operand.tmp 36) 3, none⟩,
  ⟨some 38, Go.Op.move (Go.Operand.tmp 2), none⟩,
  ⟨some 39, Go.Op.binOp Go.BinOp.rem 5 (Go.Operand.tmp 38) (Go.Operand.const (Go.Value.int Go.IntKind.u8 2)) 5, none⟩,
  ⟨some 40, Go.Op.convert 5 3 (Go.Operand.tmp 39), none⟩,
  ⟨some 41, Go.Op.binOp Go.BinOp.add 3 (Go.Operand.const (Go.Value.int Go.IntKind.i64 1)) (Go.Operand.tmp 40) 3, none⟩,
  ⟨some 42, Go.Op.build 25 #[(0, Go.Operand.tmp 33), (1, Go.Operand.tmp 37), (2, Go.Operand.tmp 41)], none⟩,
  ⟨some 7, Go.Op.alloc 25, none⟩,
  ⟨none, Go.Op.store 25 (Go.Operand.tmp 7) (Go.Operand.tmp 42), none⟩]) (.seq (.reg []
  [⟨some 43, Go.Op.move (Go.Operand.tmp 2), none⟩,
  ⟨some 44, Go.Op.binOp Go.BinOp.rem 5 (Go.Operand.tmp 43) (Go.Operand.const (Go.Value.int Go.IntKind.u8 64)) 5, none⟩,
  ⟨some 45, Go.Op.convert 5 3 (Go.Operand.tmp 44), none⟩,
  ⟨some 46, Go.Op.binOp Go.BinOp.add 3 (Go.Operand.const (Go.Value.int Go.IntKind.i64 1)) (Go.Operand.tmp 45) 3, none⟩,
  ⟨some 8, Go.Op.assign (Go.Operand.tmp 46), none⟩]) (.seq (.reg [⟨some 47, Go.Op.buildSlice 22 0 #[], none⟩,
  ⟨some 48, Go.Op.indexAddr 23 (Go.Operand.tmp 3) (Go.Operand.const (Go.Value.int Go.IntKind.i64 0)), none⟩,
  ⟨some 49, Go.Op.load 22 (Go.Operand.tmp 48), none⟩,
  ⟨some 50, Go.Op.call { callee := Go.Callee.builtin Go.Builtin.append, args := #[Go.Operand.tmp 47, Go.Operand.tmp 49], argTypes := #[22, 22] }, none⟩,
  ⟨some 51, Go.Op.buildSlice 22 0 #[], none⟩,
  ⟨some 52, Go.Op.indexAddr 23 (Go.Operand.tmp 3) (Go.Operand.const (Go.Value.int Go.IntKind.i64 1)), none⟩,
  ⟨some 53, Go.Op.load 22 (Go.Operand.tmp 52), none⟩,
  ⟨some 54, Go.Op.call { callee := Go.Callee.builtin Go.Builtin.append, args := #[Go.Operand.tmp 51, Go.Operand.tmp 53], argTypes := #[22, 22] }, none⟩,
  ⟨some 9, Go.Op.assign (Go.Operand.tmp 50), none⟩,
  ⟨some 10, Go.Op.assign (Go.Operand.tmp 54), none⟩]
  []) (.seq (.reg []
  [⟨some 56, Go.Op.move (Go.Operand.tmp 9), none⟩,
  ⟨some 57, Go.Op.move (Go.Operand.tmp 10), none⟩,
  ⟨some 58, Go.Op.load 25 (Go.Operand.tmp 7), none⟩,
  ⟨some 59, Go.Op.move (Go.Operand.tmp 8), none⟩,
  ⟨some 60, Go.Op.call { callee := Go.Callee.value (Go.Operand.func 9), args := #[Go.Operand.tmp 56, Go.Operand.tmp 57, Go.Operand.tmp 58, Go.Operand.tmp 59], argTypes := #[22, 22, 25, 3] }, none⟩,
  ⟨some 55, Go.Op.move (Go.Operand.tmp 60), none⟩,
  ⟨some 61, Go.Op.extract (Go.Operand.tmp 55) 0, none⟩,
  ⟨some 62, Go.Op.extract (Go.Operand.tmp 55) 1, none⟩,
  ⟨some 11, Go.Op.assign (Go.Operand.tmp 61), none⟩,
  ⟨some 12, Go.Op.assign (Go.Operand.tmp 62), none⟩]) (.seq (.reg []
  [⟨some 64, Go.Op.indexAddr 23 (Go.Operand.tmp 3) (Go.Operand.const (Go.Value.int Go.IntKind.i64 0)), none⟩,
  ⟨some 65, Go.Op.load 22 (Go.Operand.tmp 64), none⟩,
  ⟨some 66, Go.Op.indexAddr 23 (Go.Operand.tmp 3) (Go.Operand.const (Go.Value.int Go.IntKind.i64 1)), none⟩,
  ⟨some 67, Go.Op.load 22 (Go.Operand.tmp 66), none⟩,
  ⟨some 68, Go.Op.load 25 (Go.Operand.tmp 7), none⟩,
  ⟨some 69, Go.Op.move (Go.Operand.tmp 8), none⟩,
  ⟨some 70, Go.Op.call { callee := Go.Callee.value (Go.Operand.func 9), args := #[Go.Operand.tmp 65, Go.Operand.tmp 67, Go.Operand.tmp 68, Go.Operand.tmp 69], argTypes := #[22, 22, 25, 3] }, none⟩,
  ⟨some 63, Go.Op.move (Go.Operand.tmp 70), none⟩,
  ⟨some 71, Go.Op.extract (Go.Operand.tmp 63) 0, none⟩,
  ⟨some 72, Go.Op.extract (Go.Operand.tmp 63) 1, none⟩,
  ⟨some 13, Go.Op.assign (Go.Operand.tmp 71), none⟩,
  ⟨some 14, Go.Op.assign (Go.Operand.tmp 72), none⟩]) (.seq (.reg []
  [⟨some 73, Go.Op.move (Go.Operand.tmp 12), none⟩,
  ⟨some 74, Go.Op.binOp Go.BinOp.eql 28 (Go.Operand.tmp 73) (Go.Operand.const (Go.Value.int Go.IntKind.i64 0)) 28, none⟩,
  ⟨some 75, Go.Op.move (Go.Operand.tmp 74), none⟩,
  ⟨some 76, Go.Op.move (Go.Operand.tmp 14), (some (75, true))⟩,
  ⟨some 77, Go.Op.binOp Go.BinOp.eql 28 (Go.Operand.tmp 76) (Go.Operand.const (Go.Value.int Go.IntKind.i64 0)) 28, (some (75, true))⟩,
  ⟨some 78, Go.Op.pick (Go.Operand.tmp 75) (Go.Operand.tmp 77) (Go.Operand.const (Go.Value.bool false)), none⟩,
  ⟨some 79, Go.Op.move (Go.Operand.tmp 78), none⟩,
  ⟨some 80, Go.Op.move (Go.Operand.tmp 11), (some (79, true))⟩,
  ⟨some 81, Go.Op.call { callee := Go.Callee.builtin Go.Builtin.len, args := #[Go.Operand.tmp 80], argTypes := #[22] }, (some (79, true))⟩,
  ⟨some 82, Go.Op.move (Go.Operand.tmp 8), (some (79, true))⟩,
  ⟨some 83, Go.Op.binOp Go.BinOp.eql 3 (Go.Operand.tmp 81) (Go.Operand.tmp 82) 3, (some (79, true))⟩,
  ⟨some 84, Go.Op.pick (Go.Operand.tmp 79) (Go.Operand.tmp 83) (Go.Operand.const (Go.Value.bool false)), none⟩,
  ⟨some 85, Go.Op.move (Go.Operand.tmp 84), none⟩,
  ⟨some 86, Go.Op.move (Go.Operand.tmp 11), (some (85, true))⟩,
  ⟨some 87, Go.Op.convert 22 9 (Go.Operand.tmp 86), (some (85, true))⟩,
  ⟨some 88, Go.Op.move (Go.Operand.tmp 13), (some (85, true))⟩,
  ⟨some 89, Go.Op.convert 22 9 (Go.Operand.tmp 88), (some (85, true))⟩,
  ⟨some 90, Go.Op.binOp Go.BinOp.eql 9 (Go.Operand.tmp 87) (Go.Operand.tmp 89) 9, (some (85, true))⟩,
  ⟨some 91, Go.Op.pick (Go.Operand.tmp 85) (Go.Operand.tmp 90) (Go.Operand.const (Go.Value.bool false)), none⟩,
  ⟨some 92, Go.Op.move (Go.Operand.tmp 91), none⟩,
  ⟨some 93, Go.Op.move (Go.Operand.tmp 9), (some (92, true))⟩,
  ⟨some 94, Go.Op.convert 22 9 (Go.Operand.tmp 93), (some (92, true))⟩,
  ⟨some 95, Go.Op.indexAddr 23 (Go.Operand.tmp 3) (Go.Operand.const (Go.Value.int Go.IntKind.i64 0)), (some (92, true))⟩,
  ⟨some 96, Go.Op.load 22 (Go.Operand.tmp 95), (some (92, true))⟩,
  ⟨some 97, Go.Op.convert 22 9 (Go.Operand.tmp 96), (some (92, true))⟩,
  ⟨some 98, Go.Op.binOp Go.BinOp.eql 9 (Go.Operand.tmp 94) (Go.Operand.tmp 97) 9, (some (92, true))⟩,
  ⟨some 99, Go.Op.pick (Go.Operand.tmp 92) (Go.Operand.tmp 98) (Go.Operand.const (Go.Value.bool false)), none⟩,
  ⟨some 100, Go.Op.move (Go.Operand.tmp 99), none⟩,
  ⟨some 101, Go.Op.move (Go.Operand.tmp 10), (some (100, true))⟩,
  ⟨some 102, Go.Op.convert 22 9 (Go.Operand.tmp 101), (some (100, true))⟩,
  ⟨some 103, Go.Op.indexAddr 23 (Go.Operand.tmp 3) (Go.Operand.const (Go.Value.int Go.IntKind.i64 1)), (some (100, true))⟩,
  ⟨some 104, Go.Op.load 22 (Go.Operand.tmp 103), (some (100, true))⟩,
  ⟨some 105, Go.Op.convert 22 9 (Go.Operand.tmp 104), (some (100, true))⟩,
  ⟨some 106, Go.Op.binOp Go.BinOp.eql 9 (Go.Operand.tmp 102) (Go.Operand.tmp 105) 9, (some (100, true))⟩,
  ⟨some 107, Go.Op.pick (Go.Operand.tmp 100) (Go.Operand.tmp 106) (Go.Operand.const (Go.Value.bool false)), none⟩,
  ⟨some 6, Go.Op.assign (Go.Operand.tmp 107), none⟩]) (.ret))))))))
def mj4_0 : List Nat := [0, 4, 5, 6, 15, 16, 17, 18, 19, 20, 21, 22, 23, 24, 25, 26, 27, 28, 29]
theorem ls4 : Tryd.f4.body.map (strip Tryd.prog impCodS) = some lc4 := by kernel_rfl
theorem lcall4 {args : List AV} (hargs : args.length ≤ 108) {H0 : AHeap} (lo : Nat) (hlo : H0.length ≤ lo) {r0 : AV} {H0' : AHeap}
    (h : lavc Tryd.prog glob lc4 (args ++ List.replicate (108 - args.length) (.v undef)) H0 fun e t H => (e = .normal ∨ e = .ret) ∧ aret Tryd.prog t H [Go.ResultVar.tmp 6] fun r => Fin lo H r r0 H0') :
    ACall Tryd.prog glob (H0.length == 0) 4 args H0 r0 H0' := LCall' ctx Tryd.func4 (by kernel_rfl) ls4 (by kernel_rfl) (by kernel_rfl) hargs lo hlo h
theorem lcallk4 {args : List AV} (hargs : args.length ≤ 108) {H0 : AHeap} {r0 : AV} {H0' : AHeap}
    (h : lavc Tryd.prog glob lc4 (args ++ List.replicate (108 - args.length) (.v undef)) H0 fun e t H => (e = .normal ∨ e = .ret) ∧ aret Tryd.prog t H [Go.ResultVar.tmp 6] fun r => r = r0 ∧ H = H0') :
    ACall Tryd.prog glob false 4 args H0 r0 H0' := LCallK' ctx Tryd.func4 (by kernel_rfl) ls4 (by kernel_rfl) (by kernel_rfl) hargs h
end Go.Abs.S
