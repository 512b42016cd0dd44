/- Code, as it is looked at; written by wip/leancode.py. -/
import Derived.Test.YtjmalnoehmgenaaDoorAbsSeat
namespace Go.Abs.S
open Go.Proofs
set_option maxRecDepth 100000
def impCodY : FuncId → Bool := fun f => f == 26 || f == 28 || f == 36 || f == 62
/-- escutcheon/escutcheonlaw21.HourReads -/
def lc3 : LCode := .seq (.reg []
  [⟨some 2, Go.Op.assign (Go.Operand.const (Go.Value.bool false)), none⟩]) (.seq (.seq (.reg []
  [⟨some 9, Go.Op.call { callee := Go.Callee.value (Go.Operand.func 10), args := #[], argTypes := #[] }, none⟩,
  ⟨some 10, Go.Op.unOp Go.UnOp.not 4 (Go.Operand.tmp 9), none⟩,
  ⟨some 11, Go.Op.move (Go.Operand.tmp 10), none⟩,
  ⟨some 12, Go.Op.move (Go.Operand.tmp 0), (some (11, false))⟩,
  ⟨some 13, Go.Op.call { callee := Go.Callee.builtin Go.Builtin.len, args := #[Go.Operand.tmp 12], argTypes := #[9] }, (some (11, false))⟩,
  ⟨some 14, Go.Op.binOp Go.BinOp.gtr 3 (Go.Operand.tmp 13) (Go.Operand.const (Go.Value.int Go.IntKind.i64 60)) 3, (some (11, false))⟩,
  ⟨some 15, Go.Op.pick (Go.Operand.tmp 11) (Go.Operand.const (Go.Value.bool true)) (Go.Operand.tmp 14), none⟩]) (.cond (Go.Operand.tmp 15) (.seq (.reg []
  [⟨some 16, Go.Op.call { callee := Go.Callee.value (Go.Operand.func 10), args := #[], argTypes := #[] }, none⟩,
  ⟨some 2, Go.Op.assign (Go.Operand.tmp 16), none⟩]) (.ret)) (.skip))) (.seq (.reg []
  [⟨some 18, Go.Op.move (Go.Operand.tmp 0), none⟩,
  ⟨some 19, Go.Op.call { callee := Go.Callee.value (Go.Operand.func 11), args := #[Go.Operand.tmp 18], argTypes := #[9] }, none⟩,
  ⟨some 17, Go.Op.move (Go.Operand.tmp 19), none⟩,
  ⟨some 20, Go.Op.extract (Go.Operand.tmp 17) 0, none⟩,
  ⟨some 21, Go.Op.extract (Go.Operand.tmp 17) 1, none⟩,
  ⟨some 3, Go.Op.assign (Go.Operand.tmp 20), none⟩,
  ⟨some 4, Go.Op.assign (Go.Operand.tmp 21), none⟩]) (.seq (.reg []
  [⟨some 23, Go.Op.move (Go.Operand.tmp 0), none⟩,
  ⟨some 24, Go.Op.call { callee := Go.Callee.value (Go.Operand.func 12), args := #[Go.Operand.tmp 23], argTypes := #[9] }, none⟩,
  ⟨some 22, Go.Op.move (Go.Operand.tmp 24), none⟩,
  ⟨some 25, Go.Op.extract (Go.Operand.tmp 22) 0, none⟩,
  ⟨some 26, Go.Op.extract (Go.Operand.tmp 22) 1, none⟩,
  ⟨some 5, Go.Op.assign (Go.Operand.tmp 25), none⟩,
  ⟨some 6, Go.Op.assign (Go.Operand.tmp 26), none⟩]) (.seq (.seq (.reg []
  [⟨some 27, Go.Op.move (Go.Operand.tmp 4), none⟩,
  ⟨some 28, Go.Op.move (Go.Operand.tmp 6), none⟩,
  ⟨some 29, Go.Op.binOp Go.BinOp.neq 3 (Go.Operand.tmp 27) (Go.Operand.tmp 28) 3, none⟩,
  ⟨some 30, Go.Op.move (Go.Operand.tmp 29), none⟩,
  ⟨some 31, Go.Op.move (Go.Operand.tmp 3), (some (30, false))⟩,
  ⟨some 32, Go.Op.move (Go.Operand.tmp 5), (some (30, false))⟩,
  ⟨some 33, Go.Op.binOp Go.BinOp.neq 3 (Go.Operand.tmp 31) (Go.Operand.tmp 32) 3, (some (30, false))⟩,
  ⟨some 34, Go.Op.pick (Go.Operand.tmp 30) (Go.Operand.const (Go.Value.bool true)) (Go.Operand.tmp 33), none⟩]) (.cond (Go.Operand.tmp 34) (.seq (.reg []
  [⟨some 2, Go.Op.assign (Go.Operand.const (Go.Value.bool false)), none⟩]) (.ret)) (.skip))) (.seq (.seq (.reg []
  [⟨some 35, Go.Op.move (Go.Operand.tmp 6), none⟩,
  ⟨some 36, Go.Op.binOp Go.BinOp.neq 3 (Go.Operand.tmp 35) (Go.Operand.const (Go.Value.int Go.IntKind.i64 0)) 3, none⟩,
  ⟨some 37, Go.Op.move (Go.Operand.tmp 36), none⟩,
  ⟨some 38, Go.Op.move (Go.Operand.tmp 0), (some (37, false))⟩,
  ⟨some 39, Go.Op.call { callee := Go.Callee.builtin Go.Builtin.len, args := #[Go.Operand.tmp 38], argTypes := #[9] }, (some (37, false))⟩,
  ⟨some 40, Go.Op.binOp Go.BinOp.neq 3 (Go.Operand.tmp 39) (Go.Operand.const (Go.Value.int Go.IntKind.i64 20)) 3, (some (37, false))⟩,
  ⟨some 41, Go.Op.pick (Go.Operand.tmp 37) (Go.Operand.const (Go.Value.bool true)) (Go.Operand.tmp 40), none⟩]) (.cond (Go.Operand.tmp 41) (.seq (.reg []
  [⟨some 2, Go.Op.assign (Go.Operand.const (Go.Value.bool true)), none⟩]) (.ret)) (.skip))) (.seq (.reg []
  [⟨some 43, Go.Op.move (Go.Operand.tmp 3), none⟩,
  ⟨some 44, Go.Op.call { callee := Go.Callee.value (Go.Operand.func 13), args := #[Go.Operand.tmp 43], argTypes := #[3] }, none⟩,
  ⟨some 42, Go.Op.move (Go.Operand.tmp 44), none⟩,
  ⟨some 45, Go.Op.extract (Go.Operand.tmp 42) 0, none⟩,
  ⟨some 46, Go.Op.extract (Go.Operand.tmp 42) 1, none⟩,
  ⟨some 7, Go.Op.assign (Go.Operand.tmp 45), none⟩,
  ⟨some 8, Go.Op.assign (Go.Operand.tmp 46), none⟩]) (.seq (.reg []
  [⟨some 47, Go.Op.move (Go.Operand.tmp 8), none⟩,
  ⟨some 48, Go.Op.binOp Go.BinOp.eql 23 (Go.Operand.tmp 47) (Go.Operand.const (Go.Value.int Go.IntKind.i64 0)) 23, none⟩,
  ⟨some 49, Go.Op.move (Go.Operand.tmp 48), none⟩,
  ⟨some 50, Go.Op.move (Go.Operand.tmp 7), (some (49, true))⟩,
  ⟨some 51, Go.Op.move (Go.Operand.tmp 0), (some (49, true))⟩,
  ⟨some 52, Go.Op.binOp Go.BinOp.eql 9 (Go.Operand.tmp 50) (Go.Operand.tmp 51) 9, (some (49, true))⟩,
  ⟨some 53, Go.Op.pick (Go.Operand.tmp 49) (Go.Operand.tmp 52) (Go.Operand.const (Go.Value.bool false)), none⟩,
  ⟨some 2, Go.Op.assign (Go.Operand.tmp 53), none⟩]) (.ret))))))))
def mj3_0 : List Nat := [1, 2, 9, 10, 11, 12, 13, 14, 15, 16]
def mj3_1 : List Nat := [1, 2, 4, 5, 9, 10, 11, 12, 13, 14, 15, 16, 17, 18, 19, 20, 21, 22, 23, 24, 25, 26, 27, 28, 29, 30, 31, 32, 33, 34]
def mj3_2 : List Nat := [1, 2, 4, 5, 6, 9, 10, 11, 12, 13, 14, 15, 16, 17, 18, 19, 20, 21, 22, 23, 24, 25, 26, 27, 28, 29, 30, 31, 32, 33, 34, 35, 36, 37, 38, 39, 40, 41]
theorem ls3 : Tryd.f3.body.map (strip Tryd.prog impCodY) = some lc3 := by kernel_rfl
theorem lcall3 {args : List AV} (hargs : args.length ≤ 54) {H0 : AHeap} (lo : Nat) (hlo : H0.length ≤ lo) {r0 : AV} {H0' : AHeap}
    (h : lavc Tryd.prog glob lc3 (args ++ List.replicate (54 - args.length) (.v undef)) H0 fun e t H => (e = .normal ∨ e = .ret) ∧ aret Tryd.prog t H [Go.ResultVar.tmp 2] fun r => Fin lo H r r0 H0') :
    ACall Tryd.prog glob (H0.length == 0) 3 args H0 r0 H0' := LCall' ctx Tryd.func3 (by kernel_rfl) ls3 (by kernel_rfl) (by kernel_rfl) hargs lo hlo h
theorem lcallk3 {args : List AV} (hargs : args.length ≤ 54) {H0 : AHeap} {r0 : AV} {H0' : AHeap}
    (h : lavc Tryd.prog glob lc3 (args ++ List.replicate (54 - args.length) (.v undef)) H0 fun e t H => (e = .normal ∨ e = .ret) ∧ aret Tryd.prog t H [Go.ResultVar.tmp 2] fun r => r = r0 ∧ H = H0') :
    ACall Tryd.prog glob false 3 args H0 r0 H0' := LCallK' ctx Tryd.func3 (by kernel_rfl) ls3 (by kernel_rfl) (by kernel_rfl) hargs h
end Go.Abs.S
