/- Code, as it is looked at; written by wip/leancode.py. -/
import Derived.Test.YtjmalnoehmgenaaDoorAbsSeat
namespace Go.Abs.S
open Go.Proofs
set_option maxRecDepth 100000
def impCodX : FuncId → Bool := fun f => f == 26 || f == 28 || f == 36 || f == 62
/-- escutcheon/escutcheonlaw21.HourTexts -/
def lc4 : LCode := .seq (.reg []
  [⟨some 2, Go.Op.assign (Go.Operand.const (Go.Value.bool false)), none⟩]) (.seq (.seq (.reg []
  [⟨some 9, Go.Op.call { callee := Go.Callee.value (Go.Operand.func 10), args := #[], argTypes := #[] }, none⟩,
  ⟨some 10, Go.Op.unOp Go.UnOp.not 4 (Go.Operand.tmp 9), none⟩]) (.cond (Go.Operand.tmp 10) (.seq (.reg []
  [⟨some 2, Go.Op.assign (Go.Operand.const (Go.Value.bool false)), none⟩]) (.ret)) (.skip))) (.seq (.reg []
  [⟨some 12, Go.Op.move (Go.Operand.tmp 0), none⟩,
  ⟨some 13, Go.Op.call { callee := Go.Callee.value (Go.Operand.func 13), args := #[Go.Operand.tmp 12], argTypes := #[3] }, none⟩,
  ⟨some 11, Go.Op.move (Go.Operand.tmp 13), none⟩,
  ⟨some 14, Go.Op.extract (Go.Operand.tmp 11) 0, none⟩,
  ⟨some 15, Go.Op.extract (Go.Operand.tmp 11) 1, none⟩,
  ⟨some 3, Go.Op.assign (Go.Operand.tmp 14), none⟩,
  ⟨some 4, Go.Op.assign (Go.Operand.tmp 15), none⟩]) (.seq (.seq (.reg []
  [⟨some 16, Go.Op.move (Go.Operand.tmp 0), none⟩,
  ⟨some 17, Go.Op.call { callee := Go.Callee.value (Go.Operand.func 14), args := #[], argTypes := #[] }, none⟩,
  ⟨some 18, Go.Op.binOp Go.BinOp.lss 3 (Go.Operand.tmp 16) (Go.Operand.tmp 17) 3, none⟩,
  ⟨some 19, Go.Op.move (Go.Operand.tmp 18), none⟩,
  ⟨some 20, Go.Op.move (Go.Operand.tmp 0), (some (19, false))⟩,
  ⟨some 21, Go.Op.call { callee := Go.Callee.value (Go.Operand.func 15), args := #[], argTypes := #[] }, (some (19, false))⟩,
  ⟨some 22, Go.Op.binOp Go.BinOp.gtr 3 (Go.Operand.tmp 20) (Go.Operand.tmp 21) 3, (some (19, false))⟩,
  ⟨some 23, Go.Op.pick (Go.Operand.tmp 19) (Go.Operand.const (Go.Value.bool true)) (Go.Operand.tmp 22), none⟩]) (.cond (Go.Operand.tmp 23) (.seq (.reg []
  [⟨some 24, Go.Op.move (Go.Operand.tmp 4), none⟩,
  ⟨some 25, Go.Op.binOp Go.BinOp.eql 23 (Go.Operand.tmp 24) (Go.Operand.const (Go.Value.int Go.IntKind.i64 12)) 23, none⟩,
  ⟨some 26, Go.Op.move (Go.Operand.tmp 25), none⟩,
  ⟨some 27, Go.Op.move (Go.Operand.tmp 3), (some (26, true))⟩,
  ⟨some 28, Go.Op.binOp Go.BinOp.eql 9 (Go.Operand.tmp 27) (Go.Operand.const (Go.Value.string { data := #[] })) 9, (some (26, true))⟩,
  ⟨some 29, Go.Op.pick (Go.Operand.tmp 26) (Go.Operand.tmp 28) (Go.Operand.const (Go.Value.bool false)), none⟩,
  ⟨some 2, Go.Op.assign (Go.Operand.tmp 29), none⟩]) (.ret)) (.skip))) (.seq (.reg []
  [⟨some 31, Go.Op.move (Go.Operand.tmp 3), none⟩,
  ⟨some 32, Go.Op.call { callee := Go.Callee.value (Go.Operand.func 11), args := #[Go.Operand.tmp 31], argTypes := #[9] }, none⟩,
  ⟨some 30, Go.Op.move (Go.Operand.tmp 32), none⟩,
  ⟨some 33, Go.Op.extract (Go.Operand.tmp 30) 0, none⟩,
  ⟨some 34, Go.Op.extract (Go.Operand.tmp 30) 1, none⟩,
  ⟨some 5, Go.Op.assign (Go.Operand.tmp 33), none⟩,
  ⟨some 6, Go.Op.assign (Go.Operand.tmp 34), none⟩]) (.seq (.reg []
  [⟨some 36, Go.Op.move (Go.Operand.tmp 3), none⟩,
  ⟨some 37, Go.Op.call { callee := Go.Callee.value (Go.Operand.func 12), args := #[Go.Operand.tmp 36], argTypes := #[9] }, none⟩,
  ⟨some 35, Go.Op.move (Go.Operand.tmp 37), none⟩,
  ⟨some 38, Go.Op.extract (Go.Operand.tmp 35) 0, none⟩,
  ⟨some 39, Go.Op.extract (Go.Operand.tmp 35) 1, none⟩,
  ⟨some 7, Go.Op.assign (Go.Operand.tmp 38), none⟩,
  ⟨some 8, Go.Op.assign (Go.Operand.tmp 39), none⟩]) (.seq (.reg []
  [⟨some 40, Go.Op.move (Go.Operand.tmp 4), none⟩,
  ⟨some 41, Go.Op.binOp Go.BinOp.eql 23 (Go.Operand.tmp 40) (Go.Operand.const (Go.Value.int Go.IntKind.i64 0)) 23, none⟩,
  ⟨some 42, Go.Op.move (Go.Operand.tmp 41), none⟩,
  ⟨some 43, Go.Op.move (Go.Operand.tmp 3), (some (42, true))⟩,
  ⟨some 44, Go.Op.call { callee := Go.Callee.builtin Go.Builtin.len, args := #[Go.Operand.tmp 43], argTypes := #[9] }, (some (42, true))⟩,
  ⟨some 45, Go.Op.binOp Go.BinOp.eql 3 (Go.Operand.tmp 44) (Go.Operand.const (Go.Value.int Go.IntKind.i64 20)) 3, (some (42, true))⟩,
  ⟨some 46, Go.Op.pick (Go.Operand.tmp 42) (Go.Operand.tmp 45) (Go.Operand.const (Go.Value.bool false)), none⟩,
  ⟨some 47, Go.Op.move (Go.Operand.tmp 46), none⟩,
  ⟨some 48, Go.Op.move (Go.Operand.tmp 5), (some (47, true))⟩,
  ⟨some 49, Go.Op.move (Go.Operand.tmp 0), (some (47, true))⟩,
  ⟨some 50, Go.Op.binOp Go.BinOp.eql 3 (Go.Operand.tmp 48) (Go.Operand.tmp 49) 3, (some (47, true))⟩,
  ⟨some 51, Go.Op.pick (Go.Operand.tmp 47) (Go.Operand.tmp 50) (Go.Operand.const (Go.Value.bool false)), none⟩,
  ⟨some 52, Go.Op.move (Go.Operand.tmp 51), none⟩,
  ⟨some 53, Go.Op.move (Go.Operand.tmp 6), (some (52, true))⟩,
  ⟨some 54, Go.Op.binOp Go.BinOp.eql 23 (Go.Operand.tmp 53) (Go.Operand.const (Go.Value.int Go.IntKind.i64 0)) 23, (some (52, true))⟩,
  ⟨some 55, Go.Op.pick (Go.Operand.tmp 52) (Go.Operand.tmp 54) (Go.Operand.const (Go.Value.bool false)), none⟩,
  ⟨some 56, Go.Op.move (Go.Operand.tmp 55), none⟩,
  ⟨some 57, Go.Op.move (Go.Operand.tmp 7), (some (56, true))⟩,
  ⟨some 58, Go.Op.move (Go.Operand.tmp 0), (some (56, true))⟩,
  ⟨some 59, Go.Op.binOp Go.BinOp.eql 3 (Go.Operand.tmp 57) (Go.Operand.tmp 58) 3, (some (56, true))⟩,
  ⟨some 60, Go.Op.pick (Go.Operand.tmp 56) (Go.Operand.tmp 59) (Go.Operand.const (Go.Value.bool false)), none⟩,
  ⟨some 61, Go.Op.move (Go.Operand.tmp 60), none⟩,
  ⟨some 62, Go.Op.move (Go.Operand.tmp 8), (some (61, true))⟩,
  ⟨some 63, Go.Op.binOp Go.BinOp.eql 3 (Go.Operand.tmp 62) (Go.Operand.const (Go.Value.int Go.IntKind.i64 0)) 3, (some (61, true))⟩,
  ⟨some 64, Go.Op.pick (Go.Operand.tmp 61) (Go.Operand.tmp 63) (Go.Operand.const (Go.Value.bool false)), none⟩,
  ⟨some 2, Go.Op.assign (Go.Operand.tmp 64), none⟩]) (.ret)))))))
def mj4_0 : List Nat := [1, 2, 9, 10]
def mj4_1 : List Nat := [1, 2, 9, 10, 11, 12, 13, 14, 15, 16, 17, 18, 19, 20, 21, 22, 23, 24, 25, 26, 27, 28, 29]
theorem ls4 : Tryd.f4.body.map (strip Tryd.prog impCodX) = some lc4 := by kernel_rfl
theorem lcall4 {args : List AV} (hargs : args.length ≤ 65) {H0 : AHeap} (lo : Nat) (hlo : H0.length ≤ lo) {r0 : AV} {H0' : AHeap}
    (h : lavc Tryd.prog glob lc4 (args ++ List.replicate (65 - args.length) (.v undef)) H0 fun e t H => (e = .normal ∨ e = .ret) ∧ aret Tryd.prog t H [Go.ResultVar.tmp 2] fun r => Fin lo H r r0 H0') :
    ACall Tryd.prog glob (H0.length == 0) 4 args H0 r0 H0' := LCall' ctx Tryd.func4 (by kernel_rfl) ls4 (by kernel_rfl) (by kernel_rfl) hargs lo hlo h
theorem lcallk4 {args : List AV} (hargs : args.length ≤ 65) {H0 : AHeap} {r0 : AV} {H0' : AHeap}
    (h : lavc Tryd.prog glob lc4 (args ++ List.replicate (65 - args.length) (.v undef)) H0 fun e t H => (e = .normal ∨ e = .ret) ∧ aret Tryd.prog t H [Go.ResultVar.tmp 2] fun r => r = r0 ∧ H = H0') :
    ACall Tryd.prog glob false 4 args H0 r0 H0' := LCallK' ctx Tryd.func4 (by kernel_rfl) ls4 (by kernel_rfl) (by kernel_rfl) hargs h
end Go.Abs.S
