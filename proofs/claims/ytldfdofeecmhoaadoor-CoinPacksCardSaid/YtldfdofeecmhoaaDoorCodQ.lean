/- Code, as it is looked at; written by wip/leancode.py. -/
import Derived.Test.YtldfdofeecmhoaaDoorAbsSeat
namespace Go.Abs.S
open Go.Proofs
set_option maxRecDepth 100000
def impCodQ : FuncId → Bool := fun f => f == 24 || f == 25 || f == 29 || f == 30 || f == 38
/-- escutcheon/escutcheonlaw01.CoinPacks -/
def lc6 : LCode := .seq (.reg []
  [⟨some 2, Go.Op.assign (Go.Operand.const (Go.Value.bool false)), none⟩]) (.seq (.seq (.reg []
  [⟨some 8, Go.Op.call { callee := Go.Callee.value (Go.Operand.func 10), args := #[], argTypes := #[] }, none⟩,
  ⟨some 9, Go.Op.unOp Go.UnOp.not 4 (Go.Operand.tmp 8), none⟩,
  ⟨some 10, Go.Op.move (Go.Operand.tmp 9), none⟩,
  ⟨some 11, Go.Op.move (Go.Operand.tmp 0), (some (10, false))⟩,
  ⟨some 12, Go.Op.call { callee := Go.Callee.builtin Go.Builtin.len, args := #[Go.Operand.tmp 11], argTypes := #[27] }, (some (10, false))⟩,
  ⟨some 13, Go.Op.binOp Go.BinOp.gtr 3 (Go.Operand.tmp 12) (Go.Operand.const (Go.Value.int Go.IntKind.i64 20)) 3, (some (10, false))⟩,
  ⟨some 14, Go.Op.pick (Go.Operand.tmp 10) (Go.Operand.const (Go.Value.bool true)) (Go.Operand.tmp 13), none⟩]) (.cond (Go.Operand.tmp 14) (.seq (.reg []
  [⟨some 15, Go.Op.call { callee := Go.Callee.value (Go.Operand.func 10), args := #[], argTypes := #[] }, none⟩,
  ⟨some 2, Go.Op.assign (Go.Operand.tmp 15), none⟩]) (.ret)) (.skip))) (.seq (.seq (.reg []
  [⟨some 16, Go.Op.move (Go.Operand.tmp 0), none⟩,
  ⟨some 17, Go.Op.call { callee := Go.Callee.builtin Go.Builtin.len, args := #[Go.Operand.tmp 16], argTypes := #[27] }, none⟩,
  ⟨some 18, Go.Op.move (Go.Operand.const (Go.Value.int Go.IntKind.i64 0)), none⟩]) (.block 0 (.loop (.seq (.reg []
  [⟨some 19, Go.Op.binOp Go.BinOp.lss 3 (Go.Operand.tmp 18) (Go.Operand.tmp 17) 3, none⟩]) (.seq (.cond (Go.Operand.tmp 19) (.skip) (.exit 0)) (.seq (.block 1 (.seq (.reg []
  [⟨some 20, Go.Op.indexAddr 27 (Go.Operand.tmp 16) (Go.Operand.tmp 18), none⟩,
  ⟨some 21, Go.Op.load 22 (Go.Operand.tmp 20), none⟩,
  ⟨some 4, Go.Op.assign (Go.Operand.tmp 21), none⟩]) (.seq (.reg []
  [⟨some 22, Go.Op.move (Go.Operand.tmp 4), none⟩,
  ⟨some 23, Go.Op.call { callee := Go.Callee.builtin Go.Builtin.len, args := #[Go.Operand.tmp 22], argTypes := #[22] }, none⟩,
  ⟨some 24, Go.Op.binOp Go.BinOp.gtr 3 (Go.Operand.tmp 23) (Go.Operand.const (Go.Value.int Go.IntKind.i64 100)) 3, none⟩]) (.cond (Go.Operand.tmp 24) (.seq (.reg []
  [⟨some 2, Go.Op.assign (Go.Operand.const (Go.Value.bool true)), none⟩]) (.ret)) (.skip))))) (.reg []
  [⟨some 25, Go.Op.binOp Go.BinOp.add 3 (Go.Operand.tmp 18) (Go.Operand.const (Go.Value.int Go.IntKind.i64 1)) 3, none⟩,
  ⟨some 18, Go.Op.move (Go.Operand.tmp 25), none⟩]))))))) (.seq (.reg []
  [⟨some 26, Go.Op.move (Go.Operand.tmp 0), none⟩,
  ⟨some 27, Go.Op.call { callee := Go.Callee.value (Go.Operand.func 13), args := #[Go.Operand.tmp 26], argTypes := #[27] }, none⟩,
  ⟨some 5, Go.Op.assign (Go.Operand.tmp 27), none⟩]) (.seq (.reg []
  [⟨some 29, Go.Op.move (Go.Operand.tmp 5), none⟩,
  ⟨some 30, Go.Op.call { callee := Go.Callee.value (Go.Operand.func 15), args := #[Go.Operand.tmp 29], argTypes := #[22] }, none⟩,
  ⟨some 28, Go.Op.move (Go.Operand.tmp 30), none⟩,
  ⟨some 31, Go.Op.extract (Go.Operand.tmp 28) 0, none⟩,
  ⟨some 32, Go.Op.extract (Go.Operand.tmp 28) 1, none⟩,
  ⟨some 6, Go.Op.assign (Go.Operand.tmp 31), none⟩,
  ⟨some 7, Go.Op.assign (Go.Operand.tmp 32), none⟩]) (.seq (.reg [⟨some 33, Go.Op.move (Go.Operand.tmp 5), none⟩,
  ⟨some 34, Go.Op.convert 22 9 (Go.Operand.tmp 33), none⟩,
  ⟨some 35, Go.Op.move (Go.Operand.tmp 0), none⟩,
  ⟨some 36, Go.Op.call { callee := Go.Callee.value (Go.Operand.func 16), args := #[Go.Operand.tmp 35], argTypes := #[27] }, none⟩,
  ⟨some 37, Go.Op.convert 22 9 (Go.Operand.tmp 36), none⟩,
  ⟨some 38, Go.Op.binOp Go.BinOp.eql 9 (Go.Operand.tmp 34) (Go.Operand.tmp 37) 9, none⟩,
  ⟨some 39, Go.Op.move (Go.Operand.tmp 38), none⟩,
  ⟨some 40, Go.Op.move (Go.Operand.tmp 7), (some (39, true))⟩,
  ⟨some 41, Go.Op.binOp Go.BinOp.eql 30 (Go.Operand.tmp 40) (Go.Operand.const (Go.Value.int Go.IntKind.i64 0)) 30, (some (39, true))⟩,
  ⟨some 42, Go.Op.pick (Go.Operand.tmp 39) (Go.Operand.tmp 41) (Go.Operand.const (Go.Value.bool false)), none⟩,
  ⟨some 43, Go.Op.move (Go.Operand.tmp 42), none⟩,
  ⟨some 44, Go.Op.move (Go.Operand.tmp 6), (some (43, true))⟩,
  ⟨some 45, Go.Op.move (Go.Operand.tmp 0), (some (43, true))⟩,
  ⟨some 46, Go.Op.call { callee := Go.Callee.value (Go.Operand.func 14), args := #[Go.Operand.tmp 44, Go.Operand.tmp 45], argTypes := #[27, 27] }, (some (43, true))⟩,
  ⟨some 47, Go.Op.pick (Go.Operand.tmp 43) (Go.Operand.tmp 46) (Go.Operand.const (Go.Value.bool false)), none⟩,
  ⟨some 2, Go.Op.assign (Go.Operand.tmp 47), none⟩]
  []) (.ret))))))
def ms6_0 : List Nat := [1, 2, 3, 4, 8, 9, 10, 11, 12, 13, 14, 15, 18, 19, 20, 21, 22, 23, 24, 25]
def mj6_0 : List Nat := [1, 2, 3, 8, 9, 10, 11, 12, 13, 14, 15]
def mj6_1 : List Nat := [1, 3, 8, 9, 10, 11, 12, 13, 14, 15]
def mj6_2 : List Nat := [1, 2, 3, 8, 9, 10, 11, 12, 13, 14, 15]
theorem ls6 : Tryd.f6.body.map (strip Tryd.prog impCodQ) = some lc6 := by kernel_rfl
theorem lcall6 {args : List AV} (hargs : args.length ≤ 48) {H0 : AHeap} (lo : Nat) (hlo : H0.length ≤ lo) {r0 : AV} {H0' : AHeap}
    (h : lavc Tryd.prog glob lc6 (args ++ List.replicate (48 - args.length) (.v undef)) H0 fun e t H => (e = .normal ∨ e = .ret) ∧ aret Tryd.prog t H [Go.ResultVar.tmp 2] fun r => Fin lo H r r0 H0') :
    ACall Tryd.prog glob (H0.length == 0) 6 args H0 r0 H0' := LCall' ctx Tryd.func6 (by kernel_rfl) ls6 (by kernel_rfl) (by kernel_rfl) hargs lo hlo h
theorem lcallk6 {args : List AV} (hargs : args.length ≤ 48) {H0 : AHeap} {r0 : AV} {H0' : AHeap}
    (h : lavc Tryd.prog glob lc6 (args ++ List.replicate (48 - args.length) (.v undef)) H0 fun e t H => (e = .normal ∨ e = .ret) ∧ aret Tryd.prog t H [Go.ResultVar.tmp 2] fun r => r = r0 ∧ H = H0') :
    ACall Tryd.prog glob false 6 args H0 r0 H0' := LCallK' ctx Tryd.func6 (by kernel_rfl) ls6 (by kernel_rfl) (by kernel_rfl) hargs h
end Go.Abs.S
