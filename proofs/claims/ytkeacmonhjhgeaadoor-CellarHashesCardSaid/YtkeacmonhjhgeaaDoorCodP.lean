/- Code, as it is looked at; written by wip/leancode.py. -/
import Derived.Test.YtkeacmonhjhgeaaDoorAbsSeat
namespace Go.Abs.S
open Go.Proofs
set_option maxRecDepth 100000
def impCodP : FuncId → Bool := fun f => f == 12 || f == 15 || f == 30 || f == 36
/-- escutcheon/escutcheonref01.Pack -/
def lc23 : LCode := .seq (.reg []
  [⟨some 2, Go.Op.assign (Go.Operand.const (Go.Value.slice none 0 0)), none⟩]) (.seq (.reg []
  [⟨some 5, Go.Op.move (Go.Operand.tmp 0), none⟩,
  ⟨some 6, Go.Op.call { callee := Go.Callee.builtin Go.Builtin.len, args := #[Go.Operand.tmp 5], argTypes := #[44] }, none⟩,
  ⟨some 7, Go.Op.call { callee := Go.Callee.value (Go.Operand.func 19), args := #[Go.Operand.tmp 6], argTypes := #[3] }, none⟩,
  ⟨some 3, Go.Op.assign (Go.Operand.tmp 7), none⟩]) (.seq (.seq (.reg []
  [⟨some 8, Go.Op.move (Go.Operand.tmp 0), none⟩,
  ⟨some 9, Go.Op.call { callee := Go.Callee.builtin Go.Builtin.len, args := #[Go.Operand.tmp 8], argTypes := #[44] }, none⟩,
  ⟨some 10, Go.Op.move (Go.Operand.const (Go.Value.int Go.IntKind.i64 0)), none⟩]) (.block 0 (.loop (.seq (.reg []
  [⟨some 11, Go.Op.binOp Go.BinOp.lss 3 (Go.Operand.tmp 10) (Go.Operand.tmp 9) 3, none⟩]) (.seq (.cond (Go.Operand.tmp 11) (.skip) (.exit 0)) (.seq (.block 1 (.seq (.reg []
  [⟨some 12, Go.Op.move (Go.Operand.tmp 10), none⟩,
  ⟨some 4, Go.Op.assign (Go.Operand.tmp 12), none⟩]) (.regl [⟨some 21, Go.Op.move (Go.Operand.tmp 0), none⟩,
  ⟨some 22, Go.Op.move (Go.Operand.tmp 4), none⟩,
  ⟨some 23, Go.Op.indexAddr 44 (Go.Operand.tmp 21) (Go.Operand.tmp 22), none⟩,
  ⟨some 24, Go.Op.load 22 (Go.Operand.tmp 23), none⟩]
  [⟨some 13, Go.Op.move (Go.Operand.tmp 3), none⟩,
  ⟨some 14, Go.Op.move (Go.Operand.tmp 0), none⟩,
  ⟨some 15, Go.Op.move (Go.Operand.tmp 4), none⟩,
  ⟨some 16, Go.Op.indexAddr 44 (Go.Operand.tmp 14) (Go.Operand.tmp 15), none⟩,
  ⟨some 17, Go.Op.load 22 (Go.Operand.tmp 16), none⟩,
  ⟨some 18, Go.Op.call { callee := Go.Callee.builtin Go.Builtin.len, args := #[Go.Operand.tmp 17], argTypes := #[22] }, none⟩,
  ⟨some 19, Go.Op.call { callee := Go.Callee.value (Go.Operand.func 19), args := #[Go.Operand.tmp 18], argTypes := #[3] }, none⟩]
  [⟨some 20, Go.Op.call { callee := Go.Callee.builtin Go.Builtin.append, args := #[Go.Operand.tmp 13, Go.Operand.tmp 19], argTypes := #[22, 22] }, none⟩,
  ⟨some 25, Go.Op.call { callee := Go.Callee.builtin Go.Builtin.append, args := #[Go.Operand.tmp 20, Go.Operand.tmp 24], argTypes := #[22, 22] }, none⟩,
  ⟨some 3, Go.Op.assign (Go.Operand.tmp 25), none⟩]))) (.reg []
  [⟨some 26, Go.Op.binOp Go.BinOp.add 3 (Go.Operand.tmp 10) (Go.Operand.const (Go.Value.int Go.IntKind.i64 1)) 3, none⟩,
  ⟨some 10, Go.Op.move (Go.Operand.tmp 26), none⟩]))))))) (.seq (.reg []
  [⟨some 27, Go.Op.move (Go.Operand.tmp 3), none⟩,
  ⟨some 2, Go.Op.assign (Go.Operand.tmp 27), none⟩]) (.ret))))
def ms23_0 : List Nat := [1, 3, 4, 5, 6, 7, 8, 10, 11, 12, 13, 14, 15, 16, 17, 18, 19, 20, 21, 22, 23, 24, 25, 26]
def mj23_0 : List Nat := [1, 5, 6, 7, 8]
theorem ls23 : Tryd.f23.body.map (strip Tryd.prog impCodP) = some lc23 := by kernel_rfl
theorem lcall23 {args : List AV} (hargs : args.length ≤ 28) {H0 : AHeap} (lo : Nat) (hlo : H0.length ≤ lo) {r0 : AV} {H0' : AHeap}
    (h : lavc Tryd.prog glob lc23 (args ++ List.replicate (28 - args.length) (.v undef)) H0 fun e t H => (e = .normal ∨ e = .ret) ∧ aret Tryd.prog t H [Go.ResultVar.tmp 2] fun r => Fin lo H r r0 H0') :
    ACall Tryd.prog glob (H0.length == 0) 23 args H0 r0 H0' := LCall' ctx Tryd.func23 (by kernel_rfl) ls23 (by kernel_rfl) (by kernel_rfl) hargs lo hlo h
theorem lcallk23 {args : List AV} (hargs : args.length ≤ 28) {H0 : AHeap} {r0 : AV} {H0' : AHeap}
    (h : lavc Tryd.prog glob lc23 (args ++ List.replicate (28 - args.length) (.v undef)) H0 fun e t H => (e = .normal ∨ e = .ret) ∧ aret Tryd.prog t H [Go.ResultVar.tmp 2] fun r => r = r0 ∧ H = H0') :
    ACall Tryd.prog glob false 23 args H0 r0 H0' := LCallK' ctx Tryd.func23 (by kernel_rfl) ls23 (by kernel_rfl) (by kernel_rfl) hargs h
end Go.Abs.S
