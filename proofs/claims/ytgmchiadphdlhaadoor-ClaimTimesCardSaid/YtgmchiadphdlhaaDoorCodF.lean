/- Rounds' bodies, as they are looked at; written by wip/rfcode.py. -/
import Derived.Test.YtgmchiadphdlhaaDoorAbsRf
import Derived.Test.YtgmchiadphdlhaaDoorAbsSeat
namespace Go.Abs.S
open Go.Proofs
set_option maxRecDepth 100000
def impCodF : FuncId → Bool := fun f => f == 20 || f == 22 || f == 35 || f == 51 || f == 67
/-- A round of escutcheon/page.Of. -/
def lcb10 : LCode := .block 1 (.seq (.reg []
  [⟨some 9, Go.Op.move (Go.Operand.tmp 4), none⟩,
  ⟨some 10, Go.Op.call { callee := Go.Callee.builtin Go.Builtin.len, args := #[Go.Operand.tmp 9], argTypes := #[23] }, none⟩,
  ⟨some 11, Go.Op.binOp Go.BinOp.eql 3 (Go.Operand.tmp 10) (Go.Operand.const (Go.Value.int Go.IntKind.i64 2)) 3, none⟩]) (.cond (Go.Operand.tmp 11) (.regl [⟨some 19, Go.Op.fieldAddr 26 (Go.Operand.tmp 3) 3, none⟩,
  ⟨some 20, Go.Op.load 24 (Go.Operand.tmp 19), none⟩,
  ⟨some 21, Go.Op.move (Go.Operand.tmp 4), none⟩,
  ⟨some 22, Go.Op.indexAddr 23 (Go.Operand.tmp 21) (Go.Operand.const (Go.Value.int Go.IntKind.i64 1)), none⟩,
  ⟨some 23, Go.Op.load 9 (Go.Operand.tmp 22), none⟩,
  ⟨some 24, Go.Op.build 26 #[(0, Go.Operand.const (Go.Value.int Go.IntKind.i64 4)), (1, Go.Operand.tmp 23)], none⟩,
  ⟨some 25, Go.Op.buildSlice 24 1 #[(0, Go.Operand.tmp 24)], none⟩,
  ⟨some 27, Go.Op.fieldAddr 26 (Go.Operand.tmp 3) 2, none⟩]
  [⟨some 12, Go.Op.fieldAddr 26 (Go.Operand.tmp 3) 2, none⟩,
  ⟨some 13, Go.Op.load 23 (Go.Operand.tmp 12), none⟩,
  ⟨some 14, Go.Op.move (Go.Operand.tmp 4), none⟩,
  ⟨some 15, Go.Op.indexAddr 23 (Go.Operand.tmp 14) (Go.Operand.const (Go.Value.int Go.IntKind.i64 0)), none⟩,
  ⟨some 16, Go.Op.load 9 (Go.Operand.tmp 15), none⟩,
  ⟨some 17, Go.Op.buildSlice 23 1 #[(0, Go.Operand.tmp 16)], none⟩]
  [⟨some 18, Go.Op.call { callee := Go.Callee.builtin Go.Builtin.append, args := #[Go.Operand.tmp 13, Go.Operand.tmp 17], argTypes := #[23, 23] }, none⟩,
  ⟨some 26, Go.Op.call { callee := Go.Callee.builtin Go.Builtin.append, args := #[Go.Operand.tmp 20, Go.Operand.tmp 25], argTypes := #[24, 24] }, none⟩]
  [⟨none, Go.Op.store 23 (Go.Operand.tmp 27) (Go.Operand.tmp 18), none⟩,
  ⟨some 28, Go.Op.fieldAddr 26 (Go.Operand.tmp 3) 3, none⟩,
  ⟨none, Go.Op.store 24 (Go.Operand.tmp 28) (Go.Operand.tmp 26), none⟩]) (.skip)))
theorem lsb10 : (Tryd.f10.body.bind rfOf).map (fun x => strip Tryd.prog impCodF x.2.2.2) = some lcb10 := by kernel_rfl
end Go.Abs.S
