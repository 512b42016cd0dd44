/- Code, as it is looked at; written by wip/leancode.py. -/
import Derived.Test.YtjmalnoehmgenaaDoorAbsSeat
namespace Go.Abs.S
open Go.Proofs
set_option maxRecDepth 100000
def impCodB : FuncId → Bool := fun f => f == 26 || f == 36
/-- (*strings.Builder).WriteString -/
def lc26 : LCode := .seq (.reg []
  [⟨some 4, Go.Op.assign (Go.Operand.const (Go.Value.int Go.IntKind.i64 0)), none⟩,
  ⟨some 5, Go.Op.assign (Go.Operand.const Go.Value.nilIface), none⟩]) (.seq (.reg []
  [⟨some 6, Go.Op.move (Go.Operand.tmp 0), none⟩,
  ⟨some 7, Go.Op.call { callee := Go.Callee.value (Go.Operand.func 36), args := #[Go.Operand.tmp 6], argTypes := #[46] }, none⟩]) (.seq (.reg []
  [⟨some 8, Go.Op.move (Go.Operand.tmp 0), none⟩,
  ⟨some 9, Go.Op.move (Go.Operand.tmp 0), none⟩,
  ⟨some 10, Go.Op.nilCheck (Go.Operand.tmp 9), none⟩,
  ⟨some 11, Go.Op.fieldAddr 48 (Go.Operand.tmp 10) 1, none⟩,
  ⟨some 12, Go.Op.load 36 (Go.Operand.tmp 11), none⟩,
  ⟨some 13, Go.Op.move (Go.Operand.tmp 1), none⟩,
  ⟨some 14, Go.Op.call { callee := Go.Callee.builtin Go.Builtin.append, args := #[Go.Operand.tmp 12, Go.Operand.tmp 13], argTypes := #[36, 9] }, none⟩,
  ⟨some 15, Go.Op.nilCheck (Go.Operand.tmp 8), none⟩,
  ⟨some 16, Go.Op.fieldAddr 48 (Go.Operand.tmp 15) 1, none⟩,
  ⟨none, Go.Op.store 36 (Go.Operand.tmp 16) (Go.Operand.tmp 14), none⟩]) (.seq (.reg []
  [⟨some 17, Go.Op.move (Go.Operand.tmp 1), none⟩,
  ⟨some 18, Go.Op.call { callee := Go.Callee.builtin Go.Builtin.len, args := #[Go.Operand.tmp 17], argTypes := #[9] }, none⟩,
  ⟨some 4, Go.Op.assign (Go.Operand.tmp 18), none⟩,
  ⟨some 5, Go.Op.assign (Go.Operand.const Go.Value.nilIface), none⟩]) (.ret))))
theorem ls26 : Tryd.f26.body.map (strip Tryd.prog impCodB) = some lc26 := by kernel_rfl
theorem lcall26 {args : List AV} (hargs : args.length ≤ 19) {H0 : AHeap} (lo : Nat) (hlo : H0.length ≤ lo) {r0 : AV} {H0' : AHeap}
    (h : lavc Tryd.prog glob lc26 (args ++ List.replicate (19 - args.length) (.v undef)) H0 fun e t H => (e = .normal ∨ e = .ret) ∧ aret Tryd.prog t H [Go.ResultVar.tmp 4, Go.ResultVar.tmp 5] fun r => Fin lo H r r0 H0') :
    ACall Tryd.prog glob (H0.length == 0) 26 args H0 r0 H0' := LCall' ctx Tryd.func26 (by kernel_rfl) ls26 (by kernel_rfl) (by kernel_rfl) hargs lo hlo h
theorem lcallk26 {args : List AV} (hargs : args.length ≤ 19) {H0 : AHeap} {r0 : AV} {H0' : AHeap}
    (h : lavc Tryd.prog glob lc26 (args ++ List.replicate (19 - args.length) (.v undef)) H0 fun e t H => (e = .normal ∨ e = .ret) ∧ aret Tryd.prog t H [Go.ResultVar.tmp 4, Go.ResultVar.tmp 5] fun r => r = r0 ∧ H = H0') :
    ACall Tryd.prog glob false 26 args H0 r0 H0' := LCallK' ctx Tryd.func26 (by kernel_rfl) ls26 (by kernel_rfl) (by kernel_rfl) hargs h
/-- (*strings.Builder).String -/
def lc28 : LCode := .seq (.reg []
  [⟨some 2, Go.Op.assign (Go.Operand.const (Go.Value.string { data := #[] })), none⟩]) (.seq (.reg [⟨some 3, Go.Op.move (Go.Operand.tmp 0), none⟩,
  ⟨some 4, Go.Op.nilCheck (Go.Operand.tmp 3), none⟩,
  ⟨some 5, Go.Op.fieldAddr 48 (Go.Operand.tmp 4) 1, none⟩,
  ⟨some 6, Go.Op.load 36 (Go.Operand.tmp 5), none⟩,
  ⟨some 7, Go.Op.call { callee := Go.Callee.builtin Go.Builtin.unsafeSliceData, args := #[Go.Operand.tmp 6], argTypes := #[36] }, none⟩,
  ⟨some 8, Go.Op.move (Go.Operand.tmp 0), none⟩,
  ⟨some 9, Go.Op.nilCheck (Go.Operand.tmp 8), none⟩,
  ⟨some 10, Go.Op.fieldAddr 48 (Go.Operand.tmp 9) 1, none⟩,
  ⟨some 11, Go.Op.load 36 (Go.Operand.tmp 10), none⟩,
  ⟨some 12, Go.Op.call { callee := Go.Callee.builtin Go.Builtin.len, args := #[Go.Operand.tmp 11], argTypes := #[36] }, none⟩]
  [⟨some 13, Go.Op.call { callee := Go.Callee.builtin Go.Builtin.unsafeString, args := #[Go.Operand.tmp 7, Go.Operand.tmp 12], argTypes := #[60, 3] }, none⟩,
  ⟨some 2, Go.Op.assign (Go.Operand.tmp 13), none⟩]) (.ret))
theorem ls28 : Tryd.f28.body.map (strip Tryd.prog impCodB) = some lc28 := by kernel_rfl
theorem lcall28 {args : List AV} (hargs : args.length ≤ 14) {H0 : AHeap} (lo : Nat) (hlo : H0.length ≤ lo) {r0 : AV} {H0' : AHeap}
    (h : lavc Tryd.prog glob lc28 (args ++ List.replicate (14 - args.length) (.v undef)) H0 fun e t H => (e = .normal ∨ e = .ret) ∧ aret Tryd.prog t H [Go.ResultVar.tmp 2] fun r => Fin lo H r r0 H0') :
    ACall Tryd.prog glob (H0.length == 0) 28 args H0 r0 H0' := LCall' ctx Tryd.func28 (by kernel_rfl) ls28 (by kernel_rfl) (by kernel_rfl) hargs lo hlo h
theorem lcallk28 {args : List AV} (hargs : args.length ≤ 14) {H0 : AHeap} {r0 : AV} {H0' : AHeap}
    (h : lavc Tryd.prog glob lc28 (args ++ List.replicate (14 - args.length) (.v undef)) H0 fun e t H => (e = .normal ∨ e = .ret) ∧ aret Tryd.prog t H [Go.ResultVar.tmp 2] fun r => r = r0 ∧ H = H0') :
    ACall Tryd.prog glob false 28 args H0 r0 H0' := LCallK' ctx Tryd.func28 (by kernel_rfl) ls28 (by kernel_rfl) (by kernel_rfl) hargs h
end Go.Abs.S
