/- Code, as it is looked at; written by wip/leancode.py. -/
import Derived.Test.YtldfdofeecmhoaaDoorAbsSeat
namespace Go.Abs.S
open Go.Proofs
set_option maxRecDepth 100000
def impCodB : FuncId → Bool := fun f => f == 29 || f == 38
/-- (*strings.Builder).WriteByte -/
def lc29 : LCode := .seq (.reg []
  [⟨some 4, Go.Op.assign (Go.Operand.const Go.Value.nilIface), none⟩]) (.seq (.reg []
  [⟨some 5, Go.Op.move (Go.Operand.tmp 0), none⟩,
  ⟨some 6, Go.Op.call { callee := Go.Callee.value (Go.Operand.func 38), args := #[Go.Operand.tmp 5], argTypes := #[55] }, none⟩]) (.seq (.reg []
  [⟨some 7, Go.Op.move (Go.Operand.tmp 0), none⟩,
  ⟨some 8, Go.Op.move (Go.Operand.tmp 0), none⟩,
  ⟨some 9, Go.Op.nilCheck (Go.Operand.tmp 8), none⟩,
  ⟨some 10, Go.Op.fieldAddr 57 (Go.Operand.tmp 9) 1, none⟩,
  ⟨some 11, Go.Op.load 22 (Go.Operand.tmp 10), none⟩,
  ⟨some 12, Go.Op.move (Go.Operand.tmp 1), none⟩,
  ⟨some 13, Go.Op.buildSlice 22 1 #[(0, Go.Operand.tmp 12)], none⟩,
  ⟨some 14, Go.Op.call { callee := Go.Callee.builtin Go.Builtin.append, args := #[Go.Operand.tmp 11, Go.Operand.tmp 13], argTypes := #[22, 22] }, none⟩,
  ⟨some 15, Go.Op.nilCheck (Go.Operand.tmp 7), none⟩,
  ⟨some 16, Go.Op.fieldAddr 57 (Go.Operand.tmp 15) 1, none⟩,
  ⟨none, Go.Op.store 22 (Go.Operand.tmp 16) (Go.Operand.tmp 14), none⟩]) (.seq (.reg []
  [⟨some 4, Go.Op.assign (Go.Operand.const Go.Value.nilIface), none⟩]) (.ret))))
theorem ls29 : Tryd.f29.body.map (strip Tryd.prog impCodB) = some lc29 := by kernel_rfl
theorem lcall29 {args : List AV} (hargs : args.length ≤ 17) {H0 : AHeap} (lo : Nat) (hlo : H0.length ≤ lo) {r0 : AV} {H0' : AHeap}
    (h : lavc Tryd.prog glob lc29 (args ++ List.replicate (17 - args.length) (.v undef)) H0 fun e t H => (e = .normal ∨ e = .ret) ∧ aret Tryd.prog t H [Go.ResultVar.tmp 4] fun r => Fin lo H r r0 H0') :
    ACall Tryd.prog glob (H0.length == 0) 29 args H0 r0 H0' := LCall' ctx Tryd.func29 (by kernel_rfl) ls29 (by kernel_rfl) (by kernel_rfl) hargs lo hlo h
theorem lcallk29 {args : List AV} (hargs : args.length ≤ 17) {H0 : AHeap} {r0 : AV} {H0' : AHeap}
    (h : lavc Tryd.prog glob lc29 (args ++ List.replicate (17 - args.length) (.v undef)) H0 fun e t H => (e = .normal ∨ e = .ret) ∧ aret Tryd.prog t H [Go.ResultVar.tmp 4] fun r => r = r0 ∧ H = H0') :
    ACall Tryd.prog glob false 29 args H0 r0 H0' := LCallK' ctx Tryd.func29 (by kernel_rfl) ls29 (by kernel_rfl) (by kernel_rfl) hargs h
/-- (*strings.Builder).String -/
def lc30 : LCode := .seq (.reg []
  [⟨some 2, Go.Op.assign (Go.Operand.const (Go.Value.string { data := #[] })), none⟩]) (.seq (.reg [⟨some 3, Go.Op.move (Go.Operand.tmp 0), none⟩,
  ⟨some 4, Go.Op.nilCheck (Go.Operand.tmp 3), none⟩,
  ⟨some 5, Go.Op.fieldAddr 57 (Go.Operand.tmp 4) 1, none⟩,
  ⟨some 6, Go.Op.load 22 (Go.Operand.tmp 5), none⟩,
  ⟨some 7, Go.Op.call { callee := Go.Callee.builtin Go.Builtin.unsafeSliceData, args := #[Go.Operand.tmp 6], argTypes := #[22] }, none⟩,
  ⟨some 8, Go.Op.move (Go.Operand.tmp 0), none⟩,
  ⟨some 9, Go.Op.nilCheck (Go.Operand.tmp 8), none⟩,
  ⟨some 10, Go.Op.fieldAddr 57 (Go.Operand.tmp 9) 1, none⟩,
  ⟨some 11, Go.Op.load 22 (Go.Operand.tmp 10), none⟩,
  ⟨some 12, Go.Op.call { callee := Go.Callee.builtin Go.Builtin.len, args := #[Go.Operand.tmp 11], argTypes := #[22] }, none⟩]
  [⟨some 13, Go.Op.call { callee := Go.Callee.builtin Go.Builtin.unsafeString, args := #[Go.Operand.tmp 7, Go.Operand.tmp 12], argTypes := #[71, 3] }, none⟩,
  ⟨some 2, Go.Op.assign (Go.Operand.tmp 13), none⟩]) (.ret))
theorem ls30 : Tryd.f30.body.map (strip Tryd.prog impCodB) = some lc30 := by kernel_rfl
theorem lcall30 {args : List AV} (hargs : args.length ≤ 14) {H0 : AHeap} (lo : Nat) (hlo : H0.length ≤ lo) {r0 : AV} {H0' : AHeap}
    (h : lavc Tryd.prog glob lc30 (args ++ List.replicate (14 - args.length) (.v undef)) H0 fun e t H => (e = .normal ∨ e = .ret) ∧ aret Tryd.prog t H [Go.ResultVar.tmp 2] fun r => Fin lo H r r0 H0') :
    ACall Tryd.prog glob (H0.length == 0) 30 args H0 r0 H0' := LCall' ctx Tryd.func30 (by kernel_rfl) ls30 (by kernel_rfl) (by kernel_rfl) hargs lo hlo h
theorem lcallk30 {args : List AV} (hargs : args.length ≤ 14) {H0 : AHeap} {r0 : AV} {H0' : AHeap}
    (h : lavc Tryd.prog glob lc30 (args ++ List.replicate (14 - args.length) (.v undef)) H0 fun e t H => (e = .normal ∨ e = .ret) ∧ aret Tryd.prog t H [Go.ResultVar.tmp 2] fun r => r = r0 ∧ H = H0') :
    ACall Tryd.prog glob false 30 args H0 r0 H0' := LCallK' ctx Tryd.func30 (by kernel_rfl) ls30 (by kernel_rfl) (by kernel_rfl) hargs h
end Go.Abs.S
