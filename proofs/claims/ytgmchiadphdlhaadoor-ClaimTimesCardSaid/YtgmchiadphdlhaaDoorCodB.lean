/- Code, as it is looked at; written by wip/leancode.py. -/
import Derived.Test.YtgmchiadphdlhaaDoorAbsSeat
namespace Go.Abs.S
open Go.Proofs
set_option maxRecDepth 100000
def impCodB : FuncId → Bool := fun f => f == 20 || f == 35
/-- (*strings.Builder).WriteString -/
def lc20 : LCode := .seq (.reg []
  [⟨some 4, .assign (.const (.int .i64 0)), none⟩,
  ⟨some 5, .assign (.const .nilIface), none⟩]) (.seq (.reg []
  [⟨some 6, .move (.tmp 0), none⟩,
  ⟨some 7, .call { callee := .value (.func 35), args := #[.tmp 6], argTypes := #[60] }, none⟩]) (.seq (.reg []
  [⟨some 8, .move (.tmp 0), none⟩,
  ⟨some 9, .move (.tmp 0), none⟩,
  ⟨some 10, .nilCheck (.tmp 9), none⟩,
  ⟨some 11, .fieldAddr 63 (.tmp 10) 1, none⟩,
  ⟨some 12, .load 61 (.tmp 11), none⟩,
  ⟨some 13, .move (.tmp 1), none⟩,
  ⟨some 14, .call { callee := .builtin .append, args := #[.tmp 12, .tmp 13], argTypes := #[61, 9] }, none⟩,
  ⟨some 15, .nilCheck (.tmp 8), none⟩,
  ⟨some 16, .fieldAddr 63 (.tmp 15) 1, none⟩,
  ⟨none, .store 61 (.tmp 16) (.tmp 14), none⟩]) (.seq (.reg []
  [⟨some 17, .move (.tmp 1), none⟩,
  ⟨some 18, .call { callee := .builtin .len, args := #[.tmp 17], argTypes := #[9] }, none⟩,
  ⟨some 4, .assign (.tmp 18), none⟩,
  ⟨some 5, .assign (.const .nilIface), none⟩]) (.ret))))
theorem ls20 : Tryd.f20.body.map (strip Tryd.prog impCodB) = some lc20 := by kernel_rfl
theorem lcall20 {args : List AV} (hargs : args.length ≤ 19) {H0 : AHeap} (lo : Nat) (hlo : H0.length ≤ lo) {r0 : AV} {H0' : AHeap}
    (h : lavc Tryd.prog glob lc20 (args ++ List.replicate (19 - args.length) (.v undef)) H0 fun e t H => (e = .normal ∨ e = .ret) ∧ aret Tryd.prog t H [Go.ResultVar.tmp 4, Go.ResultVar.tmp 5] fun r => Fin lo H r r0 H0') :
    ACall Tryd.prog glob (H0.length == 0) 20 args H0 r0 H0' := LCall' ctx Tryd.func20 (by kernel_rfl) ls20 (by kernel_rfl) (by kernel_rfl) hargs lo hlo h
theorem lcallk20 {args : List AV} (hargs : args.length ≤ 19) {H0 : AHeap} {r0 : AV} {H0' : AHeap}
    (h : lavc Tryd.prog glob lc20 (args ++ List.replicate (19 - args.length) (.v undef)) H0 fun e t H => (e = .normal ∨ e = .ret) ∧ aret Tryd.prog t H [Go.ResultVar.tmp 4, Go.ResultVar.tmp 5] fun r => r = r0 ∧ H = H0') :
    ACall Tryd.prog glob false 20 args H0 r0 H0' := LCallK' ctx Tryd.func20 (by kernel_rfl) ls20 (by kernel_rfl) (by kernel_rfl) hargs h
/-- (*strings.Builder).String -/
def lc22 : LCode := .seq (.reg []
  [⟨some 2, .assign (.const (.string { data := #[] })), none⟩]) (.seq (.reg [⟨some 3, .move (.tmp 0), none⟩,
  ⟨some 4, .nilCheck (.tmp 3), none⟩,
  ⟨some 5, .fieldAddr 63 (.tmp 4) 1, none⟩,
  ⟨some 6, .load 61 (.tmp 5), none⟩,
  ⟨some 7, .call { callee := .builtin .unsafeSliceData, args := #[.tmp 6], argTypes := #[61] }, none⟩,
  ⟨some 8, .move (.tmp 0), none⟩,
  ⟨some 9, .nilCheck (.tmp 8), none⟩,
  ⟨some 10, .fieldAddr 63 (.tmp 9) 1, none⟩,
  ⟨some 11, .load 61 (.tmp 10), none⟩,
  ⟨some 12, .call { callee := .builtin .len, args := #[.tmp 11], argTypes := #[61] }, none⟩]
  [⟨some 13, .call { callee := .builtin .unsafeString, args := #[.tmp 7, .tmp 12], argTypes := #[86, 3] }, none⟩,
  ⟨some 2, .assign (.tmp 13), none⟩]) (.ret))
theorem ls22 : Tryd.f22.body.map (strip Tryd.prog impCodB) = some lc22 := by kernel_rfl
theorem lcall22 {args : List AV} (hargs : args.length ≤ 14) {H0 : AHeap} (lo : Nat) (hlo : H0.length ≤ lo) {r0 : AV} {H0' : AHeap}
    (h : lavc Tryd.prog glob lc22 (args ++ List.replicate (14 - args.length) (.v undef)) H0 fun e t H => (e = .normal ∨ e = .ret) ∧ aret Tryd.prog t H [Go.ResultVar.tmp 2] fun r => Fin lo H r r0 H0') :
    ACall Tryd.prog glob (H0.length == 0) 22 args H0 r0 H0' := LCall' ctx Tryd.func22 (by kernel_rfl) ls22 (by kernel_rfl) (by kernel_rfl) hargs lo hlo h
theorem lcallk22 {args : List AV} (hargs : args.length ≤ 14) {H0 : AHeap} {r0 : AV} {H0' : AHeap}
    (h : lavc Tryd.prog glob lc22 (args ++ List.replicate (14 - args.length) (.v undef)) H0 fun e t H => (e = .normal ∨ e = .ret) ∧ aret Tryd.prog t H [Go.ResultVar.tmp 2] fun r => r = r0 ∧ H = H0') :
    ACall Tryd.prog glob false 22 args H0 r0 H0' := LCallK' ctx Tryd.func22 (by kernel_rfl) ls22 (by kernel_rfl) (by kernel_rfl) hargs h
end Go.Abs.S
