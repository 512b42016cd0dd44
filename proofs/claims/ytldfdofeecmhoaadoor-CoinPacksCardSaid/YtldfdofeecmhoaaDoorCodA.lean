/- Code, as it is looked at; written by wip/leancode.py. -/
import Derived.Test.YtldfdofeecmhoaaDoorAbsSeat
namespace Go.Abs.S
open Go.Proofs
set_option maxRecDepth 100000
def impCodA : FuncId → Bool := fun f => f == 24 || f == 25 || f == 29 || f == 30 || f == 38
/-- escutcheon/escutcheonlaw01.awake -/
def lc10 : LCode := .seq (.reg []
  [⟨some 0, Go.Op.assign (Go.Operand.const (Go.Value.bool false)), none⟩]) (.seq (.reg []
  [⟨some 1, Go.Op.buildSlice 22 2 #[(0, Go.Operand.const (Go.Value.int Go.IntKind.u8 251)), (1, Go.Operand.const (Go.Value.int Go.IntKind.u8 255))], none⟩,
  ⟨some 2, Go.Op.call { callee := Go.Callee.value (Go.Operand.func 11), args := #[Go.Operand.tmp 1], argTypes := #[22] }, none⟩,
  ⟨some 3, Go.Op.binOp Go.BinOp.eql 9 (Go.Operand.tmp 2) (Go.Operand.const (Go.Value.string { data := #[45, 95, 56] })) 9, none⟩,
  ⟨some 0, Go.Op.assign (Go.Operand.tmp 3), none⟩]) (.ret))
theorem ls10 : Tryd.f10.body.map (strip Tryd.prog impCodA) = some lc10 := by kernel_rfl
theorem lcall10 {args : List AV} (hargs : args.length ≤ 4) {H0 : AHeap} (lo : Nat) (hlo : H0.length ≤ lo) {r0 : AV} {H0' : AHeap}
    (h : lavc Tryd.prog glob lc10 (args ++ List.replicate (4 - args.length) (.v undef)) H0 fun e t H => (e = .normal ∨ e = .ret) ∧ aret Tryd.prog t H [Go.ResultVar.tmp 0] fun r => Fin lo H r r0 H0') :
    ACall Tryd.prog glob (H0.length == 0) 10 args H0 r0 H0' := LCall' ctx Tryd.func10 (by kernel_rfl) ls10 (by kernel_rfl) (by kernel_rfl) hargs lo hlo h
theorem lcallk10 {args : List AV} (hargs : args.length ≤ 4) {H0 : AHeap} {r0 : AV} {H0' : AHeap}
    (h : lavc Tryd.prog glob lc10 (args ++ List.replicate (4 - args.length) (.v undef)) H0 fun e t H => (e = .normal ∨ e = .ret) ∧ aret Tryd.prog t H [Go.ResultVar.tmp 0] fun r => r = r0 ∧ H = H0') :
    ACall Tryd.prog glob false 10 args H0 r0 H0' := LCallK' ctx Tryd.func10 (by kernel_rfl) ls10 (by kernel_rfl) (by kernel_rfl) hargs h
/-- escutcheon/coin.Text -/
def lc11 : LCode := .seq (.reg []
  [⟨some 2, Go.Op.assign (Go.Operand.const (Go.Value.string { data := #[] })), none⟩]) (.seq (.reg []
  [⟨some 3, Go.Op.load 45 (Go.Operand.global 0), none⟩,
  ⟨some 4, Go.Op.move (Go.Operand.tmp 0), none⟩,
  ⟨some 5, Go.Op.call { callee := Go.Callee.value (Go.Operand.func 22), args := #[Go.Operand.tmp 3, Go.Operand.tmp 4], argTypes := #[45, 22] }, none⟩,
  ⟨some 2, Go.Op.assign (Go.Operand.tmp 5), none⟩]) (.ret))
theorem ls11 : Tryd.f11.body.map (strip Tryd.prog impCodA) = some lc11 := by kernel_rfl
theorem lcall11 {args : List AV} (hargs : args.length ≤ 6) {H0 : AHeap} (lo : Nat) (hlo : H0.length ≤ lo) {r0 : AV} {H0' : AHeap}
    (h : lavc Tryd.prog glob lc11 (args ++ List.replicate (6 - args.length) (.v undef)) H0 fun e t H => (e = .normal ∨ e = .ret) ∧ aret Tryd.prog t H [Go.ResultVar.tmp 2] fun r => Fin lo H r r0 H0') :
    ACall Tryd.prog glob (H0.length == 0) 11 args H0 r0 H0' := LCall' ctx Tryd.func11 (by kernel_rfl) ls11 (by kernel_rfl) (by kernel_rfl) hargs lo hlo h
theorem lcallk11 {args : List AV} (hargs : args.length ≤ 6) {H0 : AHeap} {r0 : AV} {H0' : AHeap}
    (h : lavc Tryd.prog glob lc11 (args ++ List.replicate (6 - args.length) (.v undef)) H0 fun e t H => (e = .normal ∨ e = .ret) ∧ aret Tryd.prog t H [Go.ResultVar.tmp 2] fun r => r = r0 ∧ H = H0') :
    ACall Tryd.prog glob false 11 args H0 r0 H0' := LCallK' ctx Tryd.func11 (by kernel_rfl) ls11 (by kernel_rfl) (by kernel_rfl) hargs h
/-- (escutcheon/coin.code).text -/
def lc22 : LCode := .seq (.reg []
  [⟨some 2, Go.Op.box 45 (Go.Operand.tmp 0), none⟩,
  ⟨some 4, Go.Op.assign (Go.Operand.const (Go.Value.string { data := #[] })), none⟩]) (.seq (.reg []
  [⟨some 5, Go.Op.alloc 57, none⟩]) (.seq (.reg []
  [⟨some 6, Go.Op.assign (Go.Operand.const (Go.Value.int Go.IntKind.i64 0)), none⟩,
  ⟨some 7, Go.Op.assign (Go.Operand.const (Go.Value.int Go.IntKind.i64 0)), none⟩]) (.seq (.seq (.reg []
  [⟨some 10, Go.Op.move (Go.Operand.tmp 1), none⟩,
  ⟨some 11, Go.Op.call { callee := Go.Callee.builtin Go.Builtin.len, args := #[Go.Operand.tmp 10], argTypes := #[22] }, none⟩,
  ⟨some 12, Go.Op.move (Go.Operand.const (Go.Value.int Go.IntKind.i64 0)), none⟩]) (.block 0 (.loop (.seq (.reg []
  [⟨some 13, Go.Op.binOp Go.BinOp.lss 3 (Go.Operand.tmp 12) (Go.Operand.tmp 11) 3, none⟩]) (.seq (.cond (Go.Operand.tmp 13) (.skip) (.exit 0)) (.seq (.block 1 (.seq (.reg []
  [⟨some 14, Go.Op.indexAddr 22 (Go.Operand.tmp 10) (Go.Operand.tmp 12), none⟩,
  ⟨some 15, Go.Op.load 5 (Go.Operand.tmp 14), none⟩,
  ⟨some 9, Go.Op.assign (Go.Operand.tmp 15), none⟩]) (.seq (.reg []
  [⟨some 16, Go.Op.move (Go.Operand.tmp 6), none⟩,
  ⟨some 17, Go.Op.binOp Go.BinOp.shl 3 (Go.Operand.tmp 16) (Go.Operand.const (Go.Value.int Go.IntKind.u64 8)) 54, none⟩,
  ⟨some 18, Go.Op.move (Go.Operand.tmp 9), none⟩,
  ⟨some 19, Go.Op.convert 5 3 (Go.Operand.tmp 18), none⟩,
  ⟨some 20, Go.Op.binOp Go.BinOp.or 3 (Go.Operand.tmp 17) (Go.Operand.tmp 19) 3, none⟩,
  ⟨some 21, Go.Op.move (Go.Operand.tmp 7), none⟩,
  ⟨some 22, Go.Op.binOp Go.BinOp.add 3 (Go.Operand.tmp 21) (Go.Operand.const (Go.Value.int Go.IntKind.i64 8)) 3, none⟩,
  ⟨some 6, Go.Op.assign (Go.Operand.tmp 20), none⟩,
  ⟨some 7, Go.Op.assign (Go.Operand.tmp 22), none⟩]) (.block 2 (.loop (.seq (.seq (.reg []
  [⟨some 23, Go.Op.move (Go.Operand.tmp 7), none⟩,
  ⟨some 24, Go.Op.fieldAddr 45 (Go.Operand.tmp 2) 1, none⟩,
  ⟨some 25, Go.Op.load 3 (Go.Operand.tmp 24), none⟩,
  ⟨some 26, Go.Op.binOp Go.BinOp.geq 3 (Go.Operand.tmp 23) (Go.Operand.tmp 25) 3, none⟩]) (.cond (Go.Operand.tmp 26) (.skip) (.exit 2))) (.block 3 (.seq (.reg []
  [⟨some 27, Go.Op.move (Go.Operand.tmp 7), none⟩,
  ⟨some 28, Go.Op.fieldAddr 45 (Go.Operand.tmp 2) 1, none⟩,
  ⟨some 29, Go.Op.load 3 (Go.Operand.tmp 28), none⟩,
  ⟨some 30, Go.Op.binOp Go.BinOp.sub 3 (Go.Operand.tmp 27) (Go.Operand.tmp 29) 3, none⟩,
  ⟨some 7, Go.Op.assign (Go.Operand.tmp 30), none⟩]) (.seq (.reg [⟨some 31, Go.Op.fieldAddr 45 (Go.Operand.tmp 2) 0, none⟩,
  ⟨some 32, Go.Op.load 9 (Go.Operand.tmp 31), none⟩,
  ⟨some 33, Go.Op.move (Go.Operand.tmp 6), none⟩,
  ⟨some 34, Go.Op.move (Go.Operand.tmp 7), none⟩,
  ⟨some 35, Go.Op.binOp Go.BinOp.shr 3 (Go.Operand.tmp 33) (Go.Operand.tmp 34) 3, none⟩,
  ⟨some 36, Go.Op.index 9 (Go.Operand.tmp 32) (Go.Operand.tmp 35), none⟩]
  [⟨some 37, Go.Op.call { callee := Go.Callee.value (Go.Operand.func 29), args := #[Go.Operand.tmp 5, Go.Operand.tmp 36], argTypes := #[57, 5] }, none⟩]) (.reg []
  [⟨some 38, Go.Op.move (Go.Operand.tmp 6), none⟩,
  ⟨some 39, Go.Op.move (Go.Operand.tmp 7), none⟩,
  ⟨some 40, Go.Op.binOp Go.BinOp.shl 3 (Go.Operand.const (Go.Value.int Go.IntKind.i64 1)) (Go.Operand.tmp 39) 3, none⟩,
  ⟨some 41, Go.Op.binOp Go.BinOp.sub 3 (Go.Operand.tmp 40) (Go.Operand.const (Go.Value.int Go.IntKind.i64 1)) 3, none⟩,
  ⟨some 42, Go.Op.binOp Go.BinOp.and 3 (Go.Operand.tmp 38) (Go.Operand.tmp 41) 3, none⟩,
  ⟨some 6, Go.Op.assign (Go.Operand.tmp 42), none⟩])))))))))) (.reg []
  [⟨some 43, Go.Op.binOp Go.BinOp.add 3 (Go.Operand.tmp 12) (Go.Operand.const (Go.Value.int Go.IntKind.i64 1)) 3, none⟩,
  ⟨some 12, Go.Op.move (Go.Operand.tmp 43), none⟩]))))))) (.seq (.seq (.reg []
  [⟨some 44, Go.Op.move (Go.Operand.tmp 7), none⟩,
  ⟨some 45, Go.Op.binOp Go.BinOp.gtr 3 (Go.Operand.tmp 44) (Go.Operand.const (Go.Value.int Go.IntKind.i64 0)) 3, none⟩]) (.cond (Go.Operand.tmp 45) (.reg [⟨some 46, Go.Op.fieldAddr 45 (Go.Operand.tmp 2) 0, none⟩,
  ⟨some 47, Go.Op.load 9 (Go.Operand.tmp 46), none⟩,
  ⟨some 48, Go.Op.move (Go.Operand.tmp 6), none⟩,
  ⟨some 49, Go.Op.fieldAddr 45 (Go.Operand.tmp 2) 1, none⟩,
  ⟨some 50, Go.Op.load 3 (Go.Operand.tmp 49), none⟩,
  ⟨some 51, Go.Op.move (Go.Operand.tmp 7), none⟩,
  ⟨some 52, Go.Op.binOp Go.BinOp.sub 3 (Go.Operand.tmp 50) (Go.Operand.tmp 51) 3, none⟩,
  ⟨some 53, Go.Op.binOp Go.BinOp.shl 3 (Go.Operand.tmp 48) (Go.Operand.tmp 52) 3, none⟩,
  ⟨some 54, Go.Op.index 9 (Go.Operand.tmp 47) (Go.Operand.tmp 53), none⟩]
  [⟨some 55, Go.Op.call { callee := Go.Callee.value (Go.Operand.func 29), args := #[Go.Operand.tmp 5, Go.Operand.tmp 54], argTypes := #[57, 5] }, none⟩]) (.skip))) (.seq (.reg []
  [⟨some 56, Go.Op.call { callee := Go.Callee.value (Go.Operand.func 30), args := #[Go.Operand.tmp 5], argTypes := #[57] }, none⟩,
  ⟨some 4, Go.Op.assign (Go.Operand.tmp 56), none⟩]) (.ret))))))
def ms22_0 : List Nat := [0, 1, 3, 6, 7, 8, 9, 12, 13, 14, 15, 16, 17, 18, 19, 20, 21, 22, 23, 24, 25, 26, 27, 28, 29, 30, 31, 32, 33, 34, 35, 36, 37, 38, 39, 40, 41, 42, 43, 55]
def ms22_1 : List Nat := [0, 1, 3, 6, 7, 8, 23, 24, 25, 26, 27, 28, 29, 30, 31, 32, 33, 34, 35, 36, 37, 38, 39, 40, 41, 42, 55]
def mj22_0 : List Nat := [0, 1, 3, 8, 37, 55]
def mj22_1 : List Nat := [0, 1, 3, 8, 37, 55]
def mj22_2 : List Nat := [0, 1, 2, 3, 6, 7, 8, 9, 10, 11, 12, 13, 14, 15, 16, 17, 18, 19, 20, 21, 22, 23, 24, 25, 26, 27, 28, 29, 30, 31, 32, 33, 34, 35, 36, 37, 38, 39, 40, 41, 42, 43, 44, 45, 46, 47, 48, 49, 50, 51, 52, 53, 54, 55]
theorem ls22 : Tryd.f22.body.map (strip Tryd.prog impCodA) = some lc22 := by kernel_rfl
theorem lcall22 {args : List AV} (hargs : args.length ≤ 57) {H0 : AHeap} (lo : Nat) (hlo : H0.length ≤ lo) {r0 : AV} {H0' : AHeap}
    (h : lavc Tryd.prog glob lc22 (args ++ List.replicate (57 - args.length) (.v undef)) H0 fun e t H => (e = .normal ∨ e = .ret) ∧ aret Tryd.prog t H [Go.ResultVar.tmp 4] fun r => Fin lo H r r0 H0') :
    ACall Tryd.prog glob (H0.length == 0) 22 args H0 r0 H0' := LCall' ctx Tryd.func22 (by kernel_rfl) ls22 (by kernel_rfl) (by kernel_rfl) hargs lo hlo h
theorem lcallk22 {args : List AV} (hargs : args.length ≤ 57) {H0 : AHeap} {r0 : AV} {H0' : AHeap}
    (h : lavc Tryd.prog glob lc22 (args ++ List.replicate (57 - args.length) (.v undef)) H0 fun e t H => (e = .normal ∨ e = .ret) ∧ aret Tryd.prog t H [Go.ResultVar.tmp 4] fun r => r = r0 ∧ H = H0') :
    ACall Tryd.prog glob false 22 args H0 r0 H0' := LCallK' ctx Tryd.func22 (by kernel_rfl) ls22 (by kernel_rfl) (by kernel_rfl) hargs h
/-- escutcheon/coin.Same -/
def lc12 : LCode := .seq (.reg []
  [⟨some 4, Go.Op.assign (Go.Operand.const (Go.Value.bool false)), none⟩]) (.seq (.seq (.reg []
  [⟨some 7, Go.Op.move (Go.Operand.tmp 0), none⟩,
  ⟨some 8, Go.Op.call { callee := Go.Callee.builtin Go.Builtin.len, args := #[Go.Operand.tmp 7], argTypes := #[22] }, none⟩,
  ⟨some 9, Go.Op.move (Go.Operand.tmp 1), none⟩,
  ⟨some 10, Go.Op.call { callee := Go.Callee.builtin Go.Builtin.len, args := #[Go.Operand.tmp 9], argTypes := #[22] }, none⟩,
  ⟨some 11, Go.Op.binOp Go.BinOp.neq 3 (Go.Operand.tmp 8) (Go.Operand.tmp 10) 3, none⟩]) (.cond (Go.Operand.tmp 11) (.seq (.reg []
  [⟨some 4, Go.Op.assign (Go.Operand.const (Go.Value.bool false)), none⟩]) (.ret)) (.skip))) (.seq (.reg []
  [⟨some 5, Go.Op.assign (Go.Operand.const (Go.Value.int Go.IntKind.u8 0)), none⟩]) (.seq (.seq (.reg []
  [⟨some 12, Go.Op.move (Go.Operand.tmp 0), none⟩,
  ⟨some 13, Go.Op.call { callee := Go.Callee.builtin Go.Builtin.len, args := #[Go.Operand.tmp 12], argTypes := #[22] }, none⟩,
  ⟨some 14, Go.Op.move (Go.Operand.const (Go.Value.int Go.IntKind.i64 0)), none⟩]) (.block 0 (.loop (.seq (.reg []
  [⟨some 15, Go.Op.binOp Go.BinOp.lss 3 (Go.Operand.tmp 14) (Go.Operand.tmp 13) 3, none⟩]) (.seq (.cond (Go.Operand.tmp 15) (.skip) (.exit 0)) (.seq (.block 1 (.seq (.reg []
  [⟨some 16, Go.Op.move (Go.Operand.tmp 14), none⟩,
  ⟨some 6, Go.Op.assign (Go.Operand.tmp 16), none⟩]) (.reg [⟨some 17, Go.Op.move (Go.Operand.tmp 5), none⟩,
  ⟨some 18, Go.Op.move (Go.Operand.tmp 0), none⟩,
  ⟨some 19, Go.Op.move (Go.Operand.tmp 6), none⟩,
  ⟨some 20, Go.Op.indexAddr 22 (Go.Operand.tmp 18) (Go.Operand.tmp 19), none⟩,
  ⟨some 21, Go.Op.load 5 (Go.Operand.tmp 20), none⟩,
  ⟨some 22, Go.Op.move (Go.Operand.tmp 1), none⟩,
  ⟨some 23, Go.Op.move (Go.Operand.tmp 6), none⟩,
  ⟨some 24, Go.Op.indexAddr 22 (Go.Operand.tmp 22) (Go.Operand.tmp 23), none⟩,
  ⟨some 25, Go.Op.load 5 (Go.Operand.tmp 24), none⟩,
  ⟨some 26, Go.Op.binOp Go.BinOp.xor 5 (Go.Operand.tmp 21) (Go.Operand.tmp 25) 5, none⟩,
  ⟨some 27, Go.Op.binOp Go.BinOp.or 5 (Go.Operand.tmp 17) (Go.Operand.tmp 26) 5, none⟩,
  ⟨some 5, Go.Op.assign (Go.Operand.tmp 27), none⟩]
  []))) (.reg []
  [⟨some 28, Go.Op.binOp Go.BinOp.add 3 (Go.Operand.tmp 14) (Go.Operand.const (Go.Value.int Go.IntKind.i64 1)) 3, none⟩,
  ⟨some 14, Go.Op.move (Go.Operand.tmp 28), none⟩]))))))) (.seq (.reg []
  [⟨some 29, Go.Op.move (Go.Operand.tmp 5), none⟩,
  ⟨some 30, Go.Op.binOp Go.BinOp.eql 5 (Go.Operand.tmp 29) (Go.Operand.const (Go.Value.int Go.IntKind.u8 0)) 5, none⟩,
  ⟨some 4, Go.Op.assign (Go.Operand.tmp 30), none⟩]) (.ret)))))
def ms12_0 : List Nat := [2, 3, 5, 6, 7, 8, 9, 10, 11, 12, 14, 15, 16, 17, 18, 19, 20, 21, 22, 23, 24, 25, 26, 27, 28]
def mj12_0 : List Nat := [2, 3, 4, 7, 8, 9, 10, 11]
def mj12_1 : List Nat := [2, 3, 7, 8, 9, 10, 11, 12]
theorem ls12 : Tryd.f12.body.map (strip Tryd.prog impCodA) = some lc12 := by kernel_rfl
theorem lcall12 {args : List AV} (hargs : args.length ≤ 31) {H0 : AHeap} (lo : Nat) (hlo : H0.length ≤ lo) {r0 : AV} {H0' : AHeap}
    (h : lavc Tryd.prog glob lc12 (args ++ List.replicate (31 - args.length) (.v undef)) H0 fun e t H => (e = .normal ∨ e = .ret) ∧ aret Tryd.prog t H [Go.ResultVar.tmp 4] fun r => Fin lo H r r0 H0') :
    ACall Tryd.prog glob (H0.length == 0) 12 args H0 r0 H0' := LCall' ctx Tryd.func12 (by kernel_rfl) ls12 (by kernel_rfl) (by kernel_rfl) hargs lo hlo h
theorem lcallk12 {args : List AV} (hargs : args.length ≤ 31) {H0 : AHeap} {r0 : AV} {H0' : AHeap}
    (h : lavc Tryd.prog glob lc12 (args ++ List.replicate (31 - args.length) (.v undef)) H0 fun e t H => (e = .normal ∨ e = .ret) ∧ aret Tryd.prog t H [Go.ResultVar.tmp 4] fun r => r = r0 ∧ H = H0') :
    ACall Tryd.prog glob false 12 args H0 r0 H0' := LCallK' ctx Tryd.func12 (by kernel_rfl) ls12 (by kernel_rfl) (by kernel_rfl) hargs h
/-- escutcheon/coin.Pack -/
def lc13 : LCode := .seq (.reg []
  [⟨some 2, Go.Op.assign (Go.Operand.const (Go.Value.slice none 0 0)), none⟩]) (.seq (.reg []
  [⟨some 6, Go.Op.move (Go.Operand.tmp 0), none⟩,
  ⟨some 7, Go.Op.call { callee := Go.Callee.builtin Go.Builtin.len, args := #[Go.Operand.tmp 6], argTypes := #[27] }, none⟩,
  ⟨some 8, Go.Op.call { callee := Go.Callee.value (Go.Operand.func 20), args := #[Go.Operand.tmp 7], argTypes := #[3] }, none⟩,
  ⟨some 3, Go.Op.assign (Go.Operand.tmp 8), none⟩]) (.seq (.seq (.reg []
  [⟨some 9, Go.Op.move (Go.Operand.tmp 0), none⟩,
  ⟨some 10, Go.Op.call { callee := Go.Callee.builtin Go.Builtin.len, args := #[Go.Operand.tmp 9], argTypes := #[27] }, none⟩,
  ⟨some 11, Go.Op.move (Go.Operand.const (Go.Value.int Go.IntKind.i64 0)), none⟩]) (.block 0 (.loop (.seq (.reg []
  [⟨some 12, Go.Op.binOp Go.BinOp.lss 3 (Go.Operand.tmp 11) (Go.Operand.tmp 10) 3, none⟩]) (.seq (.cond (Go.Operand.tmp 12) (.skip) (.exit 0)) (.seq (.block 1 (.seq (.reg []
  [⟨some 13, Go.Op.indexAddr 27 (Go.Operand.tmp 9) (Go.Operand.tmp 11), none⟩,
  ⟨some 14, Go.Op.load 22 (Go.Operand.tmp 13), none⟩,
  ⟨some 5, Go.Op.assign (Go.Operand.tmp 14), none⟩]) (.reg []
  [⟨some 15, Go.Op.move (Go.Operand.tmp 3), none⟩,
  ⟨some 16, Go.Op.move (Go.Operand.tmp 5), none⟩,
  ⟨some 17, Go.Op.call { callee := Go.Callee.builtin Go.Builtin.len, args := #[Go.Operand.tmp 16], argTypes := #[22] }, none⟩,
  ⟨some 18, Go.Op.call { callee := Go.Callee.value (Go.Operand.func 20), args := #[Go.Operand.tmp 17], argTypes := #[3] }, none⟩,
  ⟨some 19, Go.Op.move (Go.Operand.tmp 5), none⟩,
  ⟨some 20, Go.Op.buildSlice 27 3 #[(0, Go.Operand.tmp 15), (1, Go.Operand.tmp 18), (2, Go.Operand.tmp 19)], none⟩,
  ⟨some 21, Go.Op.call { callee := Go.Callee.value (Go.Operand.func 23), args := #[Go.Operand.tmp 20], argTypes := #[27] }, none⟩,
  ⟨some 3, Go.Op.assign (Go.Operand.tmp 21), none⟩]))) (.reg []
  [⟨some 22, Go.Op.binOp Go.BinOp.add 3 (Go.Operand.tmp 11) (Go.Operand.const (Go.Value.int Go.IntKind.i64 1)) 3, none⟩,
  ⟨some 11, Go.Op.move (Go.Operand.tmp 22), none⟩]))))))) (.seq (.reg []
  [⟨some 23, Go.Op.move (Go.Operand.tmp 3), none⟩,
  ⟨some 2, Go.Op.assign (Go.Operand.tmp 23), none⟩]) (.ret))))
def ms13_0 : List Nat := [0, 1, 3, 4, 5, 6, 7, 8, 11, 12, 13, 14, 15, 16, 17, 18, 19, 20, 21, 22]
def mj13_0 : List Nat := [0, 1, 4, 6, 7, 8]
theorem ls13 : Tryd.f13.body.map (strip Tryd.prog impCodA) = some lc13 := by kernel_rfl
theorem lcall13 {args : List AV} (hargs : args.length ≤ 24) {H0 : AHeap} (lo : Nat) (hlo : H0.length ≤ lo) {r0 : AV} {H0' : AHeap}
    (h : lavc Tryd.prog glob lc13 (args ++ List.replicate (24 - args.length) (.v undef)) H0 fun e t H => (e = .normal ∨ e = .ret) ∧ aret Tryd.prog t H [Go.ResultVar.tmp 2] fun r => Fin lo H r r0 H0') :
    ACall Tryd.prog glob (H0.length == 0) 13 args H0 r0 H0' := LCall' ctx Tryd.func13 (by kernel_rfl) ls13 (by kernel_rfl) (by kernel_rfl) hargs lo hlo h
theorem lcallk13 {args : List AV} (hargs : args.length ≤ 24) {H0 : AHeap} {r0 : AV} {H0' : AHeap}
    (h : lavc Tryd.prog glob lc13 (args ++ List.replicate (24 - args.length) (.v undef)) H0 fun e t H => (e = .normal ∨ e = .ret) ∧ aret Tryd.prog t H [Go.ResultVar.tmp 2] fun r => r = r0 ∧ H = H0') :
    ACall Tryd.prog glob false 13 args H0 r0 H0' := LCallK' ctx Tryd.func13 (by kernel_rfl) ls13 (by kernel_rfl) (by kernel_rfl) hargs h
/-- escutcheon/escutcheonlaw01.same -/
def lc14 : LCode := .seq (.reg []
  [⟨some 4, Go.Op.assign (Go.Operand.const (Go.Value.bool false)), none⟩]) (.seq (.seq (.reg []
  [⟨some 6, Go.Op.move (Go.Operand.tmp 0), none⟩,
  ⟨some 7, Go.Op.call { callee := Go.Callee.builtin Go.Builtin.len, args := #[Go.Operand.tmp 6], argTypes := #[27] }, none⟩,
  ⟨some 8, Go.Op.move (Go.Operand.tmp 1), none⟩,
  ⟨some 9, Go.Op.call { callee := Go.Callee.builtin Go.Builtin.len, args := #[Go.Operand.tmp 8], argTypes := #[27] }, none⟩,
  ⟨some 10, Go.Op.binOp Go.BinOp.neq 3 (Go.Operand.tmp 7) (Go.Operand.tmp 9) 3, none⟩]) (.cond (Go.Operand.tmp 10) (.seq (.reg []
  [⟨some 4, Go.Op.assign (Go.Operand.const (Go.Value.bool false)), none⟩]) (.ret)) (.skip))) (.seq (.seq (.reg []
  [⟨some 11, Go.Op.move (Go.Operand.tmp 0), none⟩,
  ⟨some 12, Go.Op.call { callee := Go.Callee.builtin Go.Builtin.len, args := #[Go.Operand.tmp 11], argTypes := #[27] }, none⟩,
  ⟨some 13, Go.Op.move (Go.Operand.const (Go.Value.int Go.IntKind.i64 0)), none⟩]) (.block 0 (.loop (.seq (.reg []
  [⟨some 14, Go.Op.binOp Go.BinOp.lss 3 (Go.Operand.tmp 13) (Go.Operand.tmp 12) 3, none⟩]) (.seq (.cond (Go.Operand.tmp 14) (.skip) (.exit 0)) (.seq (.block 1 (.seq (.reg []
  [⟨some 15, Go.Op.move (Go.Operand.tmp 13), none⟩,
  ⟨some 5, Go.Op.assign (Go.Operand.tmp 15), none⟩]) (.seq (.reg [⟨some 16, Go.Op.move (Go.Operand.tmp 0), none⟩,
  ⟨some 17, Go.Op.move (Go.Operand.tmp 5), none⟩,
  ⟨some 18, Go.Op.indexAddr 27 (Go.Operand.tmp 16) (Go.Operand.tmp 17), none⟩,
  ⟨some 19, Go.Op.load 22 (Go.Operand.tmp 18), none⟩,
  ⟨some 20, Go.Op.convert 22 9 (Go.Operand.tmp 19), none⟩,
  ⟨some 21, Go.Op.move (Go.Operand.tmp 1), none⟩,
  ⟨some 22, Go.Op.move (Go.Operand.tmp 5), none⟩,
  ⟨some 23, Go.Op.indexAddr 27 (Go.Operand.tmp 21) (Go.Operand.tmp 22), none⟩,
  ⟨some 24, Go.Op.load 22 (Go.Operand.tmp 23), none⟩,
  ⟨some 25, Go.Op.convert 22 9 (Go.Operand.tmp 24), none⟩,
  ⟨some 26, Go.Op.binOp Go.BinOp.neq 9 (Go.Operand.tmp 20) (Go.Operand.tmp 25) 9, none⟩]
  []) (.cond (Go.Operand.tmp 26) (.seq (.reg []
  [⟨some 4, Go.Op.assign (Go.Operand.const (Go.Value.bool false)), none⟩]) (.ret)) (.skip))))) (.reg []
  [⟨some 27, Go.Op.binOp Go.BinOp.add 3 (Go.Operand.tmp 13) (Go.Operand.const (Go.Value.int Go.IntKind.i64 1)) 3, none⟩,
  ⟨some 13, Go.Op.move (Go.Operand.tmp 27), none⟩]))))))) (.seq (.reg []
  [⟨some 4, Go.Op.assign (Go.Operand.const (Go.Value.bool true)), none⟩]) (.ret))))
def ms14_0 : List Nat := [2, 3, 4, 5, 6, 7, 8, 9, 10, 11, 13, 14, 15, 16, 17, 18, 19, 20, 21, 22, 23, 24, 25, 26, 27]
def mj14_0 : List Nat := [2, 3, 4, 6, 7, 8, 9, 10]
def mj14_1 : List Nat := [2, 3, 6, 7, 8, 9, 10, 11]
def mj14_2 : List Nat := [2, 3, 4, 6, 7, 8, 9, 10, 11]
theorem ls14 : Tryd.f14.body.map (strip Tryd.prog impCodA) = some lc14 := by kernel_rfl
theorem lcall14 {args : List AV} (hargs : args.length ≤ 28) {H0 : AHeap} (lo : Nat) (hlo : H0.length ≤ lo) {r0 : AV} {H0' : AHeap}
    (h : lavc Tryd.prog glob lc14 (args ++ List.replicate (28 - args.length) (.v undef)) H0 fun e t H => (e = .normal ∨ e = .ret) ∧ aret Tryd.prog t H [Go.ResultVar.tmp 4] fun r => Fin lo H r r0 H0') :
    ACall Tryd.prog glob (H0.length == 0) 14 args H0 r0 H0' := LCall' ctx Tryd.func14 (by kernel_rfl) ls14 (by kernel_rfl) (by kernel_rfl) hargs lo hlo h
theorem lcallk14 {args : List AV} (hargs : args.length ≤ 28) {H0 : AHeap} {r0 : AV} {H0' : AHeap}
    (h : lavc Tryd.prog glob lc14 (args ++ List.replicate (28 - args.length) (.v undef)) H0 fun e t H => (e = .normal ∨ e = .ret) ∧ aret Tryd.prog t H [Go.ResultVar.tmp 4] fun r => r = r0 ∧ H = H0') :
    ACall Tryd.prog glob false 14 args H0 r0 H0' := LCallK' ctx Tryd.func14 (by kernel_rfl) ls14 (by kernel_rfl) (by kernel_rfl) hargs h
/-- escutcheon/coin.Unpack -/
def lc15 : LCode := .seq (.reg []
  [⟨some 2, Go.Op.assign (Go.Operand.const (Go.Value.slice none 0 0)), none⟩,
  ⟨some 3, Go.Op.assign (Go.Operand.const (Go.Value.int Go.IntKind.i64 0)), none⟩]) (.seq (.reg []
  [⟨some 7, Go.Op.move (Go.Operand.tmp 0), none⟩,
  ⟨some 8, Go.Op.build 48 #[(0, Go.Operand.tmp 7)], none⟩,
  ⟨some 9, Go.Op.box 48 (Go.Operand.tmp 8), none⟩,
  ⟨some 4, Go.Op.assign (Go.Operand.tmp 9), none⟩]) (.seq (.reg []
  [⟨some 5, Go.Op.assign (Go.Operand.const (Go.Value.slice none 0 0)), none⟩]) (.seq (.seq (.reg []
  [⟨some 10, Go.Op.move (Go.Operand.tmp 4), none⟩,
  ⟨some 11, Go.Op.call { callee := Go.Callee.value (Go.Operand.func 24), args := #[Go.Operand.tmp 10], argTypes := #[46] }, none⟩,
  ⟨some 6, Go.Op.assign (Go.Operand.tmp 11), none⟩]) (.block 0 (.loop (.seq (.seq (.reg []
  [⟨some 12, Go.Op.move (Go.Operand.tmp 6), none⟩,
  ⟨some 13, Go.Op.binOp Go.BinOp.gtr 3 (Go.Operand.tmp 12) (Go.Operand.const (Go.Value.int Go.IntKind.i64 0)) 3, none⟩,
  ⟨some 14, Go.Op.move (Go.Operand.tmp 13), none⟩,
  ⟨some 15, Go.Op.move (Go.Operand.tmp 4), (some (14, true))⟩,
  ⟨some 16, Go.Op.nilCheck (Go.Operand.tmp 15), (some (14, true))⟩,
  ⟨some 17, Go.Op.fieldAddr 48 (Go.Operand.tmp 16) 1, (some (14, true))⟩,
  ⟨some 18, Go.Op.load 4 (Go.Operand.tmp 17), (some (14, true))⟩,
  ⟨some 19, Go.Op.unOp Go.UnOp.not 4 (Go.Operand.tmp 18), (some (14, true))⟩,
  ⟨some 20, Go.Op.pick (Go.Operand.tmp 14) (Go.Operand.tmp 19) (Go.Operand.const (Go.Value.bool false)), none⟩]) (.cond (Go.Operand.tmp 20) (.skip) (.exit 0))) (.seq (.block 1 (.reg []
  [⟨some 23, Go.Op.move (Go.Operand.tmp 5), none⟩,
  ⟨some 24, Go.Op.move (Go.Operand.tmp 4), none⟩,
  ⟨some 25, Go.Op.move (Go.Operand.tmp 4), none⟩,
  ⟨some 26, Go.Op.call { callee := Go.Callee.value (Go.Operand.func 24), args := #[Go.Operand.tmp 25], argTypes := #[46] }, none⟩,
  ⟨some 27, Go.Op.call { callee := Go.Callee.value (Go.Operand.func 25), args := #[Go.Operand.tmp 24, Go.Operand.tmp 26], argTypes := #[46, 3] }, none⟩,
  ⟨some 28, Go.Op.buildSlice 27 1 #[(0, Go.Operand.tmp 27)], none⟩,
  ⟨some 29, Go.Op.call { callee := Go.Callee.builtin Go.Builtin.append, args := #[Go.Operand.tmp 23, Go.Operand.tmp 28], argTypes := #[27, 27] }, none⟩,
  ⟨some 5, Go.Op.assign (Go.Operand.tmp 29), none⟩])) (.reg []
  [⟨some 21, Go.Op.move (Go.Operand.tmp 6), none⟩,
  ⟨some 22, Go.Op.binOp Go.BinOp.sub 3 (Go.Operand.tmp 21) (Go.Operand.const (Go.Value.int Go.IntKind.i64 1)) 3, none⟩,
  ⟨some 6, Go.Op.assign (Go.Operand.tmp 22), none⟩])))))) (.seq (.block 2 (.seq (.reg []
  [⟨some 31, Go.Op.move (Go.Operand.tmp 4), none⟩,
  ⟨some 32, Go.Op.nilCheck (Go.Operand.tmp 31), none⟩,
  ⟨some 33, Go.Op.fieldAddr 48 (Go.Operand.tmp 32) 1, none⟩,
  ⟨some 34, Go.Op.load 4 (Go.Operand.tmp 33), none⟩,
  ⟨some 30, Go.Op.assign (Go.Operand.tmp 34), none⟩]) (.cond (Go.Operand.tmp 30) (.seq (.reg []
  [⟨some 2, Go.Op.assign (Go.Operand.const (Go.Value.slice none 0 0)), none⟩,
  ⟨some 3, Go.Op.assign (Go.Operand.const (Go.Value.int Go.IntKind.i64 3)), none⟩]) (.ret)) (.seq (.reg []
  [⟨some 36, Go.Op.move (Go.Operand.tmp 4), none⟩,
  ⟨some 37, Go.Op.nilCheck (Go.Operand.tmp 36), none⟩,
  ⟨some 38, Go.Op.fieldAddr 48 (Go.Operand.tmp 37) 0, none⟩,
  ⟨some 39, Go.Op.load 22 (Go.Operand.tmp 38), none⟩,
  ⟨some 40, Go.Op.call { callee := Go.Callee.builtin Go.Builtin.len, args := #[Go.Operand.tmp 39], argTypes := #[22] }, none⟩,
  ⟨some 41, Go.Op.binOp Go.BinOp.gtr 3 (Go.Operand.tmp 40) (Go.Operand.const (Go.Value.int Go.IntKind.i64 0)) 3, none⟩,
  ⟨some 35, Go.Op.assign (Go.Operand.tmp 41), none⟩]) (.cond (Go.Operand.tmp 35) (.seq (.reg []
  [⟨some 2, Go.Op.assign (Go.Operand.const (Go.Value.slice none 0 0)), none⟩,
  ⟨some 3, Go.Op.assign (Go.Operand.const (Go.Value.int Go.IntKind.i64 2)), none⟩]) (.ret)) (.skip)))))) (.seq (.reg []
  [⟨some 42, Go.Op.move (Go.Operand.tmp 5), none⟩,
  ⟨some 2, Go.Op.assign (Go.Operand.tmp 42), none⟩,
  ⟨some 3, Go.Op.assign (Go.Operand.const (Go.Value.int Go.IntKind.i64 0)), none⟩]) (.ret))))))
def ms15_0 : List Nat := [0, 1, 5, 6, 7, 8, 9, 10, 11, 12, 13, 14, 15, 16, 17, 18, 19, 20, 21, 22, 23, 24, 25, 26, 27, 28, 29]
def mj15_0 : List Nat := [0, 1, 7, 8, 9, 10, 11]
def mj15_1 : List Nat := [0, 1, 2, 3, 4, 6, 7, 8, 9, 10, 11, 12, 13, 14, 15, 16, 17, 18, 19, 20, 21, 22, 23, 24, 25, 26, 27, 28, 29, 30, 31, 32, 33, 34, 35, 36, 37, 38, 39, 40, 41]
def mj15_2 : List Nat := [0, 1, 2, 3, 4, 6, 7, 8, 9, 10, 11, 12, 13, 14, 15, 16, 17, 18, 19, 20, 21, 22, 23, 24, 25, 26, 27, 28, 29, 30, 31, 32, 33, 34, 35, 36, 37, 38, 39, 40, 41]
theorem ls15 : Tryd.f15.body.map (strip Tryd.prog impCodA) = some lc15 := by kernel_rfl
theorem lcall15 {args : List AV} (hargs : args.length ≤ 43) {H0 : AHeap} (lo : Nat) (hlo : H0.length ≤ lo) {r0 : AV} {H0' : AHeap}
    (h : lavc Tryd.prog glob lc15 (args ++ List.replicate (43 - args.length) (.v undef)) H0 fun e t H => (e = .normal ∨ e = .ret) ∧ aret Tryd.prog t H [Go.ResultVar.tmp 2, Go.ResultVar.tmp 3] fun r => Fin lo H r r0 H0') :
    ACall Tryd.prog glob (H0.length == 0) 15 args H0 r0 H0' := LCall' ctx Tryd.func15 (by kernel_rfl) ls15 (by kernel_rfl) (by kernel_rfl) hargs lo hlo h
theorem lcallk15 {args : List AV} (hargs : args.length ≤ 43) {H0 : AHeap} {r0 : AV} {H0' : AHeap}
    (h : lavc Tryd.prog glob lc15 (args ++ List.replicate (43 - args.length) (.v undef)) H0 fun e t H => (e = .normal ∨ e = .ret) ∧ aret Tryd.prog t H [Go.ResultVar.tmp 2, Go.ResultVar.tmp 3] fun r => r = r0 ∧ H = H0') :
    ACall Tryd.prog glob false 15 args H0 r0 H0' := LCallK' ctx Tryd.func15 (by kernel_rfl) ls15 (by kernel_rfl) (by kernel_rfl) hargs h
/-- escutcheon/escutcheonref01.Unpack -/
def lc17 : LCode := .seq (.reg []
  [⟨some 2, Go.Op.assign (Go.Operand.const (Go.Value.slice none 0 0)), none⟩,
  ⟨some 3, Go.Op.assign (Go.Operand.const (Go.Value.int Go.IntKind.i64 0)), none⟩]) (.seq (.reg []
  [⟨some 11, Go.Op.move (Go.Operand.tmp 0), none⟩,
  ⟨some 12, Go.Op.call { callee := Go.Callee.value (Go.Operand.func 26), args := #[Go.Operand.tmp 11], argTypes := #[22] }, none⟩,
  ⟨some 10, Go.Op.move (Go.Operand.tmp 12), none⟩,
  ⟨some 13, Go.Op.extract (Go.Operand.tmp 10) 0, none⟩,
  ⟨some 14, Go.Op.extract (Go.Operand.tmp 10) 1, none⟩,
  ⟨some 4, Go.Op.assign (Go.Operand.tmp 13), none⟩,
  ⟨some 5, Go.Op.assign (Go.Operand.tmp 14), none⟩]) (.seq (.seq (.reg []
  [⟨some 15, Go.Op.move (Go.Operand.tmp 5), none⟩,
  ⟨some 16, Go.Op.unOp Go.UnOp.not 4 (Go.Operand.tmp 15), none⟩]) (.cond (Go.Operand.tmp 16) (.seq (.reg []
  [⟨some 2, Go.Op.assign (Go.Operand.const (Go.Value.slice none 0 0)), none⟩,
  ⟨some 3, Go.Op.assign (Go.Operand.const (Go.Value.int Go.IntKind.i64 3)), none⟩]) (.ret)) (.skip))) (.seq (.reg []
  [⟨some 17, Go.Op.move (Go.Operand.tmp 0), none⟩,
  ⟨some 18, Go.Op.slice 22 (Go.Operand.tmp 17) (some (Go.Operand.const (Go.Value.int Go.IntKind.i64 8))) none none, none⟩,
  ⟨some 0, Go.Op.assign (Go.Operand.tmp 18), none⟩]) (.seq (.reg []
  [⟨some 6, Go.Op.assign (Go.Operand.const (Go.Value.slice none 0 0)), none⟩]) (.seq (.seq (.reg []
  [⟨some 7, Go.Op.assign (Go.Operand.const (Go.Value.int Go.IntKind.i64 0)), none⟩]) (.block 0 (.loop (.seq (.seq (.reg []
  [⟨some 19, Go.Op.move (Go.Operand.tmp 7), none⟩,
  ⟨some 20, Go.Op.move (Go.Operand.tmp 4), none⟩,
  ⟨some 21, Go.Op.binOp Go.BinOp.lss 3 (Go.Operand.tmp 19) (Go.Operand.tmp 20) 3, none⟩]) (.cond (Go.Operand.tmp 21) (.skip) (.exit 0))) (.seq (.block 1 (.seq (.reg []
  [⟨some 25, Go.Op.move (Go.Operand.tmp 0), none⟩,
  ⟨some 26, Go.Op.call { callee := Go.Callee.value (Go.Operand.func 26), args := #[Go.Operand.tmp 25], argTypes := #[22] }, none⟩,
  ⟨some 24, Go.Op.move (Go.Operand.tmp 26), none⟩,
  ⟨some 27, Go.Op.extract (Go.Operand.tmp 24) 0, none⟩,
  ⟨some 28, Go.Op.extract (Go.Operand.tmp 24) 1, none⟩,
  ⟨some 8, Go.Op.assign (Go.Operand.tmp 27), none⟩,
  ⟨some 9, Go.Op.assign (Go.Operand.tmp 28), none⟩]) (.seq (.seq (.reg []
  [⟨some 29, Go.Op.move (Go.Operand.tmp 9), none⟩,
  ⟨some 30, Go.Op.unOp Go.UnOp.not 4 (Go.Operand.tmp 29), none⟩,
  ⟨some 31, Go.Op.move (Go.Operand.tmp 30), none⟩,
  ⟨some 32, Go.Op.move (Go.Operand.tmp 8), (some (31, false))⟩,
  ⟨some 33, Go.Op.move (Go.Operand.tmp 0), (some (31, false))⟩,
  ⟨some 34, Go.Op.call { callee := Go.Callee.builtin Go.Builtin.len, args := #[Go.Operand.tmp 33], argTypes := #[22] }, (some (31, false))⟩,
  ⟨some 35, Go.Op.binOp Go.BinOp.sub 3 (Go.Operand.tmp 34) (Go.Operand.const (Go.Value.int Go.IntKind.i64 8)) 3, (some (31, false))⟩,
  ⟨some 36, Go.Op.binOp Go.BinOp.gtr 3 (Go.Operand.tmp 32) (Go.Operand.tmp 35) 3, (some (31, false))⟩,
  ⟨some 37, Go.Op.pick (Go.Operand.tmp 31) (Go.Operand.const (Go.Value.bool true)) (Go.Operand.tmp 36), none⟩]) (.cond (Go.Operand.tmp 37) (.seq (.reg []
  [⟨some 2, Go.Op.assign (Go.Operand.const (Go.Value.slice none 0 0)), none⟩,
  ⟨some 3, Go.Op.assign (Go.Operand.const (Go.Value.int Go.IntKind.i64 3)), none⟩]) (.ret)) (.skip))) (.seq (.reg []
  [⟨some 38, Go.Op.move (Go.Operand.tmp 6), none⟩,
  ⟨some 39, Go.Op.buildSlice 22 0 #[], none⟩,
  ⟨some 40, Go.Op.move (Go.Operand.tmp 0), none⟩,
  ⟨some 41, Go.Op.move (Go.Operand.tmp 8), none⟩,
  ⟨some 42, Go.Op.binOp Go.BinOp.add 3 (Go.Operand.const (Go.Value.int Go.IntKind.i64 8)) (Go.Operand.tmp 41) 3, none⟩,
  ⟨some 43, Go.Op.slice 22 (Go.Operand.tmp 40) (some (Go.Operand.const (Go.Value.int Go.IntKind.i64 8))) (some (Go.Operand.tmp 42)) none, none⟩,
  ⟨some 44, Go.Op.call { callee := Go.Callee.builtin Go.Builtin.append, args := #[Go.Operand.tmp 39, Go.Operand.tmp 43], argTypes := #[22, 22] }, none⟩,
  ⟨some 45, Go.Op.buildSlice 27 1 #[(0, Go.Operand.tmp 44)], none⟩,
  ⟨some 46, Go.Op.call { callee := Go.Callee.builtin Go.Builtin.append, args := #[Go.Operand.tmp 38, Go.Operand.tmp 45], argTypes := #[27, 27] }, none⟩,
  ⟨some 6, Go.Op.assign (Go.Operand.tmp 46), none⟩]) (.reg []
  [⟨some 47, Go.Op.move (Go.Operand.tmp 0), none⟩,
  ⟨some 48, Go.Op.move (Go.Operand.tmp 8), none⟩,
  ⟨some 49, Go.Op.binOp Go.BinOp.add 3 (Go.Operand.const (Go.Value.int Go.IntKind.i64 8)) (Go.Operand.tmp 48) 3, none⟩,
  ⟨some 50, Go.Op.slice 22 (Go.Operand.tmp 47) (some (Go.Operand.tmp 49)) none none, none⟩,
  ⟨some 0, Go.Op.assign (Go.Operand.tmp 50), none⟩]))))) (.reg []
  [⟨some 22, Go.Op.move (Go.Operand.tmp 7), none⟩,
  ⟨some 23, Go.Op.binOp Go.BinOp.add 3 (Go.Operand.tmp 22) (Go.Operand.const (Go.Value.int Go.IntKind.i64 1)) 3, none⟩,
  ⟨some 7, Go.Op.assign (Go.Operand.tmp 23), none⟩])))))) (.seq (.seq (.reg []
  [⟨some 51, Go.Op.move (Go.Operand.tmp 0), none⟩,
  ⟨some 52, Go.Op.call { callee := Go.Callee.builtin Go.Builtin.len, args := #[Go.Operand.tmp 51], argTypes := #[22] }, none⟩,
  ⟨some 53, Go.Op.binOp Go.BinOp.gtr 3 (Go.Operand.tmp 52) (Go.Operand.const (Go.Value.int Go.IntKind.i64 0)) 3, none⟩]) (.cond (Go.Operand.tmp 53) (.seq (.reg []
  [⟨some 2, Go.Op.assign (Go.Operand.const (Go.Value.slice none 0 0)), none⟩,
  ⟨some 3, Go.Op.assign (Go.Operand.const (Go.Value.int Go.IntKind.i64 2)), none⟩]) (.ret)) (.skip))) (.seq (.reg []
  [⟨some 54, Go.Op.move (Go.Operand.tmp 6), none⟩,
  ⟨some 2, Go.Op.assign (Go.Operand.tmp 54), none⟩,
  ⟨some 3, Go.Op.assign (Go.Operand.const (Go.Value.int Go.IntKind.i64 0)), none⟩]) (.ret))))))))
def ms17_0 : List Nat := [0, 1, 2, 3, 5, 6, 7, 8, 9, 10, 11, 12, 13, 14, 15, 16, 17, 18, 19, 20, 21, 22, 23, 24, 25, 26, 27, 28, 29, 30, 31, 32, 33, 34, 35, 36, 37, 38, 39, 40, 41, 42, 43, 44, 45, 46, 47, 48, 49, 50]
def mj17_0 : List Nat := [1, 2, 3, 5, 10, 11, 12, 13, 14, 15, 16]
def mj17_1 : List Nat := [1, 5, 10, 11, 12, 13, 14, 15, 16, 17, 18]
def mj17_2 : List Nat := [1, 2, 3, 5, 10, 11, 12, 13, 14, 15, 16, 17, 18]
def mj17_3 : List Nat := [0, 1, 2, 3, 4, 5, 7, 8, 9, 10, 11, 12, 13, 14, 15, 16, 17, 18, 19, 20, 21, 22, 23, 24, 25, 26, 27, 28, 29, 30, 31, 32, 33, 34, 35, 36, 37, 38, 39, 40, 41, 42, 43, 44, 45, 46, 47, 48, 49, 50, 51, 52, 53]
theorem ls17 : Tryd.f17.body.map (strip Tryd.prog impCodA) = some lc17 := by kernel_rfl
theorem lcall17 {args : List AV} (hargs : args.length ≤ 55) {H0 : AHeap} (lo : Nat) (hlo : H0.length ≤ lo) {r0 : AV} {H0' : AHeap}
    (h : lavc Tryd.prog glob lc17 (args ++ List.replicate (55 - args.length) (.v undef)) H0 fun e t H => (e = .normal ∨ e = .ret) ∧ aret Tryd.prog t H [Go.ResultVar.tmp 2, Go.ResultVar.tmp 3] fun r => Fin lo H r r0 H0') :
    ACall Tryd.prog glob (H0.length == 0) 17 args H0 r0 H0' := LCall' ctx Tryd.func17 (by kernel_rfl) ls17 (by kernel_rfl) (by kernel_rfl) hargs lo hlo h
theorem lcallk17 {args : List AV} (hargs : args.length ≤ 55) {H0 : AHeap} {r0 : AV} {H0' : AHeap}
    (h : lavc Tryd.prog glob lc17 (args ++ List.replicate (55 - args.length) (.v undef)) H0 fun e t H => (e = .normal ∨ e = .ret) ∧ aret Tryd.prog t H [Go.ResultVar.tmp 2, Go.ResultVar.tmp 3] fun r => r = r0 ∧ H = H0') :
    ACall Tryd.prog glob false 17 args H0 r0 H0' := LCallK' ctx Tryd.func17 (by kernel_rfl) ls17 (by kernel_rfl) (by kernel_rfl) hargs h
/-- escutcheon/coin.Split -/
def lc18 : LCode := .seq (.reg []
  [⟨some 4, Go.Op.assign (Go.Operand.const (Go.Value.slice none 0 0)), none⟩]) (.seq (.seq (.reg []
  [⟨some 5, Go.Op.move (Go.Operand.tmp 0), none⟩,
  ⟨some 6, Go.Op.call { callee := Go.Callee.value (Go.Operand.func 27), args := #[Go.Operand.tmp 5, Go.Operand.const (Go.Value.string { data := #[46] })], argTypes := #[9, 9] }, none⟩,
  ⟨some 7, Go.Op.binOp Go.BinOp.add 3 (Go.Operand.tmp 6) (Go.Operand.const (Go.Value.int Go.IntKind.i64 1)) 3, none⟩,
  ⟨some 8, Go.Op.move (Go.Operand.tmp 1), none⟩,
  ⟨some 9, Go.Op.binOp Go.BinOp.gtr 3 (Go.Operand.tmp 7) (Go.Operand.tmp 8) 3, none⟩]) (.cond (Go.Operand.tmp 9) (.seq (.reg []
  [⟨some 4, Go.Op.assign (Go.Operand.const (Go.Value.slice none 0 0)), none⟩]) (.ret)) (.skip))) (.seq (.reg []
  [⟨some 10, Go.Op.move (Go.Operand.tmp 0), none⟩,
  ⟨some 11, Go.Op.call { callee := Go.Callee.value (Go.Operand.func 28), args := #[Go.Operand.tmp 10, Go.Operand.const (Go.Value.string { data := #[46] })], argTypes := #[9, 9] }, none⟩,
  ⟨some 4, Go.Op.assign (Go.Operand.tmp 11), none⟩]) (.ret)))
def mj18_0 : List Nat := [1, 2, 3, 4, 5, 6, 7, 8, 9]
theorem ls18 : Tryd.f18.body.map (strip Tryd.prog impCodA) = some lc18 := by kernel_rfl
theorem lcall18 {args : List AV} (hargs : args.length ≤ 12) {H0 : AHeap} (lo : Nat) (hlo : H0.length ≤ lo) {r0 : AV} {H0' : AHeap}
    (h : lavc Tryd.prog glob lc18 (args ++ List.replicate (12 - args.length) (.v undef)) H0 fun e t H => (e = .normal ∨ e = .ret) ∧ aret Tryd.prog t H [Go.ResultVar.tmp 4] fun r => Fin lo H r r0 H0') :
    ACall Tryd.prog glob (H0.length == 0) 18 args H0 r0 H0' := LCall' ctx Tryd.func18 (by kernel_rfl) ls18 (by kernel_rfl) (by kernel_rfl) hargs lo hlo h
theorem lcallk18 {args : List AV} (hargs : args.length ≤ 12) {H0 : AHeap} {r0 : AV} {H0' : AHeap}
    (h : lavc Tryd.prog glob lc18 (args ++ List.replicate (12 - args.length) (.v undef)) H0 fun e t H => (e = .normal ∨ e = .ret) ∧ aret Tryd.prog t H [Go.ResultVar.tmp 4] fun r => r = r0 ∧ H = H0') :
    ACall Tryd.prog glob false 18 args H0 r0 H0' := LCallK' ctx Tryd.func18 (by kernel_rfl) ls18 (by kernel_rfl) (by kernel_rfl) hargs h
/-- escutcheon/escutcheonref01.Split -/
def lc19 : LCode := .seq (.reg []
  [⟨some 4, Go.Op.assign (Go.Operand.const (Go.Value.slice none 0 0)), none⟩]) (.seq (.reg []
  [⟨some 5, Go.Op.assign (Go.Operand.const (Go.Value.slice none 0 0)), none⟩]) (.seq (.reg []
  [⟨some 6, Go.Op.assign (Go.Operand.const (Go.Value.int Go.IntKind.i64 0)), none⟩]) (.seq (.seq (.reg []
  [⟨some 7, Go.Op.assign (Go.Operand.const (Go.Value.int Go.IntKind.i64 0)), none⟩]) (.block 0 (.loop (.seq (.seq (.reg []
  [⟨some 8, Go.Op.move (Go.Operand.tmp 7), none⟩,
  ⟨some 9, Go.Op.move (Go.Operand.tmp 0), none⟩,
  ⟨some 10, Go.Op.call { callee := Go.Callee.builtin Go.Builtin.len, args := #[Go.Operand.tmp 9], argTypes := #[9] }, none⟩,
  ⟨some 11, Go.Op.binOp Go.BinOp.leq 3 (Go.Operand.tmp 8) (Go.Operand.tmp 10) 3, none⟩]) (.cond (Go.Operand.tmp 11) (.skip) (.exit 0))) (.seq (.block 1 (.seq (.reg []
  [⟨some 14, Go.Op.move (Go.Operand.tmp 7), none⟩,
  ⟨some 15, Go.Op.move (Go.Operand.tmp 0), none⟩,
  ⟨some 16, Go.Op.call { callee := Go.Callee.builtin Go.Builtin.len, args := #[Go.Operand.tmp 15], argTypes := #[9] }, none⟩,
  ⟨some 17, Go.Op.binOp Go.BinOp.eql 3 (Go.Operand.tmp 14) (Go.Operand.tmp 16) 3, none⟩,
  ⟨some 18, Go.Op.move (Go.Operand.tmp 17), none⟩,
  ⟨some 19, Go.Op.move (Go.Operand.tmp 0), (some (18, false))⟩,
  ⟨some 20, Go.Op.move (Go.Operand.tmp 7), (some (18, false))⟩,
  ⟨some 21, Go.Op.index 9 (Go.Operand.tmp 19) (Go.Operand.tmp 20), (some (18, false))⟩,
  ⟨some 22, Go.Op.binOp Go.BinOp.eql 5 (Go.Operand.tmp 21) (Go.Operand.const (Go.Value.int Go.IntKind.u8 46)) 5, (some (18, false))⟩,
  ⟨some 23, Go.Op.pick (Go.Operand.tmp 18) (Go.Operand.const (Go.Value.bool true)) (Go.Operand.tmp 22), none⟩]) (.cond (Go.Operand.tmp 23) (.seq (.reg []
  [⟨some 24, Go.Op.move (Go.Operand.tmp 5), none⟩,
  ⟨some 25, Go.Op.move (Go.Operand.tmp 0), none⟩,
  ⟨some 26, Go.Op.move (Go.Operand.tmp 6), none⟩,
  ⟨some 27, Go.Op.move (Go.Operand.tmp 7), none⟩,
  ⟨some 28, Go.Op.slice 9 (Go.Operand.tmp 25) (some (Go.Operand.tmp 26)) (some (Go.Operand.tmp 27)) none, none⟩,
  ⟨some 29, Go.Op.buildSlice 40 1 #[(0, Go.Operand.tmp 28)], none⟩,
  ⟨some 30, Go.Op.call { callee := Go.Callee.builtin Go.Builtin.append, args := #[Go.Operand.tmp 24, Go.Operand.tmp 29], argTypes := #[40, 40] }, none⟩,
  ⟨some 5, Go.Op.assign (Go.Operand.tmp 30), none⟩]) (.reg []
  [⟨some 31, Go.Op.move (Go.Operand.tmp 7), none⟩,
  ⟨some 32, Go.Op.binOp Go.BinOp.add 3 (Go.Operand.tmp 31) (Go.Operand.const (Go.Value.int Go.IntKind.i64 1)) 3, none⟩,
  ⟨some 6, Go.Op.assign (Go.Operand.tmp 32), none⟩])) (.skip)))) (.reg []
  [⟨some 12, Go.Op.move (Go.Operand.tmp 7), none⟩,
  ⟨some 13, Go.Op.binOp Go.BinOp.add 3 (Go.Operand.tmp 12) (Go.Operand.const (Go.Value.int Go.IntKind.i64 1)) 3, none⟩,
  ⟨some 7, Go.Op.assign (Go.Operand.tmp 13), none⟩])))))) (.seq (.seq (.reg []
  [⟨some 33, Go.Op.move (Go.Operand.tmp 5), none⟩,
  ⟨some 34, Go.Op.call { callee := Go.Callee.builtin Go.Builtin.len, args := #[Go.Operand.tmp 33], argTypes := #[40] }, none⟩,
  ⟨some 35, Go.Op.move (Go.Operand.tmp 1), none⟩,
  ⟨some 36, Go.Op.binOp Go.BinOp.gtr 3 (Go.Operand.tmp 34) (Go.Operand.tmp 35) 3, none⟩]) (.cond (Go.Operand.tmp 36) (.seq (.reg []
  [⟨some 4, Go.Op.assign (Go.Operand.const (Go.Value.slice none 0 0)), none⟩]) (.ret)) (.skip))) (.seq (.reg []
  [⟨some 37, Go.Op.move (Go.Operand.tmp 5), none⟩,
  ⟨some 4, Go.Op.assign (Go.Operand.tmp 37), none⟩]) (.ret))))))
def ms19_0 : List Nat := [2, 3, 5, 6, 7, 8, 9, 10, 11, 12, 13, 14, 15, 16, 17, 18, 19, 20, 21, 22, 23, 24, 25, 26, 27, 28, 29, 30, 31, 32]
def mj19_0 : List Nat := [2, 3]
def mj19_1 : List Nat := [2, 3, 5, 6, 24, 25, 26, 27, 28, 29, 30, 31, 32]
def mj19_2 : List Nat := [0, 1, 2, 3, 4, 6, 7, 8, 9, 10, 11, 12, 13, 14, 15, 16, 17, 18, 19, 20, 21, 22, 23, 24, 25, 26, 27, 28, 29, 30, 31, 32, 33, 34, 35, 36]
theorem ls19 : Tryd.f19.body.map (strip Tryd.prog impCodA) = some lc19 := by kernel_rfl
theorem lcall19 {args : List AV} (hargs : args.length ≤ 38) {H0 : AHeap} (lo : Nat) (hlo : H0.length ≤ lo) {r0 : AV} {H0' : AHeap}
    (h : lavc Tryd.prog glob lc19 (args ++ List.replicate (38 - args.length) (.v undef)) H0 fun e t H => (e = .normal ∨ e = .ret) ∧ aret Tryd.prog t H [Go.ResultVar.tmp 4] fun r => Fin lo H r r0 H0') :
    ACall Tryd.prog glob (H0.length == 0) 19 args H0 r0 H0' := LCall' ctx Tryd.func19 (by kernel_rfl) ls19 (by kernel_rfl) (by kernel_rfl) hargs lo hlo h
theorem lcallk19 {args : List AV} (hargs : args.length ≤ 38) {H0 : AHeap} {r0 : AV} {H0' : AHeap}
    (h : lavc Tryd.prog glob lc19 (args ++ List.replicate (38 - args.length) (.v undef)) H0 fun e t H => (e = .normal ∨ e = .ret) ∧ aret Tryd.prog t H [Go.ResultVar.tmp 4] fun r => r = r0 ∧ H = H0') :
    ACall Tryd.prog glob false 19 args H0 r0 H0' := LCallK' ctx Tryd.func19 (by kernel_rfl) ls19 (by kernel_rfl) (by kernel_rfl) hargs h
/-- escutcheon/coin.Eight -/
def lc20 : LCode := .seq (.reg []
  [⟨some 2, Go.Op.assign (Go.Operand.const (Go.Value.slice none 0 0)), none⟩]) (.seq (.reg []
  [⟨some 3, Go.Op.assign (Go.Operand.const (Go.Value.slice none 0 0)), none⟩]) (.seq (.seq (.reg []
  [⟨some 4, Go.Op.move (Go.Operand.const (Go.Value.int Go.IntKind.i64 0)), none⟩]) (.block 0 (.loop (.seq (.reg []
  [⟨some 5, Go.Op.binOp Go.BinOp.lss 3 (Go.Operand.tmp 4) (Go.Operand.const (Go.Value.int Go.IntKind.i64 8)) 3, none⟩]) (.seq (.cond (Go.Operand.tmp 5) (.skip) (.exit 0)) (.seq (.block 1 (.seq (.reg []
  [⟨some 6, Go.Op.move (Go.Operand.tmp 3), none⟩,
  ⟨some 7, Go.Op.move (Go.Operand.tmp 0), none⟩,
  ⟨some 8, Go.Op.convert 3 5 (Go.Operand.tmp 7), none⟩,
  ⟨some 9, Go.Op.buildSlice 22 1 #[(0, Go.Operand.tmp 8)], none⟩,
  ⟨some 10, Go.Op.call { callee := Go.Callee.builtin Go.Builtin.append, args := #[Go.Operand.tmp 6, Go.Operand.tmp 9], argTypes := #[22, 22] }, none⟩,
  ⟨some 3, Go.Op.assign (Go.Operand.tmp 10), none⟩]) (.reg []
  [⟨some 11, Go.Op.move (Go.Operand.tmp 0), none⟩,
  ⟨some 12, Go.Op.binOp Go.BinOp.shr 3 (Go.Operand.tmp 11) (Go.Operand.const (Go.Value.int Go.IntKind.u64 8)) 54, none⟩,
  ⟨some 0, Go.Op.assign (Go.Operand.tmp 12), none⟩]))) (.reg []
  [⟨some 13, Go.Op.binOp Go.BinOp.add 3 (Go.Operand.tmp 4) (Go.Operand.const (Go.Value.int Go.IntKind.i64 1)) 3, none⟩,
  ⟨some 4, Go.Op.move (Go.Operand.tmp 13), none⟩]))))))) (.seq (.reg []
  [⟨some 14, Go.Op.move (Go.Operand.tmp 3), none⟩,
  ⟨some 2, Go.Op.assign (Go.Operand.tmp 14), none⟩]) (.ret))))
def ms20_0 : List Nat := [0, 1, 3, 4, 5, 6, 7, 8, 9, 10, 11, 12, 13]
def mj20_0 : List Nat := [1]
theorem ls20 : Tryd.f20.body.map (strip Tryd.prog impCodA) = some lc20 := by kernel_rfl
theorem lcall20 {args : List AV} (hargs : args.length ≤ 15) {H0 : AHeap} (lo : Nat) (hlo : H0.length ≤ lo) {r0 : AV} {H0' : AHeap}
    (h : lavc Tryd.prog glob lc20 (args ++ List.replicate (15 - args.length) (.v undef)) H0 fun e t H => (e = .normal ∨ e = .ret) ∧ aret Tryd.prog t H [Go.ResultVar.tmp 2] fun r => Fin lo H r r0 H0') :
    ACall Tryd.prog glob (H0.length == 0) 20 args H0 r0 H0' := LCall' ctx Tryd.func20 (by kernel_rfl) ls20 (by kernel_rfl) (by kernel_rfl) hargs lo hlo h
theorem lcallk20 {args : List AV} (hargs : args.length ≤ 15) {H0 : AHeap} {r0 : AV} {H0' : AHeap}
    (h : lavc Tryd.prog glob lc20 (args ++ List.replicate (15 - args.length) (.v undef)) H0 fun e t H => (e = .normal ∨ e = .ret) ∧ aret Tryd.prog t H [Go.ResultVar.tmp 2] fun r => r = r0 ∧ H = H0') :
    ACall Tryd.prog glob false 20 args H0 r0 H0' := LCallK' ctx Tryd.func20 (by kernel_rfl) ls20 (by kernel_rfl) (by kernel_rfl) hargs h
/-- escutcheon/escutcheonref01.Eight -/
def lc21 : LCode := .seq (.reg []
  [⟨some 2, Go.Op.assign (Go.Operand.const (Go.Value.slice none 0 0)), none⟩]) (.seq (.reg []
  [⟨some 3, Go.Op.assign (Go.Operand.const (Go.Value.slice none 0 0)), none⟩]) (.seq (.seq (.reg []
  [⟨some 4, Go.Op.assign (Go.Operand.const (Go.Value.int Go.IntKind.i64 0)), none⟩]) (.block 0 (.loop (.seq (.seq (.reg []
  [⟨some 5, Go.Op.move (Go.Operand.tmp 4), none⟩,
  ⟨some 6, Go.Op.binOp Go.BinOp.lss 3 (Go.Operand.tmp 5) (Go.Operand.const (Go.Value.int Go.IntKind.i64 8)) 3, none⟩]) (.cond (Go.Operand.tmp 6) (.skip) (.exit 0))) (.seq (.block 1 (.seq (.reg []
  [⟨some 9, Go.Op.move (Go.Operand.tmp 3), none⟩,
  ⟨some 10, Go.Op.move (Go.Operand.tmp 0), none⟩,
  ⟨some 11, Go.Op.binOp Go.BinOp.rem 3 (Go.Operand.tmp 10) (Go.Operand.const (Go.Value.int Go.IntKind.i64 256)) 3, none⟩,
  ⟨some 12, Go.Op.convert 3 5 (Go.Operand.tmp 11), none⟩,
  ⟨some 13, Go.Op.buildSlice 22 1 #[(0, Go.Operand.tmp 12)], none⟩,
  ⟨some 14, Go.Op.call { callee := Go.Callee.builtin Go.Builtin.append, args := #[Go.Operand.tmp 9, Go.Operand.tmp 13], argTypes := #[22, 22] }, none⟩,
  ⟨some 3, Go.Op.assign (Go.Operand.tmp 14), none⟩]) (.reg []
  [⟨some 15, Go.Op.move (Go.Operand.tmp 0), none⟩,
  ⟨some 16, Go.Op.binOp Go.BinOp.quo 3 (Go.Operand.tmp 15) (Go.Operand.const (Go.Value.int Go.IntKind.i64 256)) 3, none⟩,
  ⟨some 0, Go.Op.assign (Go.Operand.tmp 16), none⟩]))) (.reg []
  [⟨some 7, Go.Op.move (Go.Operand.tmp 4), none⟩,
  ⟨some 8, Go.Op.binOp Go.BinOp.add 3 (Go.Operand.tmp 7) (Go.Operand.const (Go.Value.int Go.IntKind.i64 1)) 3, none⟩,
  ⟨some 4, Go.Op.assign (Go.Operand.tmp 8), none⟩])))))) (.seq (.reg []
  [⟨some 17, Go.Op.move (Go.Operand.tmp 3), none⟩,
  ⟨some 2, Go.Op.assign (Go.Operand.tmp 17), none⟩]) (.ret))))
def ms21_0 : List Nat := [0, 1, 3, 4, 5, 6, 7, 8, 9, 10, 11, 12, 13, 14, 15, 16]
def mj21_0 : List Nat := [1]
theorem ls21 : Tryd.f21.body.map (strip Tryd.prog impCodA) = some lc21 := by kernel_rfl
theorem lcall21 {args : List AV} (hargs : args.length ≤ 18) {H0 : AHeap} (lo : Nat) (hlo : H0.length ≤ lo) {r0 : AV} {H0' : AHeap}
    (h : lavc Tryd.prog glob lc21 (args ++ List.replicate (18 - args.length) (.v undef)) H0 fun e t H => (e = .normal ∨ e = .ret) ∧ aret Tryd.prog t H [Go.ResultVar.tmp 2] fun r => Fin lo H r r0 H0') :
    ACall Tryd.prog glob (H0.length == 0) 21 args H0 r0 H0' := LCall' ctx Tryd.func21 (by kernel_rfl) ls21 (by kernel_rfl) (by kernel_rfl) hargs lo hlo h
theorem lcallk21 {args : List AV} (hargs : args.length ≤ 18) {H0 : AHeap} {r0 : AV} {H0' : AHeap}
    (h : lavc Tryd.prog glob lc21 (args ++ List.replicate (18 - args.length) (.v undef)) H0 fun e t H => (e = .normal ∨ e = .ret) ∧ aret Tryd.prog t H [Go.ResultVar.tmp 2] fun r => r = r0 ∧ H = H0') :
    ACall Tryd.prog glob false 21 args H0 r0 H0' := LCallK' ctx Tryd.func21 (by kernel_rfl) ls21 (by kernel_rfl) (by kernel_rfl) hargs h
/-- slices.Concat[[]byte,byte] -/
def lc23 : LCode := .seq (.reg []
  [⟨some 2, Go.Op.assign (Go.Operand.const (Go.Value.slice none 0 0)), none⟩]) (.seq (.reg []
  [⟨some 3, Go.Op.assign (Go.Operand.const (Go.Value.int Go.IntKind.i64 0)), none⟩]) (.seq (.seq (.reg []
  [⟨some 9, Go.Op.move (Go.Operand.tmp 0), none⟩,
  ⟨some 10, Go.Op.call { callee := Go.Callee.builtin Go.Builtin.len, args := #[Go.Operand.tmp 9], argTypes := #[27] }, none⟩,
  ⟨some 11, Go.Op.move (Go.Operand.const (Go.Value.int Go.IntKind.i64 0)), none⟩]) (.block 0 (.loop (.seq (.reg []
  [⟨some 12, Go.Op.binOp Go.BinOp.lss 3 (Go.Operand.tmp 11) (Go.Operand.tmp 10) 3, none⟩]) (.seq (.cond (Go.Operand.tmp 12) (.skip) (.exit 0)) (.seq (.block 1 (.seq (.reg []
  [⟨some 13, Go.Op.indexAddr 27 (Go.Operand.tmp 9) (Go.Operand.tmp 11), none⟩,
  ⟨some 14, Go.Op.load 22 (Go.Operand.tmp 13), none⟩,
  ⟨some 5, Go.Op.assign (Go.Operand.tmp 14), none⟩]) (.seq (.reg []
  [⟨some 15, Go.Op.move (Go.Operand.tmp 3), none⟩,
  ⟨some 16, Go.Op.move (Go.Operand.tmp 5), none⟩,
  ⟨some 17, Go.Op.call { callee := Go.Callee.builtin Go.Builtin.len, args := #[Go.Operand.tmp 16], argTypes := #[22] }, none⟩,
  ⟨some 18, Go.Op.binOp Go.BinOp.add 3 (Go.Operand.tmp 15) (Go.Operand.tmp 17) 3, none⟩,
  ⟨some 3, Go.Op.assign (Go.Operand.tmp 18), none⟩]) (.seq (.reg []
  [⟨some 19, Go.Op.move (Go.Operand.tmp 3), none⟩,
  ⟨some 20, Go.Op.binOp Go.BinOp.lss 3 (Go.Operand.tmp 19) (Go.Operand.const (Go.Value.int Go.IntKind.i64 0)) 3, none⟩]) (.cond (Go.Operand.tmp 20) (.reg []
  [⟨some 21, Go.Op.makeInterface 9 (Go.Operand.const (Go.Value.string { data := #[108, 101, 110, 32, 111, 117, 116, 32, 111, 102, 32, 114, 97, 110, 103, 101] })), none⟩,
  ⟨none, Go.Op.panic (Go.Operand.tmp 21), none⟩]) (.skip)))))) (.reg []
  [⟨some 22, Go.Op.binOp Go.BinOp.add 3 (Go.Operand.tmp 11) (Go.Operand.const (Go.Value.int Go.IntKind.i64 1)) 3, none⟩,
  ⟨some 11, Go.Op.move (Go.Operand.tmp 22), none⟩]))))))) (.seq (.reg []
  [⟨some 23, Go.Op.move (Go.Operand.tmp 3), none⟩,
  ⟨some 24, Go.Op.call { callee := Go.Callee.value (Go.Operand.func 31), args := #[Go.Operand.const (Go.Value.slice none 0 0), Go.Operand.tmp 23], argTypes := #[22, 3] }, none⟩,
  ⟨some 6, Go.Op.assign (Go.Operand.tmp 24), none⟩]) (.seq (.seq (.reg []
  [⟨some 25, Go.Op.move (Go.Operand.tmp 0), none⟩,
  ⟨some 26, Go.Op.call { callee := Go.Callee.builtin Go.Builtin.len, args := #[Go.Operand.tmp 25], argTypes := #[27] }, none⟩,
  ⟨some 27, Go.Op.move (Go.Operand.const (Go.Value.int Go.IntKind.i64 0)), none⟩]) (.block 2 (.loop (.seq (.reg []
  [⟨some 28, Go.Op.binOp Go.BinOp.lss 3 (Go.Operand.tmp 27) (Go.Operand.tmp 26) 3, none⟩]) (.seq (.cond (Go.Operand.tmp 28) (.skip) (.exit 2)) (.seq (.block 3 (.seq (.reg []
  [⟨some 29, Go.Op.indexAddr 27 (Go.Operand.tmp 25) (Go.Operand.tmp 27), none⟩,
  ⟨some 30, Go.Op.load 22 (Go.Operand.tmp 29), none⟩,
  ⟨some 8, Go.Op.assign (Go.Operand.tmp 30), none⟩]) (.reg []
  [⟨some 31, Go.Op.move (Go.Operand.tmp 6), none⟩,
  ⟨some 32, Go.Op.move (Go.Operand.tmp 8), none⟩,
  ⟨some 33, Go.Op.call { callee := Go.Callee.builtin Go.Builtin.append, args := #[Go.Operand.tmp 31, Go.Operand.tmp 32], argTypes := #[22, 22] }, none⟩,
  ⟨some 6, Go.Op.assign (Go.Operand.tmp 33), none⟩]))) (.reg []
  [⟨some 34, Go.Op.binOp Go.BinOp.add 3 (Go.Operand.tmp 27) (Go.Operand.const (Go.Value.int Go.IntKind.i64 1)) 3, none⟩,
  ⟨some 27, Go.Op.move (Go.Operand.tmp 34), none⟩]))))))) (.seq (.reg []
  [⟨some 35, Go.Op.move (Go.Operand.tmp 6), none⟩,
  ⟨some 2, Go.Op.assign (Go.Operand.tmp 35), none⟩]) (.ret))))))
def ms23_0 : List Nat := [1, 3, 4, 5, 7, 11, 12, 13, 14, 15, 16, 17, 18, 19, 20, 21, 22]
def ms23_1 : List Nat := [0, 1, 3, 4, 5, 6, 7, 8, 9, 10, 11, 12, 13, 14, 15, 16, 17, 18, 19, 20, 21, 22, 23, 24, 27, 28, 29, 30, 31, 32, 33, 34]
def mj23_0 : List Nat := [1, 4, 7]
def mj23_1 : List Nat := [1, 4, 7, 21]
def mj23_2 : List Nat := [0, 1, 3, 4, 5, 7, 9, 10, 11, 12, 13, 14, 15, 16, 17, 18, 19, 20, 21, 22, 23, 24]
theorem ls23 : Tryd.f23.body.map (strip Tryd.prog impCodA) = some lc23 := by kernel_rfl
theorem lcall23 {args : List AV} (hargs : args.length ≤ 36) {H0 : AHeap} (lo : Nat) (hlo : H0.length ≤ lo) {r0 : AV} {H0' : AHeap}
    (h : lavc Tryd.prog glob lc23 (args ++ List.replicate (36 - args.length) (.v undef)) H0 fun e t H => (e = .normal ∨ e = .ret) ∧ aret Tryd.prog t H [Go.ResultVar.tmp 2] fun r => Fin lo H r r0 H0') :
    ACall Tryd.prog glob (H0.length == 0) 23 args H0 r0 H0' := LCall' ctx Tryd.func23 (by kernel_rfl) ls23 (by kernel_rfl) (by kernel_rfl) hargs lo hlo h
theorem lcallk23 {args : List AV} (hargs : args.length ≤ 36) {H0 : AHeap} {r0 : AV} {H0' : AHeap}
    (h : lavc Tryd.prog glob lc23 (args ++ List.replicate (36 - args.length) (.v undef)) H0 fun e t H => (e = .normal ∨ e = .ret) ∧ aret Tryd.prog t H [Go.ResultVar.tmp 2] fun r => r = r0 ∧ H = H0') :
    ACall Tryd.prog glob false 23 args H0 r0 H0' := LCallK' ctx Tryd.func23 (by kernel_rfl) ls23 (by kernel_rfl) (by kernel_rfl) hargs h
/-- (*escutcheon/coin.taker).take -/
def lc25 : LCode := .seq (.reg []
  [⟨some 4, Go.Op.assign (Go.Operand.const (Go.Value.slice none 0 0)), none⟩]) (.seq (.seq (.reg []
  [⟨some 6, Go.Op.move (Go.Operand.tmp 0), none⟩,
  ⟨some 7, Go.Op.nilCheck (Go.Operand.tmp 6), none⟩,
  ⟨some 8, Go.Op.fieldAddr 48 (Go.Operand.tmp 7) 1, none⟩,
  ⟨some 9, Go.Op.load 4 (Go.Operand.tmp 8), none⟩,
  ⟨some 10, Go.Op.move (Go.Operand.tmp 9), none⟩,
  ⟨some 11, Go.Op.move (Go.Operand.tmp 1), (some (10, false))⟩,
  ⟨some 12, Go.Op.move (Go.Operand.tmp 0), (some (10, false))⟩,
  ⟨some 13, Go.Op.nilCheck (Go.Operand.tmp 12), (some (10, false))⟩,
  ⟨some 14, Go.Op.fieldAddr 48 (Go.Operand.tmp 13) 0, (some (10, false))⟩,
  ⟨some 15, Go.Op.load 22 (Go.Operand.tmp 14), (some (10, false))⟩,
  ⟨some 16, Go.Op.call { callee := Go.Callee.builtin Go.Builtin.len, args := #[Go.Operand.tmp 15], argTypes := #[22] }, (some (10, false))⟩,
  ⟨some 17, Go.Op.binOp Go.BinOp.gtr 3 (Go.Operand.tmp 11) (Go.Operand.tmp 16) 3, (some (10, false))⟩,
  ⟨some 18, Go.Op.pick (Go.Operand.tmp 10) (Go.Operand.const (Go.Value.bool true)) (Go.Operand.tmp 17), none⟩]) (.cond (Go.Operand.tmp 18) (.seq (.reg []
  [⟨some 19, Go.Op.move (Go.Operand.tmp 0), none⟩,
  ⟨some 20, Go.Op.nilCheck (Go.Operand.tmp 19), none⟩,
  ⟨some 21, Go.Op.fieldAddr 48 (Go.Operand.tmp 20) 1, none⟩,
  ⟨none, Go.Op.store 4 (Go.Operand.tmp 21) (Go.Operand.const (Go.Value.bool true)), none⟩]) (.seq (.reg []
  [⟨some 4, Go.Op.assign (Go.Operand.const (Go.Value.slice none 0 0)), none⟩]) (.ret))) (.skip))) (.seq (.reg []
  [⟨some 22, Go.Op.move (Go.Operand.tmp 0), none⟩,
  ⟨some 23, Go.Op.nilCheck (Go.Operand.tmp 22), none⟩,
  ⟨some 24, Go.Op.fieldAddr 48 (Go.Operand.tmp 23) 0, none⟩,
  ⟨some 25, Go.Op.load 22 (Go.Operand.tmp 24), none⟩,
  ⟨some 26, Go.Op.move (Go.Operand.tmp 1), none⟩,
  ⟨some 27, Go.Op.slice 22 (Go.Operand.tmp 25) none (some (Go.Operand.tmp 26)) none, none⟩,
  ⟨some 28, Go.Op.call { callee := Go.Callee.value (Go.Operand.func 33), args := #[Go.Operand.tmp 27], argTypes := #[22] }, none⟩,
  ⟨some 5, Go.Op.assign (Go.Operand.tmp 28), none⟩]) (.seq (.reg []
  [⟨some 29, Go.Op.move (Go.Operand.tmp 0), none⟩,
  ⟨some 30, Go.Op.move (Go.Operand.tmp 0), none⟩,
  ⟨some 31, Go.Op.nilCheck (Go.Operand.tmp 30), none⟩,
  ⟨some 32, Go.Op.fieldAddr 48 (Go.Operand.tmp 31) 0, none⟩,
  ⟨some 33, Go.Op.load 22 (Go.Operand.tmp 32), none⟩,
  ⟨some 34, Go.Op.move (Go.Operand.tmp 1), none⟩,
  ⟨some 35, Go.Op.slice 22 (Go.Operand.tmp 33) (some (Go.Operand.tmp 34)) none none, none⟩,
  ⟨some 36, Go.Op.nilCheck (Go.Operand.tmp 29), none⟩,
  ⟨some 37, Go.Op.fieldAddr 48 (Go.Operand.tmp 36) 0, none⟩,
  ⟨none, Go.Op.store 22 (Go.Operand.tmp 37) (Go.Operand.tmp 35), none⟩]) (.seq (.reg []
  [⟨some 38, Go.Op.move (Go.Operand.tmp 5), none⟩,
  ⟨some 4, Go.Op.assign (Go.Operand.tmp 38), none⟩]) (.ret)))))
def mj25_0 : List Nat := [2, 3, 4, 6, 7, 8, 9, 10, 11, 12, 13, 14, 15, 16, 17, 18, 19, 20, 21]
theorem ls25 : Tryd.f25.body.map (strip Tryd.prog impCodA) = some lc25 := by kernel_rfl
theorem lcall25 {args : List AV} (hargs : args.length ≤ 39) {H0 : AHeap} (lo : Nat) (hlo : H0.length ≤ lo) {r0 : AV} {H0' : AHeap}
    (h : lavc Tryd.prog glob lc25 (args ++ List.replicate (39 - args.length) (.v undef)) H0 fun e t H => (e = .normal ∨ e = .ret) ∧ aret Tryd.prog t H [Go.ResultVar.tmp 4] fun r => Fin lo H r r0 H0') :
    ACall Tryd.prog glob (H0.length == 0) 25 args H0 r0 H0' := LCall' ctx Tryd.func25 (by kernel_rfl) ls25 (by kernel_rfl) (by kernel_rfl) hargs lo hlo h
theorem lcallk25 {args : List AV} (hargs : args.length ≤ 39) {H0 : AHeap} {r0 : AV} {H0' : AHeap}
    (h : lavc Tryd.prog glob lc25 (args ++ List.replicate (39 - args.length) (.v undef)) H0 fun e t H => (e = .normal ∨ e = .ret) ∧ aret Tryd.prog t H [Go.ResultVar.tmp 4] fun r => r = r0 ∧ H = H0') :
    ACall Tryd.prog glob false 25 args H0 r0 H0' := LCallK' ctx Tryd.func25 (by kernel_rfl) ls25 (by kernel_rfl) (by kernel_rfl) hargs h
/-- escutcheon/escutcheonref01.number -/
def lc26 : LCode := .seq (.reg []
  [⟨some 2, Go.Op.assign (Go.Operand.const (Go.Value.int Go.IntKind.i64 0)), none⟩,
  ⟨some 3, Go.Op.assign (Go.Operand.const (Go.Value.bool false)), none⟩]) (.seq (.seq (.reg []
  [⟨some 4, Go.Op.move (Go.Operand.tmp 0), none⟩,
  ⟨some 5, Go.Op.call { callee := Go.Callee.builtin Go.Builtin.len, args := #[Go.Operand.tmp 4], argTypes := #[22] }, none⟩,
  ⟨some 6, Go.Op.binOp Go.BinOp.lss 3 (Go.Operand.tmp 5) (Go.Operand.const (Go.Value.int Go.IntKind.i64 8)) 3, none⟩,
  ⟨some 7, Go.Op.move (Go.Operand.tmp 6), none⟩,
  ⟨some 8, Go.Op.move (Go.Operand.tmp 0), (some (7, false))⟩,
  ⟨some 9, Go.Op.indexAddr 22 (Go.Operand.tmp 8) (Go.Operand.const (Go.Value.int Go.IntKind.i64 7)), (some (7, false))⟩,
  ⟨some 10, Go.Op.load 5 (Go.Operand.tmp 9), (some (7, false))⟩,
  ⟨some 11, Go.Op.binOp Go.BinOp.gtr 5 (Go.Operand.tmp 10) (Go.Operand.const (Go.Value.int Go.IntKind.u8 0)) 5, (some (7, false))⟩,
  ⟨some 12, Go.Op.pick (Go.Operand.tmp 7) (Go.Operand.const (Go.Value.bool true)) (Go.Operand.tmp 11), none⟩,
  ⟨some 13, Go.Op.move (Go.Operand.tmp 12), none⟩,
  ⟨some 14, Go.Op.move (Go.Operand.tmp 0), (some (13, false))⟩,
  ⟨some 15, Go.Op.indexAddr 22 (Go.Operand.tmp 14) (Go.Operand.const (Go.Value.int Go.IntKind.i64 6)), (some (13, false))⟩,
  ⟨some 16, Go.Op.load 5 (Go.Operand.tmp 15), (some (13, false))⟩,
  ⟨some 17, Go.Op.binOp Go.BinOp.gtr 5 (Go.Operand.tmp 16) (Go.Operand.const (Go.Value.int Go.IntKind.u8 0)) 5, (some (13, false))⟩,
  ⟨some 18, Go.Op.pick (Go.Operand.tmp 13) (Go.Operand.const (Go.Value.bool true)) (Go.Operand.tmp 17), none⟩,
  ⟨some 19, Go.Op.move (Go.Operand.tmp 18), none⟩,
  ⟨some 20, Go.Op.move (Go.Operand.tmp 0), (some (19, false))⟩,
  ⟨some 21, Go.Op.indexAddr 22 (Go.Operand.tmp 20) (Go.Operand.const (Go.Value.int Go.IntKind.i64 5)), (some (19, false))⟩,
  ⟨some 22, Go.Op.load 5 (Go.Operand.tmp 21), (some (19, false))⟩,
  ⟨some 23, Go.Op.binOp Go.BinOp.gtr 5 (Go.Operand.tmp 22) (Go.Operand.const (Go.Value.int Go.IntKind.u8 0)) 5, (some (19, false))⟩,
  ⟨some 24, Go.Op.pick (Go.Operand.tmp 19) (Go.Operand.const (Go.Value.bool true)) (Go.Operand.tmp 23), none⟩,
  ⟨some 25, Go.Op.move (Go.Operand.tmp 24), none⟩,
  ⟨some 26, Go.Op.move (Go.Operand.tmp 0), (some (25, false))⟩,
  ⟨some 27, Go.Op.indexAddr 22 (Go.Operand.tmp 26) (Go.Operand.const (Go.Value.int Go.IntKind.i64 4)), (some (25, false))⟩,
  ⟨some 28, Go.Op.load 5 (Go.Operand.tmp 27), (some (25, false))⟩,
  ⟨some 29, Go.Op.binOp Go.BinOp.gtr 5 (Go.Operand.tmp 28) (Go.Operand.const (Go.Value.int Go.IntKind.u8 0)) 5, (some (25, false))⟩,
  ⟨some 30, Go.Op.pick (Go.Operand.tmp 25) (Go.Operand.const (Go.Value.bool true)) (Go.Operand.tmp 29), none⟩,
  ⟨some 31, Go.Op.move (Go.Operand.tmp 30), none⟩,
  ⟨some 32, Go.Op.move (Go.Operand.tmp 0), (some (31, false))⟩,
  ⟨some 33, Go.Op.indexAddr 22 (Go.Operand.tmp 32) (Go.Operand.const (Go.Value.int Go.IntKind.i64 3)), (some (31, false))⟩,
  ⟨some 34, Go.Op.load 5 (Go.Operand.tmp 33), (some (31, false))⟩,
  ⟨some 35, Go.Op.binOp Go.BinOp.gtr 5 (Go.Operand.tmp 34) (Go.Operand.const (Go.Value.int Go.IntKind.u8 127)) 5, (some (31, false))⟩,
  ⟨some 36, Go.Op.pick (Go.Operand.tmp 31) (Go.Operand.const (Go.Value.bool true)) (Go.Operand.tmp 35), none⟩]) (.cond (Go.Operand.tmp 36) (.seq (.reg []
  [⟨some 2, Go.Op.assign (Go.Operand.const (Go.Value.int Go.IntKind.i64 0)), none⟩,
  ⟨some 3, Go.Op.assign (Go.Operand.const (Go.Value.bool false)), none⟩]) (.ret)) (.skip))) (.seq (.reg [⟨some 37, Go.Op.move (Go.Operand.tmp 0), none⟩,
  ⟨some 38, Go.Op.indexAddr 22 (Go.Operand.tmp 37) (Go.Operand.const (Go.Value.int Go.IntKind.i64 0)), none⟩,
  ⟨some 39, Go.Op.load 5 (Go.Operand.tmp 38), none⟩,
  ⟨some 40, Go.Op.convert 5 3 (Go.Operand.tmp 39), none⟩,
  ⟨some 41, Go.Op.move (Go.Operand.tmp 0), none⟩,
  ⟨some 42, Go.Op.indexAddr 22 (Go.Operand.tmp 41) (Go.Operand.const (Go.Value.int Go.IntKind.i64 1)), none⟩,
  ⟨some 43, Go.Op.load 5 (Go.Operand.tmp 42), none⟩,
  ⟨some 44, Go.Op.convert 5 3 (Go.Operand.tmp 43), none⟩,
  ⟨some 45, Go.Op.binOp Go.BinOp.mul 3 (Go.Operand.tmp 44) (Go.Operand.const (Go.Value.int Go.IntKind.i64 256)) 3, none⟩,
  ⟨some 46, Go.Op.binOp Go.BinOp.add 3 (Go.Operand.tmp 40) (Go.Operand.tmp 45) 3, none⟩,
  ⟨some 47, Go.Op.move (Go.Operand.tmp 0), none⟩,
  ⟨some 48, Go.Op.indexAddr 22 (Go.Operand.tmp 47) (Go.Operand.const (Go.Value.int Go.IntKind.i64 2)), none⟩,
  ⟨some 49, Go.Op.load 5 (Go.Operand.tmp 48), none⟩,
  ⟨some 50, Go.Op.convert 5 3 (Go.Operand.tmp 49), none⟩,
  ⟨some 51, Go.Op.binOp Go.BinOp.mul 3 (Go.Operand.tmp 50) (Go.Operand.const (Go.Value.int Go.IntKind.i64 65536)) 3, none⟩,
  ⟨some 52, Go.Op.binOp Go.BinOp.add 3 (Go.Operand.tmp 46) (Go.Operand.tmp 51) 3, none⟩,
  ⟨some 53, Go.Op.move (Go.Operand.tmp 0), none⟩,
  ⟨some 54, Go.Op.indexAddr 22 (Go.Operand.tmp 53) (Go.Operand.const (Go.Value.int Go.IntKind.i64 3)), none⟩,
  ⟨some 55, Go.Op.load 5 (Go.Operand.tmp 54), none⟩,
  ⟨some 56, Go.Op.convert 5 3 (Go.Operand.tmp 55), none⟩,
  ⟨some 57, Go.Op.binOp Go.BinOp.mul 3 (Go.Operand.tmp 56) (Go.Operand.const (Go.Value.int Go.IntKind.i64 16777216)) 3, none⟩,
  ⟨some 58, Go.Op.binOp Go.BinOp.add 3 (Go.Operand.tmp 52) (Go.Operand.tmp 57) 3, none⟩,
  ⟨some 2, Go.Op.assign (Go.Operand.tmp 58), none⟩,
  ⟨some 3, Go.Op.assign (Go.Operand.const (Go.Value.bool true)), none⟩]
  []) (.ret)))
def mj26_0 : List Nat := [1, 2, 3, 4, 5, 6, 7, 8, 9, 10, 11, 12, 13, 14, 15, 16, 17, 18, 19, 20, 21, 22, 23, 24, 25, 26, 27, 28, 29, 30, 31, 32, 33, 34, 35, 36]
theorem ls26 : Tryd.f26.body.map (strip Tryd.prog impCodA) = some lc26 := by kernel_rfl
theorem lcall26 {args : List AV} (hargs : args.length ≤ 59) {H0 : AHeap} (lo : Nat) (hlo : H0.length ≤ lo) {r0 : AV} {H0' : AHeap}
    (h : lavc Tryd.prog glob lc26 (args ++ List.replicate (59 - args.length) (.v undef)) H0 fun e t H => (e = .normal ∨ e = .ret) ∧ aret Tryd.prog t H [Go.ResultVar.tmp 2, Go.ResultVar.tmp 3] fun r => Fin lo H r r0 H0') :
    ACall Tryd.prog glob (H0.length == 0) 26 args H0 r0 H0' := LCall' ctx Tryd.func26 (by kernel_rfl) ls26 (by kernel_rfl) (by kernel_rfl) hargs lo hlo h
theorem lcallk26 {args : List AV} (hargs : args.length ≤ 59) {H0 : AHeap} {r0 : AV} {H0' : AHeap}
    (h : lavc Tryd.prog glob lc26 (args ++ List.replicate (59 - args.length) (.v undef)) H0 fun e t H => (e = .normal ∨ e = .ret) ∧ aret Tryd.prog t H [Go.ResultVar.tmp 2, Go.ResultVar.tmp 3] fun r => r = r0 ∧ H = H0') :
    ACall Tryd.prog glob false 26 args H0 r0 H0' := LCallK' ctx Tryd.func26 (by kernel_rfl) ls26 (by kernel_rfl) (by kernel_rfl) hargs h
/-- strings.Count -/
def lc27 : LCode := .seq (.reg []
  [⟨some 4, Go.Op.assign (Go.Operand.const (Go.Value.int Go.IntKind.i64 0)), none⟩]) (.seq (.seq (.reg []
  [⟨some 7, Go.Op.move (Go.Operand.tmp 1), none⟩,
  ⟨some 8, Go.Op.call { callee := Go.Callee.builtin Go.Builtin.len, args := #[Go.Operand.tmp 7], argTypes := #[9] }, none⟩,
  ⟨some 9, Go.Op.binOp Go.BinOp.eql 3 (Go.Operand.tmp 8) (Go.Operand.const (Go.Value.int Go.IntKind.i64 0)) 3, none⟩]) (.cond (Go.Operand.tmp 9) (.seq (.reg []
  [⟨some 10, Go.Op.move (Go.Operand.tmp 0), none⟩,
  ⟨some 11, Go.Op.call { callee := Go.Callee.value (Go.Operand.func 34), args := #[Go.Operand.tmp 10], argTypes := #[9] }, none⟩,
  ⟨some 12, Go.Op.binOp Go.BinOp.add 3 (Go.Operand.tmp 11) (Go.Operand.const (Go.Value.int Go.IntKind.i64 1)) 3, none⟩,
  ⟨some 4, Go.Op.assign (Go.Operand.tmp 12), none⟩]) (.ret)) (.skip))) (.seq (.seq (.reg []
  [⟨some 13, Go.Op.move (Go.Operand.tmp 1), none⟩,
  ⟨some 14, Go.Op.call { callee := Go.Callee.builtin Go.Builtin.len, args := #[Go.Operand.tmp 13], argTypes := #[9] }, none⟩,
  ⟨some 15, Go.Op.binOp Go.BinOp.eql 3 (Go.Operand.tmp 14) (Go.Operand.const (Go.Value.int Go.IntKind.i64 1)) 3, none⟩]) (.cond (Go.Operand.tmp 15) (.seq (.reg []
  [⟨some 16, Go.Op.move (Go.Operand.tmp 0), none⟩,
  ⟨some 17, Go.Op.move (Go.Operand.tmp 1), none⟩,
  ⟨some 18, Go.Op.index 9 (Go.Operand.tmp 17) (Go.Operand.const (Go.Value.int Go.IntKind.i64 0)), none⟩,
  ⟨some 19, Go.Op.call { callee := Go.Callee.value (Go.Operand.func 35), args := #[Go.Operand.tmp 16, Go.Operand.tmp 18], argTypes := #[9, 5] }, none⟩,
  ⟨some 4, Go.Op.assign (Go.Operand.tmp 19), none⟩]) (.ret)) (.skip))) (.seq (.reg []
  [⟨some 5, Go.Op.assign (Go.Operand.const (Go.Value.int Go.IntKind.i64 0)), none⟩]) (.block 0 (.loop (.block 1 (.seq (.reg []
  [⟨some 20, Go.Op.move (Go.Operand.tmp 0), none⟩,
  ⟨some 21, Go.Op.move (Go.Operand.tmp 1), none⟩,
  ⟨some 22, Go.Op.call { callee := Go.Callee.value (Go.Operand.func 36), args := #[Go.Operand.tmp 20, Go.Operand.tmp 21], argTypes := #[9, 9] }, none⟩,
  ⟨some 6, Go.Op.assign (Go.Operand.tmp 22), none⟩]) (.seq (.seq (.reg []
  [⟨some 23, Go.Op.move (Go.Operand.tmp 6), none⟩,
  ⟨some 24, Go.Op.binOp Go.BinOp.eql 3 (Go.Operand.tmp 23) (Go.Operand.const (Go.Value.int Go.IntKind.i64 (-1))) 3, none⟩]) (.cond (Go.Operand.tmp 24) (.seq (.reg []
  [⟨some 25, Go.Op.move (Go.Operand.tmp 5), none⟩,
  ⟨some 4, Go.Op.assign (Go.Operand.tmp 25), none⟩]) (.ret)) (.skip))) (.seq (.reg []
  [⟨some 26, Go.Op.move (Go.Operand.tmp 5), none⟩,
  ⟨some 27, Go.Op.binOp Go.BinOp.add 3 (Go.Operand.tmp 26) (Go.Operand.const (Go.Value.int Go.IntKind.i64 1)) 3, none⟩,
  ⟨some 5, Go.Op.assign (Go.Operand.tmp 27), none⟩]) (.reg []
  [⟨some 28, Go.Op.move (Go.Operand.tmp 0), none⟩,
  ⟨some 29, Go.Op.move (Go.Operand.tmp 6), none⟩,
  ⟨some 30, Go.Op.move (Go.Operand.tmp 1), none⟩,
  ⟨some 31, Go.Op.call { callee := Go.Callee.builtin Go.Builtin.len, args := #[Go.Operand.tmp 30], argTypes := #[9] }, none⟩,
  ⟨some 32, Go.Op.binOp Go.BinOp.add 3 (Go.Operand.tmp 29) (Go.Operand.tmp 31) 3, none⟩,
  ⟨some 33, Go.Op.slice 9 (Go.Operand.tmp 28) (some (Go.Operand.tmp 32)) none none, none⟩,
  ⟨some 0, Go.Op.assign (Go.Operand.tmp 33), none⟩]))))))))))
def ms27_0 : List Nat := [0, 2, 3, 4, 5, 6, 7, 8, 9, 10, 11, 12, 13, 14, 15, 16, 17, 18, 19, 20, 21, 22, 23, 24, 25, 26, 27, 28, 29, 30, 31, 32, 33]
def mj27_0 : List Nat := [2, 3, 4, 7, 8, 9, 10, 11, 12]
def mj27_1 : List Nat := [2, 3, 4, 7, 8, 9, 10, 11, 12, 13, 14, 15, 16, 17, 18, 19]
def mj27_2 : List Nat := [2, 3, 4, 7, 8, 9, 10, 11, 12, 13, 14, 15, 16, 17, 18, 19, 25]
theorem ls27 : Tryd.f27.body.map (strip Tryd.prog impCodA) = some lc27 := by kernel_rfl
theorem lcall27 {args : List AV} (hargs : args.length ≤ 34) {H0 : AHeap} (lo : Nat) (hlo : H0.length ≤ lo) {r0 : AV} {H0' : AHeap}
    (h : lavc Tryd.prog glob lc27 (args ++ List.replicate (34 - args.length) (.v undef)) H0 fun e t H => (e = .normal ∨ e = .ret) ∧ aret Tryd.prog t H [Go.ResultVar.tmp 4] fun r => Fin lo H r r0 H0') :
    ACall Tryd.prog glob (H0.length == 0) 27 args H0 r0 H0' := LCall' ctx Tryd.func27 (by kernel_rfl) ls27 (by kernel_rfl) (by kernel_rfl) hargs lo hlo h
theorem lcallk27 {args : List AV} (hargs : args.length ≤ 34) {H0 : AHeap} {r0 : AV} {H0' : AHeap}
    (h : lavc Tryd.prog glob lc27 (args ++ List.replicate (34 - args.length) (.v undef)) H0 fun e t H => (e = .normal ∨ e = .ret) ∧ aret Tryd.prog t H [Go.ResultVar.tmp 4] fun r => r = r0 ∧ H = H0') :
    ACall Tryd.prog glob false 27 args H0 r0 H0' := LCallK' ctx Tryd.func27 (by kernel_rfl) ls27 (by kernel_rfl) (by kernel_rfl) hargs h
/-- strings.Split -/
def lc28 : LCode := .seq (.reg []
  [⟨some 4, Go.Op.assign (Go.Operand.const (Go.Value.slice none 0 0)), none⟩]) (.seq (.reg []
  [⟨some 5, Go.Op.move (Go.Operand.tmp 0), none⟩,
  ⟨some 6, Go.Op.move (Go.Operand.tmp 1), none⟩,
  ⟨some 7, Go.Op.call { callee := Go.Callee.value (Go.Operand.func 37), args := #[Go.Operand.tmp 5, Go.Operand.tmp 6, Go.Operand.const (Go.Value.int Go.IntKind.i64 0), Go.Operand.const (Go.Value.int Go.IntKind.i64 (-1))], argTypes := #[9, 9, 3, 3] }, none⟩,
  ⟨some 4, Go.Op.assign (Go.Operand.tmp 7), none⟩]) (.ret))
theorem ls28 : Tryd.f28.body.map (strip Tryd.prog impCodA) = some lc28 := by kernel_rfl
theorem lcall28 {args : List AV} (hargs : args.length ≤ 8) {H0 : AHeap} (lo : Nat) (hlo : H0.length ≤ lo) {r0 : AV} {H0' : AHeap}
    (h : lavc Tryd.prog glob lc28 (args ++ List.replicate (8 - args.length) (.v undef)) H0 fun e t H => (e = .normal ∨ e = .ret) ∧ aret Tryd.prog t H [Go.ResultVar.tmp 4] fun r => Fin lo H r r0 H0') :
    ACall Tryd.prog glob (H0.length == 0) 28 args H0 r0 H0' := LCall' ctx Tryd.func28 (by kernel_rfl) ls28 (by kernel_rfl) (by kernel_rfl) hargs lo hlo h
theorem lcallk28 {args : List AV} (hargs : args.length ≤ 8) {H0 : AHeap} {r0 : AV} {H0' : AHeap}
    (h : lavc Tryd.prog glob lc28 (args ++ List.replicate (8 - args.length) (.v undef)) H0 fun e t H => (e = .normal ∨ e = .ret) ∧ aret Tryd.prog t H [Go.ResultVar.tmp 4] fun r => r = r0 ∧ H = H0') :
    ACall Tryd.prog glob false 28 args H0 r0 H0' := LCallK' ctx Tryd.func28 (by kernel_rfl) ls28 (by kernel_rfl) (by kernel_rfl) hargs h
/-- slices.Grow[[]byte,byte] -/
def lc31 : LCode := .seq (.reg []
  [⟨some 4, Go.Op.assign (Go.Operand.const (Go.Value.slice none 0 0)), none⟩]) (.seq (.seq (.reg []
  [⟨some 5, Go.Op.move (Go.Operand.tmp 1), none⟩,
  ⟨some 6, Go.Op.binOp Go.BinOp.lss 3 (Go.Operand.tmp 5) (Go.Operand.const (Go.Value.int Go.IntKind.i64 0)) 3, none⟩]) (.cond (Go.Operand.tmp 6) (.reg []
  [⟨some 7, Go.Op.makeInterface 9 (Go.Operand.const (Go.Value.string { data := #[99, 97, 110, 110, 111, 116, 32, 98, 101, 32, 110, 101, 103, 97, 116, 105, 118, 101] })), none⟩,
  ⟨none, Go.Op.panic (Go.Operand.tmp 7), none⟩]) (.skip))) (.seq (.seq (.reg []
  [⟨some 8, Go.Op.move (Go.Operand.tmp 1), none⟩,
  ⟨some 9, Go.Op.move (Go.Operand.tmp 0), none⟩,
  ⟨some 10, Go.Op.call { callee := Go.Callee.builtin Go.Builtin.cap, args := #[Go.Operand.tmp 9], argTypes := #[22] }, none⟩,
  ⟨some 11, Go.Op.move (Go.Operand.tmp 0), none⟩,
  ⟨some 12, Go.Op.call { callee := Go.Callee.builtin Go.Builtin.len, args := #[Go.Operand.tmp 11], argTypes := #[22] }, none⟩,
  ⟨some 13, Go.Op.binOp Go.BinOp.sub 3 (Go.Operand.tmp 10) (Go.Operand.tmp 12) 3, none⟩,
  ⟨some 14, Go.Op.binOp Go.BinOp.sub 3 (Go.Operand.tmp 8) (Go.Operand.tmp 13) 3, none⟩,
  ⟨some 1, Go.Op.assign (Go.Operand.tmp 14), none⟩]) (.seq (.reg []
  [⟨some 15, Go.Op.move (Go.Operand.tmp 1), none⟩,
  ⟨some 16, Go.Op.binOp Go.BinOp.gtr 3 (Go.Operand.tmp 15) (Go.Operand.const (Go.Value.int Go.IntKind.i64 0)) 3, none⟩]) (.cond (Go.Operand.tmp 16) (.reg []
  [⟨some 17, Go.Op.move (Go.Operand.tmp 0), none⟩,
  ⟨some 18, Go.Op.move (Go.Operand.tmp 0), none⟩,
  ⟨some 19, Go.Op.call { callee := Go.Callee.builtin Go.Builtin.cap, args := #[Go.Operand.tmp 18], argTypes := #[22] }, none⟩,
  ⟨some 20, Go.Op.slice 22 (Go.Operand.tmp 17) none (some (Go.Operand.tmp 19)) none, none⟩,
  ⟨some 21, Go.Op.move (Go.Operand.tmp 1), none⟩,
  ⟨some 22, Go.Op.call { callee := Go.Callee.builtin Go.Builtin.append, args := #[Go.Operand.tmp 20, Go.Operand.tmp 21], argTypes := #[22, 3] }, none⟩,
  ⟨some 23, Go.Op.move (Go.Operand.tmp 0), none⟩,
  ⟨some 24, Go.Op.call { callee := Go.Callee.builtin Go.Builtin.len, args := #[Go.Operand.tmp 23], argTypes := #[22] }, none⟩,
  ⟨some 25, Go.Op.slice 22 (Go.Operand.tmp 22) none (some (Go.Operand.tmp 24)) none, none⟩,
  ⟨some 0, Go.Op.assign (Go.Operand.tmp 25), none⟩]) (.skip)))) (.seq (.reg []
  [⟨some 26, Go.Op.move (Go.Operand.tmp 0), none⟩,
  ⟨some 4, Go.Op.assign (Go.Operand.tmp 26), none⟩]) (.ret))))
def mj31_0 : List Nat := [2, 3, 5, 6, 7]
def mj31_1 : List Nat := [0, 1, 2, 3, 5, 6, 7, 8, 9, 10, 11, 12, 13, 14, 15, 16, 17, 18, 19, 20, 21, 22, 23, 24, 25]
theorem ls31 : Tryd.f31.body.map (strip Tryd.prog impCodA) = some lc31 := by kernel_rfl
theorem lcall31 {args : List AV} (hargs : args.length ≤ 27) {H0 : AHeap} (lo : Nat) (hlo : H0.length ≤ lo) {r0 : AV} {H0' : AHeap}
    (h : lavc Tryd.prog glob lc31 (args ++ List.replicate (27 - args.length) (.v undef)) H0 fun e t H => (e = .normal ∨ e = .ret) ∧ aret Tryd.prog t H [Go.ResultVar.tmp 4] fun r => Fin lo H r r0 H0') :
    ACall Tryd.prog glob (H0.length == 0) 31 args H0 r0 H0' := LCall' ctx Tryd.func31 (by kernel_rfl) ls31 (by kernel_rfl) (by kernel_rfl) hargs lo hlo h
theorem lcallk31 {args : List AV} (hargs : args.length ≤ 27) {H0 : AHeap} {r0 : AV} {H0' : AHeap}
    (h : lavc Tryd.prog glob lc31 (args ++ List.replicate (27 - args.length) (.v undef)) H0 fun e t H => (e = .normal ∨ e = .ret) ∧ aret Tryd.prog t H [Go.ResultVar.tmp 4] fun r => r = r0 ∧ H = H0') :
    ACall Tryd.prog glob false 31 args H0 r0 H0' := LCallK' ctx Tryd.func31 (by kernel_rfl) ls31 (by kernel_rfl) (by kernel_rfl) hargs h
/-- slices.Clone[[]byte,byte] -/
def lc33 : LCode := .seq (.reg []
  [⟨some 2, Go.Op.assign (Go.Operand.const (Go.Value.slice none 0 0)), none⟩]) (.seq (.seq (.reg []
  [⟨some 3, Go.Op.move (Go.Operand.tmp 0), none⟩,
  ⟨some 4, Go.Op.binOp Go.BinOp.eql 22 (Go.Operand.tmp 3) (Go.Operand.const (Go.Value.slice none 0 0)) 22, none⟩]) (.cond (Go.Operand.tmp 4) (.seq (.reg []
  [⟨some 2, Go.Op.assign (Go.Operand.const (Go.Value.slice none 0 0)), none⟩]) (.ret)) (.skip))) (.seq (.reg []
  [⟨some 5, Go.Op.buildSlice 22 0 #[], none⟩,
  ⟨some 6, Go.Op.move (Go.Operand.tmp 0), none⟩,
  ⟨some 7, Go.Op.call { callee := Go.Callee.builtin Go.Builtin.append, args := #[Go.Operand.tmp 5, Go.Operand.tmp 6], argTypes := #[22, 22] }, none⟩,
  ⟨some 2, Go.Op.assign (Go.Operand.tmp 7), none⟩]) (.ret)))
def mj33_0 : List Nat := [1, 2, 3, 4]
theorem ls33 : Tryd.f33.body.map (strip Tryd.prog impCodA) = some lc33 := by kernel_rfl
theorem lcall33 {args : List AV} (hargs : args.length ≤ 8) {H0 : AHeap} (lo : Nat) (hlo : H0.length ≤ lo) {r0 : AV} {H0' : AHeap}
    (h : lavc Tryd.prog glob lc33 (args ++ List.replicate (8 - args.length) (.v undef)) H0 fun e t H => (e = .normal ∨ e = .ret) ∧ aret Tryd.prog t H [Go.ResultVar.tmp 2] fun r => Fin lo H r r0 H0') :
    ACall Tryd.prog glob (H0.length == 0) 33 args H0 r0 H0' := LCall' ctx Tryd.func33 (by kernel_rfl) ls33 (by kernel_rfl) (by kernel_rfl) hargs lo hlo h
theorem lcallk33 {args : List AV} (hargs : args.length ≤ 8) {H0 : AHeap} {r0 : AV} {H0' : AHeap}
    (h : lavc Tryd.prog glob lc33 (args ++ List.replicate (8 - args.length) (.v undef)) H0 fun e t H => (e = .normal ∨ e = .ret) ∧ aret Tryd.prog t H [Go.ResultVar.tmp 2] fun r => r = r0 ∧ H = H0') :
    ACall Tryd.prog glob false 33 args H0 r0 H0' := LCallK' ctx Tryd.func33 (by kernel_rfl) ls33 (by kernel_rfl) (by kernel_rfl) hargs h
/-- strings.Index -/
def lc36 : LCode := .seq (.reg []
  [⟨some 4, Go.Op.assign (Go.Operand.const (Go.Value.int Go.IntKind.i64 0)), none⟩]) (.seq (.reg []
  [⟨some 5, Go.Op.move (Go.Operand.tmp 0), none⟩,
  ⟨some 6, Go.Op.move (Go.Operand.tmp 1), none⟩,
  ⟨some 7, Go.Op.call { callee := Go.Callee.value (Go.Operand.func 40), args := #[Go.Operand.tmp 5, Go.Operand.tmp 6], argTypes := #[9, 9] }, none⟩,
  ⟨some 4, Go.Op.assign (Go.Operand.tmp 7), none⟩]) (.ret))
theorem ls36 : Tryd.f36.body.map (strip Tryd.prog impCodA) = some lc36 := by kernel_rfl
theorem lcall36 {args : List AV} (hargs : args.length ≤ 8) {H0 : AHeap} (lo : Nat) (hlo : H0.length ≤ lo) {r0 : AV} {H0' : AHeap}
    (h : lavc Tryd.prog glob lc36 (args ++ List.replicate (8 - args.length) (.v undef)) H0 fun e t H => (e = .normal ∨ e = .ret) ∧ aret Tryd.prog t H [Go.ResultVar.tmp 4] fun r => Fin lo H r r0 H0') :
    ACall Tryd.prog glob (H0.length == 0) 36 args H0 r0 H0' := LCall' ctx Tryd.func36 (by kernel_rfl) ls36 (by kernel_rfl) (by kernel_rfl) hargs lo hlo h
theorem lcallk36 {args : List AV} (hargs : args.length ≤ 8) {H0 : AHeap} {r0 : AV} {H0' : AHeap}
    (h : lavc Tryd.prog glob lc36 (args ++ List.replicate (8 - args.length) (.v undef)) H0 fun e t H => (e = .normal ∨ e = .ret) ∧ aret Tryd.prog t H [Go.ResultVar.tmp 4] fun r => r = r0 ∧ H = H0') :
    ACall Tryd.prog glob false 36 args H0 r0 H0' := LCallK' ctx Tryd.func36 (by kernel_rfl) ls36 (by kernel_rfl) (by kernel_rfl) hargs h
/-- strings.genSplit -/
def lc37 : LCode := .seq (.reg []
  [⟨some 8, Go.Op.assign (Go.Operand.const (Go.Value.slice none 0 0)), none⟩]) (.seq (.seq (.reg []
  [⟨some 12, Go.Op.move (Go.Operand.tmp 3), none⟩,
  ⟨some 13, Go.Op.binOp Go.BinOp.eql 3 (Go.Operand.tmp 12) (Go.Operand.const (Go.Value.int Go.IntKind.i64 0)) 3, none⟩]) (.cond (Go.Operand.tmp 13) (.seq (.reg []
  [⟨some 8, Go.Op.assign (Go.Operand.const (Go.Value.slice none 0 0)), none⟩]) (.ret)) (.skip))) (.seq (.seq (.reg []
  [⟨some 14, Go.Op.move (Go.Operand.tmp 1), none⟩,
  ⟨some 15, Go.Op.binOp Go.BinOp.eql 9 (Go.Operand.tmp 14) (Go.Operand.const (Go.Value.string { data := #[] })) 9, none⟩]) (.cond (Go.Operand.tmp 15) (.seq (.reg []
  [⟨some 16, Go.Op.move (Go.Operand.tmp 0), none⟩,
  ⟨some 17, Go.Op.move (Go.Operand.tmp 3), none⟩,
  ⟨some 18, Go.Op.call { callee := Go.Callee.value (Go.Operand.func 41), args := #[Go.Operand.tmp 16, Go.Operand.tmp 17], argTypes := #[9, 3] }, none⟩,
  ⟨some 8, Go.Op.assign (Go.Operand.tmp 18), none⟩]) (.ret)) (.skip))) (.seq (.seq (.reg []
  [⟨some 19, Go.Op.move (Go.Operand.tmp 3), none⟩,
  ⟨some 20, Go.Op.binOp Go.BinOp.lss 3 (Go.Operand.tmp 19) (Go.Operand.const (Go.Value.int Go.IntKind.i64 0)) 3, none⟩]) (.cond (Go.Operand.tmp 20) (.reg []
  [⟨some 21, Go.Op.move (Go.Operand.tmp 0), none⟩,
  ⟨some 22, Go.Op.move (Go.Operand.tmp 1), none⟩,
  ⟨some 23, Go.Op.call { callee := Go.Callee.value (Go.Operand.func 27), args := #[Go.Operand.tmp 21, Go.Operand.tmp 22], argTypes := #[9, 9] }, none⟩,
  ⟨some 24, Go.Op.binOp Go.BinOp.add 3 (Go.Operand.tmp 23) (Go.Operand.const (Go.Value.int Go.IntKind.i64 1)) 3, none⟩,
  ⟨some 3, Go.Op.assign (Go.Operand.tmp 24), none⟩]) (.skip))) (.seq (.reg []
  [⟨some 25, Go.Op.move (Go.Operand.tmp 3), none⟩,
  ⟨some 26, Go.Op.move (Go.Operand.tmp 0), none⟩,
  ⟨some 27, Go.Op.call { callee := Go.Callee.builtin Go.Builtin.len, args := #[Go.Operand.tmp 26], argTypes := #[9] }, none⟩,
  ⟨some 28, Go.Op.binOp Go.BinOp.add 3 (Go.Operand.tmp 27) (Go.Operand.const (Go.Value.int Go.IntKind.i64 1)) 3, none⟩,
  ⟨some 29, Go.Op.call { callee := Go.Callee.builtin Go.Builtin.min, args := #[Go.Operand.tmp 25, Go.Operand.tmp 28], argTypes := #[3, 3] }, none⟩,
  ⟨some 3, Go.Op.assign (Go.Operand.tmp 29), none⟩]) (.seq (.reg []
  [⟨some 30, Go.Op.move (Go.Operand.tmp 3), none⟩,
  ⟨some 31, Go.Op.makeSlice 40 (Go.Operand.tmp 30) (Go.Operand.tmp 30), none⟩,
  ⟨some 9, Go.Op.assign (Go.Operand.tmp 31), none⟩]) (.seq (.reg []
  [⟨some 32, Go.Op.move (Go.Operand.tmp 3), none⟩,
  ⟨some 33, Go.Op.binOp Go.BinOp.sub 3 (Go.Operand.tmp 32) (Go.Operand.const (Go.Value.int Go.IntKind.i64 1)) 3, none⟩,
  ⟨some 3, Go.Op.assign (Go.Operand.tmp 33), none⟩]) (.seq (.reg []
  [⟨some 10, Go.Op.assign (Go.Operand.const (Go.Value.int Go.IntKind.i64 0)), none⟩]) (.seq (.block 0 (.loop (.seq (.seq (.reg []
  [⟨some 34, Go.Op.move (Go.Operand.tmp 10), none⟩,
  ⟨some 35, Go.Op.move (Go.Operand.tmp 3), none⟩,
  ⟨some 36, Go.Op.binOp Go.BinOp.lss 3 (Go.Operand.tmp 34) (Go.Operand.tmp 35) 3, none⟩]) (.cond (Go.Operand.tmp 36) (.skip) (.exit 0))) (.block 1 (.seq (.reg []
  [⟨some 37, Go.Op.move (Go.Operand.tmp 0), none⟩,
  ⟨some 38, Go.Op.move (Go.Operand.tmp 1), none⟩,
  ⟨some 39, Go.Op.call { callee := Go.Callee.value (Go.Operand.func 36), args := #[Go.Operand.tmp 37, Go.Operand.tmp 38], argTypes := #[9, 9] }, none⟩,
  ⟨some 11, Go.Op.assign (Go.Operand.tmp 39), none⟩]) (.seq (.seq (.reg []
  [⟨some 40, Go.Op.move (Go.Operand.tmp 11), none⟩,
  ⟨some 41, Go.Op.binOp Go.BinOp.lss 3 (Go.Operand.tmp 40) (Go.Operand.const (Go.Value.int Go.IntKind.i64 0)) 3, none⟩]) (.cond (Go.Operand.tmp 41) (.exit 0) (.skip))) (.seq (.reg []
  [⟨some 42, Go.Op.move (Go.Operand.tmp 9), none⟩,
  ⟨some 43, Go.Op.move (Go.Operand.tmp 10), none⟩,
  ⟨some 44, Go.Op.move (Go.Operand.tmp 0), none⟩,
  ⟨some 45, Go.Op.move (Go.Operand.tmp 11), none⟩,
  ⟨some 46, Go.Op.move (Go.Operand.tmp 2), none⟩,
  ⟨some 47, Go.Op.binOp Go.BinOp.add 3 (Go.Operand.tmp 45) (Go.Operand.tmp 46) 3, none⟩,
  ⟨some 48, Go.Op.slice 9 (Go.Operand.tmp 44) none (some (Go.Operand.tmp 47)) none, none⟩,
  ⟨some 49, Go.Op.indexAddr 40 (Go.Operand.tmp 42) (Go.Operand.tmp 43), none⟩,
  ⟨none, Go.Op.store 9 (Go.Operand.tmp 49) (Go.Operand.tmp 48), none⟩]) (.seq (.reg []
  [⟨some 50, Go.Op.move (Go.Operand.tmp 0), none⟩,
  ⟨some 51, Go.Op.move (Go.Operand.tmp 11), none⟩,
  ⟨some 52, Go.Op.move (Go.Operand.tmp 1), none⟩,
  ⟨some 53, Go.Op.call { callee := Go.Callee.builtin Go.Builtin.len, args := #[Go.Operand.tmp 52], argTypes := #[9] }, none⟩,
  ⟨some 54, Go.Op.binOp Go.BinOp.add 3 (Go.Operand.tmp 51) (Go.Operand.tmp 53) 3, none⟩,
  ⟨some 55, Go.Op.slice 9 (Go.Operand.tmp 50) (some (Go.Operand.tmp 54)) none none, none⟩,
  ⟨some 0, Go.Op.assign (Go.Operand.tmp 55), none⟩]) (.reg []
  [⟨some 56, Go.Op.move (Go.Operand.tmp 10), none⟩,
  ⟨some 57, Go.Op.binOp Go.BinOp.add 3 (Go.Operand.tmp 56) (Go.Operand.const (Go.Value.int Go.IntKind.i64 1)) 3, none⟩,
  ⟨some 10, Go.Op.assign (Go.Operand.tmp 57), none⟩]))))))))) (.seq (.reg []
  [⟨some 58, Go.Op.move (Go.Operand.tmp 9), none⟩,
  ⟨some 59, Go.Op.move (Go.Operand.tmp 10), none⟩,
  ⟨some 60, Go.Op.move (Go.Operand.tmp 0), none⟩,
  ⟨some 61, Go.Op.indexAddr 40 (Go.Operand.tmp 58) (Go.Operand.tmp 59), none⟩,
  ⟨none, Go.Op.store 9 (Go.Operand.tmp 61) (Go.Operand.tmp 60), none⟩]) (.seq (.reg []
  [⟨some 62, Go.Op.move (Go.Operand.tmp 9), none⟩,
  ⟨some 63, Go.Op.move (Go.Operand.tmp 10), none⟩,
  ⟨some 64, Go.Op.binOp Go.BinOp.add 3 (Go.Operand.tmp 63) (Go.Operand.const (Go.Value.int Go.IntKind.i64 1)) 3, none⟩,
  ⟨some 65, Go.Op.slice 40 (Go.Operand.tmp 62) none (some (Go.Operand.tmp 64)) none, none⟩,
  ⟨some 8, Go.Op.assign (Go.Operand.tmp 65), none⟩]) (.ret)))))))))))
def ms37_0 : List Nat := [0, 4, 5, 6, 7, 10, 11, 12, 13, 14, 15, 16, 17, 18, 19, 20, 21, 22, 23, 24, 25, 26, 27, 28, 29, 30, 31, 32, 33, 34, 35, 36, 37, 38, 39, 40, 41, 42, 43, 44, 45, 46, 47, 48, 49, 50, 51, 52, 53, 54, 55, 56, 57]
def mj37_0 : List Nat := [4, 5, 6, 7, 8, 12, 13]
def mj37_1 : List Nat := [4, 5, 6, 7, 8, 12, 13, 14, 15, 16, 17, 18]
def mj37_2 : List Nat := [3, 4, 5, 6, 7, 12, 13, 14, 15, 16, 17, 18, 19, 20, 21, 22, 23, 24]
def mj37_3 : List Nat := [4, 5, 6, 7, 12, 13, 14, 15, 16, 17, 18, 19, 20, 21, 22, 23, 24, 25, 26, 27, 28, 29, 30, 31, 32, 33]
def mj37_4 : List Nat := [4, 5, 6, 7, 12, 13, 14, 15, 16, 17, 18, 19, 20, 21, 22, 23, 24, 25, 26, 27, 28, 29, 30, 31, 32, 33]
theorem ls37 : Tryd.f37.body.map (strip Tryd.prog impCodA) = some lc37 := by kernel_rfl
theorem lcall37 {args : List AV} (hargs : args.length ≤ 66) {H0 : AHeap} (lo : Nat) (hlo : H0.length ≤ lo) {r0 : AV} {H0' : AHeap}
    (h : lavc Tryd.prog glob lc37 (args ++ List.replicate (66 - args.length) (.v undef)) H0 fun e t H => (e = .normal ∨ e = .ret) ∧ aret Tryd.prog t H [Go.ResultVar.tmp 8] fun r => Fin lo H r r0 H0') :
    ACall Tryd.prog glob (H0.length == 0) 37 args H0 r0 H0' := LCall' ctx Tryd.func37 (by kernel_rfl) ls37 (by kernel_rfl) (by kernel_rfl) hargs lo hlo h
theorem lcallk37 {args : List AV} (hargs : args.length ≤ 66) {H0 : AHeap} {r0 : AV} {H0' : AHeap}
    (h : lavc Tryd.prog glob lc37 (args ++ List.replicate (66 - args.length) (.v undef)) H0 fun e t H => (e = .normal ∨ e = .ret) ∧ aret Tryd.prog t H [Go.ResultVar.tmp 8] fun r => r = r0 ∧ H = H0') :
    ACall Tryd.prog glob false 37 args H0 r0 H0' := LCallK' ctx Tryd.func37 (by kernel_rfl) ls37 (by kernel_rfl) (by kernel_rfl) hargs h
/-- internal/stringslite.Index -/
def lc40 : LCode := .seq (.reg []
  [⟨some 4, Go.Op.assign (Go.Operand.const (Go.Value.int Go.IntKind.i64 0)), none⟩]) (.seq (.reg []
  [⟨some 14, Go.Op.move (Go.Operand.tmp 1), none⟩,
  ⟨some 15, Go.Op.call { callee := Go.Callee.builtin Go.Builtin.len, args := #[Go.Operand.tmp 14], argTypes := #[9] }, none⟩,
  ⟨some 5, Go.Op.assign (Go.Operand.tmp 15), none⟩]) (.seq (.block 0 (.seq (.reg []
  [⟨some 17, Go.Op.move (Go.Operand.tmp 5), none⟩,
  ⟨some 18, Go.Op.binOp Go.BinOp.eql 3 (Go.Operand.tmp 17) (Go.Operand.const (Go.Value.int Go.IntKind.i64 0)) 3, none⟩,
  ⟨some 19, Go.Op.move (Go.Operand.tmp 18), none⟩,
  ⟨some 20, Go.Op.move (Go.Operand.tmp 1), (some (19, false))⟩,
  ⟨some 21, Go.Op.move (Go.Operand.tmp 0), (some (19, false))⟩,
  ⟨some 22, Go.Op.binOp Go.BinOp.eql 9 (Go.Operand.tmp 20) (Go.Operand.tmp 21) 9, (some (19, false))⟩,
  ⟨some 23, Go.Op.pick (Go.Operand.tmp 19) (Go.Operand.const (Go.Value.bool true)) (Go.Operand.tmp 22), none⟩,
  ⟨some 16, Go.Op.assign (Go.Operand.tmp 23), none⟩]) (.cond (Go.Operand.tmp 16) (.seq (.reg []
  [⟨some 4, Go.Op.assign (Go.Operand.const (Go.Value.int Go.IntKind.i64 0)), none⟩]) (.ret)) (.seq (.reg []
  [⟨some 25, Go.Op.move (Go.Operand.tmp 5), none⟩,
  ⟨some 26, Go.Op.binOp Go.BinOp.eql 3 (Go.Operand.tmp 25) (Go.Operand.const (Go.Value.int Go.IntKind.i64 1)) 3, none⟩,
  ⟨some 24, Go.Op.assign (Go.Operand.tmp 26), none⟩]) (.cond (Go.Operand.tmp 24) (.seq (.reg []
  [⟨some 27, Go.Op.move (Go.Operand.tmp 0), none⟩,
  ⟨some 28, Go.Op.move (Go.Operand.tmp 1), none⟩,
  ⟨some 29, Go.Op.index 9 (Go.Operand.tmp 28) (Go.Operand.const (Go.Value.int Go.IntKind.i64 0)), none⟩,
  ⟨some 30, Go.Op.call { callee := Go.Callee.value (Go.Operand.func 43), args := #[Go.Operand.tmp 27, Go.Operand.tmp 29], argTypes := #[9, 5] }, none⟩,
  ⟨some 4, Go.Op.assign (Go.Operand.tmp 30), none⟩]) (.ret)) (.seq (.reg []
  [⟨some 32, Go.Op.move (Go.Operand.tmp 5), none⟩,
  ⟨some 33, Go.Op.move (Go.Operand.tmp 0), none⟩,
  ⟨some 34, Go.Op.call { callee := Go.Callee.builtin Go.Builtin.len, args := #[Go.Operand.tmp 33], argTypes := #[9] }, none⟩,
  ⟨some 35, Go.Op.binOp Go.BinOp.geq 3 (Go.Operand.tmp 32) (Go.Operand.tmp 34) 3, none⟩,
  ⟨some 31, Go.Op.assign (Go.Operand.tmp 35), none⟩]) (.cond (Go.Operand.tmp 31) (.seq (.reg []
  [⟨some 4, Go.Op.assign (Go.Operand.const (Go.Value.int Go.IntKind.i64 (-1))), none⟩]) (.ret)) (.seq (.reg []
  [⟨some 37, Go.Op.move (Go.Operand.tmp 5), none⟩,
  ⟨some 38, Go.Op.load 3 (Go.Operand.global 1), none⟩,
  ⟨some 39, Go.Op.binOp Go.BinOp.leq 3 (Go.Operand.tmp 37) (Go.Operand.tmp 38) 3, none⟩,
  ⟨some 40, Go.Op.move (Go.Operand.tmp 39), none⟩,
  ⟨some 41, Go.Op.move (Go.Operand.tmp 0), (some (40, true))⟩,
  ⟨some 42, Go.Op.call { callee := Go.Callee.builtin Go.Builtin.len, args := #[Go.Operand.tmp 41], argTypes := #[9] }, (some (40, true))⟩,
  ⟨some 43, Go.Op.binOp Go.BinOp.leq 3 (Go.Operand.tmp 42) (Go.Operand.const (Go.Value.int Go.IntKind.i64 64)) 3, (some (40, true))⟩,
  ⟨some 44, Go.Op.pick (Go.Operand.tmp 40) (Go.Operand.tmp 43) (Go.Operand.const (Go.Value.bool false)), none⟩,
  ⟨some 36, Go.Op.assign (Go.Operand.tmp 44), none⟩]) (.cond (Go.Operand.tmp 36) (.seq (.reg []
  [⟨some 45, Go.Op.move (Go.Operand.tmp 0), none⟩,
  ⟨some 46, Go.Op.move (Go.Operand.tmp 1), none⟩,
  ⟨some 47, Go.Op.call { callee := Go.Callee.value (Go.Operand.func 44), args := #[Go.Operand.tmp 45, Go.Operand.tmp 46], argTypes := #[9, 9] }, none⟩,
  ⟨some 4, Go.Op.assign (Go.Operand.tmp 47), none⟩]) (.ret)) (.skip)))))))))) (.seq (.reg []
  [⟨some 48, Go.Op.move (Go.Operand.tmp 1), none⟩,
  ⟨some 49, Go.Op.index 9 (Go.Operand.tmp 48) (Go.Operand.const (Go.Value.int Go.IntKind.i64 0)), none⟩,
  ⟨some 6, Go.Op.assign (Go.Operand.tmp 49), none⟩]) (.seq (.reg []
  [⟨some 50, Go.Op.move (Go.Operand.tmp 1), none⟩,
  ⟨some 51, Go.Op.index 9 (Go.Operand.tmp 50) (Go.Operand.const (Go.Value.int Go.IntKind.i64 1)), none⟩,
  ⟨some 7, Go.Op.assign (Go.Operand.tmp 51), none⟩]) (.seq (.reg []
  [⟨some 8, Go.Op.assign (Go.Operand.const (Go.Value.int Go.IntKind.i64 0)), none⟩]) (.seq (.reg []
  [⟨some 52, Go.Op.move (Go.Operand.tmp 0), none⟩,
  ⟨some 53, Go.Op.call { callee := Go.Callee.builtin Go.Builtin.len, args := #[Go.Operand.tmp 52], argTypes := #[9] }, none⟩,
  ⟨some 54, Go.Op.move (Go.Operand.tmp 5), none⟩,
  ⟨some 55, Go.Op.binOp Go.BinOp.sub 3 (Go.Operand.tmp 53) (Go.Operand.tmp 54) 3, none⟩,
  ⟨some 56, Go.Op.binOp Go.BinOp.add 3 (Go.Operand.tmp 55) (Go.Operand.const (Go.Value.int Go.IntKind.i64 1)) 3, none⟩,
  ⟨some 9, Go.Op.assign (Go.Operand.tmp 56), none⟩]) (.seq (.reg []
  [⟨some 10, Go.Op.assign (Go.Operand.const (Go.Value.int Go.IntKind.i64 0)), none⟩]) (.seq (.block 1 (.loop (.seq (.seq (.reg []
  [⟨some 57, Go.Op.move (Go.Operand.tmp 8), none⟩,
  ⟨some 58, Go.Op.move (Go.Operand.tmp 9), none⟩,
  ⟨some 59, Go.Op.binOp Go.BinOp.lss 3 (Go.Operand.tmp 57) (Go.Operand.tmp 58) 3, none⟩]) (.cond (Go.Operand.tmp 59) (.skip) (.exit 1))) (.block 2 (.seq (.seq (.reg []
  [⟨some 60, Go.Op.move (Go.Operand.tmp 0), none⟩,
  ⟨some 61, Go.Op.move (Go.Operand.tmp 8), none⟩,
  ⟨some 62, Go.Op.index 9 (Go.Operand.tmp 60) (Go.Operand.tmp 61), none⟩,
  ⟨some 63, Go.Op.move (Go.Operand.tmp 6), none⟩,
  ⟨some 64, Go.Op.binOp Go.BinOp.neq 5 (Go.Operand.tmp 62) (Go.Operand.tmp 63) 5, none⟩]) (.cond (Go.Operand.tmp 64) (.seq (.reg []
  [⟨some 65, Go.Op.move (Go.Operand.tmp 0), none⟩,
  ⟨some 66, Go.Op.move (Go.Operand.tmp 8), none⟩,
  ⟨some 67, Go.Op.binOp Go.BinOp.add 3 (Go.Operand.tmp 66) (Go.Operand.const (Go.Value.int Go.IntKind.i64 1)) 3, none⟩,
  ⟨some 68, Go.Op.move (Go.Operand.tmp 9), none⟩,
  ⟨some 69, Go.Op.slice 9 (Go.Operand.tmp 65) (some (Go.Operand.tmp 67)) (some (Go.Operand.tmp 68)) none, none⟩,
  ⟨some 70, Go.Op.move (Go.Operand.tmp 6), none⟩,
  ⟨some 71, Go.Op.call { callee := Go.Callee.value (Go.Operand.func 43), args := #[Go.Operand.tmp 69, Go.Operand.tmp 70], argTypes := #[9, 5] }, none⟩,
  ⟨some 11, Go.Op.assign (Go.Operand.tmp 71), none⟩]) (.seq (.seq (.reg []
  [⟨some 72, Go.Op.move (Go.Operand.tmp 11), none⟩,
  ⟨some 73, Go.Op.binOp Go.BinOp.lss 3 (Go.Operand.tmp 72) (Go.Operand.const (Go.Value.int Go.IntKind.i64 0)) 3, none⟩]) (.cond (Go.Operand.tmp 73) (.seq (.reg []
  [⟨some 4, Go.Op.assign (Go.Operand.const (Go.Value.int Go.IntKind.i64 (-1))), none⟩]) (.ret)) (.skip))) (.reg []
  [⟨some 74, Go.Op.move (Go.Operand.tmp 8), none⟩,
  ⟨some 75, Go.Op.move (Go.Operand.tmp 11), none⟩,
  ⟨some 76, Go.Op.binOp Go.BinOp.add 3 (Go.Operand.tmp 75) (Go.Operand.const (Go.Value.int Go.IntKind.i64 1)) 3, none⟩,
  ⟨some 77, Go.Op.binOp Go.BinOp.add 3 (Go.Operand.tmp 74) (Go.Operand.tmp 76) 3, none⟩,
  ⟨some 8, Go.Op.assign (Go.Operand.tmp 77), none⟩]))) (.skip))) (.seq (.seq (.reg []
  [⟨some 78, Go.Op.move (Go.Operand.tmp 0), none⟩,
  ⟨some 79, Go.Op.move (Go.Operand.tmp 8), none⟩,
  ⟨some 80, Go.Op.binOp Go.BinOp.add 3 (Go.Operand.tmp 79) (Go.Operand.const (Go.Value.int Go.IntKind.i64 1)) 3, none⟩,
  ⟨some 81, Go.Op.index 9 (Go.Operand.tmp 78) (Go.Operand.tmp 80), none⟩,
  ⟨some 82, Go.Op.move (Go.Operand.tmp 7), none⟩,
  ⟨some 83, Go.Op.binOp Go.BinOp.eql 5 (Go.Operand.tmp 81) (Go.Operand.tmp 82) 5, none⟩,
  ⟨some 84, Go.Op.move (Go.Operand.tmp 83), none⟩,
  ⟨some 85, Go.Op.move (Go.Operand.tmp 0), (some (84, true))⟩,
  ⟨some 86, Go.Op.move (Go.Operand.tmp 8), (some (84, true))⟩,
  ⟨some 87, Go.Op.move (Go.Operand.tmp 8), (some (84, true))⟩,
  ⟨some 88, Go.Op.move (Go.Operand.tmp 5), (some (84, true))⟩,
  ⟨some 89, Go.Op.binOp Go.BinOp.add 3 (Go.Operand.tmp 87) (Go.Operand.tmp 88) 3, (some (84, true))⟩,
  ⟨some 90, Go.Op.slice 9 (Go.Operand.tmp 85) (some (Go.Operand.tmp 86)) (some (Go.Operand.tmp 89)) none, (some (84, true))⟩,
  ⟨some 91, Go.Op.move (Go.Operand.tmp 1), (some (84, true))⟩,
  ⟨some 92, Go.Op.binOp Go.BinOp.eql 9 (Go.Operand.tmp 90) (Go.Operand.tmp 91) 9, (some (84, true))⟩,
  ⟨some 93, Go.Op.pick (Go.Operand.tmp 84) (Go.Operand.tmp 92) (Go.Operand.const (Go.Value.bool false)), none⟩]) (.cond (Go.Operand.tmp 93) (.seq (.reg []
  [⟨some 94, Go.Op.move (Go.Operand.tmp 8), none⟩,
  ⟨some 4, Go.Op.assign (Go.Operand.tmp 94), none⟩]) (.ret)) (.skip))) (.seq (.reg []
  [⟨some 95, Go.Op.move (Go.Operand.tmp 8), none⟩,
  ⟨some 96, Go.Op.binOp Go.BinOp.add 3 (Go.Operand.tmp 95) (Go.Operand.const (Go.Value.int Go.IntKind.i64 1)) 3, none⟩,
  ⟨some 8, Go.Op.assign (Go.Operand.tmp 96), none⟩]) (.seq (.reg []
  [⟨some 97, Go.Op.move (Go.Operand.tmp 10), none⟩,
  ⟨some 98, Go.Op.binOp Go.BinOp.add 3 (Go.Operand.tmp 97) (Go.Operand.const (Go.Value.int Go.IntKind.i64 1)) 3, none⟩,
  ⟨some 10, Go.Op.assign (Go.Operand.tmp 98), none⟩]) (.seq (.reg []
  [⟨some 99, Go.Op.move (Go.Operand.tmp 5), none⟩,
  ⟨some 100, Go.Op.load 3 (Go.Operand.global 1), none⟩,
  ⟨some 101, Go.Op.binOp Go.BinOp.leq 3 (Go.Operand.tmp 99) (Go.Operand.tmp 100) 3, none⟩,
  ⟨some 102, Go.Op.move (Go.Operand.tmp 101), none⟩,
  ⟨some 103, Go.Op.move (Go.Operand.tmp 10), (some (102, true))⟩,
  ⟨some 104, Go.Op.move (Go.Operand.tmp 8), (some (102, true))⟩,
  ⟨some 105, Go.Op.call { callee := Go.Callee.value (Go.Operand.func 45), args := #[Go.Operand.tmp 104], argTypes := #[3] }, (some (102, true))⟩,
  ⟨some 106, Go.Op.binOp Go.BinOp.gtr 3 (Go.Operand.tmp 103) (Go.Operand.tmp 105) 3, (some (102, true))⟩,
  ⟨some 107, Go.Op.pick (Go.Operand.tmp 102) (Go.Operand.tmp 106) (Go.Operand.const (Go.Value.bool false)), none⟩]) (.cond (Go.Operand.tmp 107) (.seq (.reg []
  [⟨some 108, Go.Op.move (Go.Operand.tmp 0), none⟩,
  ⟨some 109, Go.Op.move (Go.Operand.tmp 8), none⟩,
  ⟨some 110, Go.Op.slice 9 (Go.Operand.tmp 108) (some (Go.Operand.tmp 109)) none none, none⟩,
  ⟨some 111, Go.Op.move (Go.Operand.tmp 1), none⟩,
  ⟨some 112, Go.Op.call { callee := Go.Callee.value (Go.Operand.func 44), args := #[Go.Operand.tmp 110, Go.Operand.tmp 111], argTypes := #[9, 9] }, none⟩,
  ⟨some 12, Go.Op.assign (Go.Operand.tmp 112), none⟩]) (.seq (.seq (.reg []
  [⟨some 113, Go.Op.move (Go.Operand.tmp 12), none⟩,
  ⟨some 114, Go.Op.binOp Go.BinOp.geq 3 (Go.Operand.tmp 113) (Go.Operand.const (Go.Value.int Go.IntKind.i64 0)) 3, none⟩]) (.cond (Go.Operand.tmp 114) (.seq (.reg []
  [⟨some 115, Go.Op.move (Go.Operand.tmp 12), none⟩,
  ⟨some 116, Go.Op.move (Go.Operand.tmp 8), none⟩,
  ⟨some 117, Go.Op.binOp Go.BinOp.add 3 (Go.Operand.tmp 115) (Go.Operand.tmp 116) 3, none⟩,
  ⟨some 4, Go.Op.assign (Go.Operand.tmp 117), none⟩]) (.ret)) (.skip))) (.seq (.reg []
  [⟨some 4, Go.Op.assign (Go.Operand.const (Go.Value.int Go.IntKind.i64 (-1))), none⟩]) (.ret)))) (.seq (.reg []
  [⟨some 118, Go.Op.move (Go.Operand.tmp 5), none⟩,
  ⟨some 119, Go.Op.load 3 (Go.Operand.global 1), none⟩,
  ⟨some 120, Go.Op.binOp Go.BinOp.gtr 3 (Go.Operand.tmp 118) (Go.Operand.tmp 119) 3, none⟩,
  ⟨some 121, Go.Op.move (Go.Operand.tmp 120), none⟩,
  ⟨some 122, Go.Op.move (Go.Operand.tmp 10), (some (121, true))⟩,
  ⟨some 123, Go.Op.move (Go.Operand.tmp 8), (some (121, true))⟩,
  ⟨some 124, Go.Op.binOp Go.BinOp.shr 3 (Go.Operand.tmp 123) (Go.Operand.const (Go.Value.int Go.IntKind.u64 4)) 54, (some (121, true))⟩,
  ⟨some 125, Go.Op.binOp Go.BinOp.add 3 (Go.Operand.const (Go.Value.int Go.IntKind.i64 4)) (Go.Operand.tmp 124) 3, (some (121, true))⟩,
  ⟨some 126, Go.Op.binOp Go.BinOp.geq 3 (Go.Operand.tmp 122) (Go.Operand.tmp 125) 3, (some (121, true))⟩,
  ⟨some 127, Go.Op.pick (Go.Operand.tmp 121) (Go.Operand.tmp 126) (Go.Operand.const (Go.Value.bool false)), none⟩,
  ⟨some 128, Go.Op.move (Go.Operand.tmp 127), none⟩,
  ⟨some 129, Go.Op.move (Go.Operand.tmp 8), (some (128, true))⟩,
  ⟨some 130, Go.Op.move (Go.Operand.tmp 9), (some (128, true))⟩,
  ⟨some 131, Go.Op.binOp Go.BinOp.lss 3 (Go.Operand.tmp 129) (Go.Operand.tmp 130) 3, (some (128, true))⟩,
  ⟨some 132, Go.Op.pick (Go.Operand.tmp 128) (Go.Operand.tmp 131) (Go.Operand.const (Go.Value.bool false)), none⟩]) (.cond (Go.Operand.tmp 132) (.seq (.reg []
  [⟨some 133, Go.Op.move (Go.Operand.tmp 0), none⟩,
  ⟨some 134, Go.Op.move (Go.Operand.tmp 8), none⟩,
  ⟨some 135, Go.Op.slice 9 (Go.Operand.tmp 133) (some (Go.Operand.tmp 134)) none none, none⟩,
  ⟨some 136, Go.Op.move (Go.Operand.tmp 1), none⟩,
  ⟨some 137, Go.Op.call { callee := Go.Callee.value (Go.Operand.func 46), args := #[Go.Operand.tmp 135, Go.Operand.tmp 136], argTypes := #[9, 9] }, none⟩,
  ⟨some 13, Go.Op.assign (Go.Operand.tmp 137), none⟩]) (.seq (.seq (.reg []
  [⟨some 138, Go.Op.move (Go.Operand.tmp 13), none⟩,
  ⟨some 139, Go.Op.binOp Go.BinOp.lss 3 (Go.Operand.tmp 138) (Go.Operand.const (Go.Value.int Go.IntKind.i64 0)) 3, none⟩]) (.cond (Go.Operand.tmp 139) (.seq (.reg []
  [⟨some 4, Go.Op.assign (Go.Operand.const (Go.Value.int Go.IntKind.i64 (-1))), none⟩]) (.ret)) (.skip))) (.seq (.reg []
  [⟨some 140, Go.Op.move (Go.Operand.tmp 8), none⟩,
  ⟨some 141, Go.Op.move (Go.Operand.tmp 13), none⟩,
  ⟨some 142, Go.Op.binOp Go.BinOp.add 3 (Go.Operand.tmp 140) (Go.Operand.tmp 141) 3, none⟩,
  ⟨some 4, Go.Op.assign (Go.Operand.tmp 142), none⟩]) (.ret)))) (.skip))))))))))))) (.seq (.reg []
  [⟨some 4, Go.Op.assign (Go.Operand.const (Go.Value.int Go.IntKind.i64 (-1))), none⟩]) (.ret))))))))))
def ms40_0 : List Nat := [2, 3, 4, 8, 10, 11, 12, 13, 14, 15, 16, 17, 18, 19, 20, 21, 22, 23, 24, 25, 26, 27, 28, 29, 30, 31, 32, 33, 34, 35, 36, 37, 38, 39, 40, 41, 42, 43, 44, 45, 46, 47, 48, 49, 50, 51, 52, 53, 54, 55, 56, 57, 58, 59, 60, 61, 62, 63, 64, 65, 66, 67, 68, 69, 70, 71, 72, 73, 74, 75, 76, 77, 78, 79, 80, 81, 82, 83, 84, 85, 86, 87, 88, 89, 90, 91, 92, 93, 94, 95, 96, 97, 98, 99, 100, 101, 102, 103, 104, 105, 106, 107, 108, 109, 110, 111, 112, 113, 114, 115, 116, 117, 118, 119, 120, 121, 122, 123, 124, 125, 126, 127, 128, 129, 130, 131, 132, 133, 134, 135, 136, 137, 138, 139, 140, 141, 142]
def mj40_0 : List Nat := [2, 3, 4, 14, 15, 16, 17, 18, 19, 20, 21, 22, 23, 24, 25, 26, 27, 28, 29, 30, 31, 32, 33, 34, 35, 36, 37, 38, 39, 40, 41, 42, 43, 44, 45, 46, 47]
def mj40_1 : List Nat := [2, 3, 4, 14, 15, 16, 17, 18, 19, 20, 21, 22, 23, 24, 25, 26, 27, 28, 29, 30, 31, 32, 33, 34, 35, 36, 37, 38, 39, 40, 41, 42, 43, 44, 45, 46, 47]
def mj40_2 : List Nat := [2, 3, 4, 14, 15, 16, 17, 18, 19, 20, 21, 22, 23, 24, 25, 26, 27, 28, 29, 30, 31, 32, 33, 34, 35, 36, 37, 38, 39, 40, 41, 42, 43, 44, 45, 46, 47]
def mj40_3 : List Nat := [2, 3, 4, 14, 15, 16, 17, 18, 19, 20, 21, 22, 23, 24, 25, 26, 27, 28, 29, 30, 31, 32, 33, 34, 35, 36, 37, 38, 39, 40, 41, 42, 43, 44, 45, 46, 47]
def mj40_4 : List Nat := [2, 3, 14, 15, 16, 17, 18, 19, 20, 21, 22, 23, 24, 25, 26, 27, 28, 29, 30, 31, 32, 33, 34, 35, 36, 37, 38, 39, 40, 41, 42, 43, 44, 45, 46, 47, 48, 49, 50, 51, 52, 53, 54, 55, 56]
def mj40_5 : List Nat := [2, 3, 4, 8, 11, 14, 15, 16, 17, 18, 19, 20, 21, 22, 23, 24, 25, 26, 27, 28, 29, 30, 31, 32, 33, 34, 35, 36, 37, 38, 39, 40, 41, 42, 43, 44, 45, 46, 47, 48, 49, 50, 51, 52, 53, 54, 55, 56, 65, 66, 67, 68, 69, 70, 71, 72, 73, 74, 75, 76, 77]
def mj40_6 : List Nat := [2, 3, 4, 14, 15, 16, 17, 18, 19, 20, 21, 22, 23, 24, 25, 26, 27, 28, 29, 30, 31, 32, 33, 34, 35, 36, 37, 38, 39, 40, 41, 42, 43, 44, 45, 46, 47, 48, 49, 50, 51, 52, 53, 54, 55, 56]
def mj40_7 : List Nat := [2, 3, 4, 14, 15, 16, 17, 18, 19, 20, 21, 22, 23, 24, 25, 26, 27, 28, 29, 30, 31, 32, 33, 34, 35, 36, 37, 38, 39, 40, 41, 42, 43, 44, 45, 46, 47, 48, 49, 50, 51, 52, 53, 54, 55, 56, 94]
def mj40_8 : List Nat := [2, 3, 4, 12, 13, 14, 15, 16, 17, 18, 19, 20, 21, 22, 23, 24, 25, 26, 27, 28, 29, 30, 31, 32, 33, 34, 35, 36, 37, 38, 39, 40, 41, 42, 43, 44, 45, 46, 47, 48, 49, 50, 51, 52, 53, 54, 55, 56, 108, 109, 110, 111, 112, 113, 114, 115, 116, 117, 118, 119, 120, 121, 122, 123, 124, 125, 126, 127, 128, 129, 130, 131, 132, 133, 134, 135, 136, 137, 138, 139, 140, 141, 142]
def mj40_9 : List Nat := [2, 3, 4, 14, 15, 16, 17, 18, 19, 20, 21, 22, 23, 24, 25, 26, 27, 28, 29, 30, 31, 32, 33, 34, 35, 36, 37, 38, 39, 40, 41, 42, 43, 44, 45, 46, 47, 48, 49, 50, 51, 52, 53, 54, 55, 56, 115, 116, 117]
def mj40_10 : List Nat := [2, 3, 4, 13, 14, 15, 16, 17, 18, 19, 20, 21, 22, 23, 24, 25, 26, 27, 28, 29, 30, 31, 32, 33, 34, 35, 36, 37, 38, 39, 40, 41, 42, 43, 44, 45, 46, 47, 48, 49, 50, 51, 52, 53, 54, 55, 56, 133, 134, 135, 136, 137, 138, 139, 140, 141, 142]
def mj40_11 : List Nat := [2, 3, 4, 14, 15, 16, 17, 18, 19, 20, 21, 22, 23, 24, 25, 26, 27, 28, 29, 30, 31, 32, 33, 34, 35, 36, 37, 38, 39, 40, 41, 42, 43, 44, 45, 46, 47, 48, 49, 50, 51, 52, 53, 54, 55, 56]
theorem ls40 : Tryd.f40.body.map (strip Tryd.prog impCodA) = some lc40 := by kernel_rfl
theorem lcall40 {args : List AV} (hargs : args.length ≤ 143) {H0 : AHeap} (lo : Nat) (hlo : H0.length ≤ lo) {r0 : AV} {H0' : AHeap}
    (h : lavc Tryd.prog glob lc40 (args ++ List.replicate (143 - args.length) (.v undef)) H0 fun e t H => (e = .normal ∨ e = .ret) ∧ aret Tryd.prog t H [Go.ResultVar.tmp 4] fun r => Fin lo H r r0 H0') :
    ACall Tryd.prog glob (H0.length == 0) 40 args H0 r0 H0' := LCall' ctx Tryd.func40 (by kernel_rfl) ls40 (by kernel_rfl) (by kernel_rfl) hargs lo hlo h
theorem lcallk40 {args : List AV} (hargs : args.length ≤ 143) {H0 : AHeap} {r0 : AV} {H0' : AHeap}
    (h : lavc Tryd.prog glob lc40 (args ++ List.replicate (143 - args.length) (.v undef)) H0 fun e t H => (e = .normal ∨ e = .ret) ∧ aret Tryd.prog t H [Go.ResultVar.tmp 4] fun r => r = r0 ∧ H = H0') :
    ACall Tryd.prog glob false 40 args H0 r0 H0' := LCallK' ctx Tryd.func40 (by kernel_rfl) ls40 (by kernel_rfl) (by kernel_rfl) hargs h
/-- internal/stringslite.IndexByte -/
def lc43 : LCode := .seq (.reg []
  [⟨some 4, Go.Op.assign (Go.Operand.const (Go.Value.int Go.IntKind.i64 0)), none⟩]) (.seq (.reg []
  [⟨some 5, Go.Op.move (Go.Operand.tmp 0), none⟩,
  ⟨some 6, Go.Op.move (Go.Operand.tmp 1), none⟩,
  ⟨some 7, Go.Op.call { callee := Go.Callee.value (Go.Operand.func 48), args := #[Go.Operand.tmp 5, Go.Operand.tmp 6], argTypes := #[9, 5] }, none⟩,
  ⟨some 4, Go.Op.assign (Go.Operand.tmp 7), none⟩]) (.ret))
theorem ls43 : Tryd.f43.body.map (strip Tryd.prog impCodA) = some lc43 := by kernel_rfl
theorem lcall43 {args : List AV} (hargs : args.length ≤ 8) {H0 : AHeap} (lo : Nat) (hlo : H0.length ≤ lo) {r0 : AV} {H0' : AHeap}
    (h : lavc Tryd.prog glob lc43 (args ++ List.replicate (8 - args.length) (.v undef)) H0 fun e t H => (e = .normal ∨ e = .ret) ∧ aret Tryd.prog t H [Go.ResultVar.tmp 4] fun r => Fin lo H r r0 H0') :
    ACall Tryd.prog glob (H0.length == 0) 43 args H0 r0 H0' := LCall' ctx Tryd.func43 (by kernel_rfl) ls43 (by kernel_rfl) (by kernel_rfl) hargs lo hlo h
theorem lcallk43 {args : List AV} (hargs : args.length ≤ 8) {H0 : AHeap} {r0 : AV} {H0' : AHeap}
    (h : lavc Tryd.prog glob lc43 (args ++ List.replicate (8 - args.length) (.v undef)) H0 fun e t H => (e = .normal ∨ e = .ret) ∧ aret Tryd.prog t H [Go.ResultVar.tmp 4] fun r => r = r0 ∧ H = H0') :
    ACall Tryd.prog glob false 43 args H0 r0 H0' := LCallK' ctx Tryd.func43 (by kernel_rfl) ls43 (by kernel_rfl) (by kernel_rfl) hargs h
/-- escutcheon/escutcheonlaw01.CoinUnpacks -/
def lc7 : LCode := .seq (.reg []
  [⟨some 2, Go.Op.assign (Go.Operand.const (Go.Value.bool false)), none⟩]) (.seq (.seq (.reg []
  [⟨some 7, Go.Op.call { callee := Go.Callee.value (Go.Operand.func 10), args := #[], argTypes := #[] }, none⟩,
  ⟨some 8, Go.Op.unOp Go.UnOp.not 4 (Go.Operand.tmp 7), none⟩,
  ⟨some 9, Go.Op.move (Go.Operand.tmp 8), none⟩,
  ⟨some 10, Go.Op.move (Go.Operand.tmp 0), (some (9, false))⟩,
  ⟨some 11, Go.Op.call { callee := Go.Callee.builtin Go.Builtin.len, args := #[Go.Operand.tmp 10], argTypes := #[22] }, (some (9, false))⟩,
  ⟨some 12, Go.Op.binOp Go.BinOp.gtr 3 (Go.Operand.tmp 11) (Go.Operand.const (Go.Value.int Go.IntKind.i64 400)) 3, (some (9, false))⟩,
  ⟨some 13, Go.Op.pick (Go.Operand.tmp 9) (Go.Operand.const (Go.Value.bool true)) (Go.Operand.tmp 12), none⟩]) (.cond (Go.Operand.tmp 13) (.seq (.reg []
  [⟨some 14, Go.Op.call { callee := Go.Callee.value (Go.Operand.func 10), args := #[], argTypes := #[] }, none⟩,
  ⟨some 2, Go.Op.assign (Go.Operand.tmp 14), none⟩]) (.ret)) (.skip))) (.seq (.reg []
  [⟨some 16, Go.Op.move (Go.Operand.tmp 0), none⟩,
  ⟨some 17, Go.Op.call { callee := Go.Callee.value (Go.Operand.func 15), args := #[Go.Operand.tmp 16], argTypes := #[22] }, none⟩,
  ⟨some 15, Go.Op.move (Go.Operand.tmp 17), none⟩,
  ⟨some 18, Go.Op.extract (Go.Operand.tmp 15) 0, none⟩,
  ⟨some 19, Go.Op.extract (Go.Operand.tmp 15) 1, none⟩,
  ⟨some 3, Go.Op.assign (Go.Operand.tmp 18), none⟩,
  ⟨some 4, Go.Op.assign (Go.Operand.tmp 19), none⟩]) (.seq (.reg []
  [⟨some 21, Go.Op.move (Go.Operand.tmp 0), none⟩,
  ⟨some 22, Go.Op.call { callee := Go.Callee.value (Go.Operand.func 17), args := #[Go.Operand.tmp 21], argTypes := #[22] }, none⟩,
  ⟨some 20, Go.Op.move (Go.Operand.tmp 22), none⟩,
  ⟨some 23, Go.Op.extract (Go.Operand.tmp 20) 0, none⟩,
  ⟨some 24, Go.Op.extract (Go.Operand.tmp 20) 1, none⟩,
  ⟨some 5, Go.Op.assign (Go.Operand.tmp 23), none⟩,
  ⟨some 6, Go.Op.assign (Go.Operand.tmp 24), none⟩]) (.seq (.reg [⟨some 25, Go.Op.move (Go.Operand.tmp 4), none⟩,
  ⟨some 26, Go.Op.move (Go.Operand.tmp 6), none⟩,
  ⟨some 27, Go.Op.binOp Go.BinOp.eql 3 (Go.Operand.tmp 25) (Go.Operand.tmp 26) 3, none⟩,
  ⟨some 28, Go.Op.move (Go.Operand.tmp 27), none⟩,
  ⟨some 29, Go.Op.move (Go.Operand.tmp 3), (some (28, true))⟩,
  ⟨some 30, Go.Op.move (Go.Operand.tmp 5), (some (28, true))⟩,
  ⟨some 31, Go.Op.call { callee := Go.Callee.value (Go.Operand.func 14), args := #[Go.Operand.tmp 29, Go.Operand.tmp 30], argTypes := #[27, 27] }, (some (28, true))⟩,
  ⟨some 32, Go.Op.pick (Go.Operand.tmp 28) (Go.Operand.tmp 31) (Go.Operand.const (Go.Value.bool false)), none⟩,
  ⟨some 33, Go.Op.move (Go.Operand.tmp 32), none⟩,
  ⟨some 34, Go.Op.move (Go.Operand.tmp 6), (some (33, true))⟩,
  ⟨some 35, Go.Op.binOp Go.BinOp.neq 3 (Go.Operand.tmp 34) (Go.Operand.const (Go.Value.int Go.IntKind.i64 0)) 3, (some (33, true))⟩,
  ⟨some 36, Go.Op.move (Go.Operand.tmp 35), (some (33, true))⟩,
  ⟨some 37, Go.Op.move (Go.Operand.tmp 3), (some (36, false))⟩,
  ⟨some 38, Go.Op.call { callee := Go.Callee.value (Go.Operand.func 13), args := #[Go.Operand.tmp 37], argTypes := #[27] }, (some (36, false))⟩,
  ⟨some 39, Go.Op.convert 22 9 (Go.Operand.tmp 38), (some (36, false))⟩,
  ⟨some 40, Go.Op.move (Go.Operand.tmp 0), (some (36, false))⟩,
  ⟨some 41, Go.Op.convert 22 9 (Go.Operand.tmp 40), (some (36, false))⟩,
  ⟨some 42, Go.Op.binOp Go.BinOp.eql 9 (Go.Operand.tmp 39) (Go.Operand.tmp 41) 9, (some (36, false))⟩,
  ⟨some 43, Go.Op.pick (Go.Operand.tmp 36) (Go.Operand.const (Go.Value.bool true)) (Go.Operand.tmp 42), (some (33, true))⟩,
  ⟨some 44, Go.Op.pick (Go.Operand.tmp 33) (Go.Operand.tmp 43) (Go.Operand.const (Go.Value.bool false)), none⟩,
  ⟨some 2, Go.Op.assign (Go.Operand.tmp 44), none⟩]
  []) (.ret)))))
def mj7_0 : List Nat := [1, 2, 7, 8, 9, 10, 11, 12, 13, 14]
theorem ls7 : Tryd.f7.body.map (strip Tryd.prog impCodA) = some lc7 := by kernel_rfl
theorem lcall7 {args : List AV} (hargs : args.length ≤ 45) {H0 : AHeap} (lo : Nat) (hlo : H0.length ≤ lo) {r0 : AV} {H0' : AHeap}
    (h : lavc Tryd.prog glob lc7 (args ++ List.replicate (45 - args.length) (.v undef)) H0 fun e t H => (e = .normal ∨ e = .ret) ∧ aret Tryd.prog t H [Go.ResultVar.tmp 2] fun r => Fin lo H r r0 H0') :
    ACall Tryd.prog glob (H0.length == 0) 7 args H0 r0 H0' := LCall' ctx Tryd.func7 (by kernel_rfl) ls7 (by kernel_rfl) (by kernel_rfl) hargs lo hlo h
theorem lcallk7 {args : List AV} (hargs : args.length ≤ 45) {H0 : AHeap} {r0 : AV} {H0' : AHeap}
    (h : lavc Tryd.prog glob lc7 (args ++ List.replicate (45 - args.length) (.v undef)) H0 fun e t H => (e = .normal ∨ e = .ret) ∧ aret Tryd.prog t H [Go.ResultVar.tmp 2] fun r => r = r0 ∧ H = H0') :
    ACall Tryd.prog glob false 7 args H0 r0 H0' := LCallK' ctx Tryd.func7 (by kernel_rfl) ls7 (by kernel_rfl) (by kernel_rfl) hargs h
/-- escutcheon/escutcheonlaw01.CoinEnds -/
def lc8 : LCode := .seq (.reg []
  [⟨some 6, Go.Op.assign (Go.Operand.const (Go.Value.bool false)), none⟩]) (.seq (.seq (.reg []
  [⟨some 14, Go.Op.call { callee := Go.Callee.value (Go.Operand.func 10), args := #[], argTypes := #[] }, none⟩,
  ⟨some 15, Go.Op.unOp Go.UnOp.not 4 (Go.Operand.tmp 14), none⟩,
  ⟨some 16, Go.Op.move (Go.Operand.tmp 15), none⟩,
  ⟨some 17, Go.Op.move (Go.Operand.tmp 0), (some (16, false))⟩,
  ⟨some 18, Go.Op.call { callee := Go.Callee.builtin Go.Builtin.len, args := #[Go.Operand.tmp 17], argTypes := #[27] }, (some (16, false))⟩,
  ⟨some 19, Go.Op.binOp Go.BinOp.gtr 3 (Go.Operand.tmp 18) (Go.Operand.const (Go.Value.int Go.IntKind.i64 20)) 3, (some (16, false))⟩,
  ⟨some 20, Go.Op.pick (Go.Operand.tmp 16) (Go.Operand.const (Go.Value.bool true)) (Go.Operand.tmp 19), none⟩]) (.cond (Go.Operand.tmp 20) (.seq (.reg []
  [⟨some 21, Go.Op.call { callee := Go.Callee.value (Go.Operand.func 10), args := #[], argTypes := #[] }, none⟩,
  ⟨some 6, Go.Op.assign (Go.Operand.tmp 21), none⟩]) (.ret)) (.skip))) (.seq (.seq (.reg []
  [⟨some 22, Go.Op.move (Go.Operand.tmp 0), none⟩,
  ⟨some 23, Go.Op.call { callee := Go.Callee.builtin Go.Builtin.len, args := #[Go.Operand.tmp 22], argTypes := #[27] }, none⟩,
  ⟨some 24, Go.Op.move (Go.Operand.const (Go.Value.int Go.IntKind.i64 0)), none⟩]) (.block 0 (.loop (.seq (.reg []
  [⟨some 25, Go.Op.binOp Go.BinOp.lss 3 (Go.Operand.tmp 24) (Go.Operand.tmp 23) 3, none⟩]) (.seq (.cond (Go.Operand.tmp 25) (.skip) (.exit 0)) (.seq (.block 1 (.seq (.reg []
  [⟨some 26, Go.Op.indexAddr 27 (Go.Operand.tmp 22) (Go.Operand.tmp 24), none⟩,
  ⟨some 27, Go.Op.load 22 (Go.Operand.tmp 26), none⟩,
  ⟨some 8, Go.Op.assign (Go.Operand.tmp 27), none⟩]) (.seq (.reg []
  [⟨some 28, Go.Op.move (Go.Operand.tmp 8), none⟩,
  ⟨some 29, Go.Op.call { callee := Go.Callee.builtin Go.Builtin.len, args := #[Go.Operand.tmp 28], argTypes := #[22] }, none⟩,
  ⟨some 30, Go.Op.binOp Go.BinOp.gtr 3 (Go.Operand.tmp 29) (Go.Operand.const (Go.Value.int Go.IntKind.i64 100)) 3, none⟩]) (.cond (Go.Operand.tmp 30) (.seq (.reg []
  [⟨some 6, Go.Op.assign (Go.Operand.const (Go.Value.bool true)), none⟩]) (.ret)) (.skip))))) (.reg []
  [⟨some 31, Go.Op.binOp Go.BinOp.add 3 (Go.Operand.tmp 24) (Go.Operand.const (Go.Value.int Go.IntKind.i64 1)) 3, none⟩,
  ⟨some 24, Go.Op.move (Go.Operand.tmp 31), none⟩]))))))) (.seq (.reg []
  [⟨some 32, Go.Op.move (Go.Operand.tmp 0), none⟩,
  ⟨some 33, Go.Op.call { callee := Go.Callee.value (Go.Operand.func 13), args := #[Go.Operand.tmp 32], argTypes := #[27] }, none⟩,
  ⟨some 9, Go.Op.assign (Go.Operand.tmp 33), none⟩]) (.seq (.seq (.reg []
  [⟨some 34, Go.Op.move (Go.Operand.tmp 9), none⟩,
  ⟨some 35, Go.Op.call { callee := Go.Callee.builtin Go.Builtin.len, args := #[Go.Operand.tmp 34], argTypes := #[22] }, none⟩,
  ⟨some 36, Go.Op.binOp Go.BinOp.lss 3 (Go.Operand.tmp 35) (Go.Operand.const (Go.Value.int Go.IntKind.i64 8)) 3, none⟩]) (.cond (Go.Operand.tmp 36) (.seq (.reg []
  [⟨some 6, Go.Op.assign (Go.Operand.const (Go.Value.bool false)), none⟩]) (.ret)) (.skip))) (.seq (.reg []
  [⟨some 38, Go.Op.move (Go.Operand.tmp 9), none⟩,
  ⟨some 39, Go.Op.move (Go.Operand.tmp 1), none⟩,
  ⟨some 40, Go.Op.convert 38 3 (Go.Operand.tmp 39), none⟩,
  ⟨some 41, Go.Op.move (Go.Operand.tmp 9), none⟩,
  ⟨some 42, Go.Op.call { callee := Go.Callee.builtin Go.Builtin.len, args := #[Go.Operand.tmp 41], argTypes := #[22] }, none⟩,
  ⟨some 43, Go.Op.binOp Go.BinOp.rem 3 (Go.Operand.tmp 40) (Go.Operand.tmp 42) 3, none⟩,
  ⟨some 44, Go.Op.slice 22 (Go.Operand.tmp 38) none (some (Go.Operand.tmp 43)) none, none⟩,
  ⟨some 45, Go.Op.call { callee := Go.Callee.value (Go.Operand.func 15), args := #[Go.Operand.tmp 44], argTypes := #[22] }, none⟩,
  ⟨some 37, Go.Op.move (Go.Operand.tmp 45), none⟩,
  ⟨some 46, Go.Op.extract (Go.Operand.tmp 37) 0, none⟩,
  ⟨some 47, Go.Op.extract (Go.Operand.tmp 37) 1, none⟩,
  ⟨some 10, Go.Op.assign (Go.Operand.tmp 46), none⟩,
  ⟨some 11, Go.Op.assign (Go.Operand.tmp 47), none⟩]) (.seq (.reg []
  [⟨some 49, Go.Op.buildSlice 22 0 #[], none⟩,
  ⟨some 50, Go.Op.move (Go.Operand.tmp 9), none⟩,
  ⟨some 51, Go.Op.call { callee := Go.Callee.builtin Go.Builtin.append, args := #[Go.Operand.tmp 49, Go.Operand.tmp 50], argTypes := #[22, 22] }, none⟩,
  ⟨some 52, Go.Op.move (Go.Operand.tmp 2), none⟩,
  ⟨some 53, Go.Op.buildSlice 22 1 #[(0, Go.Operand.tmp 52)], none⟩,
  ⟨some 54, Go.Op.call { callee := Go.Callee.builtin Go.Builtin.append, args := #[Go.Operand.tmp 51, Go.Operand.tmp 53], argTypes := #[22, 22] }, none⟩,
  ⟨some 55, Go.Op.call { callee := Go.Callee.value (Go.Operand.func 15), args := #[Go.Operand.tmp 54], argTypes := #[22] }, none⟩,
  ⟨some 48, Go.Op.move (Go.Operand.tmp 55), none⟩,
  ⟨some 56, Go.Op.extract (Go.Operand.tmp 48) 0, none⟩,
  ⟨some 57, Go.Op.extract (Go.Operand.tmp 48) 1, none⟩,
  ⟨some 12, Go.Op.assign (Go.Operand.tmp 56), none⟩,
  ⟨some 13, Go.Op.assign (Go.Operand.tmp 57), none⟩]) (.seq (.reg []
  [⟨some 58, Go.Op.move (Go.Operand.tmp 11), none⟩,
  ⟨some 59, Go.Op.binOp Go.BinOp.eql 30 (Go.Operand.tmp 58) (Go.Operand.const (Go.Value.int Go.IntKind.i64 3)) 30, none⟩,
  ⟨some 60, Go.Op.move (Go.Operand.tmp 59), none⟩,
  ⟨some 61, Go.Op.move (Go.Operand.tmp 10), (some (60, true))⟩,
  ⟨some 62, Go.Op.call { callee := Go.Callee.builtin Go.Builtin.len, args := #[Go.Operand.tmp 61], argTypes := #[27] }, (some (60, true))⟩,
  ⟨some 63, Go.Op.binOp Go.BinOp.eql 3 (Go.Operand.tmp 62) (Go.Operand.const (Go.Value.int Go.IntKind.i64 0)) 3, (some (60, true))⟩,
  ⟨some 64, Go.Op.pick (Go.Operand.tmp 60) (Go.Operand.tmp 63) (Go.Operand.const (Go.Value.bool false)), none⟩,
  ⟨some 65, Go.Op.move (Go.Operand.tmp 64), none⟩,
  ⟨some 66, Go.Op.move (Go.Operand.tmp 13), (some (65, true))⟩,
  ⟨some 67, Go.Op.binOp Go.BinOp.eql 30 (Go.Operand.tmp 66) (Go.Operand.const (Go.Value.int Go.IntKind.i64 2)) 30, (some (65, true))⟩,
  ⟨some 68, Go.Op.pick (Go.Operand.tmp 65) (Go.Operand.tmp 67) (Go.Operand.const (Go.Value.bool false)), none⟩,
  ⟨some 69, Go.Op.move (Go.Operand.tmp 68), none⟩,
  ⟨some 70, Go.Op.move (Go.Operand.tmp 12), (some (69, true))⟩,
  ⟨some 71, Go.Op.call { callee := Go.Callee.builtin Go.Builtin.len, args := #[Go.Operand.tmp 70], argTypes := #[27] }, (some (69, true))⟩,
  ⟨some 72, Go.Op.binOp Go.BinOp.eql 3 (Go.Operand.tmp 71) (Go.Operand.const (Go.Value.int Go.IntKind.i64 0)) 3, (some (69, true))⟩,
  ⟨some 73, Go.Op.pick (Go.Operand.tmp 69) (Go.Operand.tmp 72) (Go.Operand.const (Go.Value.bool false)), none⟩,
  ⟨some 6, Go.Op.assign (Go.Operand.tmp 73), none⟩]) (.ret))))))))
def ms8_0 : List Nat := [3, 4, 5, 6, 7, 8, 14, 15, 16, 17, 18, 19, 20, 21, 24, 25, 26, 27, 28, 29, 30, 31]
def mj8_0 : List Nat := [3, 4, 5, 6, 7, 14, 15, 16, 17, 18, 19, 20, 21]
def mj8_1 : List Nat := [3, 4, 5, 7, 14, 15, 16, 17, 18, 19, 20, 21]
def mj8_2 : List Nat := [3, 4, 5, 6, 7, 14, 15, 16, 17, 18, 19, 20, 21]
def mj8_3 : List Nat := [0, 3, 4, 5, 6, 7, 8, 14, 15, 16, 17, 18, 19, 20, 21, 22, 23, 24, 25, 26, 27, 28, 29, 30, 31, 32, 33, 34, 35, 36]
theorem ls8 : Tryd.f8.body.map (strip Tryd.prog impCodA) = some lc8 := by kernel_rfl
theorem lcall8 {args : List AV} (hargs : args.length ≤ 74) {H0 : AHeap} (lo : Nat) (hlo : H0.length ≤ lo) {r0 : AV} {H0' : AHeap}
    (h : lavc Tryd.prog glob lc8 (args ++ List.replicate (74 - args.length) (.v undef)) H0 fun e t H => (e = .normal ∨ e = .ret) ∧ aret Tryd.prog t H [Go.ResultVar.tmp 6] fun r => Fin lo H r r0 H0') :
    ACall Tryd.prog glob (H0.length == 0) 8 args H0 r0 H0' := LCall' ctx Tryd.func8 (by kernel_rfl) ls8 (by kernel_rfl) (by kernel_rfl) hargs lo hlo h
theorem lcallk8 {args : List AV} (hargs : args.length ≤ 74) {H0 : AHeap} {r0 : AV} {H0' : AHeap}
    (h : lavc Tryd.prog glob lc8 (args ++ List.replicate (74 - args.length) (.v undef)) H0 fun e t H => (e = .normal ∨ e = .ret) ∧ aret Tryd.prog t H [Go.ResultVar.tmp 6] fun r => r = r0 ∧ H = H0') :
    ACall Tryd.prog glob false 8 args H0 r0 H0' := LCallK' ctx Tryd.func8 (by kernel_rfl) ls8 (by kernel_rfl) (by kernel_rfl) hargs h
/-- escutcheon/escutcheonlaw01.CoinSplits -/
def lc9 : LCode := .seq (.reg []
  [⟨some 6, Go.Op.assign (Go.Operand.const (Go.Value.bool false)), none⟩]) (.seq (.seq (.reg []
  [⟨some 11, Go.Op.call { callee := Go.Callee.value (Go.Operand.func 10), args := #[], argTypes := #[] }, none⟩,
  ⟨some 12, Go.Op.unOp Go.UnOp.not 4 (Go.Operand.tmp 11), none⟩,
  ⟨some 13, Go.Op.move (Go.Operand.tmp 12), none⟩,
  ⟨some 14, Go.Op.move (Go.Operand.tmp 0), (some (13, false))⟩,
  ⟨some 15, Go.Op.call { callee := Go.Callee.builtin Go.Builtin.len, args := #[Go.Operand.tmp 14], argTypes := #[9] }, (some (13, false))⟩,
  ⟨some 16, Go.Op.binOp Go.BinOp.gtr 3 (Go.Operand.tmp 15) (Go.Operand.const (Go.Value.int Go.IntKind.i64 200)) 3, (some (13, false))⟩,
  ⟨some 17, Go.Op.pick (Go.Operand.tmp 13) (Go.Operand.const (Go.Value.bool true)) (Go.Operand.tmp 16), none⟩,
  ⟨some 18, Go.Op.move (Go.Operand.tmp 17), none⟩,
  ⟨some 19, Go.Op.move (Go.Operand.tmp 2), (some (18, false))⟩,
  ⟨some 20, Go.Op.binOp Go.BinOp.lss 3 (Go.Operand.tmp 19) (Go.Operand.const (Go.Value.int Go.IntKind.i64 0)) 3, (some (18, false))⟩,
  ⟨some 21, Go.Op.pick (Go.Operand.tmp 18) (Go.Operand.const (Go.Value.bool true)) (Go.Operand.tmp 20), none⟩]) (.cond (Go.Operand.tmp 21) (.seq (.reg []
  [⟨some 22, Go.Op.call { callee := Go.Callee.value (Go.Operand.func 10), args := #[], argTypes := #[] }, none⟩,
  ⟨some 6, Go.Op.assign (Go.Operand.tmp 22), none⟩]) (.ret)) (.skip))) (.seq (.reg []
  [⟨some 23, Go.Op.move (Go.Operand.tmp 1), none⟩,
  ⟨some 24, Go.Op.binOp Go.BinOp.rem 5 (Go.Operand.tmp 23) (Go.Operand.const (Go.Value.int Go.IntKind.u8 8)) 5, none⟩,
  ⟨some 25, Go.Op.convert 5 3 (Go.Operand.tmp 24), none⟩,
  ⟨some 26, Go.Op.binOp Go.BinOp.add 3 (Go.Operand.const (Go.Value.int Go.IntKind.i64 1)) (Go.Operand.tmp 25) 3, none⟩,
  ⟨some 7, Go.Op.assign (Go.Operand.tmp 26), none⟩]) (.seq (.reg []
  [⟨some 27, Go.Op.move (Go.Operand.tmp 0), none⟩,
  ⟨some 28, Go.Op.move (Go.Operand.tmp 7), none⟩,
  ⟨some 29, Go.Op.call { callee := Go.Callee.value (Go.Operand.func 18), args := #[Go.Operand.tmp 27, Go.Operand.tmp 28], argTypes := #[9, 3] }, none⟩,
  ⟨some 30, Go.Op.move (Go.Operand.tmp 0), none⟩,
  ⟨some 31, Go.Op.move (Go.Operand.tmp 7), none⟩,
  ⟨some 32, Go.Op.call { callee := Go.Callee.value (Go.Operand.func 19), args := #[Go.Operand.tmp 30, Go.Operand.tmp 31], argTypes := #[9, 3] }, none⟩,
  ⟨some 8, Go.Op.assign (Go.Operand.tmp 29), none⟩,
  ⟨some 9, Go.Op.assign (Go.Operand.tmp 32), none⟩]) (.seq (.seq (.reg [⟨some 33, Go.Op.move (Go.Operand.tmp 8), none⟩,
  ⟨some 34, Go.Op.call { callee := Go.Callee.builtin Go.Builtin.len, args := #[Go.Operand.tmp 33], argTypes := #[40] }, none⟩,
  ⟨some 35, Go.Op.move (Go.Operand.tmp 9), none⟩,
  ⟨some 36, Go.Op.call { callee := Go.Callee.builtin Go.Builtin.len, args := #[Go.Operand.tmp 35], argTypes := #[40] }, none⟩,
  ⟨some 37, Go.Op.binOp Go.BinOp.neq 3 (Go.Operand.tmp 34) (Go.Operand.tmp 36) 3, none⟩,
  ⟨some 38, Go.Op.move (Go.Operand.tmp 37), none⟩,
  ⟨some 39, Go.Op.move (Go.Operand.tmp 2), (some (38, false))⟩,
  ⟨some 40, Go.Op.call { callee := Go.Callee.value (Go.Operand.func 20), args := #[Go.Operand.tmp 39], argTypes := #[3] }, (some (38, false))⟩,
  ⟨some 41, Go.Op.convert 22 9 (Go.Operand.tmp 40), (some (38, false))⟩,
  ⟨some 42, Go.Op.move (Go.Operand.tmp 2), (some (38, false))⟩,
  ⟨some 43, Go.Op.call { callee := Go.Callee.value (Go.Operand.func 21), args := #[Go.Operand.tmp 42], argTypes := #[3] }, (some (38, false))⟩,
  ⟨some 44, Go.Op.convert 22 9 (Go.Operand.tmp 43), (some (38, false))⟩,
  ⟨some 45, Go.Op.binOp Go.BinOp.neq 9 (Go.Operand.tmp 41) (Go.Operand.tmp 44) 9, (some (38, false))⟩,
  ⟨some 46, Go.Op.pick (Go.Operand.tmp 38) (Go.Operand.const (Go.Value.bool true)) (Go.Operand.tmp 45), none⟩]
  []) (.cond (Go.Operand.tmp 46) (.seq (.reg []
  [⟨some 6, Go.Op.assign (Go.Operand.const (Go.Value.bool false)), none⟩]) (.ret)) (.skip))) (.seq (.seq (.reg []
  [⟨some 47, Go.Op.move (Go.Operand.tmp 8), none⟩,
  ⟨some 48, Go.Op.call { callee := Go.Callee.builtin Go.Builtin.len, args := #[Go.Operand.tmp 47], argTypes := #[40] }, none⟩,
  ⟨some 49, Go.Op.move (Go.Operand.const (Go.Value.int Go.IntKind.i64 0)), none⟩]) (.block 0 (.loop (.seq (.reg []
  [⟨some 50, Go.Op.binOp Go.BinOp.lss 3 (Go.Operand.tmp 49) (Go.Operand.tmp 48) 3, none⟩]) (.seq (.cond (Go.Operand.tmp 50) (.skip) (.exit 0)) (.seq (.block 1 (.seq (.reg []
  [⟨some 51, Go.Op.move (Go.Operand.tmp 49), none⟩,
  ⟨some 10, Go.Op.assign (Go.Operand.tmp 51), none⟩]) (.seq (.reg [⟨some 52, Go.Op.move (Go.Operand.tmp 8), none⟩,
  ⟨some 53, Go.Op.move (Go.Operand.tmp 10), none⟩,
  ⟨some 54, Go.Op.indexAddr 40 (Go.Operand.tmp 52) (Go.Operand.tmp 53), none⟩,
  ⟨some 55, Go.Op.load 9 (Go.Operand.tmp 54), none⟩,
  ⟨some 56, Go.Op.move (Go.Operand.tmp 9), none⟩,
  ⟨some 57, Go.Op.move (Go.Operand.tmp 10), none⟩,
  ⟨some 58, Go.Op.indexAddr 40 (Go.Operand.tmp 56) (Go.Operand.tmp 57), none⟩,
  ⟨some 59, Go.Op.load 9 (Go.Operand.tmp 58), none⟩,
  ⟨some 60, Go.Op.binOp Go.BinOp.neq 9 (Go.Operand.tmp 55) (Go.Operand.tmp 59) 9, none⟩]
  []) (.cond (Go.Operand.tmp 60) (.seq (.reg []
  [⟨some 6, Go.Op.assign (Go.Operand.const (Go.Value.bool false)), none⟩]) (.ret)) (.skip))))) (.reg []
  [⟨some 61, Go.Op.binOp Go.BinOp.add 3 (Go.Operand.tmp 49) (Go.Operand.const (Go.Value.int Go.IntKind.i64 1)) 3, none⟩,
  ⟨some 49, Go.Op.move (Go.Operand.tmp 61), none⟩]))))))) (.seq (.reg []
  [⟨some 6, Go.Op.assign (Go.Operand.const (Go.Value.bool true)), none⟩]) (.ret)))))))
def ms9_0 : List Nat := [0, 1, 2, 3, 4, 5, 6, 7, 10, 11, 12, 13, 14, 15, 16, 17, 18, 19, 20, 21, 22, 23, 24, 25, 26, 27, 28, 29, 30, 31, 32, 33, 34, 35, 36, 37, 38, 39, 40, 41, 42, 43, 44, 45, 46, 47, 49, 50, 51, 52, 53, 54, 55, 56, 57, 58, 59, 60, 61]
def mj9_0 : List Nat := [3, 4, 5, 6, 11, 12, 13, 14, 15, 16, 17, 18, 19, 20, 21, 22]
def mj9_1 : List Nat := [0, 1, 2, 3, 4, 5, 6, 7, 11, 12, 13, 14, 15, 16, 17, 18, 19, 20, 21, 22, 23, 24, 25, 26, 27, 28, 29, 30, 31, 32, 33, 34, 35, 36, 37, 38, 39, 40, 41, 42, 43, 44, 45, 46]
def mj9_2 : List Nat := [0, 1, 2, 3, 4, 5, 7, 11, 12, 13, 14, 15, 16, 17, 18, 19, 20, 21, 22, 23, 24, 25, 26, 27, 28, 29, 30, 31, 32, 33, 34, 35, 36, 37, 38, 39, 40, 41, 42, 43, 44, 45, 46, 47]
def mj9_3 : List Nat := [0, 1, 2, 3, 4, 5, 6, 7, 11, 12, 13, 14, 15, 16, 17, 18, 19, 20, 21, 22, 23, 24, 25, 26, 27, 28, 29, 30, 31, 32, 33, 34, 35, 36, 37, 38, 39, 40, 41, 42, 43, 44, 45, 46, 47]
theorem ls9 : Tryd.f9.body.map (strip Tryd.prog impCodA) = some lc9 := by kernel_rfl
theorem lcall9 {args : List AV} (hargs : args.length ≤ 62) {H0 : AHeap} (lo : Nat) (hlo : H0.length ≤ lo) {r0 : AV} {H0' : AHeap}
    (h : lavc Tryd.prog glob lc9 (args ++ List.replicate (62 - args.length) (.v undef)) H0 fun e t H => (e = .normal ∨ e = .ret) ∧ aret Tryd.prog t H [Go.ResultVar.tmp 6] fun r => Fin lo H r r0 H0') :
    ACall Tryd.prog glob (H0.length == 0) 9 args H0 r0 H0' := LCall' ctx Tryd.func9 (by kernel_rfl) ls9 (by kernel_rfl) (by kernel_rfl) hargs lo hlo h
theorem lcallk9 {args : List AV} (hargs : args.length ≤ 62) {H0 : AHeap} {r0 : AV} {H0' : AHeap}
    (h : lavc Tryd.prog glob lc9 (args ++ List.replicate (62 - args.length) (.v undef)) H0 fun e t H => (e = .normal ∨ e = .ret) ∧ aret Tryd.prog t H [Go.ResultVar.tmp 6] fun r => r = r0 ∧ H = H0') :
    ACall Tryd.prog glob false 9 args H0 r0 H0' := LCallK' ctx Tryd.func9 (by kernel_rfl) ls9 (by kernel_rfl) (by kernel_rfl) hargs h
end Go.Abs.S
