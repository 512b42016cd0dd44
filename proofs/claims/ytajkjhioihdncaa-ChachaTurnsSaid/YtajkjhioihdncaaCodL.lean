/- Code, as it is looked at; written by wip/leancode.py. -/
import Derived.Test.YtajkjhioihdncaaAbsSeat
namespace Go.Abs.S
open Go.Proofs
set_option maxRecDepth 100000
def impCodL : FuncId → Bool := fun _ => false
/-- escutcheon/escutcheonlaw06.awake -/
def lc8 : LCode := .seq (.reg []
  [⟨some 0, Go.Op.assign (Go.Operand.const (Go.Value.bool false)), none⟩]) (.seq (.reg [⟨some 4, Go.Op.makeSlice 26 (Go.Operand.const (Go.Value.int Go.IntKind.i64 32)) (Go.Operand.const (Go.Value.int Go.IntKind.i64 32)), none⟩,
  ⟨some 5, Go.Op.makeSlice 26 (Go.Operand.const (Go.Value.int Go.IntKind.i64 12)) (Go.Operand.const (Go.Value.int Go.IntKind.i64 12)), none⟩,
  ⟨some 6, Go.Op.call { callee := Go.Callee.value (Go.Operand.func 13), args := #[Go.Operand.tmp 4, Go.Operand.tmp 5, Go.Operand.const (Go.Value.int Go.IntKind.i64 5)], argTypes := #[26, 26, 3] }, none⟩,
  ⟨some 3, Go.Op.move (Go.Operand.tmp 6), none⟩,
  ⟨some 7, Go.Op.extract (Go.Operand.tmp 3) 0, none⟩,
  ⟨some 8, Go.Op.extract (Go.Operand.tmp 3) 1, none⟩,
  ⟨some 1, Go.Op.assign (Go.Operand.tmp 7), none⟩,
  ⟨some 2, Go.Op.assign (Go.Operand.tmp 8), none⟩]
  []) (.seq (.reg []
  [⟨some 9, Go.Op.move (Go.Operand.tmp 2), none⟩,
  ⟨some 10, Go.Op.binOp Go.BinOp.eql 34 (Go.Operand.tmp 9) (Go.Operand.const (Go.Value.int Go.IntKind.i64 3)) 34, none⟩,
  ⟨some 0, Go.Op.assign (Go.Operand.tmp 10), none⟩]) (.ret)))
theorem ls8 : Try.f8.body.map (strip Try.prog impCodL) = some lc8 := by kernel_rfl
theorem lcall8 {args : List AV} (hargs : args.length ≤ 11) {H0 : AHeap} (lo : Nat) (hlo : H0.length ≤ lo) {r0 : AV} {H0' : AHeap}
    (h : lavc Try.prog glob lc8 (args ++ List.replicate (11 - args.length) (.v undef)) H0 fun e t H => (e = .normal ∨ e = .ret) ∧ aret Try.prog t H [Go.ResultVar.tmp 0] fun r => Fin lo H r r0 H0') :
    ACall Try.prog glob (H0.length == 0) 8 args H0 r0 H0' := LCall' ctx Try.func8 (by kernel_rfl) ls8 (by kernel_rfl) (by kernel_rfl) hargs lo hlo h
/-- escutcheon/escutcheonlaw06.ChachaBlocks -/
def lc3 : LCode := .seq (.reg []
  [⟨some 3, Go.Op.box 22 (Go.Operand.tmp 0), none⟩,
  ⟨some 5, Go.Op.box 23 (Go.Operand.tmp 2), none⟩,
  ⟨some 6, Go.Op.assign (Go.Operand.const (Go.Value.bool false)), none⟩]) (.seq (.seq (.reg []
  [⟨some 10, Go.Op.call { callee := Go.Callee.value (Go.Operand.func 8), args := #[], argTypes := #[] }, none⟩,
  ⟨some 11, Go.Op.unOp Go.UnOp.not 4 (Go.Operand.tmp 10), none⟩,
  ⟨some 12, Go.Op.move (Go.Operand.tmp 11), none⟩,
  ⟨some 13, Go.Op.move (Go.Operand.tmp 1), (some (12, false))⟩,
  ⟨some 14, Go.Op.binOp Go.BinOp.lss 3 (Go.Operand.tmp 13) (Go.Operand.const (Go.Value.int Go.IntKind.i64 0)) 3, (some (12, false))⟩,
  ⟨some 15, Go.Op.pick (Go.Operand.tmp 12) (Go.Operand.const (Go.Value.bool true)) (Go.Operand.tmp 14), none⟩]) (.cond (Go.Operand.tmp 15) (.seq (.reg []
  [⟨some 16, Go.Op.call { callee := Go.Callee.value (Go.Operand.func 8), args := #[], argTypes := #[] }, none⟩,
  ⟨some 6, Go.Op.assign (Go.Operand.tmp 16), none⟩]) (.ret)) (.skip))) (.seq (.reg []
  [⟨some 17, Go.Op.slice 23 (Go.Operand.tmp 5) none (some (Go.Operand.const (Go.Value.int Go.IntKind.i64 8))) none, none⟩,
  ⟨some 18, Go.Op.sliceToArrayPointer 25 (Go.Operand.tmp 17), none⟩,
  ⟨some 19, Go.Op.load 25 (Go.Operand.tmp 18), none⟩,
  ⟨some 7, Go.Op.alloc 25, none⟩,
  ⟨none, Go.Op.store 25 (Go.Operand.tmp 7) (Go.Operand.tmp 19), none⟩]) (.seq (.reg [⟨some 20, Go.Op.load 22 (Go.Operand.tmp 3), none⟩,
  ⟨some 21, Go.Op.move (Go.Operand.tmp 1), none⟩,
  ⟨some 22, Go.Op.load 25 (Go.Operand.tmp 7), none⟩,
  ⟨some 23, Go.Op.call { callee := Go.Callee.value (Go.Operand.func 9), args := #[Go.Operand.tmp 20, Go.Operand.tmp 21, Go.Operand.tmp 22], argTypes := #[22, 3, 25] }, none⟩,
  ⟨some 24, Go.Op.load 22 (Go.Operand.tmp 3), none⟩,
  ⟨some 25, Go.Op.load 23 (Go.Operand.tmp 5), none⟩,
  ⟨some 26, Go.Op.call { callee := Go.Callee.value (Go.Operand.func 10), args := #[Go.Operand.tmp 24, Go.Operand.tmp 25], argTypes := #[22, 23] }, none⟩,
  ⟨some 8, Go.Op.alloc 27, none⟩,
  ⟨some 9, Go.Op.alloc 22, none⟩]
  [⟨none, Go.Op.store 27 (Go.Operand.tmp 8) (Go.Operand.tmp 23), none⟩,
  ⟨none, Go.Op.store 22 (Go.Operand.tmp 9) (Go.Operand.tmp 26), none⟩]) (.seq (.reg [⟨some 27, Go.Op.slice 27 (Go.Operand.tmp 8) none none none, none⟩,
  ⟨some 28, Go.Op.convert 26 9 (Go.Operand.tmp 27), none⟩,
  ⟨some 29, Go.Op.slice 22 (Go.Operand.tmp 3) none none none, none⟩,
  ⟨some 30, Go.Op.move (Go.Operand.tmp 1), none⟩,
  ⟨some 31, Go.Op.slice 25 (Go.Operand.tmp 7) none none none, none⟩,
  ⟨some 32, Go.Op.call { callee := Go.Callee.value (Go.Operand.func 11), args := #[Go.Operand.tmp 29, Go.Operand.tmp 30, Go.Operand.tmp 31], argTypes := #[26, 3, 26] }, none⟩,
  ⟨some 33, Go.Op.convert 26 9 (Go.Operand.tmp 32), none⟩,
  ⟨some 34, Go.Op.binOp Go.BinOp.eql 9 (Go.Operand.tmp 28) (Go.Operand.tmp 33) 9, none⟩,
  ⟨some 35, Go.Op.move (Go.Operand.tmp 34), none⟩,
  ⟨some 36, Go.Op.slice 22 (Go.Operand.tmp 9) none none none, (some (35, true))⟩,
  ⟨some 37, Go.Op.convert 26 9 (Go.Operand.tmp 36), (some (35, true))⟩,
  ⟨some 38, Go.Op.slice 22 (Go.Operand.tmp 3) none none none, (some (35, true))⟩,
  ⟨some 39, Go.Op.slice 23 (Go.Operand.tmp 5) none none none, (some (35, true))⟩,
  ⟨some 40, Go.Op.call { callee := Go.Callee.value (Go.Operand.func 12), args := #[Go.Operand.tmp 38, Go.Operand.tmp 39], argTypes := #[26, 26] }, (some (35, true))⟩,
  ⟨some 41, Go.Op.convert 26 9 (Go.Operand.tmp 40), (some (35, true))⟩,
  ⟨some 42, Go.Op.binOp Go.BinOp.eql 9 (Go.Operand.tmp 37) (Go.Operand.tmp 41) 9, (some (35, true))⟩,
  ⟨some 43, Go.Op.pick (Go.Operand.tmp 35) (Go.Operand.tmp 42) (Go.Operand.const (Go.Value.bool false)), none⟩,
  ⟨some 6, Go.Op.assign (Go.Operand.tmp 43), none⟩]
  []) (.ret)))))
theorem ls3 : Try.f3.body.map (strip Try.prog impCodL) = some lc3 := by kernel_rfl
theorem lcall3 {args : List AV} (hargs : args.length ≤ 44) {H0 : AHeap} (lo : Nat) (hlo : H0.length ≤ lo) {r0 : AV} {H0' : AHeap}
    (h : lavc Try.prog glob lc3 (args ++ List.replicate (44 - args.length) (.v undef)) H0 fun e t H => (e = .normal ∨ e = .ret) ∧ aret Try.prog t H [Go.ResultVar.tmp 6] fun r => Fin lo H r r0 H0') :
    ACall Try.prog glob (H0.length == 0) 3 args H0 r0 H0' := LCall' ctx Try.func3 (by kernel_rfl) ls3 (by kernel_rfl) (by kernel_rfl) hargs lo hlo h
/-- escutcheon/escutcheonlaw06.ChachaSteps -/
def lc4 : LCode := .seq (.reg []
  [⟨some 3, Go.Op.box 22 (Go.Operand.tmp 0), none⟩,
  ⟨some 4, Go.Op.box 33 (Go.Operand.tmp 1), none⟩,
  ⟨some 6, Go.Op.assign (Go.Operand.const (Go.Value.bool false)), none⟩]) (.seq (.seq (.reg []
  [⟨some 13, Go.Op.call { callee := Go.Callee.value (Go.Operand.func 8), args := #[], argTypes := #[] }, none⟩,
  ⟨some 14, Go.Op.unOp Go.UnOp.not 4 (Go.Operand.tmp 13), none⟩]) (.cond (Go.Operand.tmp 14) (.seq (.reg []
  [⟨some 6, Go.Op.assign (Go.Operand.const (Go.Value.bool false)), none⟩]) (.ret)) (.skip))) (.seq (.reg [⟨some 16, Go.Op.slice 22 (Go.Operand.tmp 3) none none none, none⟩,
  ⟨some 17, Go.Op.slice 33 (Go.Operand.tmp 4) none none none, none⟩,
  ⟨some 18, Go.Op.move (Go.Operand.tmp 2), none⟩,
  ⟨some 19, Go.Op.binOp Go.BinOp.rem 5 (Go.Operand.tmp 18) (Go.Operand.const (Go.Value.int Go.IntKind.u8 5)) 5, none⟩,
  ⟨some 20, Go.Op.convert 5 3 (Go.Operand.tmp 19), none⟩,
  ⟨some 21, Go.Op.binOp Go.BinOp.mul 3 (Go.Operand.const (Go.Value.int Go.IntKind.i64 64)) (Go.Operand.tmp 20) 3, none⟩,
  ⟨some 22, Go.Op.binOp Go.BinOp.add 3 (Go.Operand.tmp 21) (Go.Operand.const (Go.Value.int Go.IntKind.i64 10)) 3, none⟩,
  ⟨some 23, Go.Op.call { callee := Go.Callee.value (Go.Operand.func 13), args := #[Go.Operand.tmp 16, Go.Operand.tmp 17, Go.Operand.tmp 22], argTypes := #[26, 26, 3] }, none⟩,
  ⟨some 15, Go.Op.move (Go.Operand.tmp 23), none⟩,
  ⟨some 24, Go.Op.extract (Go.Operand.tmp 15) 0, none⟩,
  ⟨some 25, Go.Op.extract (Go.Operand.tmp 15) 1, none⟩,
  ⟨some 7, Go.Op.assign (Go.Operand.tmp 24), none⟩,
  ⟨some 8, Go.Op.assign (Go.Operand.tmp 25), none⟩]
  []) (.seq (.reg [⟨some 26, Go.Op.load 22 (Go.Operand.tmp 3), none⟩,
  ⟨some 27, Go.Op.slice 33 (Go.Operand.tmp 4) none (some (Go.Operand.const (Go.Value.int Go.IntKind.i64 16))) none, none⟩,
  ⟨some 28, Go.Op.sliceToArrayPointer 23 (Go.Operand.tmp 27), none⟩,
  ⟨some 29, Go.Op.load 23 (Go.Operand.tmp 28), none⟩,
  ⟨some 30, Go.Op.call { callee := Go.Callee.value (Go.Operand.func 10), args := #[Go.Operand.tmp 26, Go.Operand.tmp 29], argTypes := #[22, 23] }, none⟩,
  ⟨some 9, Go.Op.alloc 22, none⟩]
  [⟨none, Go.Op.store 22 (Go.Operand.tmp 9) (Go.Operand.tmp 30), none⟩]) (.seq (.reg []
  [⟨some 10, Go.Op.assign (Go.Operand.const (Go.Value.slice none 0 0)), none⟩]) (.seq (.seq (.reg []
  [⟨some 31, Go.Op.move (Go.Operand.tmp 2), none⟩,
  ⟨some 32, Go.Op.binOp Go.BinOp.rem 5 (Go.Operand.tmp 31) (Go.Operand.const (Go.Value.int Go.IntKind.u8 5)) 5, none⟩,
  ⟨some 33, Go.Op.convert 5 3 (Go.Operand.tmp 32), none⟩,
  ⟨some 34, Go.Op.binOp Go.BinOp.add 3 (Go.Operand.tmp 33) (Go.Operand.const (Go.Value.int Go.IntKind.i64 1)) 3, none⟩,
  ⟨some 35, Go.Op.move (Go.Operand.const (Go.Value.int Go.IntKind.i64 0)), none⟩]) (.block 0 (.loop (.seq (.reg []
  [⟨some 36, Go.Op.binOp Go.BinOp.lss 3 (Go.Operand.tmp 35) (Go.Operand.tmp 34) 3, none⟩]) (.seq (.cond (Go.Operand.tmp 36) (.skip) (.exit 0)) (.seq (.block 1 (.seq (.reg []
  [⟨some 37, Go.Op.move (Go.Operand.tmp 35), none⟩,
  ⟨some 11, Go.Op.assign (Go.Operand.tmp 37), none⟩]) (.seq (.reg [⟨some 38, Go.Op.load 22 (Go.Operand.tmp 9), none⟩,
  ⟨some 39, Go.Op.move (Go.Operand.tmp 11), none⟩,
  ⟨some 40, Go.Op.slice 33 (Go.Operand.tmp 4) (some (Go.Operand.const (Go.Value.int Go.IntKind.i64 16))) none none, none⟩,
  ⟨some 41, Go.Op.sliceToArrayPointer 25 (Go.Operand.tmp 40), none⟩,
  ⟨some 42, Go.Op.load 25 (Go.Operand.tmp 41), none⟩,
  ⟨some 43, Go.Op.call { callee := Go.Callee.value (Go.Operand.func 9), args := #[Go.Operand.tmp 38, Go.Operand.tmp 39, Go.Operand.tmp 42], argTypes := #[22, 3, 25] }, none⟩,
  ⟨some 12, Go.Op.alloc 27, none⟩]
  [⟨none, Go.Op.store 27 (Go.Operand.tmp 12) (Go.Operand.tmp 43), none⟩]) (.reg []
  [⟨some 44, Go.Op.move (Go.Operand.tmp 10), none⟩,
  ⟨some 45, Go.Op.slice 27 (Go.Operand.tmp 12) none none none, none⟩,
  ⟨some 46, Go.Op.call { callee := Go.Callee.builtin Go.Builtin.append, args := #[Go.Operand.tmp 44, Go.Operand.tmp 45], argTypes := #[26, 26] }, none⟩,
  ⟨some 10, Go.Op.assign (Go.Operand.tmp 46), none⟩])))) (.reg []
  [⟨some 47, Go.Op.binOp Go.BinOp.add 3 (Go.Operand.tmp 35) (Go.Operand.const (Go.Value.int Go.IntKind.i64 1)) 3, none⟩,
  ⟨some 35, Go.Op.move (Go.Operand.tmp 47), none⟩]))))))) (.seq (.reg [⟨some 48, Go.Op.move (Go.Operand.tmp 8), none⟩,
  ⟨some 49, Go.Op.binOp Go.BinOp.eql 34 (Go.Operand.tmp 48) (Go.Operand.const (Go.Value.int Go.IntKind.i64 0)) 34, none⟩,
  ⟨some 50, Go.Op.move (Go.Operand.tmp 49), none⟩,
  ⟨some 51, Go.Op.move (Go.Operand.tmp 7), (some (50, true))⟩,
  ⟨some 52, Go.Op.convert 26 9 (Go.Operand.tmp 51), (some (50, true))⟩,
  ⟨some 53, Go.Op.move (Go.Operand.tmp 10), (some (50, true))⟩,
  ⟨some 54, Go.Op.move (Go.Operand.tmp 7), (some (50, true))⟩,
  ⟨some 55, Go.Op.call { callee := Go.Callee.builtin Go.Builtin.len, args := #[Go.Operand.tmp 54], argTypes := #[26] }, (some (50, true))⟩,
  ⟨some 56, Go.Op.slice 26 (Go.Operand.tmp 53) none (some (Go.Operand.tmp 55)) none, (some (50, true))⟩,
  ⟨some 57, Go.Op.convert 26 9 (Go.Operand.tmp 56), (some (50, true))⟩,
  ⟨some 58, Go.Op.binOp Go.BinOp.eql 9 (Go.Operand.tmp 52) (Go.Operand.tmp 57) 9, (some (50, true))⟩,
  ⟨some 59, Go.Op.pick (Go.Operand.tmp 50) (Go.Operand.tmp 58) (Go.Operand.const (Go.Value.bool false)), none⟩,
  ⟨some 60, Go.Op.move (Go.Operand.tmp 59), none⟩,
  ⟨some 61, Go.Op.move (Go.Operand.tmp 7), (some (60, true))⟩,
  ⟨some 62, Go.Op.call { callee := Go.Callee.builtin Go.Builtin.len, args := #[Go.Operand.tmp 61], argTypes := #[26] }, (some (60, true))⟩,
  ⟨some 63, Go.Op.move (Go.Operand.tmp 2), (some (60, true))⟩,
  ⟨some 64, Go.Op.binOp Go.BinOp.rem 5 (Go.Operand.tmp 63) (Go.Operand.const (Go.Value.int Go.IntKind.u8 5)) 5, (some (60, true))⟩,
  ⟨some 65, Go.Op.convert 5 3 (Go.Operand.tmp 64), (some (60, true))⟩,
  ⟨some 66, Go.Op.binOp Go.BinOp.mul 3 (Go.Operand.const (Go.Value.int Go.IntKind.i64 64)) (Go.Operand.tmp 65) 3, (some (60, true))⟩,
  ⟨some 67, Go.Op.binOp Go.BinOp.add 3 (Go.Operand.tmp 66) (Go.Operand.const (Go.Value.int Go.IntKind.i64 10)) 3, (some (60, true))⟩,
  ⟨some 68, Go.Op.binOp Go.BinOp.eql 3 (Go.Operand.tmp 62) (Go.Operand.tmp 67) 3, (some (60, true))⟩,
  ⟨some 69, Go.Op.pick (Go.Operand.tmp 60) (Go.Operand.tmp 68) (Go.Operand.const (Go.Value.bool false)), none⟩,
  ⟨some 6, Go.Op.assign (Go.Operand.tmp 69), none⟩]
  []) (.ret)))))))
def ms4_0 : List Nat := [0, 1, 3, 5, 10, 11, 12, 13, 14, 15, 16, 17, 18, 19, 20, 21, 22, 23, 24, 25, 26, 27, 28, 29, 30, 31, 32, 33, 35, 36, 37, 38, 39, 40, 41, 42, 43, 44, 45, 46, 47]
theorem ls4 : Try.f4.body.map (strip Try.prog impCodL) = some lc4 := by kernel_rfl
theorem lcall4 {args : List AV} (hargs : args.length ≤ 70) {H0 : AHeap} (lo : Nat) (hlo : H0.length ≤ lo) {r0 : AV} {H0' : AHeap}
    (h : lavc Try.prog glob lc4 (args ++ List.replicate (70 - args.length) (.v undef)) H0 fun e t H => (e = .normal ∨ e = .ret) ∧ aret Try.prog t H [Go.ResultVar.tmp 6] fun r => Fin lo H r r0 H0') :
    ACall Try.prog glob (H0.length == 0) 4 args H0 r0 H0' := LCall' ctx Try.func4 (by kernel_rfl) ls4 (by kernel_rfl) (by kernel_rfl) hargs lo hlo h
/-- escutcheon/escutcheonlaw06.ChachaStreams -/
def lc6 : LCode := .seq (.reg []
  [⟨some 3, Go.Op.box 22 (Go.Operand.tmp 0), none⟩,
  ⟨some 4, Go.Op.box 33 (Go.Operand.tmp 1), none⟩,
  ⟨some 5, Go.Op.box 42 (Go.Operand.tmp 2), none⟩,
  ⟨some 6, Go.Op.assign (Go.Operand.const (Go.Value.bool false)), none⟩]) (.seq (.seq (.reg []
  [⟨some 14, Go.Op.call { callee := Go.Callee.value (Go.Operand.func 8), args := #[], argTypes := #[] }, none⟩,
  ⟨some 15, Go.Op.unOp Go.UnOp.not 4 (Go.Operand.tmp 14), none⟩]) (.cond (Go.Operand.tmp 15) (.seq (.reg []
  [⟨some 6, Go.Op.assign (Go.Operand.const (Go.Value.bool false)), none⟩]) (.ret)) (.skip))) (.seq (.reg []
  [⟨some 16, Go.Op.indexAddr 42 (Go.Operand.tmp 5) (Go.Operand.const (Go.Value.int Go.IntKind.i64 0)), none⟩,
  ⟨some 17, Go.Op.load 5 (Go.Operand.tmp 16), none⟩,
  ⟨some 18, Go.Op.convert 5 3 (Go.Operand.tmp 17), none⟩,
  ⟨some 7, Go.Op.assign (Go.Operand.tmp 18), none⟩]) (.seq (.reg [⟨some 20, Go.Op.slice 22 (Go.Operand.tmp 3) none none none, none⟩,
  ⟨some 21, Go.Op.slice 33 (Go.Operand.tmp 4) none none none, none⟩,
  ⟨some 22, Go.Op.move (Go.Operand.tmp 7), none⟩,
  ⟨some 23, Go.Op.call { callee := Go.Callee.value (Go.Operand.func 13), args := #[Go.Operand.tmp 20, Go.Operand.tmp 21, Go.Operand.tmp 22], argTypes := #[26, 26, 3] }, none⟩,
  ⟨some 19, Go.Op.move (Go.Operand.tmp 23), none⟩,
  ⟨some 24, Go.Op.extract (Go.Operand.tmp 19) 0, none⟩,
  ⟨some 25, Go.Op.extract (Go.Operand.tmp 19) 1, none⟩,
  ⟨some 8, Go.Op.assign (Go.Operand.tmp 24), none⟩,
  ⟨some 9, Go.Op.assign (Go.Operand.tmp 25), none⟩]
  []) (.seq (.reg [⟨some 27, Go.Op.slice 22 (Go.Operand.tmp 3) none none none, none⟩,
  ⟨some 28, Go.Op.slice 33 (Go.Operand.tmp 4) none none none, none⟩,
  ⟨some 29, Go.Op.move (Go.Operand.tmp 7), none⟩,
  ⟨some 30, Go.Op.indexAddr 42 (Go.Operand.tmp 5) (Go.Operand.const (Go.Value.int Go.IntKind.i64 1)), none⟩,
  ⟨some 31, Go.Op.load 5 (Go.Operand.tmp 30), none⟩,
  ⟨some 32, Go.Op.convert 5 3 (Go.Operand.tmp 31), none⟩,
  ⟨some 33, Go.Op.binOp Go.BinOp.add 3 (Go.Operand.tmp 29) (Go.Operand.tmp 32) 3, none⟩,
  ⟨some 34, Go.Op.call { callee := Go.Callee.value (Go.Operand.func 13), args := #[Go.Operand.tmp 27, Go.Operand.tmp 28, Go.Operand.tmp 33], argTypes := #[26, 26, 3] }, none⟩,
  ⟨some 26, Go.Op.move (Go.Operand.tmp 34), none⟩,
  ⟨some 35, Go.Op.extract (Go.Operand.tmp 26) 0, none⟩,
  ⟨some 36, Go.Op.extract (Go.Operand.tmp 26) 1, none⟩,
  ⟨some 10, Go.Op.assign (Go.Operand.tmp 35), none⟩,
  ⟨some 11, Go.Op.assign (Go.Operand.tmp 36), none⟩]
  []) (.seq (.reg [⟨some 38, Go.Op.slice 22 (Go.Operand.tmp 3) none none none, none⟩,
  ⟨some 39, Go.Op.slice 33 (Go.Operand.tmp 4) none none none, none⟩,
  ⟨some 40, Go.Op.move (Go.Operand.tmp 7), none⟩,
  ⟨some 41, Go.Op.makeSlice 26 (Go.Operand.tmp 40) (Go.Operand.tmp 40), none⟩,
  ⟨some 42, Go.Op.buildSlice 58 1 #[(0, Go.Operand.tmp 41)], none⟩,
  ⟨some 43, Go.Op.call { callee := Go.Callee.value (Go.Operand.func 14), args := #[Go.Operand.tmp 38, Go.Operand.tmp 39, Go.Operand.tmp 42], argTypes := #[26, 26, 58] }, none⟩,
  ⟨some 37, Go.Op.move (Go.Operand.tmp 43), none⟩,
  ⟨some 44, Go.Op.extract (Go.Operand.tmp 37) 0, none⟩,
  ⟨some 45, Go.Op.extract (Go.Operand.tmp 37) 1, none⟩,
  ⟨some 12, Go.Op.assign (Go.Operand.tmp 44), none⟩,
  ⟨some 13, Go.Op.assign (Go.Operand.tmp 45), none⟩]
  []) (.seq (.reg [⟨some 46, Go.Op.move (Go.Operand.tmp 9), none⟩,
  ⟨some 47, Go.Op.binOp Go.BinOp.eql 34 (Go.Operand.tmp 46) (Go.Operand.const (Go.Value.int Go.IntKind.i64 0)) 34, none⟩,
  ⟨some 48, Go.Op.move (Go.Operand.tmp 47), none⟩,
  ⟨some 49, Go.Op.move (Go.Operand.tmp 11), (some (48, true))⟩,
  ⟨some 50, Go.Op.binOp Go.BinOp.eql 34 (Go.Operand.tmp 49) (Go.Operand.const (Go.Value.int Go.IntKind.i64 0)) 34, (some (48, true))⟩,
  ⟨some 51, Go.Op.pick (Go.Operand.tmp 48) (Go.Operand.tmp 50) (Go.Operand.const (Go.Value.bool false)), none⟩,
  ⟨some 52, Go.Op.move (Go.Operand.tmp 51), none⟩,
  ⟨some 53, Go.Op.move (Go.Operand.tmp 13), (some (52, true))⟩,
  ⟨some 54, Go.Op.binOp Go.BinOp.eql 34 (Go.Operand.tmp 53) (Go.Operand.const (Go.Value.int Go.IntKind.i64 0)) 34, (some (52, true))⟩,
  ⟨some 55, Go.Op.pick (Go.Operand.tmp 52) (Go.Operand.tmp 54) (Go.Operand.const (Go.Value.bool false)), none⟩,
  ⟨some 56, Go.Op.move (Go.Operand.tmp 55), none⟩,
  ⟨some 57, Go.Op.move (Go.Operand.tmp 8), (some (56, true))⟩,
  ⟨some 58, Go.Op.call { callee := Go.Callee.builtin Go.Builtin.len, args := #[Go.Operand.tmp 57], argTypes := #[26] }, (some (56, true))⟩,
  ⟨some 59, Go.Op.move (Go.Operand.tmp 7), (some (56, true))⟩,
  ⟨some 60, Go.Op.binOp Go.BinOp.eql 3 (Go.Operand.tmp 58) (Go.Operand.tmp 59) 3, (some (56, true))⟩,
  ⟨some 61, Go.Op.pick (Go.Operand.tmp 56) (Go.Operand.tmp 60) (Go.Operand.const (Go.Value.bool false)), none⟩,
  ⟨some 62, Go.Op.move (Go.Operand.tmp 61), none⟩,
  ⟨some 63, Go.Op.move (Go.Operand.tmp 10), (some (62, true))⟩,
  ⟨some 64, Go.Op.move (Go.Operand.tmp 7), (some (62, true))⟩,
  ⟨some 65, Go.Op.slice 26 (Go.Operand.tmp 63) none (some (Go.Operand.tmp 64)) none, (some (62, true))⟩,
  ⟨some 66, Go.Op.convert 26 9 (Go.Operand.tmp 65), (some (62, true))⟩,
  ⟨some 67, Go.Op.move (Go.Operand.tmp 8), (some (62, true))⟩,
  ⟨some 68, Go.Op.convert 26 9 (Go.Operand.tmp 67), (some (62, true))⟩,
  ⟨some 69, Go.Op.binOp Go.BinOp.eql 9 (Go.Operand.tmp 66) (Go.Operand.tmp 68) 9, (some (62, true))⟩,
  ⟨some 70, Go.Op.pick (Go.Operand.tmp 62) (Go.Operand.tmp 69) (Go.Operand.const (Go.Value.bool false)), none⟩,
  ⟨some 71, Go.Op.move (Go.Operand.tmp 70), none⟩,
  ⟨some 72, Go.Op.move (Go.Operand.tmp 12), (some (71, true))⟩,
  ⟨some 73, Go.Op.convert 26 9 (Go.Operand.tmp 72), (some (71, true))⟩,
  ⟨some 74, Go.Op.move (Go.Operand.tmp 8), (some (71, true))⟩,
  ⟨some 75, Go.Op.convert 26 9 (Go.Operand.tmp 74), (some (71, true))⟩,
  ⟨some 76, Go.Op.binOp Go.BinOp.eql 9 (Go.Operand.tmp 73) (Go.Operand.tmp 75) 9, (some (71, true))⟩,
  ⟨some 77, Go.Op.pick (Go.Operand.tmp 71) (Go.Operand.tmp 76) (Go.Operand.const (Go.Value.bool false)), none⟩,
  ⟨some 6, Go.Op.assign (Go.Operand.tmp 77), none⟩]
  []) (.ret)))))))
theorem ls6 : Try.f6.body.map (strip Try.prog impCodL) = some lc6 := by kernel_rfl
theorem lcall6 {args : List AV} (hargs : args.length ≤ 78) {H0 : AHeap} (lo : Nat) (hlo : H0.length ≤ lo) {r0 : AV} {H0' : AHeap}
    (h : lavc Try.prog glob lc6 (args ++ List.replicate (78 - args.length) (.v undef)) H0 fun e t H => (e = .normal ∨ e = .ret) ∧ aret Try.prog t H [Go.ResultVar.tmp 6] fun r => Fin lo H r r0 H0') :
    ACall Try.prog glob (H0.length == 0) 6 args H0 r0 H0' := LCall' ctx Try.func6 (by kernel_rfl) ls6 (by kernel_rfl) (by kernel_rfl) hargs lo hlo h
/-- escutcheon/escutcheonlaw06.ChachaLengths -/
def lc7 : LCode := .seq (.reg []
  [⟨some 6, Go.Op.assign (Go.Operand.const (Go.Value.bool false)), none⟩]) (.seq (.seq (.reg []
  [⟨some 11, Go.Op.call { callee := Go.Callee.value (Go.Operand.func 8), args := #[], argTypes := #[] }, none⟩,
  ⟨some 12, Go.Op.unOp Go.UnOp.not 4 (Go.Operand.tmp 11), none⟩,
  ⟨some 13, Go.Op.move (Go.Operand.tmp 12), none⟩,
  ⟨some 14, Go.Op.move (Go.Operand.tmp 0), (some (13, false))⟩,
  ⟨some 15, Go.Op.call { callee := Go.Callee.builtin Go.Builtin.len, args := #[Go.Operand.tmp 14], argTypes := #[26] }, (some (13, false))⟩,
  ⟨some 16, Go.Op.binOp Go.BinOp.gtr 3 (Go.Operand.tmp 15) (Go.Operand.const (Go.Value.int Go.IntKind.i64 100)) 3, (some (13, false))⟩,
  ⟨some 17, Go.Op.pick (Go.Operand.tmp 13) (Go.Operand.const (Go.Value.bool true)) (Go.Operand.tmp 16), none⟩,
  ⟨some 18, Go.Op.move (Go.Operand.tmp 17), none⟩,
  ⟨some 19, Go.Op.move (Go.Operand.tmp 1), (some (18, false))⟩,
  ⟨some 20, Go.Op.call { callee := Go.Callee.builtin Go.Builtin.len, args := #[Go.Operand.tmp 19], argTypes := #[26] }, (some (18, false))⟩,
  ⟨some 21, Go.Op.binOp Go.BinOp.gtr 3 (Go.Operand.tmp 20) (Go.Operand.const (Go.Value.int Go.IntKind.i64 100)) 3, (some (18, false))⟩,
  ⟨some 22, Go.Op.pick (Go.Operand.tmp 18) (Go.Operand.const (Go.Value.bool true)) (Go.Operand.tmp 21), none⟩]) (.cond (Go.Operand.tmp 22) (.seq (.reg []
  [⟨some 23, Go.Op.call { callee := Go.Callee.value (Go.Operand.func 8), args := #[], argTypes := #[] }, none⟩,
  ⟨some 6, Go.Op.assign (Go.Operand.tmp 23), none⟩]) (.ret)) (.skip))) (.seq (.reg []
  [⟨some 25, Go.Op.move (Go.Operand.tmp 0), none⟩,
  ⟨some 26, Go.Op.move (Go.Operand.tmp 1), none⟩,
  ⟨some 27, Go.Op.move (Go.Operand.tmp 2), none⟩,
  ⟨some 28, Go.Op.convert 5 3 (Go.Operand.tmp 27), none⟩,
  ⟨some 29, Go.Op.call { callee := Go.Callee.value (Go.Operand.func 13), args := #[Go.Operand.tmp 25, Go.Operand.tmp 26, Go.Operand.tmp 28], argTypes := #[26, 26, 3] }, none⟩,
  ⟨some 24, Go.Op.move (Go.Operand.tmp 29), none⟩,
  ⟨some 30, Go.Op.extract (Go.Operand.tmp 24) 0, none⟩,
  ⟨some 31, Go.Op.extract (Go.Operand.tmp 24) 1, none⟩,
  ⟨some 7, Go.Op.assign (Go.Operand.tmp 30), none⟩,
  ⟨some 8, Go.Op.assign (Go.Operand.tmp 31), none⟩]) (.seq (.reg []
  [⟨some 33, Go.Op.move (Go.Operand.tmp 0), none⟩,
  ⟨some 34, Go.Op.move (Go.Operand.tmp 1), none⟩,
  ⟨some 35, Go.Op.call { callee := Go.Callee.value (Go.Operand.func 14), args := #[Go.Operand.tmp 33, Go.Operand.tmp 34, Go.Operand.const (Go.Value.slice none 0 0)], argTypes := #[26, 26, 58] }, none⟩,
  ⟨some 32, Go.Op.move (Go.Operand.tmp 35), none⟩,
  ⟨some 36, Go.Op.extract (Go.Operand.tmp 32) 0, none⟩,
  ⟨some 37, Go.Op.extract (Go.Operand.tmp 32) 1, none⟩,
  ⟨some 9, Go.Op.assign (Go.Operand.tmp 36), none⟩,
  ⟨some 10, Go.Op.assign (Go.Operand.tmp 37), none⟩]) (.seq (.seq (.reg []
  [⟨some 38, Go.Op.move (Go.Operand.tmp 0), none⟩,
  ⟨some 39, Go.Op.call { callee := Go.Callee.builtin Go.Builtin.len, args := #[Go.Operand.tmp 38], argTypes := #[26] }, none⟩,
  ⟨some 40, Go.Op.binOp Go.BinOp.neq 3 (Go.Operand.tmp 39) (Go.Operand.const (Go.Value.int Go.IntKind.i64 32)) 3, none⟩,
  ⟨some 41, Go.Op.move (Go.Operand.tmp 40), none⟩,
  ⟨some 42, Go.Op.move (Go.Operand.tmp 1), (some (41, false))⟩,
  ⟨some 43, Go.Op.call { callee := Go.Callee.builtin Go.Builtin.len, args := #[Go.Operand.tmp 42], argTypes := #[26] }, (some (41, false))⟩,
  ⟨some 44, Go.Op.binOp Go.BinOp.neq 3 (Go.Operand.tmp 43) (Go.Operand.const (Go.Value.int Go.IntKind.i64 24)) 3, (some (41, false))⟩,
  ⟨some 45, Go.Op.pick (Go.Operand.tmp 41) (Go.Operand.const (Go.Value.bool true)) (Go.Operand.tmp 44), none⟩]) (.cond (Go.Operand.tmp 45) (.seq (.reg []
  [⟨some 46, Go.Op.move (Go.Operand.tmp 8), none⟩,
  ⟨some 47, Go.Op.binOp Go.BinOp.eql 34 (Go.Operand.tmp 46) (Go.Operand.const (Go.Value.int Go.IntKind.i64 3)) 34, none⟩,
  ⟨some 48, Go.Op.move (Go.Operand.tmp 47), none⟩,
  ⟨some 49, Go.Op.move (Go.Operand.tmp 10), (some (48, true))⟩,
  ⟨some 50, Go.Op.binOp Go.BinOp.eql 34 (Go.Operand.tmp 49) (Go.Operand.const (Go.Value.int Go.IntKind.i64 3)) 34, (some (48, true))⟩,
  ⟨some 51, Go.Op.pick (Go.Operand.tmp 48) (Go.Operand.tmp 50) (Go.Operand.const (Go.Value.bool false)), none⟩,
  ⟨some 52, Go.Op.move (Go.Operand.tmp 51), none⟩,
  ⟨some 53, Go.Op.move (Go.Operand.tmp 7), (some (52, true))⟩,
  ⟨some 54, Go.Op.call { callee := Go.Callee.builtin Go.Builtin.len, args := #[Go.Operand.tmp 53], argTypes := #[26] }, (some (52, true))⟩,
  ⟨some 55, Go.Op.binOp Go.BinOp.eql 3 (Go.Operand.tmp 54) (Go.Operand.const (Go.Value.int Go.IntKind.i64 0)) 3, (some (52, true))⟩,
  ⟨some 56, Go.Op.pick (Go.Operand.tmp 52) (Go.Operand.tmp 55) (Go.Operand.const (Go.Value.bool false)), none⟩,
  ⟨some 57, Go.Op.move (Go.Operand.tmp 56), none⟩,
  ⟨some 58, Go.Op.move (Go.Operand.tmp 9), (some (57, true))⟩,
  ⟨some 59, Go.Op.call { callee := Go.Callee.builtin Go.Builtin.len, args := #[Go.Operand.tmp 58], argTypes := #[26] }, (some (57, true))⟩,
  ⟨some 60, Go.Op.binOp Go.BinOp.eql 3 (Go.Operand.tmp 59) (Go.Operand.const (Go.Value.int Go.IntKind.i64 0)) 3, (some (57, true))⟩,
  ⟨some 61, Go.Op.pick (Go.Operand.tmp 57) (Go.Operand.tmp 60) (Go.Operand.const (Go.Value.bool false)), none⟩,
  ⟨some 6, Go.Op.assign (Go.Operand.tmp 61), none⟩]) (.ret)) (.skip))) (.seq (.reg []
  [⟨some 62, Go.Op.move (Go.Operand.tmp 8), none⟩,
  ⟨some 63, Go.Op.binOp Go.BinOp.eql 34 (Go.Operand.tmp 62) (Go.Operand.const (Go.Value.int Go.IntKind.i64 0)) 34, none⟩,
  ⟨some 64, Go.Op.move (Go.Operand.tmp 63), none⟩,
  ⟨some 65, Go.Op.move (Go.Operand.tmp 10), (some (64, true))⟩,
  ⟨some 66, Go.Op.binOp Go.BinOp.eql 34 (Go.Operand.tmp 65) (Go.Operand.const (Go.Value.int Go.IntKind.i64 0)) 34, (some (64, true))⟩,
  ⟨some 67, Go.Op.pick (Go.Operand.tmp 64) (Go.Operand.tmp 66) (Go.Operand.const (Go.Value.bool false)), none⟩,
  ⟨some 68, Go.Op.move (Go.Operand.tmp 67), none⟩,
  ⟨some 69, Go.Op.move (Go.Operand.tmp 7), (some (68, true))⟩,
  ⟨some 70, Go.Op.call { callee := Go.Callee.builtin Go.Builtin.len, args := #[Go.Operand.tmp 69], argTypes := #[26] }, (some (68, true))⟩,
  ⟨some 71, Go.Op.move (Go.Operand.tmp 2), (some (68, true))⟩,
  ⟨some 72, Go.Op.convert 5 3 (Go.Operand.tmp 71), (some (68, true))⟩,
  ⟨some 73, Go.Op.binOp Go.BinOp.eql 3 (Go.Operand.tmp 70) (Go.Operand.tmp 72) 3, (some (68, true))⟩,
  ⟨some 74, Go.Op.pick (Go.Operand.tmp 68) (Go.Operand.tmp 73) (Go.Operand.const (Go.Value.bool false)), none⟩,
  ⟨some 75, Go.Op.move (Go.Operand.tmp 74), none⟩,
  ⟨some 76, Go.Op.move (Go.Operand.tmp 9), (some (75, true))⟩,
  ⟨some 77, Go.Op.call { callee := Go.Callee.builtin Go.Builtin.len, args := #[Go.Operand.tmp 76], argTypes := #[26] }, (some (75, true))⟩,
  ⟨some 78, Go.Op.binOp Go.BinOp.eql 3 (Go.Operand.tmp 77) (Go.Operand.const (Go.Value.int Go.IntKind.i64 0)) 3, (some (75, true))⟩,
  ⟨some 79, Go.Op.pick (Go.Operand.tmp 75) (Go.Operand.tmp 78) (Go.Operand.const (Go.Value.bool false)), none⟩,
  ⟨some 6, Go.Op.assign (Go.Operand.tmp 79), none⟩]) (.ret))))))
theorem ls7 : Try.f7.body.map (strip Try.prog impCodL) = some lc7 := by kernel_rfl
theorem lcall7 {args : List AV} (hargs : args.length ≤ 80) {H0 : AHeap} (lo : Nat) (hlo : H0.length ≤ lo) {r0 : AV} {H0' : AHeap}
    (h : lavc Try.prog glob lc7 (args ++ List.replicate (80 - args.length) (.v undef)) H0 fun e t H => (e = .normal ∨ e = .ret) ∧ aret Try.prog t H [Go.ResultVar.tmp 6] fun r => Fin lo H r r0 H0') :
    ACall Try.prog glob (H0.length == 0) 7 args H0 r0 H0' := LCall' ctx Try.func7 (by kernel_rfl) ls7 (by kernel_rfl) (by kernel_rfl) hargs lo hlo h
end Go.Abs.S
