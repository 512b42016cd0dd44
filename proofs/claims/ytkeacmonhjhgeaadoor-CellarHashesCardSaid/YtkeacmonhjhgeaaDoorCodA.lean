/- Code, as it is looked at; written by wip/leancode.py. -/
import Derived.Test.YtkeacmonhjhgeaaDoorAbsSeat
namespace Go.Abs.S
open Go.Proofs
set_option maxRecDepth 100000
def impCodA : FuncId → Bool := fun f => f == 12 || f == 15 || f == 30 || f == 36
/-- escutcheon/cellar.sum -/
def lc13 : LCode := .seq (.reg []
  [⟨some 2, Go.Op.assign (Go.Operand.const (Go.Value.slice none 0 0)), none⟩]) (.seq (.reg []
  [⟨some 3, Go.Op.move (Go.Operand.tmp 0), none⟩,
  ⟨some 4, Go.Op.call { callee := Go.Callee.value (Go.Operand.func 17), args := #[Go.Operand.tmp 3], argTypes := #[44] }, none⟩,
  ⟨some 5, Go.Op.buildSlice 44 1 #[(0, Go.Operand.tmp 4)], none⟩,
  ⟨some 6, Go.Op.call { callee := Go.Callee.value (Go.Operand.func 25), args := #[Go.Operand.tmp 5], argTypes := #[44] }, none⟩,
  ⟨some 2, Go.Op.assign (Go.Operand.tmp 6), none⟩]) (.ret))
theorem ls13 : Tryd.f13.body.map (strip Tryd.prog impCodA) = some lc13 := by kernel_rfl
theorem lcall13 {args : List AV} (hargs : args.length ≤ 7) {H0 : AHeap} (lo : Nat) (hlo : H0.length ≤ lo) {r0 : AV} {H0' : AHeap}
    (h : lavc Tryd.prog glob lc13 (args ++ List.replicate (7 - args.length) (.v undef)) H0 fun e t H => (e = .normal ∨ e = .ret) ∧ aret Tryd.prog t H [Go.ResultVar.tmp 2] fun r => Fin lo H r r0 H0') :
    ACall Tryd.prog glob (H0.length == 0) 13 args H0 r0 H0' := LCall' ctx Tryd.func13 (by kernel_rfl) ls13 (by kernel_rfl) (by kernel_rfl) hargs lo hlo h
theorem lcallk13 {args : List AV} (hargs : args.length ≤ 7) {H0 : AHeap} {r0 : AV} {H0' : AHeap}
    (h : lavc Tryd.prog glob lc13 (args ++ List.replicate (7 - args.length) (.v undef)) H0 fun e t H => (e = .normal ∨ e = .ret) ∧ aret Tryd.prog t H [Go.ResultVar.tmp 2] fun r => r = r0 ∧ H = H0') :
    ACall Tryd.prog glob false 13 args H0 r0 H0' := LCallK' ctx Tryd.func13 (by kernel_rfl) ls13 (by kernel_rfl) (by kernel_rfl) hargs h
/-- escutcheon/cellar.eights -/
def lc14 : LCode := .seq (.reg []
  [⟨some 2, Go.Op.assign (Go.Operand.const (Go.Value.slice none 0 0)), none⟩]) (.seq (.reg []
  [⟨some 3, Go.Op.assign (Go.Operand.const (Go.Value.slice none 0 0)), none⟩]) (.seq (.seq (.reg []
  [⟨some 6, Go.Op.move (Go.Operand.tmp 0), none⟩,
  ⟨some 7, Go.Op.call { callee := Go.Callee.builtin Go.Builtin.len, args := #[Go.Operand.tmp 6], argTypes := #[52] }, none⟩,
  ⟨some 8, Go.Op.move (Go.Operand.const (Go.Value.int Go.IntKind.i64 0)), none⟩]) (.block 0 (.loop (.seq (.reg []
  [⟨some 9, Go.Op.binOp Go.BinOp.lss 3 (Go.Operand.tmp 8) (Go.Operand.tmp 7) 3, none⟩]) (.seq (.cond (Go.Operand.tmp 9) (.skip) (.exit 0)) (.seq (.block 1 (.seq (.reg []
  [⟨some 10, Go.Op.indexAddr 52 (Go.Operand.tmp 6) (Go.Operand.tmp 8), none⟩,
  ⟨some 11, Go.Op.load 3 (Go.Operand.tmp 10), none⟩,
  ⟨some 5, Go.Op.assign (Go.Operand.tmp 11), none⟩]) (.reg []
  [⟨some 12, Go.Op.move (Go.Operand.tmp 3), none⟩,
  ⟨some 13, Go.Op.move (Go.Operand.tmp 5), none⟩,
  ⟨some 14, Go.Op.call { callee := Go.Callee.value (Go.Operand.func 24), args := #[Go.Operand.tmp 13], argTypes := #[3] }, none⟩,
  ⟨some 15, Go.Op.call { callee := Go.Callee.builtin Go.Builtin.append, args := #[Go.Operand.tmp 12, Go.Operand.tmp 14], argTypes := #[22, 22] }, none⟩,
  ⟨some 3, Go.Op.assign (Go.Operand.tmp 15), none⟩]))) (.reg []
  [⟨some 16, Go.Op.binOp Go.BinOp.add 3 (Go.Operand.tmp 8) (Go.Operand.const (Go.Value.int Go.IntKind.i64 1)) 3, none⟩,
  ⟨some 8, Go.Op.move (Go.Operand.tmp 16), none⟩]))))))) (.seq (.reg []
  [⟨some 17, Go.Op.move (Go.Operand.tmp 3), none⟩,
  ⟨some 2, Go.Op.assign (Go.Operand.tmp 17), none⟩]) (.ret))))
def ms14_0 : List Nat := [0, 1, 3, 4, 5, 8, 9, 10, 11, 12, 13, 14, 15, 16]
def mj14_0 : List Nat := [0, 1, 4]
theorem ls14 : Tryd.f14.body.map (strip Tryd.prog impCodA) = some lc14 := by kernel_rfl
theorem lcall14 {args : List AV} (hargs : args.length ≤ 18) {H0 : AHeap} (lo : Nat) (hlo : H0.length ≤ lo) {r0 : AV} {H0' : AHeap}
    (h : lavc Tryd.prog glob lc14 (args ++ List.replicate (18 - args.length) (.v undef)) H0 fun e t H => (e = .normal ∨ e = .ret) ∧ aret Tryd.prog t H [Go.ResultVar.tmp 2] fun r => Fin lo H r r0 H0') :
    ACall Tryd.prog glob (H0.length == 0) 14 args H0 r0 H0' := LCall' ctx Tryd.func14 (by kernel_rfl) ls14 (by kernel_rfl) (by kernel_rfl) hargs lo hlo h
theorem lcallk14 {args : List AV} (hargs : args.length ≤ 18) {H0 : AHeap} {r0 : AV} {H0' : AHeap}
    (h : lavc Tryd.prog glob lc14 (args ++ List.replicate (18 - args.length) (.v undef)) H0 fun e t H => (e = .normal ∨ e = .ret) ∧ aret Tryd.prog t H [Go.ResultVar.tmp 2] fun r => r = r0 ∧ H = H0') :
    ACall Tryd.prog glob false 14 args H0 r0 H0' := LCallK' ctx Tryd.func14 (by kernel_rfl) ls14 (by kernel_rfl) (by kernel_rfl) hargs h
/-- escutcheon/blake.Sum -/
def lc16 : LCode := .seq (.reg []
  [⟨some 6, Go.Op.assign (Go.Operand.const (Go.Value.slice none 0 0)), none⟩,
  ⟨some 7, Go.Op.assign (Go.Operand.const (Go.Value.int Go.IntKind.i64 0)), none⟩]) (.seq (.seq (.reg []
  [⟨some 11, Go.Op.move (Go.Operand.tmp 0), none⟩,
  ⟨some 12, Go.Op.binOp Go.BinOp.lss 3 (Go.Operand.tmp 11) (Go.Operand.const (Go.Value.int Go.IntKind.i64 1)) 3, none⟩,
  ⟨some 13, Go.Op.move (Go.Operand.tmp 12), none⟩,
  ⟨some 14, Go.Op.move (Go.Operand.tmp 0), (some (13, false))⟩,
  ⟨some 15, Go.Op.binOp Go.BinOp.gtr 3 (Go.Operand.tmp 14) (Go.Operand.const (Go.Value.int Go.IntKind.i64 64)) 3, (some (13, false))⟩,
  ⟨some 16, Go.Op.pick (Go.Operand.tmp 13) (Go.Operand.const (Go.Value.bool true)) (Go.Operand.tmp 15), none⟩,
  ⟨some 17, Go.Op.move (Go.Operand.tmp 16), none⟩,
  ⟨some 18, Go.Op.move (Go.Operand.tmp 1), (some (17, false))⟩,
  ⟨some 19, Go.Op.call { callee := Go.Callee.builtin Go.Builtin.len, args := #[Go.Operand.tmp 18], argTypes := #[22] }, (some (17, false))⟩,
  ⟨some 20, Go.Op.binOp Go.BinOp.gtr 3 (Go.Operand.tmp 19) (Go.Operand.const (Go.Value.int Go.IntKind.i64 64)) 3, (some (17, false))⟩,
  ⟨some 21, Go.Op.pick (Go.Operand.tmp 17) (Go.Operand.const (Go.Value.bool true)) (Go.Operand.tmp 20), none⟩]) (.cond (Go.Operand.tmp 21) (.seq (.reg []
  [⟨some 6, Go.Op.assign (Go.Operand.const (Go.Value.slice none 0 0)), none⟩,
  ⟨some 7, Go.Op.assign (Go.Operand.const (Go.Value.int Go.IntKind.i64 1)), none⟩]) (.ret)) (.skip))) (.seq (.reg []
  [⟨some 22, Go.Op.load 55 (Go.Operand.global 0), none⟩,
  ⟨some 8, Go.Op.alloc 56, none⟩,
  ⟨none, Go.Op.store 56 (Go.Operand.tmp 8) (Go.Operand.tmp 22), none⟩]) (.seq (.reg []
  [⟨some 23, Go.Op.indexAddr 56 (Go.Operand.tmp 8) (Go.Operand.const (Go.Value.int Go.IntKind.i64 0)), none⟩,
  ⟨some 24, Go.Op.load 54 (Go.Operand.tmp 23), none⟩,
  ⟨some 25, Go.Op.move (Go.Operand.tmp 0), none⟩,
  ⟨some 26, Go.Op.convert 3 54 (Go.Operand.tmp 25), none⟩,
  ⟨some 27, Go.Op.move (Go.Operand.tmp 1), none⟩,
  ⟨some 28, Go.Op.call { callee := Go.Callee.builtin Go.Builtin.len, args := #[Go.Operand.tmp 27], argTypes := #[22] }, none⟩,
  ⟨some 29, Go.Op.convert 3 54 (Go.Operand.tmp 28), none⟩,
  ⟨some 30, Go.Op.binOp Go.BinOp.shl 54 (Go.Operand.tmp 29) (Go.Operand.const (Go.Value.int Go.IntKind.u64 8)) 57, none⟩,
  ⟨some 31, Go.Op.binOp Go.BinOp.or 54 (Go.Operand.tmp 26) (Go.Operand.tmp 30) 54, none⟩,
  ⟨some 32, Go.Op.binOp Go.BinOp.or 54 (Go.Operand.tmp 31) (Go.Operand.const (Go.Value.int Go.IntKind.u64 65536)) 54, none⟩,
  ⟨some 33, Go.Op.binOp Go.BinOp.or 54 (Go.Operand.tmp 32) (Go.Operand.const (Go.Value.int Go.IntKind.u64 16777216)) 54, none⟩,
  ⟨some 34, Go.Op.binOp Go.BinOp.xor 54 (Go.Operand.tmp 24) (Go.Operand.tmp 33) 54, none⟩,
  ⟨some 35, Go.Op.indexAddr 56 (Go.Operand.tmp 8) (Go.Operand.const (Go.Value.int Go.IntKind.i64 0)), none⟩,
  ⟨none, Go.Op.store 54 (Go.Operand.tmp 35) (Go.Operand.tmp 34), none⟩]) (.seq (.reg []
  [⟨some 9, Go.Op.assign (Go.Operand.const (Go.Value.slice none 0 0)), none⟩]) (.seq (.seq (.reg []
  [⟨some 36, Go.Op.move (Go.Operand.tmp 1), none⟩,
  ⟨some 37, Go.Op.call { callee := Go.Callee.builtin Go.Builtin.len, args := #[Go.Operand.tmp 36], argTypes := #[22] }, none⟩,
  ⟨some 38, Go.Op.binOp Go.BinOp.gtr 3 (Go.Operand.tmp 37) (Go.Operand.const (Go.Value.int Go.IntKind.i64 0)) 3, none⟩]) (.cond (Go.Operand.tmp 38) (.reg []
  [⟨some 39, Go.Op.move (Go.Operand.tmp 1), none⟩,
  ⟨some 40, Go.Op.call { callee := Go.Callee.value (Go.Operand.func 28), args := #[Go.Operand.tmp 39], argTypes := #[22] }, none⟩,
  ⟨some 41, Go.Op.move (Go.Operand.tmp 1), none⟩,
  ⟨some 42, Go.Op.call { callee := Go.Callee.builtin Go.Builtin.len, args := #[Go.Operand.tmp 41], argTypes := #[22] }, none⟩,
  ⟨some 43, Go.Op.binOp Go.BinOp.sub 3 (Go.Operand.const (Go.Value.int Go.IntKind.i64 128)) (Go.Operand.tmp 42) 3, none⟩,
  ⟨some 44, Go.Op.call { callee := Go.Callee.builtin Go.Builtin.append, args := #[Go.Operand.tmp 40, Go.Operand.tmp 43], argTypes := #[22, 3] }, none⟩,
  ⟨some 9, Go.Op.assign (Go.Operand.tmp 44), none⟩]) (.skip))) (.seq (.reg []
  [⟨some 45, Go.Op.move (Go.Operand.tmp 9), none⟩,
  ⟨some 46, Go.Op.move (Go.Operand.tmp 2), none⟩,
  ⟨some 47, Go.Op.call { callee := Go.Callee.value (Go.Operand.func 29), args := #[Go.Operand.tmp 46], argTypes := #[44] }, none⟩,
  ⟨some 48, Go.Op.call { callee := Go.Callee.builtin Go.Builtin.append, args := #[Go.Operand.tmp 45, Go.Operand.tmp 47], argTypes := #[22, 22] }, none⟩,
  ⟨some 9, Go.Op.assign (Go.Operand.tmp 48), none⟩]) (.seq (.reg []
  [⟨some 10, Go.Op.assign (Go.Operand.const (Go.Value.int Go.IntKind.i64 0)), none⟩]) (.seq (.block 0 (.loop (.seq (.seq (.reg []
  [⟨some 49, Go.Op.move (Go.Operand.tmp 9), none⟩,
  ⟨some 50, Go.Op.call { callee := Go.Callee.builtin Go.Builtin.len, args := #[Go.Operand.tmp 49], argTypes := #[22] }, none⟩,
  ⟨some 51, Go.Op.move (Go.Operand.tmp 10), none⟩,
  ⟨some 52, Go.Op.binOp Go.BinOp.sub 3 (Go.Operand.tmp 50) (Go.Operand.tmp 51) 3, none⟩,
  ⟨some 53, Go.Op.binOp Go.BinOp.gtr 3 (Go.Operand.tmp 52) (Go.Operand.const (Go.Value.int Go.IntKind.i64 128)) 3, none⟩]) (.cond (Go.Operand.tmp 53) (.skip) (.exit 0))) (.seq (.block 1 (.reg []
  [⟨some 56, Go.Op.move (Go.Operand.tmp 9), none⟩,
  ⟨some 57, Go.Op.move (Go.Operand.tmp 10), none⟩,
  ⟨some 58, Go.Op.move (Go.Operand.tmp 10), none⟩,
  ⟨some 59, Go.Op.binOp Go.BinOp.add 3 (Go.Operand.tmp 58) (Go.Operand.const (Go.Value.int Go.IntKind.i64 128)) 3, none⟩,
  ⟨some 60, Go.Op.slice 22 (Go.Operand.tmp 56) (some (Go.Operand.tmp 57)) (some (Go.Operand.tmp 59)) none, none⟩,
  ⟨some 61, Go.Op.move (Go.Operand.tmp 10), none⟩,
  ⟨some 62, Go.Op.binOp Go.BinOp.add 3 (Go.Operand.tmp 61) (Go.Operand.const (Go.Value.int Go.IntKind.i64 128)) 3, none⟩,
  ⟨some 63, Go.Op.call { callee := Go.Callee.value (Go.Operand.func 30), args := #[Go.Operand.tmp 8, Go.Operand.tmp 60, Go.Operand.tmp 62, Go.Operand.const (Go.Value.bool false)], argTypes := #[56, 22, 3, 4] }, none⟩])) (.reg []
  [⟨some 54, Go.Op.move (Go.Operand.tmp 10), none⟩,
  ⟨some 55, Go.Op.binOp Go.BinOp.add 3 (Go.Operand.tmp 54) (Go.Operand.const (Go.Value.int Go.IntKind.i64 128)) 3, none⟩,
  ⟨some 10, Go.Op.assign (Go.Operand.tmp 55), none⟩]))))) (.seq (.reg []
  [⟨some 64, Go.Op.move (Go.Operand.tmp 9), none⟩,
  ⟨some 65, Go.Op.move (Go.Operand.tmp 10), none⟩,
  ⟨some 66, Go.Op.slice 22 (Go.Operand.tmp 64) (some (Go.Operand.tmp 65)) none none, none⟩,
  ⟨some 67, Go.Op.move (Go.Operand.tmp 9), none⟩,
  ⟨some 68, Go.Op.call { callee := Go.Callee.builtin Go.Builtin.len, args := #[Go.Operand.tmp 67], argTypes := #[22] }, none⟩,
  ⟨some 69, Go.Op.call { callee := Go.Callee.value (Go.Operand.func 30), args := #[Go.Operand.tmp 8, Go.Operand.tmp 66, Go.Operand.tmp 68, Go.Operand.const (Go.Value.bool true)], argTypes := #[56, 22, 3, 4] }, none⟩]) (.seq (.reg []
  [⟨some 70, Go.Op.move (Go.Operand.tmp 0), none⟩,
  ⟨some 71, Go.Op.call { callee := Go.Callee.value (Go.Operand.func 31), args := #[Go.Operand.tmp 8, Go.Operand.tmp 70], argTypes := #[56, 3] }, none⟩,
  ⟨some 6, Go.Op.assign (Go.Operand.tmp 71), none⟩,
  ⟨some 7, Go.Op.assign (Go.Operand.const (Go.Value.int Go.IntKind.i64 0)), none⟩]) (.ret)))))))))))
def ms16_0 : List Nat := [1, 2, 3, 4, 5, 10, 11, 12, 13, 14, 15, 16, 17, 18, 19, 20, 21, 22, 23, 24, 25, 26, 27, 28, 29, 30, 31, 32, 33, 34, 35, 36, 37, 38, 39, 40, 41, 42, 43, 44, 45, 46, 47, 48, 49, 50, 51, 52, 53, 54, 55, 56, 57, 58, 59, 60, 61, 62, 63, 69]
def mj16_0 : List Nat := [3, 4, 5, 6, 7, 11, 12, 13, 14, 15, 16, 17, 18, 19, 20, 21, 63, 69]
def mj16_1 : List Nat := [1, 3, 4, 5, 9, 11, 12, 13, 14, 15, 16, 17, 18, 19, 20, 21, 22, 23, 24, 25, 26, 27, 28, 29, 30, 31, 32, 33, 34, 35, 36, 37, 38, 39, 40, 41, 42, 43, 44, 63, 69]
def mj16_2 : List Nat := [1, 2, 3, 4, 5, 11, 12, 13, 14, 15, 16, 17, 18, 19, 20, 21, 22, 23, 24, 25, 26, 27, 28, 29, 30, 31, 32, 33, 34, 35, 36, 37, 38, 39, 40, 41, 42, 43, 44, 45, 46, 47, 48, 63, 69]
theorem ls16 : Tryd.f16.body.map (strip Tryd.prog impCodA) = some lc16 := by kernel_rfl
theorem lcall16 {args : List AV} (hargs : args.length ≤ 72) {H0 : AHeap} (lo : Nat) (hlo : H0.length ≤ lo) {r0 : AV} {H0' : AHeap}
    (h : lavc Tryd.prog glob lc16 (args ++ List.replicate (72 - args.length) (.v undef)) H0 fun e t H => (e = .normal ∨ e = .ret) ∧ aret Tryd.prog t H [Go.ResultVar.tmp 6, Go.ResultVar.tmp 7] fun r => Fin lo H r r0 H0') :
    ACall Tryd.prog glob (H0.length == 0) 16 args H0 r0 H0' := LCall' ctx Tryd.func16 (by kernel_rfl) ls16 (by kernel_rfl) (by kernel_rfl) hargs lo hlo h
theorem lcallk16 {args : List AV} (hargs : args.length ≤ 72) {H0 : AHeap} {r0 : AV} {H0' : AHeap}
    (h : lavc Tryd.prog glob lc16 (args ++ List.replicate (72 - args.length) (.v undef)) H0 fun e t H => (e = .normal ∨ e = .ret) ∧ aret Tryd.prog t H [Go.ResultVar.tmp 6, Go.ResultVar.tmp 7] fun r => r = r0 ∧ H = H0') :
    ACall Tryd.prog glob false 16 args H0 r0 H0' := LCallK' ctx Tryd.func16 (by kernel_rfl) ls16 (by kernel_rfl) (by kernel_rfl) hargs h
/-- escutcheon/coin.Pack -/
def lc17 : LCode := .seq (.reg []
  [⟨some 2, Go.Op.assign (Go.Operand.const (Go.Value.slice none 0 0)), none⟩]) (.seq (.reg []
  [⟨some 6, Go.Op.move (Go.Operand.tmp 0), none⟩,
  ⟨some 7, Go.Op.call { callee := Go.Callee.builtin Go.Builtin.len, args := #[Go.Operand.tmp 6], argTypes := #[44] }, none⟩,
  ⟨some 8, Go.Op.call { callee := Go.Callee.value (Go.Operand.func 24), args := #[Go.Operand.tmp 7], argTypes := #[3] }, none⟩,
  ⟨some 3, Go.Op.assign (Go.Operand.tmp 8), none⟩]) (.seq (.seq (.reg []
  [⟨some 9, Go.Op.move (Go.Operand.tmp 0), none⟩,
  ⟨some 10, Go.Op.call { callee := Go.Callee.builtin Go.Builtin.len, args := #[Go.Operand.tmp 9], argTypes := #[44] }, none⟩,
  ⟨some 11, Go.Op.move (Go.Operand.const (Go.Value.int Go.IntKind.i64 0)), none⟩]) (.block 0 (.loop (.seq (.reg []
  [⟨some 12, Go.Op.binOp Go.BinOp.lss 3 (Go.Operand.tmp 11) (Go.Operand.tmp 10) 3, none⟩]) (.seq (.cond (Go.Operand.tmp 12) (.skip) (.exit 0)) (.seq (.block 1 (.seq (.reg []
  [⟨some 13, Go.Op.indexAddr 44 (Go.Operand.tmp 9) (Go.Operand.tmp 11), none⟩,
  ⟨some 14, Go.Op.load 22 (Go.Operand.tmp 13), none⟩,
  ⟨some 5, Go.Op.assign (Go.Operand.tmp 14), none⟩]) (.reg []
  [⟨some 15, Go.Op.move (Go.Operand.tmp 3), none⟩,
  ⟨some 16, Go.Op.move (Go.Operand.tmp 5), none⟩,
  ⟨some 17, Go.Op.call { callee := Go.Callee.builtin Go.Builtin.len, args := #[Go.Operand.tmp 16], argTypes := #[22] }, none⟩,
  ⟨some 18, Go.Op.call { callee := Go.Callee.value (Go.Operand.func 24), args := #[Go.Operand.tmp 17], argTypes := #[3] }, none⟩,
  ⟨some 19, Go.Op.move (Go.Operand.tmp 5), none⟩,
  ⟨some 20, Go.Op.buildSlice 44 3 #[(0, Go.Operand.tmp 15), (1, Go.Operand.tmp 18), (2, Go.Operand.tmp 19)], none⟩,
  ⟨some 21, Go.Op.call { callee := Go.Callee.value (Go.Operand.func 29), args := #[Go.Operand.tmp 20], argTypes := #[44] }, none⟩,
  ⟨some 3, Go.Op.assign (Go.Operand.tmp 21), none⟩]))) (.reg []
  [⟨some 22, Go.Op.binOp Go.BinOp.add 3 (Go.Operand.tmp 11) (Go.Operand.const (Go.Value.int Go.IntKind.i64 1)) 3, none⟩,
  ⟨some 11, Go.Op.move (Go.Operand.tmp 22), none⟩]))))))) (.seq (.reg []
  [⟨some 23, Go.Op.move (Go.Operand.tmp 3), none⟩,
  ⟨some 2, Go.Op.assign (Go.Operand.tmp 23), none⟩]) (.ret))))
def ms17_0 : List Nat := [0, 1, 3, 4, 5, 6, 7, 8, 11, 12, 13, 14, 15, 16, 17, 18, 19, 20, 21, 22]
def mj17_0 : List Nat := [0, 1, 4, 6, 7, 8]
theorem ls17 : Tryd.f17.body.map (strip Tryd.prog impCodA) = some lc17 := by kernel_rfl
theorem lcall17 {args : List AV} (hargs : args.length ≤ 24) {H0 : AHeap} (lo : Nat) (hlo : H0.length ≤ lo) {r0 : AV} {H0' : AHeap}
    (h : lavc Tryd.prog glob lc17 (args ++ List.replicate (24 - args.length) (.v undef)) H0 fun e t H => (e = .normal ∨ e = .ret) ∧ aret Tryd.prog t H [Go.ResultVar.tmp 2] fun r => Fin lo H r r0 H0') :
    ACall Tryd.prog glob (H0.length == 0) 17 args H0 r0 H0' := LCall' ctx Tryd.func17 (by kernel_rfl) ls17 (by kernel_rfl) (by kernel_rfl) hargs lo hlo h
theorem lcallk17 {args : List AV} (hargs : args.length ≤ 24) {H0 : AHeap} {r0 : AV} {H0' : AHeap}
    (h : lavc Tryd.prog glob lc17 (args ++ List.replicate (24 - args.length) (.v undef)) H0 fun e t H => (e = .normal ∨ e = .ret) ∧ aret Tryd.prog t H [Go.ResultVar.tmp 2] fun r => r = r0 ∧ H = H0') :
    ACall Tryd.prog glob false 17 args H0 r0 H0' := LCallK' ctx Tryd.func17 (by kernel_rfl) ls17 (by kernel_rfl) (by kernel_rfl) hargs h
/-- (*escutcheon/cellar.cellar).lasts -/
def lc18 : LCode := .seq (.reg []
  [⟨some 2, Go.Op.assign (Go.Operand.const (Go.Value.slice none 0 0)), none⟩]) (.seq (.reg []
  [⟨some 3, Go.Op.assign (Go.Operand.const (Go.Value.slice none 0 0)), none⟩]) (.seq (.seq (.reg []
  [⟨some 6, Go.Op.move (Go.Operand.tmp 0), none⟩,
  ⟨some 7, Go.Op.nilCheck (Go.Operand.tmp 6), none⟩,
  ⟨some 8, Go.Op.fieldAddr 38 (Go.Operand.tmp 7) 1, none⟩,
  ⟨some 9, Go.Op.load 36 (Go.Operand.tmp 8), none⟩,
  ⟨some 10, Go.Op.call { callee := Go.Callee.builtin Go.Builtin.len, args := #[Go.Operand.tmp 9], argTypes := #[36] }, none⟩,
  ⟨some 11, Go.Op.move (Go.Operand.const (Go.Value.int Go.IntKind.i64 0)), none⟩]) (.block 0 (.loop (.seq (.reg []
  [⟨some 12, Go.Op.binOp Go.BinOp.lss 3 (Go.Operand.tmp 11) (Go.Operand.tmp 10) 3, none⟩]) (.seq (.cond (Go.Operand.tmp 12) (.skip) (.exit 0)) (.seq (.block 1 (.seq (.reg []
  [⟨some 13, Go.Op.indexAddr 36 (Go.Operand.tmp 9) (Go.Operand.tmp 11), none⟩,
  ⟨some 14, Go.Op.load 51 (Go.Operand.tmp 13), none⟩,
  ⟨some 5, Go.Op.assign (Go.Operand.tmp 14), none⟩]) (.reg []
  [⟨some 15, Go.Op.move (Go.Operand.tmp 3), none⟩,
  ⟨some 16, Go.Op.move (Go.Operand.tmp 5), none⟩,
  ⟨some 17, Go.Op.move (Go.Operand.tmp 5), none⟩,
  ⟨some 18, Go.Op.call { callee := Go.Callee.builtin Go.Builtin.len, args := #[Go.Operand.tmp 17], argTypes := #[51] }, none⟩,
  ⟨some 19, Go.Op.binOp Go.BinOp.sub 3 (Go.Operand.tmp 18) (Go.Operand.const (Go.Value.int Go.IntKind.i64 1)) 3, none⟩,
  ⟨some 20, Go.Op.indexAddr 51 (Go.Operand.tmp 16) (Go.Operand.tmp 19), none⟩,
  ⟨some 21, Go.Op.load 22 (Go.Operand.tmp 20), none⟩,
  ⟨some 22, Go.Op.buildSlice 44 1 #[(0, Go.Operand.tmp 21)], none⟩,
  ⟨some 23, Go.Op.call { callee := Go.Callee.builtin Go.Builtin.append, args := #[Go.Operand.tmp 15, Go.Operand.tmp 22], argTypes := #[44, 44] }, none⟩,
  ⟨some 3, Go.Op.assign (Go.Operand.tmp 23), none⟩]))) (.reg []
  [⟨some 24, Go.Op.binOp Go.BinOp.add 3 (Go.Operand.tmp 11) (Go.Operand.const (Go.Value.int Go.IntKind.i64 1)) 3, none⟩,
  ⟨some 11, Go.Op.move (Go.Operand.tmp 24), none⟩]))))))) (.seq (.reg []
  [⟨some 25, Go.Op.move (Go.Operand.tmp 3), none⟩,
  ⟨some 2, Go.Op.assign (Go.Operand.tmp 25), none⟩]) (.ret))))
def ms18_0 : List Nat := [0, 1, 3, 4, 5, 6, 7, 8, 11, 12, 13, 14, 15, 16, 17, 18, 19, 20, 21, 22, 23, 24]
def mj18_0 : List Nat := [0, 1, 4, 6, 7, 8]
theorem ls18 : Tryd.f18.body.map (strip Tryd.prog impCodA) = some lc18 := by kernel_rfl
theorem lcall18 {args : List AV} (hargs : args.length ≤ 26) {H0 : AHeap} (lo : Nat) (hlo : H0.length ≤ lo) {r0 : AV} {H0' : AHeap}
    (h : lavc Tryd.prog glob lc18 (args ++ List.replicate (26 - args.length) (.v undef)) H0 fun e t H => (e = .normal ∨ e = .ret) ∧ aret Tryd.prog t H [Go.ResultVar.tmp 2] fun r => Fin lo H r r0 H0') :
    ACall Tryd.prog glob (H0.length == 0) 18 args H0 r0 H0' := LCall' ctx Tryd.func18 (by kernel_rfl) ls18 (by kernel_rfl) (by kernel_rfl) hargs lo hlo h
theorem lcallk18 {args : List AV} (hargs : args.length ≤ 26) {H0 : AHeap} {r0 : AV} {H0' : AHeap}
    (h : lavc Tryd.prog glob lc18 (args ++ List.replicate (26 - args.length) (.v undef)) H0 fun e t H => (e = .normal ∨ e = .ret) ∧ aret Tryd.prog t H [Go.ResultVar.tmp 2] fun r => r = r0 ∧ H = H0') :
    ACall Tryd.prog glob false 18 args H0 r0 H0' := LCallK' ctx Tryd.func18 (by kernel_rfl) ls18 (by kernel_rfl) (by kernel_rfl) hargs h
/-- escutcheon/escutcheonref01.Eight -/
def lc19 : LCode := .seq (.reg []
  [⟨some 2, Go.Op.assign (Go.Operand.const (Go.Value.slice none 0 0)), none⟩]) (.seq (.reg []
  [⟨some 3, Go.Op.assign (Go.Operand.const (Go.Value.slice none 0 0)), none⟩]) (.seq (.seq (.reg []
  [⟨some 4, Go.Op.assign (Go.Operand.const (Go.Value.int Go.IntKind.i64 0)), none⟩]) (.block 0 (.loop (.seq (.seq (.reg []
  [⟨some 5, Go.Op.move (Go.Operand.tmp 4), none⟩,
  ⟨some 6, Go.Op.binOp Go.BinOp.lss 3 (Go.Operand.tmp 5) (Go.Operand.const (Go.Value.int Go.IntKind.i64 8)) 3, none⟩]) (.cond (Go.Operand.tmp 6) (.skip) (.exit 0))) (.seq (.block 1 (.seq (.reg []
  [⟨some 9, Go.Op.move (Go.Operand.tmp 3), none⟩,
  ⟨some 10, Go.Op.move (Go.Operand.tmp 0), none⟩,
  ⟨some 11, Go.Op.binOp Go.BinOp.rem 3 (Go.Operand.tmp 10) (Go.Operand.const (Go.Value.int Go.IntKind.i64 256)) 3, none⟩,
  ⟨some 12, Go.Op.convert 3 5 (Go.Operand.tmp 11), none⟩,
  ⟨some 13, Go.Op.buildSlice 22 1 #[(0, Go.Operand.tmp 12)], none⟩,
  ⟨some 14, Go.Op.call { callee := Go.Callee.builtin Go.Builtin.append, args := #[Go.Operand.tmp 9, Go.Operand.tmp 13], argTypes := #[22, 22] }, none⟩,
  ⟨some 3, Go.Op.assign (Go.Operand.tmp 14), none⟩]) (.reg []
  [⟨some 15, Go.Op.move (Go.Operand.tmp 0), none⟩,
  ⟨some 16, Go.Op.binOp Go.BinOp.quo 3 (Go.Operand.tmp 15) (Go.Operand.const (Go.Value.int Go.IntKind.i64 256)) 3, none⟩,
  ⟨some 0, Go.Op.assign (Go.Operand.tmp 16), none⟩]))) (.reg []
  [⟨some 7, Go.Op.move (Go.Operand.tmp 4), none⟩,
  ⟨some 8, Go.Op.binOp Go.BinOp.add 3 (Go.Operand.tmp 7) (Go.Operand.const (Go.Value.int Go.IntKind.i64 1)) 3, none⟩,
  ⟨some 4, Go.Op.assign (Go.Operand.tmp 8), none⟩])))))) (.seq (.reg []
  [⟨some 17, Go.Op.move (Go.Operand.tmp 3), none⟩,
  ⟨some 2, Go.Op.assign (Go.Operand.tmp 17), none⟩]) (.ret))))
def ms19_0 : List Nat := [0, 1, 3, 4, 5, 6, 7, 8, 9, 10, 11, 12, 13, 14, 15, 16]
def mj19_0 : List Nat := [1]
theorem ls19 : Tryd.f19.body.map (strip Tryd.prog impCodA) = some lc19 := by kernel_rfl
theorem lcall19 {args : List AV} (hargs : args.length ≤ 18) {H0 : AHeap} (lo : Nat) (hlo : H0.length ≤ lo) {r0 : AV} {H0' : AHeap}
    (h : lavc Tryd.prog glob lc19 (args ++ List.replicate (18 - args.length) (.v undef)) H0 fun e t H => (e = .normal ∨ e = .ret) ∧ aret Tryd.prog t H [Go.ResultVar.tmp 2] fun r => Fin lo H r r0 H0') :
    ACall Tryd.prog glob (H0.length == 0) 19 args H0 r0 H0' := LCall' ctx Tryd.func19 (by kernel_rfl) ls19 (by kernel_rfl) (by kernel_rfl) hargs lo hlo h
theorem lcallk19 {args : List AV} (hargs : args.length ≤ 18) {H0 : AHeap} {r0 : AV} {H0' : AHeap}
    (h : lavc Tryd.prog glob lc19 (args ++ List.replicate (18 - args.length) (.v undef)) H0 fun e t H => (e = .normal ∨ e = .ret) ∧ aret Tryd.prog t H [Go.ResultVar.tmp 2] fun r => r = r0 ∧ H = H0') :
    ACall Tryd.prog glob false 19 args H0 r0 H0' := LCallK' ctx Tryd.func19 (by kernel_rfl) ls19 (by kernel_rfl) (by kernel_rfl) hargs h
/-- escutcheon/escutcheonref07.sum -/
def lc20 : LCode := .seq (.reg []
  [⟨some 2, Go.Op.assign (Go.Operand.const (Go.Value.slice none 0 0)), none⟩]) (.seq (.reg []
  [⟨some 3, Go.Op.move (Go.Operand.tmp 0), none⟩,
  ⟨some 4, Go.Op.call { callee := Go.Callee.value (Go.Operand.func 23), args := #[Go.Operand.tmp 3], argTypes := #[44] }, none⟩,
  ⟨some 5, Go.Op.call { callee := Go.Callee.value (Go.Operand.func 22), args := #[Go.Operand.const (Go.Value.int Go.IntKind.i64 64), Go.Operand.const (Go.Value.slice none 0 0), Go.Operand.tmp 4], argTypes := #[3, 22, 22] }, none⟩,
  ⟨some 2, Go.Op.assign (Go.Operand.tmp 5), none⟩]) (.ret))
theorem ls20 : Tryd.f20.body.map (strip Tryd.prog impCodA) = some lc20 := by kernel_rfl
theorem lcall20 {args : List AV} (hargs : args.length ≤ 6) {H0 : AHeap} (lo : Nat) (hlo : H0.length ≤ lo) {r0 : AV} {H0' : AHeap}
    (h : lavc Tryd.prog glob lc20 (args ++ List.replicate (6 - args.length) (.v undef)) H0 fun e t H => (e = .normal ∨ e = .ret) ∧ aret Tryd.prog t H [Go.ResultVar.tmp 2] fun r => Fin lo H r r0 H0') :
    ACall Tryd.prog glob (H0.length == 0) 20 args H0 r0 H0' := LCall' ctx Tryd.func20 (by kernel_rfl) ls20 (by kernel_rfl) (by kernel_rfl) hargs lo hlo h
theorem lcallk20 {args : List AV} (hargs : args.length ≤ 6) {H0 : AHeap} {r0 : AV} {H0' : AHeap}
    (h : lavc Tryd.prog glob lc20 (args ++ List.replicate (6 - args.length) (.v undef)) H0 fun e t H => (e = .normal ∨ e = .ret) ∧ aret Tryd.prog t H [Go.ResultVar.tmp 2] fun r => r = r0 ∧ H = H0') :
    ACall Tryd.prog glob false 20 args H0 r0 H0' := LCallK' ctx Tryd.func20 (by kernel_rfl) ls20 (by kernel_rfl) (by kernel_rfl) hargs h
/-- escutcheon/escutcheonref07.draw -/
def lc21 : LCode := .seq (.reg []
  [⟨some 2, Go.Op.assign (Go.Operand.const (Go.Value.int Go.IntKind.i64 0)), none⟩]) (.seq (.reg []
  [⟨some 5, Go.Op.move (Go.Operand.tmp 0), none⟩,
  ⟨some 6, Go.Op.indexAddr 22 (Go.Operand.tmp 5) (Go.Operand.const (Go.Value.int Go.IntKind.i64 7)), none⟩,
  ⟨some 7, Go.Op.load 5 (Go.Operand.tmp 6), none⟩,
  ⟨some 8, Go.Op.binOp Go.BinOp.rem 5 (Go.Operand.tmp 7) (Go.Operand.const (Go.Value.int Go.IntKind.u8 128)) 5, none⟩,
  ⟨some 9, Go.Op.convert 5 3 (Go.Operand.tmp 8), none⟩,
  ⟨some 3, Go.Op.assign (Go.Operand.tmp 9), none⟩]) (.seq (.seq (.reg []
  [⟨some 4, Go.Op.assign (Go.Operand.const (Go.Value.int Go.IntKind.i64 6)), none⟩]) (.block 0 (.loop (.seq (.seq (.reg []
  [⟨some 10, Go.Op.move (Go.Operand.tmp 4), none⟩,
  ⟨some 11, Go.Op.binOp Go.BinOp.geq 3 (Go.Operand.tmp 10) (Go.Operand.const (Go.Value.int Go.IntKind.i64 0)) 3, none⟩]) (.cond (Go.Operand.tmp 11) (.skip) (.exit 0))) (.seq (.block 1 (.reg []
  [⟨some 14, Go.Op.move (Go.Operand.tmp 3), none⟩,
  ⟨some 15, Go.Op.binOp Go.BinOp.mul 3 (Go.Operand.tmp 14) (Go.Operand.const (Go.Value.int Go.IntKind.i64 256)) 3, none⟩,
  ⟨some 16, Go.Op.move (Go.Operand.tmp 0), none⟩,
  ⟨some 17, Go.Op.move (Go.Operand.tmp 4), none⟩,
  ⟨some 18, Go.Op.indexAddr 22 (Go.Operand.tmp 16) (Go.Operand.tmp 17), none⟩,
  ⟨some 19, Go.Op.load 5 (Go.Operand.tmp 18), none⟩,
  ⟨some 20, Go.Op.convert 5 3 (Go.Operand.tmp 19), none⟩,
  ⟨some 21, Go.Op.binOp Go.BinOp.add 3 (Go.Operand.tmp 15) (Go.Operand.tmp 20) 3, none⟩,
  ⟨some 3, Go.Op.assign (Go.Operand.tmp 21), none⟩])) (.reg []
  [⟨some 12, Go.Op.move (Go.Operand.tmp 4), none⟩,
  ⟨some 13, Go.Op.binOp Go.BinOp.sub 3 (Go.Operand.tmp 12) (Go.Operand.const (Go.Value.int Go.IntKind.i64 1)) 3, none⟩,
  ⟨some 4, Go.Op.assign (Go.Operand.tmp 13), none⟩])))))) (.seq (.reg []
  [⟨some 22, Go.Op.move (Go.Operand.tmp 3), none⟩,
  ⟨some 2, Go.Op.assign (Go.Operand.tmp 22), none⟩]) (.ret))))
def ms21_0 : List Nat := [1, 3, 4, 5, 6, 7, 8, 9, 10, 11, 12, 13, 14, 15, 16, 17, 18, 19, 20, 21]
def mj21_0 : List Nat := [1, 5, 6, 7, 8, 9]
theorem ls21 : Tryd.f21.body.map (strip Tryd.prog impCodA) = some lc21 := by kernel_rfl
theorem lcall21 {args : List AV} (hargs : args.length ≤ 23) {H0 : AHeap} (lo : Nat) (hlo : H0.length ≤ lo) {r0 : AV} {H0' : AHeap}
    (h : lavc Tryd.prog glob lc21 (args ++ List.replicate (23 - args.length) (.v undef)) H0 fun e t H => (e = .normal ∨ e = .ret) ∧ aret Tryd.prog t H [Go.ResultVar.tmp 2] fun r => Fin lo H r r0 H0') :
    ACall Tryd.prog glob (H0.length == 0) 21 args H0 r0 H0' := LCall' ctx Tryd.func21 (by kernel_rfl) ls21 (by kernel_rfl) (by kernel_rfl) hargs lo hlo h
theorem lcallk21 {args : List AV} (hargs : args.length ≤ 23) {H0 : AHeap} {r0 : AV} {H0' : AHeap}
    (h : lavc Tryd.prog glob lc21 (args ++ List.replicate (23 - args.length) (.v undef)) H0 fun e t H => (e = .normal ∨ e = .ret) ∧ aret Tryd.prog t H [Go.ResultVar.tmp 2] fun r => r = r0 ∧ H = H0') :
    ACall Tryd.prog glob false 21 args H0 r0 H0' := LCallK' ctx Tryd.func21 (by kernel_rfl) ls21 (by kernel_rfl) (by kernel_rfl) hargs h
/-- escutcheon/escutcheonref04.Sum -/
def lc22 : LCode := .seq (.reg []
  [⟨some 6, Go.Op.assign (Go.Operand.const (Go.Value.slice none 0 0)), none⟩]) (.seq (.reg []
  [⟨some 14, Go.Op.load 55 (Go.Operand.global 0), none⟩,
  ⟨some 7, Go.Op.alloc 55, none⟩,
  ⟨none, Go.Op.store 55 (Go.Operand.tmp 7) (Go.Operand.tmp 14), none⟩]) (.seq (.reg []
  [⟨some 15, Go.Op.indexAddr 55 (Go.Operand.tmp 7) (Go.Operand.const (Go.Value.int Go.IntKind.i64 0)), none⟩,
  ⟨some 16, Go.Op.load 54 (Go.Operand.tmp 15), none⟩,
  ⟨some 17, Go.Op.move (Go.Operand.tmp 0), none⟩,
  ⟨some 18, Go.Op.move (Go.Operand.tmp 1), none⟩,
  ⟨some 19, Go.Op.call { callee := Go.Callee.builtin Go.Builtin.len, args := #[Go.Operand.tmp 18], argTypes := #[22] }, none⟩,
  ⟨some 20, Go.Op.binOp Go.BinOp.mul 3 (Go.Operand.const (Go.Value.int Go.IntKind.i64 256)) (Go.Operand.tmp 19) 3, none⟩,
  ⟨some 21, Go.Op.binOp Go.BinOp.add 3 (Go.Operand.tmp 17) (Go.Operand.tmp 20) 3, none⟩,
  ⟨some 22, Go.Op.binOp Go.BinOp.add 3 (Go.Operand.tmp 21) (Go.Operand.const (Go.Value.int Go.IntKind.i64 65536)) 3, none⟩,
  ⟨some 23, Go.Op.binOp Go.BinOp.add 3 (Go.Operand.tmp 22) (Go.Operand.const (Go.Value.int Go.IntKind.i64 16777216)) 3, none⟩,
  ⟨some 24, Go.Op.convert 3 54 (Go.Operand.tmp 23), none⟩,
  ⟨some 25, Go.Op.binOp Go.BinOp.xor 54 (Go.Operand.tmp 16) (Go.Operand.tmp 24) 54, none⟩,
  ⟨some 26, Go.Op.indexAddr 55 (Go.Operand.tmp 7) (Go.Operand.const (Go.Value.int Go.IntKind.i64 0)), none⟩,
  ⟨none, Go.Op.store 54 (Go.Operand.tmp 26) (Go.Operand.tmp 25), none⟩]) (.seq (.reg []
  [⟨some 8, Go.Op.assign (Go.Operand.const (Go.Value.slice none 0 0)), none⟩]) (.seq (.seq (.reg []
  [⟨some 27, Go.Op.move (Go.Operand.tmp 1), none⟩,
  ⟨some 28, Go.Op.call { callee := Go.Callee.builtin Go.Builtin.len, args := #[Go.Operand.tmp 27], argTypes := #[22] }, none⟩,
  ⟨some 29, Go.Op.binOp Go.BinOp.gtr 3 (Go.Operand.tmp 28) (Go.Operand.const (Go.Value.int Go.IntKind.i64 0)) 3, none⟩]) (.cond (Go.Operand.tmp 29) (.reg []
  [⟨some 30, Go.Op.buildSlice 22 0 #[], none⟩,
  ⟨some 31, Go.Op.move (Go.Operand.tmp 1), none⟩,
  ⟨some 32, Go.Op.call { callee := Go.Callee.builtin Go.Builtin.append, args := #[Go.Operand.tmp 30, Go.Operand.tmp 31], argTypes := #[22, 22] }, none⟩,
  ⟨some 33, Go.Op.move (Go.Operand.tmp 1), none⟩,
  ⟨some 34, Go.Op.call { callee := Go.Callee.builtin Go.Builtin.len, args := #[Go.Operand.tmp 33], argTypes := #[22] }, none⟩,
  ⟨some 35, Go.Op.binOp Go.BinOp.sub 3 (Go.Operand.const (Go.Value.int Go.IntKind.i64 128)) (Go.Operand.tmp 34) 3, none⟩,
  ⟨some 36, Go.Op.call { callee := Go.Callee.builtin Go.Builtin.append, args := #[Go.Operand.tmp 32, Go.Operand.tmp 35], argTypes := #[22, 3] }, none⟩,
  ⟨some 8, Go.Op.assign (Go.Operand.tmp 36), none⟩]) (.skip))) (.seq (.reg []
  [⟨some 37, Go.Op.move (Go.Operand.tmp 8), none⟩,
  ⟨some 38, Go.Op.move (Go.Operand.tmp 2), none⟩,
  ⟨some 39, Go.Op.call { callee := Go.Callee.builtin Go.Builtin.append, args := #[Go.Operand.tmp 37, Go.Operand.tmp 38], argTypes := #[22, 22] }, none⟩,
  ⟨some 8, Go.Op.assign (Go.Operand.tmp 39), none⟩]) (.seq (.reg []
  [⟨some 9, Go.Op.assign (Go.Operand.const (Go.Value.int Go.IntKind.i64 0)), none⟩]) (.seq (.block 0 (.loop (.seq (.seq (.reg []
  [⟨some 40, Go.Op.move (Go.Operand.tmp 9), none⟩,
  ⟨some 41, Go.Op.binOp Go.BinOp.add 3 (Go.Operand.tmp 40) (Go.Operand.const (Go.Value.int Go.IntKind.i64 128)) 3, none⟩,
  ⟨some 42, Go.Op.move (Go.Operand.tmp 8), none⟩,
  ⟨some 43, Go.Op.call { callee := Go.Callee.builtin Go.Builtin.len, args := #[Go.Operand.tmp 42], argTypes := #[22] }, none⟩,
  ⟨some 44, Go.Op.binOp Go.BinOp.lss 3 (Go.Operand.tmp 41) (Go.Operand.tmp 43) 3, none⟩]) (.cond (Go.Operand.tmp 44) (.skip) (.exit 0))) (.block 1 (.seq (.reg []
  [⟨some 45, Go.Op.move (Go.Operand.tmp 9), none⟩,
  ⟨some 46, Go.Op.binOp Go.BinOp.add 3 (Go.Operand.tmp 45) (Go.Operand.const (Go.Value.int Go.IntKind.i64 128)) 3, none⟩,
  ⟨some 9, Go.Op.assign (Go.Operand.tmp 46), none⟩]) (.reg [⟨some 47, Go.Op.load 55 (Go.Operand.tmp 7), none⟩,
  ⟨some 48, Go.Op.move (Go.Operand.tmp 8), none⟩,
  ⟨some 49, Go.Op.move (Go.Operand.tmp 9), none⟩,
  ⟨some 50, Go.Op.binOp Go.BinOp.sub 3 (Go.Operand.tmp 49) (Go.Operand.const (Go.Value.int Go.IntKind.i64 128)) 3, none⟩,
  ⟨some 51, Go.Op.move (Go.Operand.tmp 9), none⟩,
  ⟨some 52, Go.Op.slice 22 (Go.Operand.tmp 48) (some (Go.Operand.tmp 50)) (some (Go.Operand.tmp 51)) none, none⟩,
  ⟨some 53, Go.Op.move (Go.Operand.tmp 9), none⟩,
  ⟨some 54, Go.Op.call { callee := Go.Callee.value (Go.Operand.func 32), args := #[Go.Operand.tmp 47, Go.Operand.tmp 52, Go.Operand.tmp 53, Go.Operand.const (Go.Value.bool false)], argTypes := #[55, 22, 3, 4] }, none⟩]
  [⟨none, Go.Op.store 55 (Go.Operand.tmp 7) (Go.Operand.tmp 54), none⟩])))))) (.seq (.reg [⟨some 55, Go.Op.load 55 (Go.Operand.tmp 7), none⟩,
  ⟨some 56, Go.Op.move (Go.Operand.tmp 8), none⟩,
  ⟨some 57, Go.Op.move (Go.Operand.tmp 9), none⟩,
  ⟨some 58, Go.Op.slice 22 (Go.Operand.tmp 56) (some (Go.Operand.tmp 57)) none none, none⟩,
  ⟨some 59, Go.Op.move (Go.Operand.tmp 8), none⟩,
  ⟨some 60, Go.Op.call { callee := Go.Callee.builtin Go.Builtin.len, args := #[Go.Operand.tmp 59], argTypes := #[22] }, none⟩,
  ⟨some 61, Go.Op.call { callee := Go.Callee.value (Go.Operand.func 32), args := #[Go.Operand.tmp 55, Go.Operand.tmp 58, Go.Operand.tmp 60, Go.Operand.const (Go.Value.bool true)], argTypes := #[55, 22, 3, 4] }, none⟩]
  [⟨none, Go.Op.store 55 (Go.Operand.tmp 7) (Go.Operand.tmp 61), none⟩]) (.seq (.reg []
  [⟨some 10, Go.Op.assign (Go.Operand.const (Go.Value.slice none 0 0)), none⟩]) (.seq (.seq (.reg []
  [⟨some 11, Go.Op.assign (Go.Operand.const (Go.Value.int Go.IntKind.i64 0)), none⟩]) (.block 2 (.loop (.seq (.seq (.reg []
  [⟨some 62, Go.Op.move (Go.Operand.tmp 11), none⟩,
  ⟨some 63, Go.Op.move (Go.Operand.tmp 0), none⟩,
  ⟨some 64, Go.Op.binOp Go.BinOp.lss 3 (Go.Operand.tmp 62) (Go.Operand.tmp 63) 3, none⟩]) (.cond (Go.Operand.tmp 64) (.skip) (.exit 2))) (.seq (.block 3 (.seq (.reg []
  [⟨some 67, Go.Op.move (Go.Operand.tmp 11), none⟩,
  ⟨some 68, Go.Op.binOp Go.BinOp.quo 3 (Go.Operand.tmp 67) (Go.Operand.const (Go.Value.int Go.IntKind.i64 8)) 3, none⟩,
  ⟨some 69, Go.Op.indexAddr 55 (Go.Operand.tmp 7) (Go.Operand.tmp 68), none⟩,
  ⟨some 70, Go.Op.load 54 (Go.Operand.tmp 69), none⟩,
  ⟨some 12, Go.Op.assign (Go.Operand.tmp 70), none⟩]) (.seq (.seq (.reg []
  [⟨some 13, Go.Op.assign (Go.Operand.const (Go.Value.int Go.IntKind.i64 0)), none⟩]) (.block 4 (.loop (.seq (.seq (.reg []
  [⟨some 71, Go.Op.move (Go.Operand.tmp 13), none⟩,
  ⟨some 72, Go.Op.move (Go.Operand.tmp 11), none⟩,
  ⟨some 73, Go.Op.binOp Go.BinOp.rem 3 (Go.Operand.tmp 72) (Go.Operand.const (Go.Value.int Go.IntKind.i64 8)) 3, none⟩,
  ⟨some 74, Go.Op.binOp Go.BinOp.lss 3 (Go.Operand.tmp 71) (Go.Operand.tmp 73) 3, none⟩]) (.cond (Go.Operand.tmp 74) (.skip) (.exit 4))) (.seq (.block 5 (.reg []
  [⟨some 77, Go.Op.move (Go.Operand.tmp 12), none⟩,
  ⟨some 78, Go.Op.binOp Go.BinOp.quo 54 (Go.Operand.tmp 77) (Go.Operand.const (Go.Value.int Go.IntKind.u64 256)) 54, none⟩,
  ⟨some 12, Go.Op.assign (Go.Operand.tmp 78), none⟩])) (.reg []
  [⟨some 75, Go.Op.move (Go.Operand.tmp 13), none⟩,
  ⟨some 76, Go.Op.binOp Go.BinOp.add 3 (Go.Operand.tmp 75) (Go.Operand.const (Go.Value.int Go.IntKind.i64 1)) 3, none⟩,
  ⟨some 13, Go.Op.assign (Go.Operand.tmp 76), none⟩])))))) (.reg []
  [⟨some 79, Go.Op.move (Go.Operand.tmp 10), none⟩,
  ⟨some 80, Go.Op.move (Go.Operand.tmp 12), none⟩,
  ⟨some 81, Go.Op.binOp Go.BinOp.rem 54 (Go.Operand.tmp 80) (Go.Operand.const (Go.Value.int Go.IntKind.u64 256)) 54, none⟩,
  ⟨some 82, Go.Op.convert 54 5 (Go.Operand.tmp 81), none⟩,
  ⟨some 83, Go.Op.buildSlice 22 1 #[(0, Go.Operand.tmp 82)], none⟩,
  ⟨some 84, Go.Op.call { callee := Go.Callee.builtin Go.Builtin.append, args := #[Go.Operand.tmp 79, Go.Operand.tmp 83], argTypes := #[22, 22] }, none⟩,
  ⟨some 10, Go.Op.assign (Go.Operand.tmp 84), none⟩])))) (.reg []
  [⟨some 65, Go.Op.move (Go.Operand.tmp 11), none⟩,
  ⟨some 66, Go.Op.binOp Go.BinOp.add 3 (Go.Operand.tmp 65) (Go.Operand.const (Go.Value.int Go.IntKind.i64 1)) 3, none⟩,
  ⟨some 11, Go.Op.assign (Go.Operand.tmp 66), none⟩])))))) (.seq (.reg []
  [⟨some 85, Go.Op.move (Go.Operand.tmp 10), none⟩,
  ⟨some 6, Go.Op.assign (Go.Operand.tmp 85), none⟩]) (.ret))))))))))))
def ms22_0 : List Nat := [1, 2, 3, 4, 5, 9, 14, 15, 16, 17, 18, 19, 20, 21, 22, 23, 24, 25, 26, 27, 28, 29, 30, 31, 32, 33, 34, 35, 36, 37, 38, 39, 40, 41, 42, 43, 44, 45, 46, 47, 48, 49, 50, 51, 52, 53, 54]
def ms22_1 : List Nat := [1, 2, 3, 4, 5, 8, 9, 10, 11, 12, 13, 14, 15, 16, 17, 18, 19, 20, 21, 22, 23, 24, 25, 26, 27, 28, 29, 30, 31, 32, 33, 34, 35, 36, 37, 38, 39, 40, 41, 42, 43, 44, 45, 46, 47, 48, 49, 50, 51, 52, 53, 54, 55, 56, 57, 58, 59, 60, 61, 62, 63, 64, 65, 66, 67, 68, 69, 70, 71, 72, 73, 74, 75, 76, 77, 78, 79, 80, 81, 82, 83, 84]
def ms22_2 : List Nat := [1, 2, 3, 4, 5, 8, 9, 12, 13, 14, 15, 16, 17, 18, 19, 20, 21, 22, 23, 24, 25, 26, 27, 28, 29, 30, 31, 32, 33, 34, 35, 36, 37, 38, 39, 40, 41, 42, 43, 44, 45, 46, 47, 48, 49, 50, 51, 52, 53, 54, 55, 56, 57, 58, 59, 60, 61, 71, 72, 73, 74, 75, 76, 77, 78]
def mj22_0 : List Nat := [1, 3, 4, 5, 8, 14, 15, 16, 17, 18, 19, 20, 21, 22, 23, 24, 25, 26, 27, 28, 29, 30, 31, 32, 33, 34, 35, 36]
def mj22_1 : List Nat := [1, 2, 3, 4, 5, 14, 15, 16, 17, 18, 19, 20, 21, 22, 23, 24, 25, 26, 27, 28, 29, 30, 31, 32, 33, 34, 35, 36, 37, 38, 39]
def mj22_2 : List Nat := [1, 2, 3, 4, 5, 8, 9, 14, 15, 16, 17, 18, 19, 20, 21, 22, 23, 24, 25, 26, 27, 28, 29, 30, 31, 32, 33, 34, 35, 36, 37, 38, 39, 40, 41, 42, 43, 44, 45, 46, 47, 48, 49, 50, 51, 52, 53, 54, 55, 56, 57, 58, 59, 60, 61]
def mj22_3 : List Nat := [1, 2, 3, 4, 5, 8, 9, 14, 15, 16, 17, 18, 19, 20, 21, 22, 23, 24, 25, 26, 27, 28, 29, 30, 31, 32, 33, 34, 35, 36, 37, 38, 39, 40, 41, 42, 43, 44, 45, 46, 47, 48, 49, 50, 51, 52, 53, 54, 55, 56, 57, 58, 59, 60, 61]
theorem ls22 : Tryd.f22.body.map (strip Tryd.prog impCodA) = some lc22 := by kernel_rfl
theorem lcall22 {args : List AV} (hargs : args.length ≤ 86) {H0 : AHeap} (lo : Nat) (hlo : H0.length ≤ lo) {r0 : AV} {H0' : AHeap}
    (h : lavc Tryd.prog glob lc22 (args ++ List.replicate (86 - args.length) (.v undef)) H0 fun e t H => (e = .normal ∨ e = .ret) ∧ aret Tryd.prog t H [Go.ResultVar.tmp 6] fun r => Fin lo H r r0 H0') :
    ACall Tryd.prog glob (H0.length == 0) 22 args H0 r0 H0' := LCall' ctx Tryd.func22 (by kernel_rfl) ls22 (by kernel_rfl) (by kernel_rfl) hargs lo hlo h
theorem lcallk22 {args : List AV} (hargs : args.length ≤ 86) {H0 : AHeap} {r0 : AV} {H0' : AHeap}
    (h : lavc Tryd.prog glob lc22 (args ++ List.replicate (86 - args.length) (.v undef)) H0 fun e t H => (e = .normal ∨ e = .ret) ∧ aret Tryd.prog t H [Go.ResultVar.tmp 6] fun r => r = r0 ∧ H = H0') :
    ACall Tryd.prog glob false 22 args H0 r0 H0' := LCallK' ctx Tryd.func22 (by kernel_rfl) ls22 (by kernel_rfl) (by kernel_rfl) hargs h
/-- escutcheon/coin.Eight -/
def lc24 : LCode := .seq (.reg []
  [⟨some 2, Go.Op.assign (Go.Operand.const (Go.Value.slice none 0 0)), none⟩]) (.seq (.reg []
  [⟨some 3, Go.Op.assign (Go.Operand.const (Go.Value.slice none 0 0)), none⟩]) (.seq (.seq (.reg []
  [⟨some 4, Go.Op.move (Go.Operand.const (Go.Value.int Go.IntKind.i64 0)), none⟩]) (.block 0 (.loop (.seq (.reg []
  [⟨some 5, Go.Op.binOp Go.BinOp.lss 3 (Go.Operand.tmp 4) (Go.Operand.const (Go.Value.int Go.IntKind.i64 8)) 3, none⟩]) (.seq (.cond (Go.Operand.tmp 5) (.skip) (.exit 0)) (.seq (.block 1 (.seq (.reg []
  [⟨some 6, Go.Op.move (Go.Operand.tmp 3), none⟩,
  ⟨some 7, Go.Op.move (Go.Operand.tmp 0), none⟩,
  ⟨some 8, Go.Op.convert 3 5 (Go.Operand.tmp 7), none⟩,
  ⟨some 9, Go.Op.buildSlice 22 1 #[(0, Go.Operand.tmp 8)], none⟩,
  ⟨some 10, Go.Op.call { callee := Go.Callee.builtin Go.Builtin.append, args := #[Go.Operand.tmp 6, Go.Operand.tmp 9], argTypes := #[22, 22] }, none⟩,
  ⟨some 3, Go.Op.assign (Go.Operand.tmp 10), none⟩]) (.reg []
  [⟨some 11, Go.Op.move (Go.Operand.tmp 0), none⟩,
  ⟨some 12, Go.Op.binOp Go.BinOp.shr 3 (Go.Operand.tmp 11) (Go.Operand.const (Go.Value.int Go.IntKind.u64 8)) 57, none⟩,
  ⟨some 0, Go.Op.assign (Go.Operand.tmp 12), none⟩]))) (.reg []
  [⟨some 13, Go.Op.binOp Go.BinOp.add 3 (Go.Operand.tmp 4) (Go.Operand.const (Go.Value.int Go.IntKind.i64 1)) 3, none⟩,
  ⟨some 4, Go.Op.move (Go.Operand.tmp 13), none⟩]))))))) (.seq (.reg []
  [⟨some 14, Go.Op.move (Go.Operand.tmp 3), none⟩,
  ⟨some 2, Go.Op.assign (Go.Operand.tmp 14), none⟩]) (.ret))))
def ms24_0 : List Nat := [0, 1, 3, 4, 5, 6, 7, 8, 9, 10, 11, 12, 13]
def mj24_0 : List Nat := [1]
theorem ls24 : Tryd.f24.body.map (strip Tryd.prog impCodA) = some lc24 := by kernel_rfl
theorem lcall24 {args : List AV} (hargs : args.length ≤ 15) {H0 : AHeap} (lo : Nat) (hlo : H0.length ≤ lo) {r0 : AV} {H0' : AHeap}
    (h : lavc Tryd.prog glob lc24 (args ++ List.replicate (15 - args.length) (.v undef)) H0 fun e t H => (e = .normal ∨ e = .ret) ∧ aret Tryd.prog t H [Go.ResultVar.tmp 2] fun r => Fin lo H r r0 H0') :
    ACall Tryd.prog glob (H0.length == 0) 24 args H0 r0 H0' := LCall' ctx Tryd.func24 (by kernel_rfl) ls24 (by kernel_rfl) (by kernel_rfl) hargs lo hlo h
theorem lcallk24 {args : List AV} (hargs : args.length ≤ 15) {H0 : AHeap} {r0 : AV} {H0' : AHeap}
    (h : lavc Tryd.prog glob lc24 (args ++ List.replicate (15 - args.length) (.v undef)) H0 fun e t H => (e = .normal ∨ e = .ret) ∧ aret Tryd.prog t H [Go.ResultVar.tmp 2] fun r => r = r0 ∧ H = H0') :
    ACall Tryd.prog glob false 24 args H0 r0 H0' := LCallK' ctx Tryd.func24 (by kernel_rfl) ls24 (by kernel_rfl) (by kernel_rfl) hargs h
/-- escutcheon/blake.Long -/
def lc25 : LCode := .seq (.reg []
  [⟨some 2, Go.Op.assign (Go.Operand.const (Go.Value.slice none 0 0)), none⟩]) (.seq (.reg []
  [⟨some 6, Go.Op.move (Go.Operand.tmp 0), none⟩,
  ⟨some 7, Go.Op.call { callee := Go.Callee.value (Go.Operand.func 16), args := #[Go.Operand.const (Go.Value.int Go.IntKind.i64 64), Go.Operand.const (Go.Value.slice none 0 0), Go.Operand.tmp 6], argTypes := #[3, 22, 44] }, none⟩,
  ⟨some 5, Go.Op.move (Go.Operand.tmp 7), none⟩,
  ⟨some 8, Go.Op.extract (Go.Operand.tmp 5) 0, none⟩,
  ⟨some 9, Go.Op.extract (Go.Operand.tmp 5) 1, none⟩,
  ⟨some 3, Go.Op.assign (Go.Operand.tmp 8), none⟩,
  ⟨some 4, Go.Op.assign (Go.Operand.tmp 9), none⟩]) (.seq (.reg []
  [⟨some 10, Go.Op.move (Go.Operand.tmp 3), none⟩,
  ⟨some 2, Go.Op.assign (Go.Operand.tmp 10), none⟩]) (.ret)))
theorem ls25 : Tryd.f25.body.map (strip Tryd.prog impCodA) = some lc25 := by kernel_rfl
theorem lcall25 {args : List AV} (hargs : args.length ≤ 11) {H0 : AHeap} (lo : Nat) (hlo : H0.length ≤ lo) {r0 : AV} {H0' : AHeap}
    (h : lavc Tryd.prog glob lc25 (args ++ List.replicate (11 - args.length) (.v undef)) H0 fun e t H => (e = .normal ∨ e = .ret) ∧ aret Tryd.prog t H [Go.ResultVar.tmp 2] fun r => Fin lo H r r0 H0') :
    ACall Tryd.prog glob (H0.length == 0) 25 args H0 r0 H0' := LCall' ctx Tryd.func25 (by kernel_rfl) ls25 (by kernel_rfl) (by kernel_rfl) hargs lo hlo h
theorem lcallk25 {args : List AV} (hargs : args.length ≤ 11) {H0 : AHeap} {r0 : AV} {H0' : AHeap}
    (h : lavc Tryd.prog glob lc25 (args ++ List.replicate (11 - args.length) (.v undef)) H0 fun e t H => (e = .normal ∨ e = .ret) ∧ aret Tryd.prog t H [Go.ResultVar.tmp 2] fun r => r = r0 ∧ H = H0') :
    ACall Tryd.prog glob false 25 args H0 r0 H0' := LCallK' ctx Tryd.func25 (by kernel_rfl) ls25 (by kernel_rfl) (by kernel_rfl) hargs h
/-- (*escutcheon/cellar.cellar).other -/
def lc26 : LCode := .seq (.reg []
  [⟨some 10, Go.Op.assign (Go.Operand.const (Go.Value.slice none 0 0)), none⟩]) (.seq (.seq (.reg []
  [⟨some 11, Go.Op.move (Go.Operand.tmp 2), none⟩,
  ⟨some 12, Go.Op.binOp Go.BinOp.eql 3 (Go.Operand.tmp 11) (Go.Operand.const (Go.Value.int Go.IntKind.i64 0)) 3, none⟩]) (.cond (Go.Operand.tmp 12) (.seq (.reg [⟨some 13, Go.Op.move (Go.Operand.tmp 0), none⟩,
  ⟨some 14, Go.Op.nilCheck (Go.Operand.tmp 13), none⟩,
  ⟨some 15, Go.Op.fieldAddr 38 (Go.Operand.tmp 14) 1, none⟩,
  ⟨some 16, Go.Op.load 36 (Go.Operand.tmp 15), none⟩,
  ⟨some 17, Go.Op.move (Go.Operand.tmp 3), none⟩,
  ⟨some 18, Go.Op.indexAddr 36 (Go.Operand.tmp 16) (Go.Operand.tmp 17), none⟩,
  ⟨some 19, Go.Op.load 51 (Go.Operand.tmp 18), none⟩,
  ⟨some 20, Go.Op.move (Go.Operand.tmp 1), none⟩,
  ⟨some 21, Go.Op.binOp Go.BinOp.quo 3 (Go.Operand.tmp 20) (Go.Operand.const (Go.Value.int Go.IntKind.i64 256)) 3, none⟩,
  ⟨some 22, Go.Op.move (Go.Operand.tmp 4), none⟩,
  ⟨some 23, Go.Op.binOp Go.BinOp.sub 3 (Go.Operand.tmp 22) (Go.Operand.const (Go.Value.int Go.IntKind.i64 1)) 3, none⟩,
  ⟨some 24, Go.Op.binOp Go.BinOp.rem 3 (Go.Operand.tmp 21) (Go.Operand.tmp 23) 3, none⟩,
  ⟨some 25, Go.Op.indexAddr 51 (Go.Operand.tmp 19) (Go.Operand.tmp 24), none⟩,
  ⟨some 26, Go.Op.load 22 (Go.Operand.tmp 25), none⟩,
  ⟨some 10, Go.Op.assign (Go.Operand.tmp 26), none⟩]
  []) (.ret)) (.skip))) (.seq (.reg [⟨some 27, Go.Op.move (Go.Operand.tmp 0), none⟩,
  ⟨some 28, Go.Op.nilCheck (Go.Operand.tmp 27), none⟩,
  ⟨some 29, Go.Op.fieldAddr 38 (Go.Operand.tmp 28) 1, none⟩,
  ⟨some 30, Go.Op.load 36 (Go.Operand.tmp 29), none⟩,
  ⟨some 31, Go.Op.move (Go.Operand.tmp 1), none⟩,
  ⟨some 32, Go.Op.move (Go.Operand.tmp 0), none⟩,
  ⟨some 33, Go.Op.nilCheck (Go.Operand.tmp 32), none⟩,
  ⟨some 34, Go.Op.fieldAddr 38 (Go.Operand.tmp 33) 0, none⟩,
  ⟨some 35, Go.Op.fieldAddr 25 (Go.Operand.tmp 34) 2, none⟩,
  ⟨some 36, Go.Op.load 3 (Go.Operand.tmp 35), none⟩,
  ⟨some 37, Go.Op.binOp Go.BinOp.rem 3 (Go.Operand.tmp 31) (Go.Operand.tmp 36) 3, none⟩,
  ⟨some 38, Go.Op.indexAddr 36 (Go.Operand.tmp 30) (Go.Operand.tmp 37), none⟩,
  ⟨some 39, Go.Op.load 51 (Go.Operand.tmp 38), none⟩,
  ⟨some 40, Go.Op.move (Go.Operand.tmp 1), none⟩,
  ⟨some 41, Go.Op.binOp Go.BinOp.quo 3 (Go.Operand.tmp 40) (Go.Operand.const (Go.Value.int Go.IntKind.i64 256)) 3, none⟩,
  ⟨some 42, Go.Op.move (Go.Operand.tmp 0), none⟩,
  ⟨some 43, Go.Op.nilCheck (Go.Operand.tmp 42), none⟩,
  ⟨some 44, Go.Op.fieldAddr 38 (Go.Operand.tmp 43) 0, none⟩,
  ⟨some 45, Go.Op.fieldAddr 25 (Go.Operand.tmp 44) 0, none⟩,
  ⟨some 46, Go.Op.load 3 (Go.Operand.tmp 45), none⟩,
  ⟨some 47, Go.Op.binOp Go.BinOp.rem 3 (Go.Operand.tmp 41) (Go.Operand.tmp 46) 3, none⟩,
  ⟨some 48, Go.Op.indexAddr 51 (Go.Operand.tmp 39) (Go.Operand.tmp 47), none⟩,
  ⟨some 49, Go.Op.load 22 (Go.Operand.tmp 48), none⟩,
  ⟨some 10, Go.Op.assign (Go.Operand.tmp 49), none⟩]
  []) (.ret)))
def mj26_0 : List Nat := [2, 3, 4, 5, 6, 7, 8, 9, 10, 11, 12, 13, 14, 15, 16, 17, 18, 19, 20, 21, 22, 23, 24, 25, 26]
theorem ls26 : Tryd.f26.body.map (strip Tryd.prog impCodA) = some lc26 := by kernel_rfl
theorem lcall26 {args : List AV} (hargs : args.length ≤ 50) {H0 : AHeap} (lo : Nat) (hlo : H0.length ≤ lo) {r0 : AV} {H0' : AHeap}
    (h : lavc Tryd.prog glob lc26 (args ++ List.replicate (50 - args.length) (.v undef)) H0 fun e t H => (e = .normal ∨ e = .ret) ∧ aret Tryd.prog t H [Go.ResultVar.tmp 10] fun r => Fin lo H r r0 H0') :
    ACall Tryd.prog glob (H0.length == 0) 26 args H0 r0 H0' := LCall' ctx Tryd.func26 (by kernel_rfl) ls26 (by kernel_rfl) (by kernel_rfl) hargs lo hlo h
theorem lcallk26 {args : List AV} (hargs : args.length ≤ 50) {H0 : AHeap} {r0 : AV} {H0' : AHeap}
    (h : lavc Tryd.prog glob lc26 (args ++ List.replicate (50 - args.length) (.v undef)) H0 fun e t H => (e = .normal ∨ e = .ret) ∧ aret Tryd.prog t H [Go.ResultVar.tmp 10] fun r => r = r0 ∧ H = H0') :
    ACall Tryd.prog glob false 26 args H0 r0 H0' := LCallK' ctx Tryd.func26 (by kernel_rfl) ls26 (by kernel_rfl) (by kernel_rfl) hargs h
/-- slices.Clone[[]byte,byte] -/
def lc28 : LCode := .seq (.reg []
  [⟨some 2, Go.Op.assign (Go.Operand.const (Go.Value.slice none 0 0)), none⟩]) (.seq (.seq (.reg []
  [⟨some 3, Go.Op.move (Go.Operand.tmp 0), none⟩,
  ⟨some 4, Go.Op.binOp Go.BinOp.eql 22 (Go.Operand.tmp 3) (Go.Operand.const (Go.Value.slice none 0 0)) 22, none⟩]) (.cond (Go.Operand.tmp 4) (.seq (.reg []
  [⟨some 2, Go.Op.assign (Go.Operand.const (Go.Value.slice none 0 0)), none⟩]) (.ret)) (.skip))) (.seq (.reg []
  [⟨some 5, Go.Op.buildSlice 22 0 #[], none⟩,
  ⟨some 6, Go.Op.move (Go.Operand.tmp 0), none⟩,
  ⟨some 7, Go.Op.call { callee := Go.Callee.builtin Go.Builtin.append, args := #[Go.Operand.tmp 5, Go.Operand.tmp 6], argTypes := #[22, 22] }, none⟩,
  ⟨some 2, Go.Op.assign (Go.Operand.tmp 7), none⟩]) (.ret)))
def mj28_0 : List Nat := [1, 2, 3, 4]
theorem ls28 : Tryd.f28.body.map (strip Tryd.prog impCodA) = some lc28 := by kernel_rfl
theorem lcall28 {args : List AV} (hargs : args.length ≤ 8) {H0 : AHeap} (lo : Nat) (hlo : H0.length ≤ lo) {r0 : AV} {H0' : AHeap}
    (h : lavc Tryd.prog glob lc28 (args ++ List.replicate (8 - args.length) (.v undef)) H0 fun e t H => (e = .normal ∨ e = .ret) ∧ aret Tryd.prog t H [Go.ResultVar.tmp 2] fun r => Fin lo H r r0 H0') :
    ACall Tryd.prog glob (H0.length == 0) 28 args H0 r0 H0' := LCall' ctx Tryd.func28 (by kernel_rfl) ls28 (by kernel_rfl) (by kernel_rfl) hargs lo hlo h
theorem lcallk28 {args : List AV} (hargs : args.length ≤ 8) {H0 : AHeap} {r0 : AV} {H0' : AHeap}
    (h : lavc Tryd.prog glob lc28 (args ++ List.replicate (8 - args.length) (.v undef)) H0 fun e t H => (e = .normal ∨ e = .ret) ∧ aret Tryd.prog t H [Go.ResultVar.tmp 2] fun r => r = r0 ∧ H = H0') :
    ACall Tryd.prog glob false 28 args H0 r0 H0' := LCallK' ctx Tryd.func28 (by kernel_rfl) ls28 (by kernel_rfl) (by kernel_rfl) hargs h
/-- slices.Concat[[]byte,byte] -/
def lc29 : LCode := .seq (.reg []
  [⟨some 2, Go.Op.assign (Go.Operand.const (Go.Value.slice none 0 0)), none⟩]) (.seq (.reg []
  [⟨some 3, Go.Op.assign (Go.Operand.const (Go.Value.int Go.IntKind.i64 0)), none⟩]) (.seq (.seq (.reg []
  [⟨some 9, Go.Op.move (Go.Operand.tmp 0), none⟩,
  ⟨some 10, Go.Op.call { callee := Go.Callee.builtin Go.Builtin.len, args := #[Go.Operand.tmp 9], argTypes := #[44] }, none⟩,
  ⟨some 11, Go.Op.move (Go.Operand.const (Go.Value.int Go.IntKind.i64 0)), none⟩]) (.block 0 (.loop (.seq (.reg []
  [⟨some 12, Go.Op.binOp Go.BinOp.lss 3 (Go.Operand.tmp 11) (Go.Operand.tmp 10) 3, none⟩]) (.seq (.cond (Go.Operand.tmp 12) (.skip) (.exit 0)) (.seq (.block 1 (.seq (.reg []
  [⟨some 13, Go.Op.indexAddr 44 (Go.Operand.tmp 9) (Go.Operand.tmp 11), none⟩,
  ⟨some 14, Go.Op.load 22 (Go.Operand.tmp 13), none⟩,
  ⟨some 5, Go.Op.assign (Go.Operand.tmp 14), none⟩]) (.seq (.reg []
  [⟨some 15, Go.Op.move (Go.Operand.tmp 3), none⟩,
  ⟨some 16, Go.Op.move (Go.Operand.tmp 5), none⟩,
  ⟨some 17, Go.Op.call { callee := Go.Callee.builtin Go.Builtin.len, args := #[Go.Operand.tmp 16], argTypes := #[22] }, none⟩,
  ⟨some 18, Go.Op.binOp Go.BinOp.add 3 (Go.Operand.tmp 15) (Go.Operand.tmp 17) 3, none⟩,
  ⟨some 3, Go.Op.assign (Go.Operand.tmp 18), none⟩]) (.seq (.reg []
  [⟨some 19, Go.Op.move (Go.Operand.tmp 3), none⟩,
  ⟨some 20, Go.Op.binOp Go.BinOp.lss 3 (Go.Operand.tmp 19) (Go.Operand.const (Go.Value.int Go.IntKind.i64 0)) 3, none⟩]) (.cond (Go.Operand.tmp 20) (.reg []
  [⟨some 21, Go.Op.makeInterface 9 (Go.Operand.const (Go.Value.string { data := #[108, 101, 110, 32, 111, 117, 116, 32, 111, 102, 32, 114, 97, 110, 103, 101] })), none⟩,
  ⟨none, Go.Op.panic (Go.Operand.tmp 21), none⟩]) (.skip)))))) (.reg []
  [⟨some 22, Go.Op.binOp Go.BinOp.add 3 (Go.Operand.tmp 11) (Go.Operand.const (Go.Value.int Go.IntKind.i64 1)) 3, none⟩,
  ⟨some 11, Go.Op.move (Go.Operand.tmp 22), none⟩]))))))) (.seq (.reg []
  [⟨some 23, Go.Op.move (Go.Operand.tmp 3), none⟩,
  ⟨some 24, Go.Op.call { callee := Go.Callee.value (Go.Operand.func 34), args := #[Go.Operand.const (Go.Value.slice none 0 0), Go.Operand.tmp 23], argTypes := #[22, 3] }, none⟩,
  ⟨some 6, Go.Op.assign (Go.Operand.tmp 24), none⟩]) (.seq (.seq (.reg []
  [⟨some 25, Go.Op.move (Go.Operand.tmp 0), none⟩,
  ⟨some 26, Go.Op.call { callee := Go.Callee.builtin Go.Builtin.len, args := #[Go.Operand.tmp 25], argTypes := #[44] }, none⟩,
  ⟨some 27, Go.Op.move (Go.Operand.const (Go.Value.int Go.IntKind.i64 0)), none⟩]) (.block 2 (.loop (.seq (.reg []
  [⟨some 28, Go.Op.binOp Go.BinOp.lss 3 (Go.Operand.tmp 27) (Go.Operand.tmp 26) 3, none⟩]) (.seq (.cond (Go.Operand.tmp 28) (.skip) (.exit 2)) (.seq (.block 3 (.seq (.reg []
  [⟨some 29, Go.Op.indexAddr 44 (Go.Operand.tmp 25) (Go.Operand.tmp 27), none⟩,
  ⟨some 30, Go.Op.load 22 (Go.Operand.tmp 29), none⟩,
  ⟨some 8, Go.Op.assign (Go.Operand.tmp 30), none⟩]) (.reg []
  [⟨some 31, Go.Op.move (Go.Operand.tmp 6), none⟩,
  ⟨some 32, Go.Op.move (Go.Operand.tmp 8), none⟩,
  ⟨some 33, Go.Op.call { callee := Go.Callee.builtin Go.Builtin.append, args := #[Go.Operand.tmp 31, Go.Operand.tmp 32], argTypes := #[22, 22] }, none⟩,
  ⟨some 6, Go.Op.assign (Go.Operand.tmp 33), none⟩]))) (.reg []
  [⟨some 34, Go.Op.binOp Go.BinOp.add 3 (Go.Operand.tmp 27) (Go.Operand.const (Go.Value.int Go.IntKind.i64 1)) 3, none⟩,
  ⟨some 27, Go.Op.move (Go.Operand.tmp 34), none⟩]))))))) (.seq (.reg []
  [⟨some 35, Go.Op.move (Go.Operand.tmp 6), none⟩,
  ⟨some 2, Go.Op.assign (Go.Operand.tmp 35), none⟩]) (.ret))))))
def ms29_0 : List Nat := [1, 3, 4, 5, 7, 11, 12, 13, 14, 15, 16, 17, 18, 19, 20, 21, 22]
def ms29_1 : List Nat := [0, 1, 3, 4, 5, 6, 7, 8, 9, 10, 11, 12, 13, 14, 15, 16, 17, 18, 19, 20, 21, 22, 23, 24, 27, 28, 29, 30, 31, 32, 33, 34]
def mj29_0 : List Nat := [1, 4, 7]
def mj29_1 : List Nat := [1, 4, 7, 21]
def mj29_2 : List Nat := [0, 1, 3, 4, 5, 7, 9, 10, 11, 12, 13, 14, 15, 16, 17, 18, 19, 20, 21, 22, 23, 24]
theorem ls29 : Tryd.f29.body.map (strip Tryd.prog impCodA) = some lc29 := by kernel_rfl
theorem lcall29 {args : List AV} (hargs : args.length ≤ 36) {H0 : AHeap} (lo : Nat) (hlo : H0.length ≤ lo) {r0 : AV} {H0' : AHeap}
    (h : lavc Tryd.prog glob lc29 (args ++ List.replicate (36 - args.length) (.v undef)) H0 fun e t H => (e = .normal ∨ e = .ret) ∧ aret Tryd.prog t H [Go.ResultVar.tmp 2] fun r => Fin lo H r r0 H0') :
    ACall Tryd.prog glob (H0.length == 0) 29 args H0 r0 H0' := LCall' ctx Tryd.func29 (by kernel_rfl) ls29 (by kernel_rfl) (by kernel_rfl) hargs lo hlo h
theorem lcallk29 {args : List AV} (hargs : args.length ≤ 36) {H0 : AHeap} {r0 : AV} {H0' : AHeap}
    (h : lavc Tryd.prog glob lc29 (args ++ List.replicate (36 - args.length) (.v undef)) H0 fun e t H => (e = .normal ∨ e = .ret) ∧ aret Tryd.prog t H [Go.ResultVar.tmp 2] fun r => r = r0 ∧ H = H0') :
    ACall Tryd.prog glob false 29 args H0 r0 H0' := LCallK' ctx Tryd.func29 (by kernel_rfl) ls29 (by kernel_rfl) (by kernel_rfl) hargs h
/-- (*escutcheon/blake.state).block -/
def lc30 : LCode := .seq (.reg []
  [⟨some 8, Go.Op.alloc 67, none⟩]) (.seq (.reg [⟨some 15, Go.Op.slice 67 (Go.Operand.tmp 8) none (some (Go.Operand.const (Go.Value.int Go.IntKind.i64 8))) none, none⟩,
  ⟨some 16, Go.Op.move (Go.Operand.tmp 0), none⟩,
  ⟨some 17, Go.Op.nilCheck (Go.Operand.tmp 16), none⟩,
  ⟨some 18, Go.Op.slice 56 (Go.Operand.tmp 17) none none none, none⟩]
  [⟨some 19, Go.Op.call { callee := Go.Callee.builtin Go.Builtin.copy, args := #[Go.Operand.tmp 15, Go.Operand.tmp 18], argTypes := #[68, 68] }, none⟩]) (.seq (.reg [⟨some 20, Go.Op.slice 67 (Go.Operand.tmp 8) (some (Go.Operand.const (Go.Value.int Go.IntKind.i64 8))) none none, none⟩,
  ⟨some 21, Go.Op.slice 55 (Go.Operand.global 0) none none none, none⟩]
  [⟨some 22, Go.Op.call { callee := Go.Callee.builtin Go.Builtin.copy, args := #[Go.Operand.tmp 20, Go.Operand.tmp 21], argTypes := #[68, 68] }, none⟩]) (.seq (.reg []
  [⟨some 23, Go.Op.indexAddr 67 (Go.Operand.tmp 8) (Go.Operand.const (Go.Value.int Go.IntKind.i64 12)), none⟩,
  ⟨some 24, Go.Op.load 54 (Go.Operand.tmp 23), none⟩,
  ⟨some 25, Go.Op.move (Go.Operand.tmp 2), none⟩,
  ⟨some 26, Go.Op.convert 3 54 (Go.Operand.tmp 25), none⟩,
  ⟨some 27, Go.Op.binOp Go.BinOp.xor 54 (Go.Operand.tmp 24) (Go.Operand.tmp 26) 54, none⟩,
  ⟨some 28, Go.Op.indexAddr 67 (Go.Operand.tmp 8) (Go.Operand.const (Go.Value.int Go.IntKind.i64 12)), none⟩,
  ⟨none, Go.Op.store 54 (Go.Operand.tmp 28) (Go.Operand.tmp 27), none⟩]) (.seq (.seq (.reg []
  [⟨some 29, Go.Op.move (Go.Operand.tmp 3), none⟩]) (.cond (Go.Operand.tmp 29) (.reg []
  [⟨some 30, Go.Op.indexAddr 67 (Go.Operand.tmp 8) (Go.Operand.const (Go.Value.int Go.IntKind.i64 14)), none⟩,
  ⟨some 31, Go.Op.load 54 (Go.Operand.tmp 30), none⟩,
  ⟨some 32, Go.Op.unOp Go.UnOp.xor 54 (Go.Operand.tmp 31), none⟩,
  ⟨some 33, Go.Op.indexAddr 67 (Go.Operand.tmp 8) (Go.Operand.const (Go.Value.int Go.IntKind.i64 14)), none⟩,
  ⟨none, Go.Op.store 54 (Go.Operand.tmp 33) (Go.Operand.tmp 32), none⟩]) (.skip))) (.seq (.reg []
  [⟨some 34, Go.Op.move (Go.Operand.tmp 1), none⟩,
  ⟨some 35, Go.Op.call { callee := Go.Callee.value (Go.Operand.func 35), args := #[Go.Operand.tmp 34], argTypes := #[22] }, none⟩,
  ⟨some 9, Go.Op.alloc 66, none⟩,
  ⟨none, Go.Op.store 66 (Go.Operand.tmp 9) (Go.Operand.tmp 35), none⟩]) (.seq (.seq (.reg []
  [⟨some 36, Go.Op.move (Go.Operand.const (Go.Value.int Go.IntKind.i64 0)), none⟩]) (.block 0 (.loop (.seq (.reg []
  [⟨some 37, Go.Op.binOp Go.BinOp.lss 3 (Go.Operand.tmp 36) (Go.Operand.const (Go.Value.int Go.IntKind.i64 12)) 3, none⟩]) (.seq (.cond (Go.Operand.tmp 37) (.skip) (.exit 0)) (.seq (.block 1 (.seq (.reg []
  [⟨some 38, Go.Op.move (Go.Operand.tmp 36), none⟩,
  ⟨some 10, Go.Op.assign (Go.Operand.tmp 38), none⟩]) (.seq (.reg []
  [⟨some 39, Go.Op.move (Go.Operand.tmp 10), none⟩,
  ⟨some 40, Go.Op.binOp Go.BinOp.rem 3 (Go.Operand.tmp 39) (Go.Operand.const (Go.Value.int Go.IntKind.i64 10)) 3, none⟩,
  ⟨some 41, Go.Op.indexAddr 71 (Go.Operand.global 1) (Go.Operand.tmp 40), none⟩,
  ⟨some 42, Go.Op.load 70 (Go.Operand.tmp 41), none⟩,
  ⟨some 11, Go.Op.alloc 70, none⟩,
  ⟨none, Go.Op.store 70 (Go.Operand.tmp 11) (Go.Operand.tmp 42), none⟩]) (.seq (.reg []
  [⟨some 43, Go.Op.load 73 (Go.Operand.global 2), none⟩,
  ⟨some 44, Go.Op.move (Go.Operand.const (Go.Value.int Go.IntKind.i64 0)), none⟩]) (.block 2 (.loop (.seq (.reg []
  [⟨some 45, Go.Op.binOp Go.BinOp.lss 3 (Go.Operand.tmp 44) (Go.Operand.const (Go.Value.int Go.IntKind.i64 8)) 3, none⟩]) (.seq (.cond (Go.Operand.tmp 45) (.skip) (.exit 2)) (.seq (.block 3 (.seq (.reg []
  [⟨some 46, Go.Op.move (Go.Operand.tmp 44), none⟩,
  ⟨some 47, Go.Op.index 73 (Go.Operand.tmp 43) (Go.Operand.tmp 44), none⟩,
  ⟨some 13, Go.Op.alloc 72, none⟩,
  ⟨some 12, Go.Op.assign (Go.Operand.tmp 46), none⟩,
  ⟨none, Go.Op.store 72 (Go.Operand.tmp 13) (Go.Operand.tmp 47), none⟩]) (.reg [⟨some 48, Go.Op.load 72 (Go.Operand.tmp 13), none⟩,
  ⟨some 49, Go.Op.move (Go.Operand.tmp 12), none⟩,
  ⟨some 50, Go.Op.binOp Go.BinOp.mul 3 (Go.Operand.const (Go.Value.int Go.IntKind.i64 2)) (Go.Operand.tmp 49) 3, none⟩,
  ⟨some 51, Go.Op.indexAddr 70 (Go.Operand.tmp 11) (Go.Operand.tmp 50), none⟩,
  ⟨some 52, Go.Op.load 3 (Go.Operand.tmp 51), none⟩,
  ⟨some 53, Go.Op.indexAddr 66 (Go.Operand.tmp 9) (Go.Operand.tmp 52), none⟩,
  ⟨some 54, Go.Op.load 54 (Go.Operand.tmp 53), none⟩,
  ⟨some 55, Go.Op.move (Go.Operand.tmp 12), none⟩,
  ⟨some 56, Go.Op.binOp Go.BinOp.mul 3 (Go.Operand.const (Go.Value.int Go.IntKind.i64 2)) (Go.Operand.tmp 55) 3, none⟩,
  ⟨some 57, Go.Op.binOp Go.BinOp.add 3 (Go.Operand.tmp 56) (Go.Operand.const (Go.Value.int Go.IntKind.i64 1)) 3, none⟩,
  ⟨some 58, Go.Op.indexAddr 70 (Go.Operand.tmp 11) (Go.Operand.tmp 57), none⟩,
  ⟨some 59, Go.Op.load 3 (Go.Operand.tmp 58), none⟩,
  ⟨some 60, Go.Op.indexAddr 66 (Go.Operand.tmp 9) (Go.Operand.tmp 59), none⟩,
  ⟨some 61, Go.Op.load 54 (Go.Operand.tmp 60), none⟩]
  [⟨some 62, Go.Op.call { callee := Go.Callee.value (Go.Operand.func 36), args := #[Go.Operand.tmp 8, Go.Operand.tmp 48, Go.Operand.tmp 54, Go.Operand.tmp 61], argTypes := #[67, 72, 54, 54] }, none⟩]))) (.reg []
  [⟨some 63, Go.Op.binOp Go.BinOp.add 3 (Go.Operand.tmp 44) (Go.Operand.const (Go.Value.int Go.IntKind.i64 1)) 3, none⟩,
  ⟨some 44, Go.Op.move (Go.Operand.tmp 63), none⟩])))))))))) (.reg []
  [⟨some 64, Go.Op.binOp Go.BinOp.add 3 (Go.Operand.tmp 36) (Go.Operand.const (Go.Value.int Go.IntKind.i64 1)) 3, none⟩,
  ⟨some 36, Go.Op.move (Go.Operand.tmp 64), none⟩]))))))) (.seq (.reg []
  [⟨some 65, Go.Op.move (Go.Operand.const (Go.Value.int Go.IntKind.i64 0)), none⟩]) (.block 4 (.loop (.seq (.reg []
  [⟨some 66, Go.Op.binOp Go.BinOp.lss 3 (Go.Operand.tmp 65) (Go.Operand.const (Go.Value.int Go.IntKind.i64 8)) 3, none⟩]) (.seq (.cond (Go.Operand.tmp 66) (.skip) (.exit 4)) (.seq (.block 5 (.seq (.reg []
  [⟨some 67, Go.Op.move (Go.Operand.tmp 65), none⟩,
  ⟨some 14, Go.Op.assign (Go.Operand.tmp 67), none⟩]) (.reg [⟨some 68, Go.Op.move (Go.Operand.tmp 0), none⟩,
  ⟨some 69, Go.Op.move (Go.Operand.tmp 14), none⟩,
  ⟨some 70, Go.Op.nilCheck (Go.Operand.tmp 68), none⟩,
  ⟨some 71, Go.Op.indexAddr 56 (Go.Operand.tmp 70) (Go.Operand.tmp 69), none⟩,
  ⟨some 72, Go.Op.load 54 (Go.Operand.tmp 71), none⟩,
  ⟨some 73, Go.Op.move (Go.Operand.tmp 14), none⟩,
  ⟨some 74, Go.Op.indexAddr 67 (Go.Operand.tmp 8) (Go.Operand.tmp 73), none⟩,
  ⟨some 75, Go.Op.load 54 (Go.Operand.tmp 74), none⟩,
  ⟨some 76, Go.Op.move (Go.Operand.tmp 14), none⟩,
  ⟨some 77, Go.Op.binOp Go.BinOp.add 3 (Go.Operand.tmp 76) (Go.Operand.const (Go.Value.int Go.IntKind.i64 8)) 3, none⟩,
  ⟨some 78, Go.Op.indexAddr 67 (Go.Operand.tmp 8) (Go.Operand.tmp 77), none⟩,
  ⟨some 79, Go.Op.load 54 (Go.Operand.tmp 78), none⟩,
  ⟨some 80, Go.Op.binOp Go.BinOp.xor 54 (Go.Operand.tmp 75) (Go.Operand.tmp 79) 54, none⟩,
  ⟨some 81, Go.Op.binOp Go.BinOp.xor 54 (Go.Operand.tmp 72) (Go.Operand.tmp 80) 54, none⟩,
  ⟨some 82, Go.Op.nilCheck (Go.Operand.tmp 68), none⟩,
  ⟨some 83, Go.Op.indexAddr 56 (Go.Operand.tmp 82) (Go.Operand.tmp 69), none⟩]
  [⟨none, Go.Op.store 54 (Go.Operand.tmp 83) (Go.Operand.tmp 81), none⟩]))) (.reg []
  [⟨some 84, Go.Op.binOp Go.BinOp.add 3 (Go.Operand.tmp 65) (Go.Operand.const (Go.Value.int Go.IntKind.i64 1)) 3, none⟩,
  ⟨some 65, Go.Op.move (Go.Operand.tmp 84), none⟩])))))))))))))
def ms30_0 : List Nat := [1, 2, 3, 4, 5, 6, 7, 10, 11, 12, 13, 15, 16, 17, 18, 19, 20, 21, 22, 23, 24, 25, 26, 27, 28, 29, 30, 31, 32, 33, 34, 35, 36, 37, 38, 39, 40, 41, 42, 43, 44, 45, 46, 47, 48, 49, 50, 51, 52, 53, 54, 55, 56, 57, 58, 59, 60, 61, 62, 63, 64]
def ms30_1 : List Nat := [1, 2, 3, 4, 5, 6, 7, 12, 13, 15, 16, 17, 18, 19, 20, 21, 22, 23, 24, 25, 26, 27, 28, 29, 30, 31, 32, 33, 34, 35, 44, 45, 46, 47, 48, 49, 50, 51, 52, 53, 54, 55, 56, 57, 58, 59, 60, 61, 62, 63]
def ms30_2 : List Nat := [1, 2, 3, 4, 5, 6, 7, 9, 10, 11, 12, 13, 14, 15, 16, 17, 18, 19, 20, 21, 22, 23, 24, 25, 26, 27, 28, 29, 30, 31, 32, 33, 34, 35, 36, 37, 38, 39, 40, 41, 42, 43, 44, 45, 46, 47, 48, 49, 50, 51, 52, 53, 54, 55, 56, 57, 58, 59, 60, 61, 62, 63, 64, 65, 66, 67, 68, 69, 70, 71, 72, 73, 74, 75, 76, 77, 78, 79, 80, 81, 82, 83, 84]
def mj30_0 : List Nat := [2, 3, 4, 5, 6, 7, 15, 16, 17, 18, 19, 20, 21, 22, 23, 24, 25, 26, 27, 28, 29, 30, 31, 32, 33, 62]
def mj30_1 : List Nat := [1, 2, 3, 4, 5, 6, 7, 15, 16, 17, 18, 19, 20, 21, 22, 23, 24, 25, 26, 27, 28, 29, 30, 31, 32, 33, 34, 35, 62]
def mj30_2 : List Nat := [1, 2, 3, 4, 5, 6, 7, 15, 16, 17, 18, 19, 20, 21, 22, 23, 24, 25, 26, 27, 28, 29, 30, 31, 32, 33, 34, 35, 62]
def mj30_3 : List Nat := [1, 2, 3, 4, 5, 6, 7, 9, 10, 11, 12, 13, 15, 16, 17, 18, 19, 20, 21, 22, 23, 24, 25, 26, 27, 28, 29, 30, 31, 32, 33, 34, 35, 36, 37, 38, 39, 40, 41, 42, 43, 44, 45, 46, 47, 48, 49, 50, 51, 52, 53, 54, 55, 56, 57, 58, 59, 60, 61, 62, 63, 64]
theorem ls30 : Tryd.f30.body.map (strip Tryd.prog impCodA) = some lc30 := by kernel_rfl
theorem lcall30 {args : List AV} (hargs : args.length ≤ 85) {H0 : AHeap} (lo : Nat) (hlo : H0.length ≤ lo) {r0 : AV} {H0' : AHeap}
    (h : lavc Tryd.prog glob lc30 (args ++ List.replicate (85 - args.length) (.v undef)) H0 fun e t H => (e = .normal ∨ e = .ret) ∧ aret Tryd.prog t H [] fun r => Fin lo H r r0 H0') :
    ACall Tryd.prog glob (H0.length == 0) 30 args H0 r0 H0' := LCall' ctx Tryd.func30 (by kernel_rfl) ls30 (by kernel_rfl) (by kernel_rfl) hargs lo hlo h
theorem lcallk30 {args : List AV} (hargs : args.length ≤ 85) {H0 : AHeap} {r0 : AV} {H0' : AHeap}
    (h : lavc Tryd.prog glob lc30 (args ++ List.replicate (85 - args.length) (.v undef)) H0 fun e t H => (e = .normal ∨ e = .ret) ∧ aret Tryd.prog t H [] fun r => r = r0 ∧ H = H0') :
    ACall Tryd.prog glob false 30 args H0 r0 H0' := LCallK' ctx Tryd.func30 (by kernel_rfl) ls30 (by kernel_rfl) (by kernel_rfl) hargs h
/-- (*escutcheon/blake.state).bytes -/
def lc31 : LCode := .seq (.reg []
  [⟨some 4, Go.Op.assign (Go.Operand.const (Go.Value.slice none 0 0)), none⟩]) (.seq (.reg []
  [⟨some 5, Go.Op.assign (Go.Operand.const (Go.Value.slice none 0 0)), none⟩]) (.seq (.seq (.reg []
  [⟨some 7, Go.Op.move (Go.Operand.tmp 1), none⟩,
  ⟨some 8, Go.Op.move (Go.Operand.const (Go.Value.int Go.IntKind.i64 0)), none⟩]) (.block 0 (.loop (.seq (.reg []
  [⟨some 9, Go.Op.binOp Go.BinOp.lss 3 (Go.Operand.tmp 8) (Go.Operand.tmp 7) 3, none⟩]) (.seq (.cond (Go.Operand.tmp 9) (.skip) (.exit 0)) (.seq (.block 1 (.seq (.reg []
  [⟨some 10, Go.Op.move (Go.Operand.tmp 8), none⟩,
  ⟨some 6, Go.Op.assign (Go.Operand.tmp 10), none⟩]) (.reg []
  [⟨some 11, Go.Op.move (Go.Operand.tmp 5), none⟩,
  ⟨some 12, Go.Op.move (Go.Operand.tmp 0), none⟩,
  ⟨some 13, Go.Op.move (Go.Operand.tmp 6), none⟩,
  ⟨some 14, Go.Op.binOp Go.BinOp.quo 3 (Go.Operand.tmp 13) (Go.Operand.const (Go.Value.int Go.IntKind.i64 8)) 3, none⟩,
  ⟨some 15, Go.Op.nilCheck (Go.Operand.tmp 12), none⟩,
  ⟨some 16, Go.Op.indexAddr 56 (Go.Operand.tmp 15) (Go.Operand.tmp 14), none⟩,
  ⟨some 17, Go.Op.load 54 (Go.Operand.tmp 16), none⟩,
  ⟨some 18, Go.Op.move (Go.Operand.tmp 6), none⟩,
  ⟨some 19, Go.Op.binOp Go.BinOp.rem 3 (Go.Operand.tmp 18) (Go.Operand.const (Go.Value.int Go.IntKind.i64 8)) 3, none⟩,
  ⟨some 20, Go.Op.binOp Go.BinOp.mul 3 (Go.Operand.const (Go.Value.int Go.IntKind.i64 8)) (Go.Operand.tmp 19) 3, none⟩,
  ⟨some 21, Go.Op.binOp Go.BinOp.shr 54 (Go.Operand.tmp 17) (Go.Operand.tmp 20) 3, none⟩,
  ⟨some 22, Go.Op.convert 54 5 (Go.Operand.tmp 21), none⟩,
  ⟨some 23, Go.Op.buildSlice 22 1 #[(0, Go.Operand.tmp 22)], none⟩,
  ⟨some 24, Go.Op.call { callee := Go.Callee.builtin Go.Builtin.append, args := #[Go.Operand.tmp 11, Go.Operand.tmp 23], argTypes := #[22, 22] }, none⟩,
  ⟨some 5, Go.Op.assign (Go.Operand.tmp 24), none⟩]))) (.reg []
  [⟨some 25, Go.Op.binOp Go.BinOp.add 3 (Go.Operand.tmp 8) (Go.Operand.const (Go.Value.int Go.IntKind.i64 1)) 3, none⟩,
  ⟨some 8, Go.Op.move (Go.Operand.tmp 25), none⟩]))))))) (.seq (.reg []
  [⟨some 26, Go.Op.move (Go.Operand.tmp 5), none⟩,
  ⟨some 4, Go.Op.assign (Go.Operand.tmp 26), none⟩]) (.ret))))
def ms31_0 : List Nat := [1, 2, 3, 5, 6, 8, 9, 10, 11, 12, 13, 14, 15, 16, 17, 18, 19, 20, 21, 22, 23, 24, 25]
def mj31_0 : List Nat := [1, 2, 3]
theorem ls31 : Tryd.f31.body.map (strip Tryd.prog impCodA) = some lc31 := by kernel_rfl
theorem lcall31 {args : List AV} (hargs : args.length ≤ 27) {H0 : AHeap} (lo : Nat) (hlo : H0.length ≤ lo) {r0 : AV} {H0' : AHeap}
    (h : lavc Tryd.prog glob lc31 (args ++ List.replicate (27 - args.length) (.v undef)) H0 fun e t H => (e = .normal ∨ e = .ret) ∧ aret Tryd.prog t H [Go.ResultVar.tmp 4] fun r => Fin lo H r r0 H0') :
    ACall Tryd.prog glob (H0.length == 0) 31 args H0 r0 H0' := LCall' ctx Tryd.func31 (by kernel_rfl) ls31 (by kernel_rfl) (by kernel_rfl) hargs lo hlo h
theorem lcallk31 {args : List AV} (hargs : args.length ≤ 27) {H0 : AHeap} {r0 : AV} {H0' : AHeap}
    (h : lavc Tryd.prog glob lc31 (args ++ List.replicate (27 - args.length) (.v undef)) H0 fun e t H => (e = .normal ∨ e = .ret) ∧ aret Tryd.prog t H [Go.ResultVar.tmp 4] fun r => r = r0 ∧ H = H0') :
    ACall Tryd.prog glob false 31 args H0 r0 H0' := LCallK' ctx Tryd.func31 (by kernel_rfl) ls31 (by kernel_rfl) (by kernel_rfl) hargs h
/-- escutcheon/escutcheonref04.block -/
def lc32 : LCode := .seq (.reg []
  [⟨some 4, Go.Op.box 55 (Go.Operand.tmp 0), none⟩,
  ⟨some 8, Go.Op.alloc 55, none⟩]) (.seq (.reg []
  [⟨some 16, Go.Op.build 66 #[], none⟩,
  ⟨some 9, Go.Op.alloc 66, none⟩,
  ⟨none, Go.Op.store 66 (Go.Operand.tmp 9) (Go.Operand.tmp 16), none⟩]) (.seq (.seq (.reg []
  [⟨some 10, Go.Op.assign (Go.Operand.const (Go.Value.int Go.IntKind.i64 0)), none⟩]) (.block 0 (.loop (.seq (.seq (.reg []
  [⟨some 17, Go.Op.move (Go.Operand.tmp 10), none⟩,
  ⟨some 18, Go.Op.binOp Go.BinOp.lss 3 (Go.Operand.tmp 17) (Go.Operand.const (Go.Value.int Go.IntKind.i64 8)) 3, none⟩]) (.cond (Go.Operand.tmp 18) (.skip) (.exit 0))) (.seq (.block 1 (.seq (.reg []
  [⟨some 21, Go.Op.move (Go.Operand.tmp 10), none⟩,
  ⟨some 22, Go.Op.move (Go.Operand.tmp 10), none⟩,
  ⟨some 23, Go.Op.indexAddr 55 (Go.Operand.tmp 4) (Go.Operand.tmp 22), none⟩,
  ⟨some 24, Go.Op.load 54 (Go.Operand.tmp 23), none⟩,
  ⟨some 25, Go.Op.indexAddr 66 (Go.Operand.tmp 9) (Go.Operand.tmp 21), none⟩,
  ⟨none, Go.Op.store 54 (Go.Operand.tmp 25) (Go.Operand.tmp 24), none⟩]) (.reg []
  [⟨some 26, Go.Op.move (Go.Operand.tmp 10), none⟩,
  ⟨some 27, Go.Op.binOp Go.BinOp.add 3 (Go.Operand.tmp 26) (Go.Operand.const (Go.Value.int Go.IntKind.i64 8)) 3, none⟩,
  ⟨some 28, Go.Op.move (Go.Operand.tmp 10), none⟩,
  ⟨some 29, Go.Op.indexAddr 55 (Go.Operand.global 0) (Go.Operand.tmp 28), none⟩,
  ⟨some 30, Go.Op.load 54 (Go.Operand.tmp 29), none⟩,
  ⟨some 31, Go.Op.indexAddr 66 (Go.Operand.tmp 9) (Go.Operand.tmp 27), none⟩,
  ⟨none, Go.Op.store 54 (Go.Operand.tmp 31) (Go.Operand.tmp 30), none⟩]))) (.reg []
  [⟨some 19, Go.Op.move (Go.Operand.tmp 10), none⟩,
  ⟨some 20, Go.Op.binOp Go.BinOp.add 3 (Go.Operand.tmp 19) (Go.Operand.const (Go.Value.int Go.IntKind.i64 1)) 3, none⟩,
  ⟨some 10, Go.Op.assign (Go.Operand.tmp 20), none⟩])))))) (.seq (.reg []
  [⟨some 32, Go.Op.indexAddr 66 (Go.Operand.tmp 9) (Go.Operand.const (Go.Value.int Go.IntKind.i64 12)), none⟩,
  ⟨some 33, Go.Op.load 54 (Go.Operand.tmp 32), none⟩,
  ⟨some 34, Go.Op.move (Go.Operand.tmp 2), none⟩,
  ⟨some 35, Go.Op.convert 3 54 (Go.Operand.tmp 34), none⟩,
  ⟨some 36, Go.Op.binOp Go.BinOp.xor 54 (Go.Operand.tmp 33) (Go.Operand.tmp 35) 54, none⟩,
  ⟨some 37, Go.Op.indexAddr 66 (Go.Operand.tmp 9) (Go.Operand.const (Go.Value.int Go.IntKind.i64 12)), none⟩,
  ⟨none, Go.Op.store 54 (Go.Operand.tmp 37) (Go.Operand.tmp 36), none⟩]) (.seq (.seq (.reg []
  [⟨some 38, Go.Op.move (Go.Operand.tmp 3), none⟩]) (.cond (Go.Operand.tmp 38) (.reg []
  [⟨some 39, Go.Op.indexAddr 66 (Go.Operand.tmp 9) (Go.Operand.const (Go.Value.int Go.IntKind.i64 14)), none⟩,
  ⟨some 40, Go.Op.load 54 (Go.Operand.tmp 39), none⟩,
  ⟨some 41, Go.Op.binOp Go.BinOp.sub 54 (Go.Operand.const (Go.Value.int Go.IntKind.u64 18446744073709551615)) (Go.Operand.tmp 40) 54, none⟩,
  ⟨some 42, Go.Op.indexAddr 66 (Go.Operand.tmp 9) (Go.Operand.const (Go.Value.int Go.IntKind.i64 14)), none⟩,
  ⟨none, Go.Op.store 54 (Go.Operand.tmp 42) (Go.Operand.tmp 41), none⟩]) (.skip))) (.seq (.seq (.reg []
  [⟨some 11, Go.Op.assign (Go.Operand.const (Go.Value.int Go.IntKind.i64 0)), none⟩]) (.block 2 (.loop (.seq (.seq (.reg []
  [⟨some 43, Go.Op.move (Go.Operand.tmp 11), none⟩,
  ⟨some 44, Go.Op.binOp Go.BinOp.lss 3 (Go.Operand.tmp 43) (Go.Operand.const (Go.Value.int Go.IntKind.i64 12)) 3, none⟩]) (.cond (Go.Operand.tmp 44) (.skip) (.exit 2))) (.seq (.block 3 (.seq (.reg []
  [⟨some 47, Go.Op.move (Go.Operand.tmp 11), none⟩,
  ⟨some 48, Go.Op.binOp Go.BinOp.rem 3 (Go.Operand.tmp 47) (Go.Operand.const (Go.Value.int Go.IntKind.i64 10)) 3, none⟩,
  ⟨some 49, Go.Op.indexAddr 71 (Go.Operand.global 1) (Go.Operand.tmp 48), none⟩,
  ⟨some 50, Go.Op.load 70 (Go.Operand.tmp 49), none⟩,
  ⟨some 12, Go.Op.alloc 70, none⟩,
  ⟨none, Go.Op.store 70 (Go.Operand.tmp 12) (Go.Operand.tmp 50), none⟩]) (.seq (.seq (.reg []
  [⟨some 13, Go.Op.assign (Go.Operand.const (Go.Value.int Go.IntKind.i64 0)), none⟩]) (.block 4 (.loop (.seq (.seq (.reg []
  [⟨some 51, Go.Op.move (Go.Operand.tmp 13), none⟩,
  ⟨some 52, Go.Op.binOp Go.BinOp.lss 3 (Go.Operand.tmp 51) (Go.Operand.const (Go.Value.int Go.IntKind.i64 4)) 3, none⟩]) (.cond (Go.Operand.tmp 52) (.skip) (.exit 4))) (.seq (.block 5 (.reg [⟨some 55, Go.Op.load 66 (Go.Operand.tmp 9), none⟩,
  ⟨some 56, Go.Op.move (Go.Operand.tmp 13), none⟩,
  ⟨some 57, Go.Op.move (Go.Operand.tmp 13), none⟩,
  ⟨some 58, Go.Op.binOp Go.BinOp.add 3 (Go.Operand.const (Go.Value.int Go.IntKind.i64 4)) (Go.Operand.tmp 57) 3, none⟩,
  ⟨some 59, Go.Op.move (Go.Operand.tmp 13), none⟩,
  ⟨some 60, Go.Op.binOp Go.BinOp.add 3 (Go.Operand.const (Go.Value.int Go.IntKind.i64 8)) (Go.Operand.tmp 59) 3, none⟩,
  ⟨some 61, Go.Op.move (Go.Operand.tmp 13), none⟩,
  ⟨some 62, Go.Op.binOp Go.BinOp.add 3 (Go.Operand.const (Go.Value.int Go.IntKind.i64 12)) (Go.Operand.tmp 61) 3, none⟩,
  ⟨some 63, Go.Op.move (Go.Operand.tmp 1), none⟩,
  ⟨some 64, Go.Op.move (Go.Operand.tmp 13), none⟩,
  ⟨some 65, Go.Op.binOp Go.BinOp.mul 3 (Go.Operand.const (Go.Value.int Go.IntKind.i64 2)) (Go.Operand.tmp 64) 3, none⟩,
  ⟨some 66, Go.Op.indexAddr 70 (Go.Operand.tmp 12) (Go.Operand.tmp 65), none⟩,
  ⟨some 67, Go.Op.load 3 (Go.Operand.tmp 66), none⟩,
  ⟨some 68, Go.Op.binOp Go.BinOp.mul 3 (Go.Operand.const (Go.Value.int Go.IntKind.i64 8)) (Go.Operand.tmp 67) 3, none⟩,
  ⟨some 69, Go.Op.call { callee := Go.Callee.value (Go.Operand.func 38), args := #[Go.Operand.tmp 63, Go.Operand.tmp 68], argTypes := #[22, 3] }, none⟩,
  ⟨some 70, Go.Op.move (Go.Operand.tmp 1), none⟩,
  ⟨some 71, Go.Op.move (Go.Operand.tmp 13), none⟩,
  ⟨some 72, Go.Op.binOp Go.BinOp.mul 3 (Go.Operand.const (Go.Value.int Go.IntKind.i64 2)) (Go.Operand.tmp 71) 3, none⟩,
  ⟨some 73, Go.Op.binOp Go.BinOp.add 3 (Go.Operand.tmp 72) (Go.Operand.const (Go.Value.int Go.IntKind.i64 1)) 3, none⟩,
  ⟨some 74, Go.Op.indexAddr 70 (Go.Operand.tmp 12) (Go.Operand.tmp 73), none⟩,
  ⟨some 75, Go.Op.load 3 (Go.Operand.tmp 74), none⟩,
  ⟨some 76, Go.Op.binOp Go.BinOp.mul 3 (Go.Operand.const (Go.Value.int Go.IntKind.i64 8)) (Go.Operand.tmp 75) 3, none⟩,
  ⟨some 77, Go.Op.call { callee := Go.Callee.value (Go.Operand.func 38), args := #[Go.Operand.tmp 70, Go.Operand.tmp 76], argTypes := #[22, 3] }, none⟩,
  ⟨some 78, Go.Op.call { callee := Go.Callee.value (Go.Operand.func 37), args := #[Go.Operand.tmp 55, Go.Operand.tmp 56, Go.Operand.tmp 58, Go.Operand.tmp 60, Go.Operand.tmp 62, Go.Operand.tmp 69, Go.Operand.tmp 77], argTypes := #[66, 3, 3, 3, 3, 54, 54] }, none⟩]
  [⟨none, Go.Op.store 66 (Go.Operand.tmp 9) (Go.Operand.tmp 78), none⟩])) (.reg []
  [⟨some 53, Go.Op.move (Go.Operand.tmp 13), none⟩,
  ⟨some 54, Go.Op.binOp Go.BinOp.add 3 (Go.Operand.tmp 53) (Go.Operand.const (Go.Value.int Go.IntKind.i64 1)) 3, none⟩,
  ⟨some 13, Go.Op.assign (Go.Operand.tmp 54), none⟩])))))) (.seq (.reg []
  [⟨some 14, Go.Op.assign (Go.Operand.const (Go.Value.int Go.IntKind.i64 0)), none⟩]) (.block 6 (.loop (.seq (.seq (.reg []
  [⟨some 79, Go.Op.move (Go.Operand.tmp 14), none⟩,
  ⟨some 80, Go.Op.binOp Go.BinOp.lss 3 (Go.Operand.tmp 79) (Go.Operand.const (Go.Value.int Go.IntKind.i64 4)) 3, none⟩]) (.cond (Go.Operand.tmp 80) (.skip) (.exit 6))) (.seq (.block 7 (.reg [⟨some 83, Go.Op.load 66 (Go.Operand.tmp 9), none⟩,
  ⟨some 84, Go.Op.move (Go.Operand.tmp 14), none⟩,
  ⟨some 85, Go.Op.move (Go.Operand.tmp 14), none⟩,
  ⟨some 86, Go.Op.binOp Go.BinOp.add 3 (Go.Operand.tmp 85) (Go.Operand.const (Go.Value.int Go.IntKind.i64 1)) 3, none⟩,
  ⟨some 87, Go.Op.binOp Go.BinOp.rem 3 (Go.Operand.tmp 86) (Go.Operand.const (Go.Value.int Go.IntKind.i64 4)) 3, none⟩,
  ⟨some 88, Go.Op.binOp Go.BinOp.add 3 (Go.Operand.const (Go.Value.int Go.IntKind.i64 4)) (Go.Operand.tmp 87) 3, none⟩,
  ⟨some 89, Go.Op.move (Go.Operand.tmp 14), none⟩,
  ⟨some 90, Go.Op.binOp Go.BinOp.add 3 (Go.Operand.tmp 89) (Go.Operand.const (Go.Value.int Go.IntKind.i64 2)) 3, none⟩,
  ⟨some 91, Go.Op.binOp Go.BinOp.rem 3 (Go.Operand.tmp 90) (Go.Operand.const (Go.Value.int Go.IntKind.i64 4)) 3, none⟩,
  ⟨some 92, Go.Op.binOp Go.BinOp.add 3 (Go.Operand.const (Go.Value.int Go.IntKind.i64 8)) (Go.Operand.tmp 91) 3, none⟩,
  ⟨some 93, Go.Op.move (Go.Operand.tmp 14), none⟩,
  ⟨some 94, Go.Op.binOp Go.BinOp.add 3 (Go.Operand.tmp 93) (Go.Operand.const (Go.Value.int Go.IntKind.i64 3)) 3, none⟩,
  ⟨some 95, Go.Op.binOp Go.BinOp.rem 3 (Go.Operand.tmp 94) (Go.Operand.const (Go.Value.int Go.IntKind.i64 4)) 3, none⟩,
  ⟨some 96, Go.Op.binOp Go.BinOp.add 3 (Go.Operand.const (Go.Value.int Go.IntKind.i64 12)) (Go.Operand.tmp 95) 3, none⟩,
  ⟨some 97, Go.Op.move (Go.Operand.tmp 1), none⟩,
  ⟨some 98, Go.Op.move (Go.Operand.tmp 14), none⟩,
  ⟨some 99, Go.Op.binOp Go.BinOp.mul 3 (Go.Operand.const (Go.Value.int Go.IntKind.i64 2)) (Go.Operand.tmp 98) 3, none⟩,
  ⟨some 100, Go.Op.binOp Go.BinOp.add 3 (Go.Operand.const (Go.Value.int Go.IntKind.i64 8)) (Go.Operand.tmp 99) 3, none⟩,
  ⟨some 101, Go.Op.indexAddr 70 (Go.Operand.tmp 12) (Go.Operand.tmp 100), none⟩,
  ⟨some 102, Go.Op.load 3 (Go.Operand.tmp 101), none⟩,
  ⟨some 103, Go.Op.binOp Go.BinOp.mul 3 (Go.Operand.const (Go.Value.int Go.IntKind.i64 8)) (Go.Operand.tmp 102) 3, none⟩,
  ⟨some 104, Go.Op.call { callee := Go.Callee.value (Go.Operand.func 38), args := #[Go.Operand.tmp 97, Go.Operand.tmp 103], argTypes := #[22, 3] }, none⟩,
  ⟨some 105, Go.Op.move (Go.Operand.tmp 1), none⟩,
  ⟨some 106, Go.Op.move (Go.Operand.tmp 14), none⟩,
  ⟨some 107, Go.Op.binOp Go.BinOp.mul 3 (Go.Operand.const (Go.Value.int Go.IntKind.i64 2)) (Go.Operand.tmp 106) 3, none⟩,
  ⟨some 108, Go.Op.binOp Go.BinOp.add 3 (Go.Operand.const (Go.Value.int Go.IntKind.i64 9)) (Go.Operand.tmp 107) 3, none⟩,
  ⟨some 109, Go.Op.indexAddr 70 (Go.Operand.tmp 12) (Go.Operand.tmp 108), none⟩,
  ⟨some 110, Go.Op.load 3 (Go.Operand.tmp 109), none⟩,
  ⟨some 111, Go.Op.binOp Go.BinOp.mul 3 (Go.Operand.const (Go.Value.int Go.IntKind.i64 8)) (Go.Operand.tmp 110) 3, none⟩,
  ⟨some 112, Go.Op.call { callee := Go.Callee.value (Go.Operand.func 38), args := #[Go.Operand.tmp 105, Go.Operand.tmp 111], argTypes := #[22, 3] }, none⟩,
  ⟨some 113, Go.Op.call { callee := Go.Callee.value (Go.Operand.func 37), args := #[Go.Operand.tmp 83, Go.Operand.tmp 84, Go.Operand.tmp 88, Go.Operand.tmp 92, Go.Operand.tmp 96, Go.Operand.tmp 104, Go.Operand.tmp 112], argTypes := #[66, 3, 3, 3, 3, 54, 54] }, none⟩]
  [⟨none, Go.Op.store 66 (Go.Operand.tmp 9) (Go.Operand.tmp 113), none⟩])) (.reg []
  [⟨some 81, Go.Op.move (Go.Operand.tmp 14), none⟩,
  ⟨some 82, Go.Op.binOp Go.BinOp.add 3 (Go.Operand.tmp 81) (Go.Operand.const (Go.Value.int Go.IntKind.i64 1)) 3, none⟩,
  ⟨some 14, Go.Op.assign (Go.Operand.tmp 82), none⟩]))))))))) (.reg []
  [⟨some 45, Go.Op.move (Go.Operand.tmp 11), none⟩,
  ⟨some 46, Go.Op.binOp Go.BinOp.add 3 (Go.Operand.tmp 45) (Go.Operand.const (Go.Value.int Go.IntKind.i64 1)) 3, none⟩,
  ⟨some 11, Go.Op.assign (Go.Operand.tmp 46), none⟩])))))) (.seq (.seq (.reg []
  [⟨some 15, Go.Op.assign (Go.Operand.const (Go.Value.int Go.IntKind.i64 0)), none⟩]) (.block 8 (.loop (.seq (.seq (.reg []
  [⟨some 114, Go.Op.move (Go.Operand.tmp 15), none⟩,
  ⟨some 115, Go.Op.binOp Go.BinOp.lss 3 (Go.Operand.tmp 114) (Go.Operand.const (Go.Value.int Go.IntKind.i64 8)) 3, none⟩]) (.cond (Go.Operand.tmp 115) (.skip) (.exit 8))) (.seq (.block 9 (.reg [⟨some 118, Go.Op.move (Go.Operand.tmp 15), none⟩,
  ⟨some 119, Go.Op.move (Go.Operand.tmp 15), none⟩,
  ⟨some 120, Go.Op.indexAddr 55 (Go.Operand.tmp 4) (Go.Operand.tmp 119), none⟩,
  ⟨some 121, Go.Op.load 54 (Go.Operand.tmp 120), none⟩,
  ⟨some 122, Go.Op.move (Go.Operand.tmp 15), none⟩,
  ⟨some 123, Go.Op.indexAddr 66 (Go.Operand.tmp 9) (Go.Operand.tmp 122), none⟩,
  ⟨some 124, Go.Op.load 54 (Go.Operand.tmp 123), none⟩,
  ⟨some 125, Go.Op.binOp Go.BinOp.xor 54 (Go.Operand.tmp 121) (Go.Operand.tmp 124) 54, none⟩,
  ⟨some 126, Go.Op.move (Go.Operand.tmp 15), none⟩,
  ⟨some 127, Go.Op.binOp Go.BinOp.add 3 (Go.Operand.tmp 126) (Go.Operand.const (Go.Value.int Go.IntKind.i64 8)) 3, none⟩,
  ⟨some 128, Go.Op.indexAddr 66 (Go.Operand.tmp 9) (Go.Operand.tmp 127), none⟩,
  ⟨some 129, Go.Op.load 54 (Go.Operand.tmp 128), none⟩,
  ⟨some 130, Go.Op.binOp Go.BinOp.xor 54 (Go.Operand.tmp 125) (Go.Operand.tmp 129) 54, none⟩,
  ⟨some 131, Go.Op.indexAddr 55 (Go.Operand.tmp 4) (Go.Operand.tmp 118), none⟩]
  [⟨none, Go.Op.store 54 (Go.Operand.tmp 131) (Go.Operand.tmp 130), none⟩])) (.reg []
  [⟨some 116, Go.Op.move (Go.Operand.tmp 15), none⟩,
  ⟨some 117, Go.Op.binOp Go.BinOp.add 3 (Go.Operand.tmp 116) (Go.Operand.const (Go.Value.int Go.IntKind.i64 1)) 3, none⟩,
  ⟨some 15, Go.Op.assign (Go.Operand.tmp 117), none⟩])))))) (.seq (.reg []
  [⟨some 132, Go.Op.load 55 (Go.Operand.tmp 4), none⟩,
  ⟨none, Go.Op.store 55 (Go.Operand.tmp 8) (Go.Operand.tmp 132), none⟩]) (.ret))))))))
def ms32_0 : List Nat := [0, 5, 6, 7, 10, 16, 17, 18, 19, 20, 21, 22, 23, 24, 25, 26, 27, 28, 29, 30, 31]
def ms32_1 : List Nat := [0, 2, 3, 5, 6, 7, 10, 11, 12, 13, 14, 16, 17, 18, 19, 20, 21, 22, 23, 24, 25, 26, 27, 28, 29, 30, 31, 32, 33, 34, 35, 36, 37, 38, 39, 40, 41, 42, 43, 44, 45, 46, 47, 48, 49, 50, 51, 52, 53, 54, 55, 56, 57, 58, 59, 60, 61, 62, 63, 64, 65, 66, 67, 68, 69, 70, 71, 72, 73, 74, 75, 76, 77, 78, 79, 80, 81, 82, 83, 84, 85, 86, 87, 88, 89, 90, 91, 92, 93, 94, 95, 96, 97, 98, 99, 100, 101, 102, 103, 104, 105, 106, 107, 108, 109, 110, 111, 112, 113]
def ms32_2 : List Nat := [0, 2, 3, 5, 6, 7, 10, 13, 16, 17, 18, 19, 20, 21, 22, 23, 24, 25, 26, 27, 28, 29, 30, 31, 32, 33, 34, 35, 36, 37, 38, 39, 40, 41, 42, 51, 52, 53, 54, 55, 56, 57, 58, 59, 60, 61, 62, 63, 64, 65, 66, 67, 68, 69, 70, 71, 72, 73, 74, 75, 76, 77, 78]
def ms32_3 : List Nat := [0, 2, 3, 5, 6, 7, 10, 14, 16, 17, 18, 19, 20, 21, 22, 23, 24, 25, 26, 27, 28, 29, 30, 31, 32, 33, 34, 35, 36, 37, 38, 39, 40, 41, 42, 79, 80, 81, 82, 83, 84, 85, 86, 87, 88, 89, 90, 91, 92, 93, 94, 95, 96, 97, 98, 99, 100, 101, 102, 103, 104, 105, 106, 107, 108, 109, 110, 111, 112, 113]
def ms32_4 : List Nat := [0, 1, 2, 3, 5, 6, 7, 10, 11, 12, 13, 14, 15, 16, 17, 18, 19, 20, 21, 22, 23, 24, 25, 26, 27, 28, 29, 30, 31, 32, 33, 34, 35, 36, 37, 38, 39, 40, 41, 42, 43, 44, 45, 46, 47, 48, 49, 50, 51, 52, 53, 54, 55, 56, 57, 58, 59, 60, 61, 62, 63, 64, 65, 66, 67, 68, 69, 70, 71, 72, 73, 74, 75, 76, 77, 78, 79, 80, 81, 82, 83, 84, 85, 86, 87, 88, 89, 90, 91, 92, 93, 94, 95, 96, 97, 98, 99, 100, 101, 102, 103, 104, 105, 106, 107, 108, 109, 110, 111, 112, 113, 114, 115, 116, 117, 118, 119, 120, 121, 122, 123, 124, 125, 126, 127, 128, 129, 130, 131]
def mj32_0 : List Nat := [0, 5, 6, 7, 16]
def mj32_1 : List Nat := [0, 2, 3, 5, 6, 7, 10, 16, 17, 18, 19, 20, 21, 22, 23, 24, 25, 26, 27, 28, 29, 30, 31, 32, 33, 34, 35, 36, 37, 38, 39, 40, 41, 42]
def mj32_2 : List Nat := [0, 2, 3, 5, 6, 7, 10, 16, 17, 18, 19, 20, 21, 22, 23, 24, 25, 26, 27, 28, 29, 30, 31, 32, 33, 34, 35, 36, 37, 38, 39, 40, 41, 42]
def mj32_3 : List Nat := [0, 2, 3, 5, 6, 7, 10, 16, 17, 18, 19, 20, 21, 22, 23, 24, 25, 26, 27, 28, 29, 30, 31, 32, 33, 34, 35, 36, 37, 38, 39, 40, 41, 42]
def mj32_4 : List Nat := [0, 2, 3, 5, 6, 7, 10, 16, 17, 18, 19, 20, 21, 22, 23, 24, 25, 26, 27, 28, 29, 30, 31, 32, 33, 34, 35, 36, 37, 38, 39, 40, 41, 42]
def mj32_5 : List Nat := [0, 1, 2, 3, 5, 6, 7, 10, 11, 12, 13, 14, 16, 17, 18, 19, 20, 21, 22, 23, 24, 25, 26, 27, 28, 29, 30, 31, 32, 33, 34, 35, 36, 37, 38, 39, 40, 41, 42, 43, 44, 45, 46, 47, 48, 49, 50, 51, 52, 53, 54, 55, 56, 57, 58, 59, 60, 61, 62, 63, 64, 65, 66, 67, 68, 69, 70, 71, 72, 73, 74, 75, 76, 77, 78, 79, 80, 81, 82, 83, 84, 85, 86, 87, 88, 89, 90, 91, 92, 93, 94, 95, 96, 97, 98, 99, 100, 101, 102, 103, 104, 105, 106, 107, 108, 109, 110, 111, 112, 113]
theorem ls32 : Tryd.f32.body.map (strip Tryd.prog impCodA) = some lc32 := by kernel_rfl
theorem lcall32 {args : List AV} (hargs : args.length ≤ 133) {H0 : AHeap} (lo : Nat) (hlo : H0.length ≤ lo) {r0 : AV} {H0' : AHeap}
    (h : lavc Tryd.prog glob lc32 (args ++ List.replicate (133 - args.length) (.v undef)) H0 fun e t H => (e = .normal ∨ e = .ret) ∧ aret Tryd.prog t H [Go.ResultVar.cell 8 55] fun r => Fin lo H r r0 H0') :
    ACall Tryd.prog glob (H0.length == 0) 32 args H0 r0 H0' := LCall' ctx Tryd.func32 (by kernel_rfl) ls32 (by kernel_rfl) (by kernel_rfl) hargs lo hlo h
theorem lcallk32 {args : List AV} (hargs : args.length ≤ 133) {H0 : AHeap} {r0 : AV} {H0' : AHeap}
    (h : lavc Tryd.prog glob lc32 (args ++ List.replicate (133 - args.length) (.v undef)) H0 fun e t H => (e = .normal ∨ e = .ret) ∧ aret Tryd.prog t H [Go.ResultVar.cell 8 55] fun r => r = r0 ∧ H = H0') :
    ACall Tryd.prog glob false 32 args H0 r0 H0' := LCallK' ctx Tryd.func32 (by kernel_rfl) ls32 (by kernel_rfl) (by kernel_rfl) hargs h
/-- slices.Grow[[]byte,byte] -/
def lc34 : LCode := .seq (.reg []
  [⟨some 4, Go.Op.assign (Go.Operand.const (Go.Value.slice none 0 0)), none⟩]) (.seq (.seq (.reg []
  [⟨some 5, Go.Op.move (Go.Operand.tmp 1), none⟩,
  ⟨some 6, Go.Op.binOp Go.BinOp.lss 3 (Go.Operand.tmp 5) (Go.Operand.const (Go.Value.int Go.IntKind.i64 0)) 3, none⟩]) (.cond (Go.Operand.tmp 6) (.reg []
  [⟨some 7, Go.Op.makeInterface 9 (Go.Operand.const (Go.Value.string { data := #[99, 97, 110, 110, 111, 116, 32, 98, 101, 32, 110, 101, 103, 97, 116, 105, 118, 101] })), none⟩,
  ⟨none, Go.Op.panic (Go.Operand.tmp 7), none⟩]) (.skip))) (.seq (.seq (.reg []
  [⟨some 8, Go.Op.move (Go.Operand.tmp 1), none⟩,
  ⟨some 9, Go.Op.move (Go.Operand.tmp 0), none⟩,
  ⟨some 10, Go.Op.call { callee := Go.Callee.builtin Go.Builtin.cap, args := #[Go.Operand.tmp 9], argTypes := #[22] }, none⟩,
  ⟨some 11, Go.Op.move (Go.Operand.tmp 0), none⟩,
  ⟨some 12, Go.Op.call { callee := Go.Callee.builtin Go.Builtin.len, args := #[Go.Operand.tmp 11], argTypes := #[22] }, none⟩,
  ⟨some 13, Go.Op.binOp Go.BinOp.sub 3 (Go.Operand.tmp 10) (Go.Operand.tmp 12) 3, none⟩,
  ⟨some 14, Go.Op.binOp Go.BinOp.sub 3 (Go.Operand.tmp 8) (Go.Operand.tmp 13) 3, none⟩,
  ⟨some 1, Go.Op.assign (Go.Operand.tmp 14), none⟩]) (.seq (.reg []
  [⟨some 15, Go.Op.move (Go.Operand.tmp 1), none⟩,
  ⟨some 16, Go.Op.binOp Go.BinOp.gtr 3 (Go.Operand.tmp 15) (Go.Operand.const (Go.Value.int Go.IntKind.i64 0)) 3, none⟩]) (.cond (Go.Operand.tmp 16) (.reg []
  [⟨some 17, Go.Op.move (Go.Operand.tmp 0), none⟩,
  ⟨some 18, Go.Op.move (Go.Operand.tmp 0), none⟩,
  ⟨some 19, Go.Op.call { callee := Go.Callee.builtin Go.Builtin.cap, args := #[Go.Operand.tmp 18], argTypes := #[22] }, none⟩,
  ⟨some 20, Go.Op.slice 22 (Go.Operand.tmp 17) none (some (Go.Operand.tmp 19)) none, none⟩,
  ⟨some 21, Go.Op.move (Go.Operand.tmp 1), none⟩,
  ⟨some 22, Go.Op.call { callee := Go.Callee.builtin Go.Builtin.append, args := #[Go.Operand.tmp 20, Go.Operand.tmp 21], argTypes := #[22, 3] }, none⟩,
  ⟨some 23, Go.Op.move (Go.Operand.tmp 0), none⟩,
  ⟨some 24, Go.Op.call { callee := Go.Callee.builtin Go.Builtin.len, args := #[Go.Operand.tmp 23], argTypes := #[22] }, none⟩,
  ⟨some 25, Go.Op.slice 22 (Go.Operand.tmp 22) none (some (Go.Operand.tmp 24)) none, none⟩,
  ⟨some 0, Go.Op.assign (Go.Operand.tmp 25), none⟩]) (.skip)))) (.seq (.reg []
  [⟨some 26, Go.Op.move (Go.Operand.tmp 0), none⟩,
  ⟨some 4, Go.Op.assign (Go.Operand.tmp 26), none⟩]) (.ret))))
def mj34_0 : List Nat := [2, 3, 5, 6, 7]
def mj34_1 : List Nat := [0, 1, 2, 3, 5, 6, 7, 8, 9, 10, 11, 12, 13, 14, 15, 16, 17, 18, 19, 20, 21, 22, 23, 24, 25]
theorem ls34 : Tryd.f34.body.map (strip Tryd.prog impCodA) = some lc34 := by kernel_rfl
theorem lcall34 {args : List AV} (hargs : args.length ≤ 27) {H0 : AHeap} (lo : Nat) (hlo : H0.length ≤ lo) {r0 : AV} {H0' : AHeap}
    (h : lavc Tryd.prog glob lc34 (args ++ List.replicate (27 - args.length) (.v undef)) H0 fun e t H => (e = .normal ∨ e = .ret) ∧ aret Tryd.prog t H [Go.ResultVar.tmp 4] fun r => Fin lo H r r0 H0') :
    ACall Tryd.prog glob (H0.length == 0) 34 args H0 r0 H0' := LCall' ctx Tryd.func34 (by kernel_rfl) ls34 (by kernel_rfl) (by kernel_rfl) hargs lo hlo h
theorem lcallk34 {args : List AV} (hargs : args.length ≤ 27) {H0 : AHeap} {r0 : AV} {H0' : AHeap}
    (h : lavc Tryd.prog glob lc34 (args ++ List.replicate (27 - args.length) (.v undef)) H0 fun e t H => (e = .normal ∨ e = .ret) ∧ aret Tryd.prog t H [Go.ResultVar.tmp 4] fun r => r = r0 ∧ H = H0') :
    ACall Tryd.prog glob false 34 args H0 r0 H0' := LCallK' ctx Tryd.func34 (by kernel_rfl) ls34 (by kernel_rfl) (by kernel_rfl) hargs h
/-- escutcheon/blake.words -/
def lc35 : LCode := .seq (.reg []
  [⟨some 2, Go.Op.alloc 66, none⟩]) (.seq (.reg []
  [⟨some 3, Go.Op.alloc 66, none⟩]) (.seq (.seq (.reg []
  [⟨some 6, Go.Op.move (Go.Operand.tmp 0), none⟩,
  ⟨some 7, Go.Op.call { callee := Go.Callee.builtin Go.Builtin.len, args := #[Go.Operand.tmp 6], argTypes := #[22] }, none⟩,
  ⟨some 8, Go.Op.move (Go.Operand.const (Go.Value.int Go.IntKind.i64 0)), none⟩]) (.block 0 (.loop (.seq (.reg []
  [⟨some 9, Go.Op.binOp Go.BinOp.lss 3 (Go.Operand.tmp 8) (Go.Operand.tmp 7) 3, none⟩]) (.seq (.cond (Go.Operand.tmp 9) (.skip) (.exit 0)) (.seq (.block 1 (.seq (.reg []
  [⟨some 10, Go.Op.move (Go.Operand.tmp 8), none⟩,
  ⟨some 11, Go.Op.indexAddr 22 (Go.Operand.tmp 6) (Go.Operand.tmp 8), none⟩,
  ⟨some 12, Go.Op.load 5 (Go.Operand.tmp 11), none⟩,
  ⟨some 4, Go.Op.assign (Go.Operand.tmp 10), none⟩,
  ⟨some 5, Go.Op.assign (Go.Operand.tmp 12), none⟩]) (.reg [⟨some 13, Go.Op.move (Go.Operand.tmp 4), none⟩,
  ⟨some 14, Go.Op.binOp Go.BinOp.quo 3 (Go.Operand.tmp 13) (Go.Operand.const (Go.Value.int Go.IntKind.i64 8)) 3, none⟩,
  ⟨some 15, Go.Op.indexAddr 66 (Go.Operand.tmp 3) (Go.Operand.tmp 14), none⟩,
  ⟨some 16, Go.Op.load 54 (Go.Operand.tmp 15), none⟩,
  ⟨some 17, Go.Op.move (Go.Operand.tmp 5), none⟩,
  ⟨some 18, Go.Op.convert 5 54 (Go.Operand.tmp 17), none⟩,
  ⟨some 19, Go.Op.move (Go.Operand.tmp 4), none⟩,
  ⟨some 20, Go.Op.binOp Go.BinOp.rem 3 (Go.Operand.tmp 19) (Go.Operand.const (Go.Value.int Go.IntKind.i64 8)) 3, none⟩,
  ⟨some 21, Go.Op.binOp Go.BinOp.mul 3 (Go.Operand.const (Go.Value.int Go.IntKind.i64 8)) (Go.Operand.tmp 20) 3, none⟩,
  ⟨some 22, Go.Op.binOp Go.BinOp.shl 54 (Go.Operand.tmp 18) (Go.Operand.tmp 21) 3, none⟩,
  ⟨some 23, Go.Op.binOp Go.BinOp.or 54 (Go.Operand.tmp 16) (Go.Operand.tmp 22) 54, none⟩,
  ⟨some 24, Go.Op.indexAddr 66 (Go.Operand.tmp 3) (Go.Operand.tmp 14), none⟩]
  [⟨none, Go.Op.store 54 (Go.Operand.tmp 24) (Go.Operand.tmp 23), none⟩]))) (.reg []
  [⟨some 25, Go.Op.binOp Go.BinOp.add 3 (Go.Operand.tmp 8) (Go.Operand.const (Go.Value.int Go.IntKind.i64 1)) 3, none⟩,
  ⟨some 8, Go.Op.move (Go.Operand.tmp 25), none⟩]))))))) (.seq (.reg []
  [⟨some 26, Go.Op.load 66 (Go.Operand.tmp 3), none⟩,
  ⟨none, Go.Op.store 66 (Go.Operand.tmp 2) (Go.Operand.tmp 26), none⟩]) (.ret))))
def ms35_0 : List Nat := [0, 1, 4, 5, 8, 9, 10, 11, 12, 13, 14, 15, 16, 17, 18, 19, 20, 21, 22, 23, 24, 25]
def mj35_0 : List Nat := [0, 1]
theorem ls35 : Tryd.f35.body.map (strip Tryd.prog impCodA) = some lc35 := by kernel_rfl
theorem lcall35 {args : List AV} (hargs : args.length ≤ 27) {H0 : AHeap} (lo : Nat) (hlo : H0.length ≤ lo) {r0 : AV} {H0' : AHeap}
    (h : lavc Tryd.prog glob lc35 (args ++ List.replicate (27 - args.length) (.v undef)) H0 fun e t H => (e = .normal ∨ e = .ret) ∧ aret Tryd.prog t H [Go.ResultVar.cell 2 66] fun r => Fin lo H r r0 H0') :
    ACall Tryd.prog glob (H0.length == 0) 35 args H0 r0 H0' := LCall' ctx Tryd.func35 (by kernel_rfl) ls35 (by kernel_rfl) (by kernel_rfl) hargs lo hlo h
theorem lcallk35 {args : List AV} (hargs : args.length ≤ 27) {H0 : AHeap} {r0 : AV} {H0' : AHeap}
    (h : lavc Tryd.prog glob lc35 (args ++ List.replicate (27 - args.length) (.v undef)) H0 fun e t H => (e = .normal ∨ e = .ret) ∧ aret Tryd.prog t H [Go.ResultVar.cell 2 66] fun r => r = r0 ∧ H = H0') :
    ACall Tryd.prog glob false 35 args H0 r0 H0' := LCallK' ctx Tryd.func35 (by kernel_rfl) ls35 (by kernel_rfl) (by kernel_rfl) hargs h
/-- (*escutcheon/blake.grid).mix -/
def lc36 : LCode := .seq (.reg []
  [⟨some 5, Go.Op.box 72 (Go.Operand.tmp 1), none⟩]) (.seq (.reg [⟨some 12, Go.Op.indexAddr 72 (Go.Operand.tmp 5) (Go.Operand.const (Go.Value.int Go.IntKind.i64 0)), none⟩,
  ⟨some 13, Go.Op.load 3 (Go.Operand.tmp 12), none⟩,
  ⟨some 14, Go.Op.indexAddr 72 (Go.Operand.tmp 5) (Go.Operand.const (Go.Value.int Go.IntKind.i64 1)), none⟩,
  ⟨some 15, Go.Op.load 3 (Go.Operand.tmp 14), none⟩,
  ⟨some 16, Go.Op.indexAddr 72 (Go.Operand.tmp 5) (Go.Operand.const (Go.Value.int Go.IntKind.i64 2)), none⟩,
  ⟨some 17, Go.Op.load 3 (Go.Operand.tmp 16), none⟩,
  ⟨some 18, Go.Op.indexAddr 72 (Go.Operand.tmp 5) (Go.Operand.const (Go.Value.int Go.IntKind.i64 3)), none⟩,
  ⟨some 19, Go.Op.load 3 (Go.Operand.tmp 18), none⟩,
  ⟨some 8, Go.Op.assign (Go.Operand.tmp 13), none⟩,
  ⟨some 9, Go.Op.assign (Go.Operand.tmp 15), none⟩,
  ⟨some 10, Go.Op.assign (Go.Operand.tmp 17), none⟩,
  ⟨some 11, Go.Op.assign (Go.Operand.tmp 19), none⟩]
  []) (.seq (.reg [⟨some 20, Go.Op.move (Go.Operand.tmp 0), none⟩,
  ⟨some 21, Go.Op.move (Go.Operand.tmp 8), none⟩,
  ⟨some 22, Go.Op.nilCheck (Go.Operand.tmp 20), none⟩,
  ⟨some 23, Go.Op.indexAddr 67 (Go.Operand.tmp 22) (Go.Operand.tmp 21), none⟩,
  ⟨some 24, Go.Op.load 54 (Go.Operand.tmp 23), none⟩,
  ⟨some 25, Go.Op.move (Go.Operand.tmp 0), none⟩,
  ⟨some 26, Go.Op.move (Go.Operand.tmp 9), none⟩,
  ⟨some 27, Go.Op.nilCheck (Go.Operand.tmp 25), none⟩,
  ⟨some 28, Go.Op.indexAddr 67 (Go.Operand.tmp 27) (Go.Operand.tmp 26), none⟩,
  ⟨some 29, Go.Op.load 54 (Go.Operand.tmp 28), none⟩,
  ⟨some 30, Go.Op.move (Go.Operand.tmp 2), none⟩,
  ⟨some 31, Go.Op.binOp Go.BinOp.add 54 (Go.Operand.tmp 29) (Go.Operand.tmp 30) 54, none⟩,
  ⟨some 32, Go.Op.binOp Go.BinOp.add 54 (Go.Operand.tmp 24) (Go.Operand.tmp 31) 54, none⟩,
  ⟨some 33, Go.Op.nilCheck (Go.Operand.tmp 20), none⟩,
  ⟨some 34, Go.Op.indexAddr 67 (Go.Operand.tmp 33) (Go.Operand.tmp 21), none⟩]
  [⟨none, Go.Op.store 54 (Go.Operand.tmp 34) (Go.Operand.tmp 32), none⟩]) (.seq (.reg [⟨some 35, Go.Op.move (Go.Operand.tmp 0), none⟩,
  ⟨some 36, Go.Op.move (Go.Operand.tmp 11), none⟩,
  ⟨some 37, Go.Op.move (Go.Operand.tmp 0), none⟩,
  ⟨some 38, Go.Op.move (Go.Operand.tmp 11), none⟩,
  ⟨some 39, Go.Op.nilCheck (Go.Operand.tmp 37), none⟩,
  ⟨some 40, Go.Op.indexAddr 67 (Go.Operand.tmp 39) (Go.Operand.tmp 38), none⟩,
  ⟨some 41, Go.Op.load 54 (Go.Operand.tmp 40), none⟩,
  ⟨some 42, Go.Op.move (Go.Operand.tmp 0), none⟩,
  ⟨some 43, Go.Op.move (Go.Operand.tmp 8), none⟩,
  ⟨some 44, Go.Op.nilCheck (Go.Operand.tmp 42), none⟩,
  ⟨some 45, Go.Op.indexAddr 67 (Go.Operand.tmp 44) (Go.Operand.tmp 43), none⟩,
  ⟨some 46, Go.Op.load 54 (Go.Operand.tmp 45), none⟩,
  ⟨some 47, Go.Op.binOp Go.BinOp.xor 54 (Go.Operand.tmp 41) (Go.Operand.tmp 46) 54, none⟩,
  ⟨some 48, Go.Op.call { callee := Go.Callee.value (Go.Operand.func 40), args := #[Go.Operand.tmp 47, Go.Operand.const (Go.Value.int Go.IntKind.i64 (-32))], argTypes := #[54, 3] }, none⟩,
  ⟨some 49, Go.Op.nilCheck (Go.Operand.tmp 35), none⟩,
  ⟨some 50, Go.Op.indexAddr 67 (Go.Operand.tmp 49) (Go.Operand.tmp 36), none⟩]
  [⟨none, Go.Op.store 54 (Go.Operand.tmp 50) (Go.Operand.tmp 48), none⟩]) (.seq (.reg [⟨some 51, Go.Op.move (Go.Operand.tmp 0), none⟩,
  ⟨some 52, Go.Op.move (Go.Operand.tmp 10), none⟩,
  ⟨some 53, Go.Op.nilCheck (Go.Operand.tmp 51), none⟩,
  ⟨some 54, Go.Op.indexAddr 67 (Go.Operand.tmp 53) (Go.Operand.tmp 52), none⟩,
  ⟨some 55, Go.Op.load 54 (Go.Operand.tmp 54), none⟩,
  ⟨some 56, Go.Op.move (Go.Operand.tmp 0), none⟩,
  ⟨some 57, Go.Op.move (Go.Operand.tmp 11), none⟩,
  ⟨some 58, Go.Op.nilCheck (Go.Operand.tmp 56), none⟩,
  ⟨some 59, Go.Op.indexAddr 67 (Go.Operand.tmp 58) (Go.Operand.tmp 57), none⟩,
  ⟨some 60, Go.Op.load 54 (Go.Operand.tmp 59), none⟩,
  ⟨some 61, Go.Op.binOp Go.BinOp.add 54 (Go.Operand.tmp 55) (Go.Operand.tmp 60) 54, none⟩,
  ⟨some 62, Go.Op.nilCheck (Go.Operand.tmp 51), none⟩,
  ⟨some 63, Go.Op.indexAddr 67 (Go.Operand.tmp 62) (Go.Operand.tmp 52), none⟩]
  [⟨none, Go.Op.store 54 (Go.Operand.tmp 63) (Go.Operand.tmp 61), none⟩]) (.seq (.reg [⟨some 64, Go.Op.move (Go.Operand.tmp 0), none⟩,
  ⟨some 65, Go.Op.move (Go.Operand.tmp 9), none⟩,
  ⟨some 66, Go.Op.move (Go.Operand.tmp 0), none⟩,
  ⟨some 67, Go.Op.move (Go.Operand.tmp 9), none⟩,
  ⟨some 68, Go.Op.nilCheck (Go.Operand.tmp 66), none⟩,
  ⟨some 69, Go.Op.indexAddr 67 (Go.Operand.tmp 68) (Go.Operand.tmp 67), none⟩,
  ⟨some 70, Go.Op.load 54 (Go.Operand.tmp 69), none⟩,
  ⟨some 71, Go.Op.move (Go.Operand.tmp 0), none⟩,
  ⟨some 72, Go.Op.move (Go.Operand.tmp 10), none⟩,
  ⟨some 73, Go.Op.nilCheck (Go.Operand.tmp 71), none⟩,
  ⟨some 74, Go.Op.indexAddr 67 (Go.Operand.tmp 73) (Go.Operand.tmp 72), none⟩,
  ⟨some 75, Go.Op.load 54 (Go.Operand.tmp 74), none⟩,
  ⟨some 76, Go.Op.binOp Go.BinOp.xor 54 (Go.Operand.tmp 70) (Go.Operand.tmp 75) 54, none⟩,
  ⟨some 77, Go.Op.call { callee := Go.Callee.value (Go.Operand.func 40), args := #[Go.Operand.tmp 76, Go.Operand.const (Go.Value.int Go.IntKind.i64 (-24))], argTypes := #[54, 3] }, none⟩,
  ⟨some 78, Go.Op.nilCheck (Go.Operand.tmp 64), none⟩,
  ⟨some 79, Go.Op.indexAddr 67 (Go.Operand.tmp 78) (Go.Operand.tmp 65), none⟩]
  [⟨none, Go.Op.store 54 (Go.Operand.tmp 79) (Go.Operand.tmp 77), none⟩]) (.seq (.reg [⟨some 80, Go.Op.move (Go.Operand.tmp 0), none⟩,
  ⟨some 81, Go.Op.move (Go.Operand.tmp 8), none⟩,
  ⟨some 82, Go.Op.nilCheck (Go.Operand.tmp 80), none⟩,
  ⟨some 83, Go.Op.indexAddr 67 (Go.Operand.tmp 82) (Go.Operand.tmp 81), none⟩,
  ⟨some 84, Go.Op.load 54 (Go.Operand.tmp 83), none⟩,
  ⟨some 85, Go.Op.move (Go.Operand.tmp 0), none⟩,
  ⟨some 86, Go.Op.move (Go.Operand.tmp 9), none⟩,
  ⟨some 87, Go.Op.nilCheck (Go.Operand.tmp 85), none⟩,
  ⟨some 88, Go.Op.indexAddr 67 (Go.Operand.tmp 87) (Go.Operand.tmp 86), none⟩,
  ⟨some 89, Go.Op.load 54 (Go.Operand.tmp 88), none⟩,
  ⟨some 90, Go.Op.move (Go.Operand.tmp 3), none⟩,
  ⟨some 91, Go.Op.binOp Go.BinOp.add 54 (Go.Operand.tmp 89) (Go.Operand.tmp 90) 54, none⟩,
  ⟨some 92, Go.Op.binOp Go.BinOp.add 54 (Go.Operand.tmp 84) (Go.Operand.tmp 91) 54, none⟩,
  ⟨some 93, Go.Op.nilCheck (Go.Operand.tmp 80), none⟩,
  ⟨some 94, Go.Op.indexAddr 67 (Go.Operand.tmp 93) (Go.Operand.tmp 81), none⟩]
  [⟨none, Go.Op.store 54 (Go.Operand.tmp 94) (Go.Operand.tmp 92), none⟩]) (.seq (.reg [⟨some 95, Go.Op.move (Go.Operand.tmp 0), none⟩,
  ⟨some 96, Go.Op.move (Go.Operand.tmp 11), none⟩,
  ⟨some 97, Go.Op.move (Go.Operand.tmp 0), none⟩,
  ⟨some 98, Go.Op.move (Go.Operand.tmp 11), none⟩,
  ⟨some 99, Go.Op.nilCheck (Go.Operand.tmp 97), none⟩,
  ⟨some 100, Go.Op.indexAddr 67 (Go.Operand.tmp 99) (Go.Operand.tmp 98), none⟩,
  ⟨some 101, Go.Op.load 54 (Go.Operand.tmp 100), none⟩,
  ⟨some 102, Go.Op.move (Go.Operand.tmp 0), none⟩,
  ⟨some 103, Go.Op.move (Go.Operand.tmp 8), none⟩,
  ⟨some 104, Go.Op.nilCheck (Go.Operand.tmp 102), none⟩,
  ⟨some 105, Go.Op.indexAddr 67 (Go.Operand.tmp 104) (Go.Operand.tmp 103), none⟩,
  ⟨some 106, Go.Op.load 54 (Go.Operand.tmp 105), none⟩,
  ⟨some 107, Go.Op.binOp Go.BinOp.xor 54 (Go.Operand.tmp 101) (Go.Operand.tmp 106) 54, none⟩,
  ⟨some 108, Go.Op.call { callee := Go.Callee.value (Go.Operand.func 40), args := #[Go.Operand.tmp 107, Go.Operand.const (Go.Value.int Go.IntKind.i64 (-16))], argTypes := #[54, 3] }, none⟩,
  ⟨some 109, Go.Op.nilCheck (Go.Operand.tmp 95), none⟩,
  ⟨some 110, Go.Op.indexAddr 67 (Go.Operand.tmp 109) (Go.Operand.tmp 96), none⟩]
  [⟨none, Go.Op.store 54 (Go.Operand.tmp 110) (Go.Operand.tmp 108), none⟩]) (.seq (.reg [⟨some 111, Go.Op.move (Go.Operand.tmp 0), none⟩,
  ⟨some 112, Go.Op.move (Go.Operand.tmp 10), none⟩,
  ⟨some 113, Go.Op.nilCheck (Go.Operand.tmp 111), none⟩,
  ⟨some 114, Go.Op.indexAddr 67 (Go.Operand.tmp 113) (Go.Operand.tmp 112), none⟩,
  ⟨some 115, Go.Op.load 54 (Go.Operand.tmp 114), none⟩,
  ⟨some 116, Go.Op.move (Go.Operand.tmp 0), none⟩,
  ⟨some 117, Go.Op.move (Go.Operand.tmp 11), none⟩,
  ⟨some 118, Go.Op.nilCheck (Go.Operand.tmp 116), none⟩,
  ⟨some 119, Go.Op.indexAddr 67 (Go.Operand.tmp 118) (Go.Operand.tmp 117), none⟩,
  ⟨some 120, Go.Op.load 54 (Go.Operand.tmp 119), none⟩,
  ⟨some 121, Go.Op.binOp Go.BinOp.add 54 (Go.Operand.tmp 115) (Go.Operand.tmp 120) 54, none⟩,
  ⟨some 122, Go.Op.nilCheck (Go.Operand.tmp 111), none⟩,
  ⟨some 123, Go.Op.indexAddr 67 (Go.Operand.tmp 122) (Go.Operand.tmp 112), none⟩]
  [⟨none, Go.Op.store 54 (Go.Operand.tmp 123) (Go.Operand.tmp 121), none⟩]) (.reg [⟨some 124, Go.Op.move (Go.Operand.tmp 0), none⟩,
  ⟨some 125, Go.Op.move (Go.Operand.tmp 9), none⟩,
  ⟨some 126, Go.Op.move (Go.Operand.tmp 0), none⟩,
  ⟨some 127, Go.Op.move (Go.Operand.tmp 9), none⟩,
  ⟨some 128, Go.Op.nilCheck (Go.Operand.tmp 126), none⟩,
  ⟨some 129, Go.Op.indexAddr 67 (Go.Operand.tmp 128) (Go.Operand.tmp 127), none⟩,
  ⟨some 130, Go.Op.load 54 (Go.Operand.tmp 129), none⟩,
  ⟨some 131, Go.Op.move (Go.Operand.tmp 0), none⟩,
  ⟨some 132, Go.Op.move (Go.Operand.tmp 10), none⟩,
  ⟨some 133, Go.Op.nilCheck (Go.Operand.tmp 131), none⟩,
  ⟨some 134, Go.Op.indexAddr 67 (Go.Operand.tmp 133) (Go.Operand.tmp 132), none⟩,
  ⟨some 135, Go.Op.load 54 (Go.Operand.tmp 134), none⟩,
  ⟨some 136, Go.Op.binOp Go.BinOp.xor 54 (Go.Operand.tmp 130) (Go.Operand.tmp 135) 54, none⟩,
  ⟨some 137, Go.Op.call { callee := Go.Callee.value (Go.Operand.func 40), args := #[Go.Operand.tmp 136, Go.Operand.const (Go.Value.int Go.IntKind.i64 (-63))], argTypes := #[54, 3] }, none⟩,
  ⟨some 138, Go.Op.nilCheck (Go.Operand.tmp 124), none⟩,
  ⟨some 139, Go.Op.indexAddr 67 (Go.Operand.tmp 138) (Go.Operand.tmp 125), none⟩]
  [⟨none, Go.Op.store 54 (Go.Operand.tmp 139) (Go.Operand.tmp 137), none⟩])))))))))
theorem ls36 : Tryd.f36.body.map (strip Tryd.prog impCodA) = some lc36 := by kernel_rfl
theorem lcall36 {args : List AV} (hargs : args.length ≤ 140) {H0 : AHeap} (lo : Nat) (hlo : H0.length ≤ lo) {r0 : AV} {H0' : AHeap}
    (h : lavc Tryd.prog glob lc36 (args ++ List.replicate (140 - args.length) (.v undef)) H0 fun e t H => (e = .normal ∨ e = .ret) ∧ aret Tryd.prog t H [] fun r => Fin lo H r r0 H0') :
    ACall Tryd.prog glob (H0.length == 0) 36 args H0 r0 H0' := LCall' ctx Tryd.func36 (by kernel_rfl) ls36 (by kernel_rfl) (by kernel_rfl) hargs lo hlo h
theorem lcallk36 {args : List AV} (hargs : args.length ≤ 140) {H0 : AHeap} {r0 : AV} {H0' : AHeap}
    (h : lavc Tryd.prog glob lc36 (args ++ List.replicate (140 - args.length) (.v undef)) H0 fun e t H => (e = .normal ∨ e = .ret) ∧ aret Tryd.prog t H [] fun r => r = r0 ∧ H = H0') :
    ACall Tryd.prog glob false 36 args H0 r0 H0' := LCallK' ctx Tryd.func36 (by kernel_rfl) ls36 (by kernel_rfl) (by kernel_rfl) hargs h
/-- escutcheon/escutcheonref04.mix -/
def lc37 : LCode := .seq (.reg []
  [⟨some 7, Go.Op.box 66 (Go.Operand.tmp 0), none⟩,
  ⟨some 14, Go.Op.alloc 66, none⟩]) (.seq (.reg [⟨some 15, Go.Op.move (Go.Operand.tmp 1), none⟩,
  ⟨some 16, Go.Op.move (Go.Operand.tmp 1), none⟩,
  ⟨some 17, Go.Op.indexAddr 66 (Go.Operand.tmp 7) (Go.Operand.tmp 16), none⟩,
  ⟨some 18, Go.Op.load 54 (Go.Operand.tmp 17), none⟩,
  ⟨some 19, Go.Op.move (Go.Operand.tmp 2), none⟩,
  ⟨some 20, Go.Op.indexAddr 66 (Go.Operand.tmp 7) (Go.Operand.tmp 19), none⟩,
  ⟨some 21, Go.Op.load 54 (Go.Operand.tmp 20), none⟩,
  ⟨some 22, Go.Op.binOp Go.BinOp.add 54 (Go.Operand.tmp 18) (Go.Operand.tmp 21) 54, none⟩,
  ⟨some 23, Go.Op.move (Go.Operand.tmp 5), none⟩,
  ⟨some 24, Go.Op.binOp Go.BinOp.add 54 (Go.Operand.tmp 22) (Go.Operand.tmp 23) 54, none⟩,
  ⟨some 25, Go.Op.indexAddr 66 (Go.Operand.tmp 7) (Go.Operand.tmp 15), none⟩]
  [⟨none, Go.Op.store 54 (Go.Operand.tmp 25) (Go.Operand.tmp 24), none⟩]) (.seq (.reg [⟨some 26, Go.Op.move (Go.Operand.tmp 4), none⟩,
  ⟨some 27, Go.Op.move (Go.Operand.tmp 4), none⟩,
  ⟨some 28, Go.Op.indexAddr 66 (Go.Operand.tmp 7) (Go.Operand.tmp 27), none⟩,
  ⟨some 29, Go.Op.load 54 (Go.Operand.tmp 28), none⟩,
  ⟨some 30, Go.Op.move (Go.Operand.tmp 1), none⟩,
  ⟨some 31, Go.Op.indexAddr 66 (Go.Operand.tmp 7) (Go.Operand.tmp 30), none⟩,
  ⟨some 32, Go.Op.load 54 (Go.Operand.tmp 31), none⟩,
  ⟨some 33, Go.Op.binOp Go.BinOp.xor 54 (Go.Operand.tmp 29) (Go.Operand.tmp 32) 54, none⟩,
  ⟨some 34, Go.Op.call { callee := Go.Callee.value (Go.Operand.func 41), args := #[Go.Operand.tmp 33, Go.Operand.const (Go.Value.int Go.IntKind.i64 32)], argTypes := #[54, 3] }, none⟩,
  ⟨some 35, Go.Op.indexAddr 66 (Go.Operand.tmp 7) (Go.Operand.tmp 26), none⟩]
  [⟨none, Go.Op.store 54 (Go.Operand.tmp 35) (Go.Operand.tmp 34), none⟩]) (.seq (.reg [⟨some 36, Go.Op.move (Go.Operand.tmp 3), none⟩,
  ⟨some 37, Go.Op.move (Go.Operand.tmp 3), none⟩,
  ⟨some 38, Go.Op.indexAddr 66 (Go.Operand.tmp 7) (Go.Operand.tmp 37), none⟩,
  ⟨some 39, Go.Op.load 54 (Go.Operand.tmp 38), none⟩,
  ⟨some 40, Go.Op.move (Go.Operand.tmp 4), none⟩,
  ⟨some 41, Go.Op.indexAddr 66 (Go.Operand.tmp 7) (Go.Operand.tmp 40), none⟩,
  ⟨some 42, Go.Op.load 54 (Go.Operand.tmp 41), none⟩,
  ⟨some 43, Go.Op.binOp Go.BinOp.add 54 (Go.Operand.tmp 39) (Go.Operand.tmp 42) 54, none⟩,
  ⟨some 44, Go.Op.indexAddr 66 (Go.Operand.tmp 7) (Go.Operand.tmp 36), none⟩]
  [⟨none, Go.Op.store 54 (Go.Operand.tmp 44) (Go.Operand.tmp 43), none⟩]) (.seq (.reg [⟨some 45, Go.Op.move (Go.Operand.tmp 2), none⟩,
  ⟨some 46, Go.Op.move (Go.Operand.tmp 2), none⟩,
  ⟨some 47, Go.Op.indexAddr 66 (Go.Operand.tmp 7) (Go.Operand.tmp 46), none⟩,
  ⟨some 48, Go.Op.load 54 (Go.Operand.tmp 47), none⟩,
  ⟨some 49, Go.Op.move (Go.Operand.tmp 3), none⟩,
  ⟨some 50, Go.Op.indexAddr 66 (Go.Operand.tmp 7) (Go.Operand.tmp 49), none⟩,
  ⟨some 51, Go.Op.load 54 (Go.Operand.tmp 50), none⟩,
  ⟨some 52, Go.Op.binOp Go.BinOp.xor 54 (Go.Operand.tmp 48) (Go.Operand.tmp 51) 54, none⟩,
  ⟨some 53, Go.Op.call { callee := Go.Callee.value (Go.Operand.func 41), args := #[Go.Operand.tmp 52, Go.Operand.const (Go.Value.int Go.IntKind.i64 24)], argTypes := #[54, 3] }, none⟩,
  ⟨some 54, Go.Op.indexAddr 66 (Go.Operand.tmp 7) (Go.Operand.tmp 45), none⟩]
  [⟨none, Go.Op.store 54 (Go.Operand.tmp 54) (Go.Operand.tmp 53), none⟩]) (.seq (.reg [⟨some 55, Go.Op.move (Go.Operand.tmp 1), none⟩,
  ⟨some 56, Go.Op.move (Go.Operand.tmp 1), none⟩,
  ⟨some 57, Go.Op.indexAddr 66 (Go.Operand.tmp 7) (Go.Operand.tmp 56), none⟩,
  ⟨some 58, Go.Op.load 54 (Go.Operand.tmp 57), none⟩,
  ⟨some 59, Go.Op.move (Go.Operand.tmp 2), none⟩,
  ⟨some 60, Go.Op.indexAddr 66 (Go.Operand.tmp 7) (Go.Operand.tmp 59), none⟩,
  ⟨some 61, Go.Op.load 54 (Go.Operand.tmp 60), none⟩,
  ⟨some 62, Go.Op.binOp Go.BinOp.add 54 (Go.Operand.tmp 58) (Go.Operand.tmp 61) 54, none⟩,
  ⟨some 63, Go.Op.move (Go.Operand.tmp 6), none⟩,
  ⟨some 64, Go.Op.binOp Go.BinOp.add 54 (Go.Operand.tmp 62) (Go.Operand.tmp 63) 54, none⟩,
  ⟨some 65, Go.Op.indexAddr 66 (Go.Operand.tmp 7) (Go.Operand.tmp 55), none⟩]
  [⟨none, Go.Op.store 54 (Go.Operand.tmp 65) (Go.Operand.tmp 64), none⟩]) (.seq (.reg [⟨some 66, Go.Op.move (Go.Operand.tmp 4), none⟩,
  ⟨some 67, Go.Op.move (Go.Operand.tmp 4), none⟩,
  ⟨some 68, Go.Op.indexAddr 66 (Go.Operand.tmp 7) (Go.Operand.tmp 67), none⟩,
  ⟨some 69, Go.Op.load 54 (Go.Operand.tmp 68), none⟩,
  ⟨some 70, Go.Op.move (Go.Operand.tmp 1), none⟩,
  ⟨some 71, Go.Op.indexAddr 66 (Go.Operand.tmp 7) (Go.Operand.tmp 70), none⟩,
  ⟨some 72, Go.Op.load 54 (Go.Operand.tmp 71), none⟩,
  ⟨some 73, Go.Op.binOp Go.BinOp.xor 54 (Go.Operand.tmp 69) (Go.Operand.tmp 72) 54, none⟩,
  ⟨some 74, Go.Op.call { callee := Go.Callee.value (Go.Operand.func 41), args := #[Go.Operand.tmp 73, Go.Operand.const (Go.Value.int Go.IntKind.i64 16)], argTypes := #[54, 3] }, none⟩,
  ⟨some 75, Go.Op.indexAddr 66 (Go.Operand.tmp 7) (Go.Operand.tmp 66), none⟩]
  [⟨none, Go.Op.store 54 (Go.Operand.tmp 75) (Go.Operand.tmp 74), none⟩]) (.seq (.reg [⟨some 76, Go.Op.move (Go.Operand.tmp 3), none⟩,
  ⟨some 77, Go.Op.move (Go.Operand.tmp 3), none⟩,
  ⟨some 78, Go.Op.indexAddr 66 (Go.Operand.tmp 7) (Go.Operand.tmp 77), none⟩,
  ⟨some 79, Go.Op.load 54 (Go.Operand.tmp 78), none⟩,
  ⟨some 80, Go.Op.move (Go.Operand.tmp 4), none⟩,
  ⟨some 81, Go.Op.indexAddr 66 (Go.Operand.tmp 7) (Go.Operand.tmp 80), none⟩,
  ⟨some 82, Go.Op.load 54 (Go.Operand.tmp 81), none⟩,
  ⟨some 83, Go.Op.binOp Go.BinOp.add 54 (Go.Operand.tmp 79) (Go.Operand.tmp 82) 54, none⟩,
  ⟨some 84, Go.Op.indexAddr 66 (Go.Operand.tmp 7) (Go.Operand.tmp 76), none⟩]
  [⟨none, Go.Op.store 54 (Go.Operand.tmp 84) (Go.Operand.tmp 83), none⟩]) (.seq (.reg [⟨some 85, Go.Op.move (Go.Operand.tmp 2), none⟩,
  ⟨some 86, Go.Op.move (Go.Operand.tmp 2), none⟩,
  ⟨some 87, Go.Op.indexAddr 66 (Go.Operand.tmp 7) (Go.Operand.tmp 86), none⟩,
  ⟨some 88, Go.Op.load 54 (Go.Operand.tmp 87), none⟩,
  ⟨some 89, Go.Op.move (Go.Operand.tmp 3), none⟩,
  ⟨some 90, Go.Op.indexAddr 66 (Go.Operand.tmp 7) (Go.Operand.tmp 89), none⟩,
  ⟨some 91, Go.Op.load 54 (Go.Operand.tmp 90), none⟩,
  ⟨some 92, Go.Op.binOp Go.BinOp.xor 54 (Go.Operand.tmp 88) (Go.Operand.tmp 91) 54, none⟩,
  ⟨some 93, Go.Op.call { callee := Go.Callee.value (Go.Operand.func 41), args := #[Go.Operand.tmp 92, Go.Operand.const (Go.Value.int Go.IntKind.i64 63)], argTypes := #[54, 3] }, none⟩,
  ⟨some 94, Go.Op.indexAddr 66 (Go.Operand.tmp 7) (Go.Operand.tmp 85), none⟩]
  [⟨none, Go.Op.store 54 (Go.Operand.tmp 94) (Go.Operand.tmp 93), none⟩]) (.seq (.reg []
  [⟨some 95, Go.Op.load 66 (Go.Operand.tmp 7), none⟩,
  ⟨none, Go.Op.store 66 (Go.Operand.tmp 14) (Go.Operand.tmp 95), none⟩]) (.ret))))))))))
theorem ls37 : Tryd.f37.body.map (strip Tryd.prog impCodA) = some lc37 := by kernel_rfl
theorem lcall37 {args : List AV} (hargs : args.length ≤ 96) {H0 : AHeap} (lo : Nat) (hlo : H0.length ≤ lo) {r0 : AV} {H0' : AHeap}
    (h : lavc Tryd.prog glob lc37 (args ++ List.replicate (96 - args.length) (.v undef)) H0 fun e t H => (e = .normal ∨ e = .ret) ∧ aret Tryd.prog t H [Go.ResultVar.cell 14 66] fun r => Fin lo H r r0 H0') :
    ACall Tryd.prog glob (H0.length == 0) 37 args H0 r0 H0' := LCall' ctx Tryd.func37 (by kernel_rfl) ls37 (by kernel_rfl) (by kernel_rfl) hargs lo hlo h
theorem lcallk37 {args : List AV} (hargs : args.length ≤ 96) {H0 : AHeap} {r0 : AV} {H0' : AHeap}
    (h : lavc Tryd.prog glob lc37 (args ++ List.replicate (96 - args.length) (.v undef)) H0 fun e t H => (e = .normal ∨ e = .ret) ∧ aret Tryd.prog t H [Go.ResultVar.cell 14 66] fun r => r = r0 ∧ H = H0') :
    ACall Tryd.prog glob false 37 args H0 r0 H0' := LCallK' ctx Tryd.func37 (by kernel_rfl) ls37 (by kernel_rfl) (by kernel_rfl) hargs h
/-- escutcheon/escutcheonref04.Word -/
def lc38 : LCode := .seq (.reg []
  [⟨some 4, Go.Op.assign (Go.Operand.const (Go.Value.int Go.IntKind.u64 0)), none⟩]) (.seq (.reg []
  [⟨some 5, Go.Op.assign (Go.Operand.const (Go.Value.int Go.IntKind.u64 0)), none⟩]) (.seq (.seq (.reg []
  [⟨some 6, Go.Op.assign (Go.Operand.const (Go.Value.int Go.IntKind.i64 7)), none⟩]) (.block 0 (.loop (.seq (.seq (.reg []
  [⟨some 7, Go.Op.move (Go.Operand.tmp 6), none⟩,
  ⟨some 8, Go.Op.binOp Go.BinOp.geq 3 (Go.Operand.tmp 7) (Go.Operand.const (Go.Value.int Go.IntKind.i64 0)) 3, none⟩]) (.cond (Go.Operand.tmp 8) (.skip) (.exit 0))) (.seq (.block 1 (.seq (.reg []
  [⟨some 11, Go.Op.move (Go.Operand.tmp 5), none⟩,
  ⟨some 12, Go.Op.binOp Go.BinOp.mul 54 (Go.Operand.tmp 11) (Go.Operand.const (Go.Value.int Go.IntKind.u64 256)) 54, none⟩,
  ⟨some 5, Go.Op.assign (Go.Operand.tmp 12), none⟩]) (.seq (.reg []
  [⟨some 13, Go.Op.move (Go.Operand.tmp 1), none⟩,
  ⟨some 14, Go.Op.move (Go.Operand.tmp 6), none⟩,
  ⟨some 15, Go.Op.binOp Go.BinOp.add 3 (Go.Operand.tmp 13) (Go.Operand.tmp 14) 3, none⟩,
  ⟨some 16, Go.Op.move (Go.Operand.tmp 0), none⟩,
  ⟨some 17, Go.Op.call { callee := Go.Callee.builtin Go.Builtin.len, args := #[Go.Operand.tmp 16], argTypes := #[22] }, none⟩,
  ⟨some 18, Go.Op.binOp Go.BinOp.lss 3 (Go.Operand.tmp 15) (Go.Operand.tmp 17) 3, none⟩]) (.cond (Go.Operand.tmp 18) (.reg []
  [⟨some 19, Go.Op.move (Go.Operand.tmp 5), none⟩,
  ⟨some 20, Go.Op.move (Go.Operand.tmp 0), none⟩,
  ⟨some 21, Go.Op.move (Go.Operand.tmp 1), none⟩,
  ⟨some 22, Go.Op.move (Go.Operand.tmp 6), none⟩,
  ⟨some 23, Go.Op.binOp Go.BinOp.add 3 (Go.Operand.tmp 21) (Go.Operand.tmp 22) 3, none⟩,
  ⟨some 24, Go.Op.indexAddr 22 (Go.Operand.tmp 20) (Go.Operand.tmp 23), none⟩,
  ⟨some 25, Go.Op.load 5 (Go.Operand.tmp 24), none⟩,
  ⟨some 26, Go.Op.convert 5 54 (Go.Operand.tmp 25), none⟩,
  ⟨some 27, Go.Op.binOp Go.BinOp.add 54 (Go.Operand.tmp 19) (Go.Operand.tmp 26) 54, none⟩,
  ⟨some 5, Go.Op.assign (Go.Operand.tmp 27), none⟩]) (.skip))))) (.reg []
  [⟨some 9, Go.Op.move (Go.Operand.tmp 6), none⟩,
  ⟨some 10, Go.Op.binOp Go.BinOp.sub 3 (Go.Operand.tmp 9) (Go.Operand.const (Go.Value.int Go.IntKind.i64 1)) 3, none⟩,
  ⟨some 6, Go.Op.assign (Go.Operand.tmp 10), none⟩])))))) (.seq (.reg []
  [⟨some 28, Go.Op.move (Go.Operand.tmp 5), none⟩,
  ⟨some 4, Go.Op.assign (Go.Operand.tmp 28), none⟩]) (.ret))))
def ms38_0 : List Nat := [2, 3, 5, 6, 7, 8, 9, 10, 11, 12, 13, 14, 15, 16, 17, 18, 19, 20, 21, 22, 23, 24, 25, 26, 27]
def mj38_0 : List Nat := [2, 3]
def mj38_1 : List Nat := [2, 3, 5, 19, 20, 21, 22, 23, 24, 25, 26, 27]
theorem ls38 : Tryd.f38.body.map (strip Tryd.prog impCodA) = some lc38 := by kernel_rfl
theorem lcall38 {args : List AV} (hargs : args.length ≤ 29) {H0 : AHeap} (lo : Nat) (hlo : H0.length ≤ lo) {r0 : AV} {H0' : AHeap}
    (h : lavc Tryd.prog glob lc38 (args ++ List.replicate (29 - args.length) (.v undef)) H0 fun e t H => (e = .normal ∨ e = .ret) ∧ aret Tryd.prog t H [Go.ResultVar.tmp 4] fun r => Fin lo H r r0 H0') :
    ACall Tryd.prog glob (H0.length == 0) 38 args H0 r0 H0' := LCall' ctx Tryd.func38 (by kernel_rfl) ls38 (by kernel_rfl) (by kernel_rfl) hargs lo hlo h
theorem lcallk38 {args : List AV} (hargs : args.length ≤ 29) {H0 : AHeap} {r0 : AV} {H0' : AHeap}
    (h : lavc Tryd.prog glob lc38 (args ++ List.replicate (29 - args.length) (.v undef)) H0 fun e t H => (e = .normal ∨ e = .ret) ∧ aret Tryd.prog t H [Go.ResultVar.tmp 4] fun r => r = r0 ∧ H = H0') :
    ACall Tryd.prog glob false 38 args H0 r0 H0' := LCallK' ctx Tryd.func38 (by kernel_rfl) ls38 (by kernel_rfl) (by kernel_rfl) hargs h
/-- math/bits.RotateLeft64 -/
def lc40 : LCode := .seq (.reg []
  [⟨some 4, Go.Op.assign (Go.Operand.const (Go.Value.int Go.IntKind.u64 0)), none⟩]) (.seq (.reg []
  [⟨some 6, Go.Op.move (Go.Operand.tmp 1), none⟩,
  ⟨some 7, Go.Op.convert 3 57 (Go.Operand.tmp 6), none⟩,
  ⟨some 8, Go.Op.binOp Go.BinOp.and 57 (Go.Operand.tmp 7) (Go.Operand.const (Go.Value.int Go.IntKind.u64 63)) 57, none⟩,
  ⟨some 5, Go.Op.assign (Go.Operand.tmp 8), none⟩]) (.seq (.reg []
  [⟨some 9, Go.Op.move (Go.Operand.tmp 0), none⟩,
  ⟨some 10, Go.Op.move (Go.Operand.tmp 5), none⟩,
  ⟨some 11, Go.Op.binOp Go.BinOp.shl 54 (Go.Operand.tmp 9) (Go.Operand.tmp 10) 57, none⟩,
  ⟨some 12, Go.Op.move (Go.Operand.tmp 0), none⟩,
  ⟨some 13, Go.Op.move (Go.Operand.tmp 5), none⟩,
  ⟨some 14, Go.Op.binOp Go.BinOp.sub 57 (Go.Operand.const (Go.Value.int Go.IntKind.u64 64)) (Go.Operand.tmp 13) 57, none⟩,
  ⟨some 15, Go.Op.binOp Go.BinOp.shr 54 (Go.Operand.tmp 12) (Go.Operand.tmp 14) 57, none⟩,
  ⟨some 16, Go.Op.binOp Go.BinOp.or 54 (Go.Operand.tmp 11) (Go.Operand.tmp 15) 54, none⟩,
  ⟨some 4, Go.Op.assign (Go.Operand.tmp 16), none⟩]) (.ret)))
theorem ls40 : Tryd.f40.body.map (strip Tryd.prog impCodA) = some lc40 := by kernel_rfl
theorem lcall40 {args : List AV} (hargs : args.length ≤ 17) {H0 : AHeap} (lo : Nat) (hlo : H0.length ≤ lo) {r0 : AV} {H0' : AHeap}
    (h : lavc Tryd.prog glob lc40 (args ++ List.replicate (17 - args.length) (.v undef)) H0 fun e t H => (e = .normal ∨ e = .ret) ∧ aret Tryd.prog t H [Go.ResultVar.tmp 4] fun r => Fin lo H r r0 H0') :
    ACall Tryd.prog glob (H0.length == 0) 40 args H0 r0 H0' := LCall' ctx Tryd.func40 (by kernel_rfl) ls40 (by kernel_rfl) (by kernel_rfl) hargs lo hlo h
theorem lcallk40 {args : List AV} (hargs : args.length ≤ 17) {H0 : AHeap} {r0 : AV} {H0' : AHeap}
    (h : lavc Tryd.prog glob lc40 (args ++ List.replicate (17 - args.length) (.v undef)) H0 fun e t H => (e = .normal ∨ e = .ret) ∧ aret Tryd.prog t H [Go.ResultVar.tmp 4] fun r => r = r0 ∧ H = H0') :
    ACall Tryd.prog glob false 40 args H0 r0 H0' := LCallK' ctx Tryd.func40 (by kernel_rfl) ls40 (by kernel_rfl) (by kernel_rfl) hargs h
/-- escutcheon/escutcheonref02.Turn -/
def lc41 : LCode := .seq (.reg []
  [⟨some 4, Go.Op.assign (Go.Operand.const (Go.Value.int Go.IntKind.u64 0)), none⟩]) (.seq (.seq (.reg []
  [⟨some 5, Go.Op.assign (Go.Operand.const (Go.Value.int Go.IntKind.i64 0)), none⟩]) (.block 0 (.loop (.seq (.seq (.reg []
  [⟨some 7, Go.Op.move (Go.Operand.tmp 5), none⟩,
  ⟨some 8, Go.Op.move (Go.Operand.tmp 1), none⟩,
  ⟨some 9, Go.Op.binOp Go.BinOp.lss 3 (Go.Operand.tmp 7) (Go.Operand.tmp 8) 3, none⟩]) (.cond (Go.Operand.tmp 9) (.skip) (.exit 0))) (.seq (.block 1 (.seq (.reg []
  [⟨some 12, Go.Op.move (Go.Operand.tmp 0), none⟩,
  ⟨some 13, Go.Op.binOp Go.BinOp.rem 54 (Go.Operand.tmp 12) (Go.Operand.const (Go.Value.int Go.IntKind.u64 2)) 54, none⟩,
  ⟨some 6, Go.Op.assign (Go.Operand.tmp 13), none⟩]) (.seq (.reg []
  [⟨some 14, Go.Op.move (Go.Operand.tmp 0), none⟩,
  ⟨some 15, Go.Op.binOp Go.BinOp.quo 54 (Go.Operand.tmp 14) (Go.Operand.const (Go.Value.int Go.IntKind.u64 2)) 54, none⟩,
  ⟨some 0, Go.Op.assign (Go.Operand.tmp 15), none⟩]) (.seq (.reg []
  [⟨some 16, Go.Op.move (Go.Operand.tmp 6), none⟩,
  ⟨some 17, Go.Op.binOp Go.BinOp.eql 54 (Go.Operand.tmp 16) (Go.Operand.const (Go.Value.int Go.IntKind.u64 1)) 54, none⟩]) (.cond (Go.Operand.tmp 17) (.reg []
  [⟨some 18, Go.Op.move (Go.Operand.tmp 0), none⟩,
  ⟨some 19, Go.Op.binOp Go.BinOp.add 54 (Go.Operand.tmp 18) (Go.Operand.const (Go.Value.int Go.IntKind.u64 9223372036854775808)) 54, none⟩,
  ⟨some 0, Go.Op.assign (Go.Operand.tmp 19), none⟩]) (.skip)))))) (.reg []
  [⟨some 10, Go.Op.move (Go.Operand.tmp 5), none⟩,
  ⟨some 11, Go.Op.binOp Go.BinOp.add 3 (Go.Operand.tmp 10) (Go.Operand.const (Go.Value.int Go.IntKind.i64 1)) 3, none⟩,
  ⟨some 5, Go.Op.assign (Go.Operand.tmp 11), none⟩])))))) (.seq (.reg []
  [⟨some 20, Go.Op.move (Go.Operand.tmp 0), none⟩,
  ⟨some 4, Go.Op.assign (Go.Operand.tmp 20), none⟩]) (.ret)))
def ms41_0 : List Nat := [0, 2, 3, 5, 6, 7, 8, 9, 10, 11, 12, 13, 14, 15, 16, 17, 18, 19]
def mj41_0 : List Nat := [2, 3]
def mj41_1 : List Nat := [0, 2, 3, 18, 19]
theorem ls41 : Tryd.f41.body.map (strip Tryd.prog impCodA) = some lc41 := by kernel_rfl
theorem lcall41 {args : List AV} (hargs : args.length ≤ 21) {H0 : AHeap} (lo : Nat) (hlo : H0.length ≤ lo) {r0 : AV} {H0' : AHeap}
    (h : lavc Tryd.prog glob lc41 (args ++ List.replicate (21 - args.length) (.v undef)) H0 fun e t H => (e = .normal ∨ e = .ret) ∧ aret Tryd.prog t H [Go.ResultVar.tmp 4] fun r => Fin lo H r r0 H0') :
    ACall Tryd.prog glob (H0.length == 0) 41 args H0 r0 H0' := LCall' ctx Tryd.func41 (by kernel_rfl) ls41 (by kernel_rfl) (by kernel_rfl) hargs lo hlo h
theorem lcallk41 {args : List AV} (hargs : args.length ≤ 21) {H0 : AHeap} {r0 : AV} {H0' : AHeap}
    (h : lavc Tryd.prog glob lc41 (args ++ List.replicate (21 - args.length) (.v undef)) H0 fun e t H => (e = .normal ∨ e = .ret) ∧ aret Tryd.prog t H [Go.ResultVar.tmp 4] fun r => r = r0 ∧ H = H0') :
    ACall Tryd.prog glob false 41 args H0 r0 H0' := LCallK' ctx Tryd.func41 (by kernel_rfl) ls41 (by kernel_rfl) (by kernel_rfl) hargs h
/-- (*escutcheon/cellar.cellar).fill -/
def lc12 : LCode := .seq (.reg []
  [⟨some 7, Go.Op.move (Go.Operand.tmp 0), none⟩,
  ⟨some 8, Go.Op.nilCheck (Go.Operand.tmp 7), none⟩,
  ⟨some 9, Go.Op.fieldAddr 38 (Go.Operand.tmp 8) 0, none⟩,
  ⟨some 10, Go.Op.fieldAddr 25 (Go.Operand.tmp 9) 2, none⟩,
  ⟨some 11, Go.Op.load 3 (Go.Operand.tmp 10), none⟩,
  ⟨some 12, Go.Op.move (Go.Operand.const (Go.Value.int Go.IntKind.i64 0)), none⟩]) (.block 0 (.loop (.seq (.reg []
  [⟨some 13, Go.Op.binOp Go.BinOp.lss 3 (Go.Operand.tmp 12) (Go.Operand.tmp 11) 3, none⟩]) (.seq (.cond (Go.Operand.tmp 13) (.skip) (.exit 0)) (.seq (.block 1 (.seq (.reg []
  [⟨some 14, Go.Op.move (Go.Operand.tmp 12), none⟩,
  ⟨some 4, Go.Op.assign (Go.Operand.tmp 14), none⟩]) (.seq (.reg []
  [⟨some 15, Go.Op.move (Go.Operand.tmp 0), none⟩,
  ⟨some 16, Go.Op.nilCheck (Go.Operand.tmp 15), none⟩,
  ⟨some 17, Go.Op.fieldAddr 38 (Go.Operand.tmp 16) 0, none⟩,
  ⟨some 18, Go.Op.fieldAddr 25 (Go.Operand.tmp 17) 0, none⟩,
  ⟨some 19, Go.Op.load 3 (Go.Operand.tmp 18), none⟩,
  ⟨some 20, Go.Op.makeSlice 51 (Go.Operand.tmp 19) (Go.Operand.tmp 19), none⟩,
  ⟨some 5, Go.Op.assign (Go.Operand.tmp 20), none⟩]) (.seq (.seq (.reg []
  [⟨some 21, Go.Op.move (Go.Operand.const (Go.Value.int Go.IntKind.i64 0)), none⟩]) (.block 2 (.loop (.seq (.reg []
  [⟨some 22, Go.Op.binOp Go.BinOp.lss 3 (Go.Operand.tmp 21) (Go.Operand.const (Go.Value.int Go.IntKind.i64 2)) 3, none⟩]) (.seq (.cond (Go.Operand.tmp 22) (.skip) (.exit 2)) (.seq (.block 3 (.seq (.reg []
  [⟨some 23, Go.Op.move (Go.Operand.tmp 21), none⟩,
  ⟨some 6, Go.Op.assign (Go.Operand.tmp 23), none⟩]) (.reg []
  [⟨some 24, Go.Op.move (Go.Operand.tmp 5), none⟩,
  ⟨some 25, Go.Op.move (Go.Operand.tmp 6), none⟩,
  ⟨some 26, Go.Op.move (Go.Operand.tmp 1), none⟩,
  ⟨some 27, Go.Op.move (Go.Operand.tmp 4), none⟩,
  ⟨some 28, Go.Op.call { callee := Go.Callee.value (Go.Operand.func 24), args := #[Go.Operand.tmp 27], argTypes := #[3] }, none⟩,
  ⟨some 29, Go.Op.move (Go.Operand.tmp 6), none⟩,
  ⟨some 30, Go.Op.call { callee := Go.Callee.value (Go.Operand.func 24), args := #[Go.Operand.tmp 29], argTypes := #[3] }, none⟩,
  ⟨some 31, Go.Op.buildSlice 44 3 #[(0, Go.Operand.tmp 26), (1, Go.Operand.tmp 28), (2, Go.Operand.tmp 30)], none⟩,
  ⟨some 32, Go.Op.call { callee := Go.Callee.value (Go.Operand.func 13), args := #[Go.Operand.tmp 31], argTypes := #[44] }, none⟩,
  ⟨some 33, Go.Op.indexAddr 51 (Go.Operand.tmp 24) (Go.Operand.tmp 25), none⟩,
  ⟨none, Go.Op.store 22 (Go.Operand.tmp 33) (Go.Operand.tmp 32), none⟩]))) (.reg []
  [⟨some 34, Go.Op.binOp Go.BinOp.add 3 (Go.Operand.tmp 21) (Go.Operand.const (Go.Value.int Go.IntKind.i64 1)) 3, none⟩,
  ⟨some 21, Go.Op.move (Go.Operand.tmp 34), none⟩]))))))) (.reg []
  [⟨some 35, Go.Op.move (Go.Operand.tmp 0), none⟩,
  ⟨some 36, Go.Op.move (Go.Operand.tmp 0), none⟩,
  ⟨some 37, Go.Op.nilCheck (Go.Operand.tmp 36), none⟩,
  ⟨some 38, Go.Op.fieldAddr 38 (Go.Operand.tmp 37) 1, none⟩,
  ⟨some 39, Go.Op.load 36 (Go.Operand.tmp 38), none⟩,
  ⟨some 40, Go.Op.move (Go.Operand.tmp 5), none⟩,
  ⟨some 41, Go.Op.buildSlice 36 1 #[(0, Go.Operand.tmp 40)], none⟩,
  ⟨some 42, Go.Op.call { callee := Go.Callee.builtin Go.Builtin.append, args := #[Go.Operand.tmp 39, Go.Operand.tmp 41], argTypes := #[36, 36] }, none⟩,
  ⟨some 43, Go.Op.nilCheck (Go.Operand.tmp 35), none⟩,
  ⟨some 44, Go.Op.fieldAddr 38 (Go.Operand.tmp 43) 1, none⟩,
  ⟨none, Go.Op.store 36 (Go.Operand.tmp 44) (Go.Operand.tmp 42), none⟩]))))) (.reg []
  [⟨some 45, Go.Op.binOp Go.BinOp.add 3 (Go.Operand.tmp 12) (Go.Operand.const (Go.Value.int Go.IntKind.i64 1)) 3, none⟩,
  ⟨some 12, Go.Op.move (Go.Operand.tmp 45), none⟩]))))))
def ms12_0 : List Nat := [2, 3, 4, 5, 6, 7, 8, 9, 10, 12, 13, 14, 15, 16, 17, 18, 19, 20, 21, 22, 23, 24, 25, 26, 27, 28, 29, 30, 31, 32, 33, 34, 35, 36, 37, 38, 39, 40, 41, 42, 43, 44, 45]
def ms12_1 : List Nat := [2, 3, 6, 7, 8, 9, 10, 21, 22, 23, 24, 25, 26, 27, 28, 29, 30, 31, 32, 33, 34]
def mj12_0 : List Nat := [2, 3, 7, 8, 9, 10]
def mj12_1 : List Nat := [2, 3, 7, 8, 9, 10]
theorem ls12 : Tryd.f12.body.map (strip Tryd.prog impCodA) = some lc12 := by kernel_rfl
theorem lcall12 {args : List AV} (hargs : args.length ≤ 46) {H0 : AHeap} (lo : Nat) (hlo : H0.length ≤ lo) {r0 : AV} {H0' : AHeap}
    (h : lavc Tryd.prog glob lc12 (args ++ List.replicate (46 - args.length) (.v undef)) H0 fun e t H => (e = .normal ∨ e = .ret) ∧ aret Tryd.prog t H [] fun r => Fin lo H r r0 H0') :
    ACall Tryd.prog glob (H0.length == 0) 12 args H0 r0 H0' := LCall' ctx Tryd.func12 (by kernel_rfl) ls12 (by kernel_rfl) (by kernel_rfl) hargs lo hlo h
theorem lcallk12 {args : List AV} (hargs : args.length ≤ 46) {H0 : AHeap} {r0 : AV} {H0' : AHeap}
    (h : lavc Tryd.prog glob lc12 (args ++ List.replicate (46 - args.length) (.v undef)) H0 fun e t H => (e = .normal ∨ e = .ret) ∧ aret Tryd.prog t H [] fun r => r = r0 ∧ H = H0') :
    ACall Tryd.prog glob false 12 args H0 r0 H0' := LCallK' ctx Tryd.func12 (by kernel_rfl) ls12 (by kernel_rfl) (by kernel_rfl) hargs h
/-- (*escutcheon/cellar.cellar).step -/
def lc15 : LCode := .seq (.reg []
  [⟨some 11, Go.Op.move (Go.Operand.tmp 0), none⟩,
  ⟨some 12, Go.Op.nilCheck (Go.Operand.tmp 11), none⟩,
  ⟨some 13, Go.Op.fieldAddr 38 (Go.Operand.tmp 12) 1, none⟩,
  ⟨some 14, Go.Op.load 36 (Go.Operand.tmp 13), none⟩,
  ⟨some 15, Go.Op.move (Go.Operand.tmp 2), none⟩,
  ⟨some 16, Go.Op.indexAddr 36 (Go.Operand.tmp 14) (Go.Operand.tmp 15), none⟩,
  ⟨some 17, Go.Op.load 51 (Go.Operand.tmp 16), none⟩,
  ⟨some 8, Go.Op.assign (Go.Operand.tmp 17), none⟩]) (.seq (.reg [⟨some 18, Go.Op.move (Go.Operand.tmp 8), none⟩,
  ⟨some 19, Go.Op.move (Go.Operand.tmp 3), none⟩,
  ⟨some 20, Go.Op.move (Go.Operand.tmp 0), none⟩,
  ⟨some 21, Go.Op.nilCheck (Go.Operand.tmp 20), none⟩,
  ⟨some 22, Go.Op.fieldAddr 38 (Go.Operand.tmp 21) 0, none⟩,
  ⟨some 23, Go.Op.fieldAddr 25 (Go.Operand.tmp 22) 0, none⟩,
  ⟨some 24, Go.Op.load 3 (Go.Operand.tmp 23), none⟩,
  ⟨some 25, Go.Op.binOp Go.BinOp.add 3 (Go.Operand.tmp 19) (Go.Operand.tmp 24) 3, none⟩,
  ⟨some 26, Go.Op.binOp Go.BinOp.sub 3 (Go.Operand.tmp 25) (Go.Operand.const (Go.Value.int Go.IntKind.i64 1)) 3, none⟩,
  ⟨some 27, Go.Op.move (Go.Operand.tmp 0), none⟩,
  ⟨some 28, Go.Op.nilCheck (Go.Operand.tmp 27), none⟩,
  ⟨some 29, Go.Op.fieldAddr 38 (Go.Operand.tmp 28) 0, none⟩,
  ⟨some 30, Go.Op.fieldAddr 25 (Go.Operand.tmp 29) 0, none⟩,
  ⟨some 31, Go.Op.load 3 (Go.Operand.tmp 30), none⟩,
  ⟨some 32, Go.Op.binOp Go.BinOp.rem 3 (Go.Operand.tmp 26) (Go.Operand.tmp 31) 3, none⟩,
  ⟨some 33, Go.Op.indexAddr 51 (Go.Operand.tmp 18) (Go.Operand.tmp 32), none⟩,
  ⟨some 34, Go.Op.load 22 (Go.Operand.tmp 33), none⟩,
  ⟨some 9, Go.Op.assign (Go.Operand.tmp 34), none⟩]
  []) (.seq (.reg []
  [⟨some 35, Go.Op.move (Go.Operand.tmp 9), none⟩,
  ⟨some 36, Go.Op.move (Go.Operand.tmp 0), none⟩,
  ⟨some 37, Go.Op.move (Go.Operand.tmp 9), none⟩,
  ⟨some 38, Go.Op.call { callee := Go.Callee.value (Go.Operand.func 27), args := #[Go.Operand.tmp 37], argTypes := #[22] }, none⟩,
  ⟨some 39, Go.Op.move (Go.Operand.tmp 1), none⟩,
  ⟨some 40, Go.Op.move (Go.Operand.tmp 2), none⟩,
  ⟨some 41, Go.Op.move (Go.Operand.tmp 3), none⟩,
  ⟨some 42, Go.Op.call { callee := Go.Callee.value (Go.Operand.func 26), args := #[Go.Operand.tmp 36, Go.Operand.tmp 38, Go.Operand.tmp 39, Go.Operand.tmp 40, Go.Operand.tmp 41], argTypes := #[35, 3, 3, 3, 3] }, none⟩,
  ⟨some 43, Go.Op.buildSlice 44 2 #[(0, Go.Operand.tmp 35), (1, Go.Operand.tmp 42)], none⟩,
  ⟨some 10, Go.Op.assign (Go.Operand.tmp 43), none⟩]) (.seq (.seq (.reg []
  [⟨some 44, Go.Op.move (Go.Operand.tmp 1), none⟩,
  ⟨some 45, Go.Op.binOp Go.BinOp.gtr 3 (Go.Operand.tmp 44) (Go.Operand.const (Go.Value.int Go.IntKind.i64 0)) 3, none⟩]) (.cond (Go.Operand.tmp 45) (.reg []
  [⟨some 46, Go.Op.move (Go.Operand.tmp 10), none⟩,
  ⟨some 47, Go.Op.move (Go.Operand.tmp 8), none⟩,
  ⟨some 48, Go.Op.move (Go.Operand.tmp 3), none⟩,
  ⟨some 49, Go.Op.indexAddr 51 (Go.Operand.tmp 47) (Go.Operand.tmp 48), none⟩,
  ⟨some 50, Go.Op.load 22 (Go.Operand.tmp 49), none⟩,
  ⟨some 51, Go.Op.buildSlice 44 1 #[(0, Go.Operand.tmp 50)], none⟩,
  ⟨some 52, Go.Op.call { callee := Go.Callee.builtin Go.Builtin.append, args := #[Go.Operand.tmp 46, Go.Operand.tmp 51], argTypes := #[44, 44] }, none⟩,
  ⟨some 10, Go.Op.assign (Go.Operand.tmp 52), none⟩]) (.skip))) (.reg []
  [⟨some 53, Go.Op.move (Go.Operand.tmp 8), none⟩,
  ⟨some 54, Go.Op.move (Go.Operand.tmp 3), none⟩,
  ⟨some 55, Go.Op.move (Go.Operand.tmp 10), none⟩,
  ⟨some 56, Go.Op.call { callee := Go.Callee.value (Go.Operand.func 13), args := #[Go.Operand.tmp 55], argTypes := #[44] }, none⟩,
  ⟨some 57, Go.Op.indexAddr 51 (Go.Operand.tmp 53) (Go.Operand.tmp 54), none⟩,
  ⟨none, Go.Op.store 22 (Go.Operand.tmp 57) (Go.Operand.tmp 56), none⟩]))))
def mj15_0 : List Nat := [0, 1, 2, 4, 5, 6, 7, 9, 10, 11, 12, 13, 14, 15, 16, 17, 18, 19, 20, 21, 22, 23, 24, 25, 26, 27, 28, 29, 30, 31, 32, 33, 34, 35, 36, 37, 38, 39, 40, 41, 42, 43, 44, 45, 46, 47, 48, 49, 50, 51, 52]
theorem ls15 : Tryd.f15.body.map (strip Tryd.prog impCodA) = some lc15 := by kernel_rfl
theorem lcall15 {args : List AV} (hargs : args.length ≤ 58) {H0 : AHeap} (lo : Nat) (hlo : H0.length ≤ lo) {r0 : AV} {H0' : AHeap}
    (h : lavc Tryd.prog glob lc15 (args ++ List.replicate (58 - args.length) (.v undef)) H0 fun e t H => (e = .normal ∨ e = .ret) ∧ aret Tryd.prog t H [] fun r => Fin lo H r r0 H0') :
    ACall Tryd.prog glob (H0.length == 0) 15 args H0 r0 H0' := LCall' ctx Tryd.func15 (by kernel_rfl) ls15 (by kernel_rfl) (by kernel_rfl) hargs lo hlo h
theorem lcallk15 {args : List AV} (hargs : args.length ≤ 58) {H0 : AHeap} {r0 : AV} {H0' : AHeap}
    (h : lavc Tryd.prog glob lc15 (args ++ List.replicate (58 - args.length) (.v undef)) H0 fun e t H => (e = .normal ∨ e = .ret) ∧ aret Tryd.prog t H [] fun r => r = r0 ∧ H = H0') :
    ACall Tryd.prog glob false 15 args H0 r0 H0' := LCallK' ctx Tryd.func15 (by kernel_rfl) ls15 (by kernel_rfl) (by kernel_rfl) hargs h
end Go.Abs.S
