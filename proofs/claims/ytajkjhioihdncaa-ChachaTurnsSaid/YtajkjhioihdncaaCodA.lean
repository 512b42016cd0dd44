/- Code, as it is looked at; written by wip/leancode.py. -/
import Derived.Test.YtajkjhioihdncaaAbsSeat
namespace Go.Abs.S
open Go.Proofs
set_option maxRecDepth 100000
def impCodA : FuncId → Bool := fun f => f == 25 || f == 29
/-- math/bits.RotateLeft32 -/
def lc31 : LCode := .seq (.reg []
  [⟨some 4, Go.Op.assign (Go.Operand.const (Go.Value.int Go.IntKind.u32 0)), none⟩]) (.seq (.reg []
  [⟨some 6, Go.Op.move (Go.Operand.tmp 1), none⟩,
  ⟨some 7, Go.Op.convert 3 59 (Go.Operand.tmp 6), none⟩,
  ⟨some 8, Go.Op.binOp Go.BinOp.and 59 (Go.Operand.tmp 7) (Go.Operand.const (Go.Value.int Go.IntKind.u64 31)) 59, none⟩,
  ⟨some 5, Go.Op.assign (Go.Operand.tmp 8), none⟩]) (.seq (.reg []
  [⟨some 9, Go.Op.move (Go.Operand.tmp 0), none⟩,
  ⟨some 10, Go.Op.move (Go.Operand.tmp 5), none⟩,
  ⟨some 11, Go.Op.binOp Go.BinOp.shl 45 (Go.Operand.tmp 9) (Go.Operand.tmp 10) 59, none⟩,
  ⟨some 12, Go.Op.move (Go.Operand.tmp 0), none⟩,
  ⟨some 13, Go.Op.move (Go.Operand.tmp 5), none⟩,
  ⟨some 14, Go.Op.binOp Go.BinOp.sub 59 (Go.Operand.const (Go.Value.int Go.IntKind.u64 32)) (Go.Operand.tmp 13) 59, none⟩,
  ⟨some 15, Go.Op.binOp Go.BinOp.shr 45 (Go.Operand.tmp 12) (Go.Operand.tmp 14) 59, none⟩,
  ⟨some 16, Go.Op.binOp Go.BinOp.or 45 (Go.Operand.tmp 11) (Go.Operand.tmp 15) 45, none⟩,
  ⟨some 4, Go.Op.assign (Go.Operand.tmp 16), none⟩]) (.ret)))
theorem ls31 : Try.f31.body.map (strip Try.prog impCodA) = some lc31 := by kernel_rfl
theorem lcall31 {args : List AV} (hargs : args.length ≤ 17) {H0 : AHeap} (lo : Nat) (hlo : H0.length ≤ lo) {r0 : AV} {H0' : AHeap}
    (h : lavc Try.prog glob lc31 (args ++ List.replicate (17 - args.length) (.v undef)) H0 fun e t H => (e = .normal ∨ e = .ret) ∧ aret Try.prog t H [Go.ResultVar.tmp 4] fun r => Fin lo H r r0 H0') :
    ACall Try.prog glob (H0.length == 0) 31 args H0 r0 H0' := LCall' ctx Try.func31 (by kernel_rfl) ls31 (by kernel_rfl) (by kernel_rfl) hargs lo hlo h
/-- (*escutcheon/chacha.words).step -/
def lc29 : LCode := .seq (.reg [⟨some 10, Go.Op.move (Go.Operand.tmp 0), none⟩,
  ⟨some 11, Go.Op.move (Go.Operand.tmp 1), none⟩,
  ⟨some 12, Go.Op.nilCheck (Go.Operand.tmp 10), none⟩,
  ⟨some 13, Go.Op.indexAddr 47 (Go.Operand.tmp 12) (Go.Operand.tmp 11), none⟩,
  ⟨some 14, Go.Op.load 45 (Go.Operand.tmp 13), none⟩,
  ⟨some 15, Go.Op.move (Go.Operand.tmp 0), none⟩,
  ⟨some 16, Go.Op.move (Go.Operand.tmp 2), none⟩,
  ⟨some 17, Go.Op.nilCheck (Go.Operand.tmp 15), none⟩,
  ⟨some 18, Go.Op.indexAddr 47 (Go.Operand.tmp 17) (Go.Operand.tmp 16), none⟩,
  ⟨some 19, Go.Op.load 45 (Go.Operand.tmp 18), none⟩,
  ⟨some 20, Go.Op.binOp Go.BinOp.add 45 (Go.Operand.tmp 14) (Go.Operand.tmp 19) 45, none⟩,
  ⟨some 21, Go.Op.nilCheck (Go.Operand.tmp 10), none⟩,
  ⟨some 22, Go.Op.indexAddr 47 (Go.Operand.tmp 21) (Go.Operand.tmp 11), none⟩]
  [⟨none, Go.Op.store 45 (Go.Operand.tmp 22) (Go.Operand.tmp 20), none⟩]) (.reg [⟨some 23, Go.Op.move (Go.Operand.tmp 0), none⟩,
  ⟨some 24, Go.Op.move (Go.Operand.tmp 3), none⟩,
  ⟨some 25, Go.Op.move (Go.Operand.tmp 0), none⟩,
  ⟨some 26, Go.Op.move (Go.Operand.tmp 3), none⟩,
  ⟨some 27, Go.Op.nilCheck (Go.Operand.tmp 25), none⟩,
  ⟨some 28, Go.Op.indexAddr 47 (Go.Operand.tmp 27) (Go.Operand.tmp 26), none⟩,
  ⟨some 29, Go.Op.load 45 (Go.Operand.tmp 28), none⟩,
  ⟨some 30, Go.Op.move (Go.Operand.tmp 0), none⟩,
  ⟨some 31, Go.Op.move (Go.Operand.tmp 1), none⟩,
  ⟨some 32, Go.Op.nilCheck (Go.Operand.tmp 30), none⟩,
  ⟨some 33, Go.Op.indexAddr 47 (Go.Operand.tmp 32) (Go.Operand.tmp 31), none⟩,
  ⟨some 34, Go.Op.load 45 (Go.Operand.tmp 33), none⟩,
  ⟨some 35, Go.Op.binOp Go.BinOp.xor 45 (Go.Operand.tmp 29) (Go.Operand.tmp 34) 45, none⟩,
  ⟨some 36, Go.Op.move (Go.Operand.tmp 4), none⟩,
  ⟨some 37, Go.Op.call { callee := Go.Callee.value (Go.Operand.func 31), args := #[Go.Operand.tmp 35, Go.Operand.tmp 36], argTypes := #[45, 3] }, none⟩,
  ⟨some 38, Go.Op.nilCheck (Go.Operand.tmp 23), none⟩,
  ⟨some 39, Go.Op.indexAddr 47 (Go.Operand.tmp 38) (Go.Operand.tmp 24), none⟩]
  [⟨none, Go.Op.store 45 (Go.Operand.tmp 39) (Go.Operand.tmp 37), none⟩])
theorem ls29 : Try.f29.body.map (strip Try.prog impCodA) = some lc29 := by kernel_rfl
theorem lcall29 {args : List AV} (hargs : args.length ≤ 40) {H0 : AHeap} (lo : Nat) (hlo : H0.length ≤ lo) {r0 : AV} {H0' : AHeap}
    (h : lavc Try.prog glob lc29 (args ++ List.replicate (40 - args.length) (.v undef)) H0 fun e t H => (e = .normal ∨ e = .ret) ∧ aret Try.prog t H [] fun r => Fin lo H r r0 H0') :
    ACall Try.prog glob (H0.length == 0) 29 args H0 r0 H0' := LCall' ctx Try.func29 (by kernel_rfl) ls29 (by kernel_rfl) (by kernel_rfl) hargs lo hlo h
/-- escutcheon/escutcheonref06.left -/
def lc30 : LCode := .seq (.reg []
  [⟨some 4, Go.Op.assign (Go.Operand.const (Go.Value.int Go.IntKind.i64 0)), none⟩]) (.seq (.seq (.reg []
  [⟨some 5, Go.Op.assign (Go.Operand.const (Go.Value.int Go.IntKind.i64 0)), none⟩]) (.block 0 (.loop (.seq (.seq (.reg []
  [⟨some 6, Go.Op.move (Go.Operand.tmp 5), none⟩,
  ⟨some 7, Go.Op.move (Go.Operand.tmp 1), none⟩,
  ⟨some 8, Go.Op.binOp Go.BinOp.lss 3 (Go.Operand.tmp 6) (Go.Operand.tmp 7) 3, none⟩]) (.cond (Go.Operand.tmp 8) (.skip) (.exit 0))) (.seq (.block 1 (.seq (.reg []
  [⟨some 11, Go.Op.move (Go.Operand.tmp 0), none⟩,
  ⟨some 12, Go.Op.binOp Go.BinOp.mul 3 (Go.Operand.tmp 11) (Go.Operand.const (Go.Value.int Go.IntKind.i64 2)) 3, none⟩,
  ⟨some 0, Go.Op.assign (Go.Operand.tmp 12), none⟩]) (.seq (.reg []
  [⟨some 13, Go.Op.move (Go.Operand.tmp 0), none⟩,
  ⟨some 14, Go.Op.binOp Go.BinOp.geq 3 (Go.Operand.tmp 13) (Go.Operand.const (Go.Value.int Go.IntKind.i64 4294967296)) 3, none⟩]) (.cond (Go.Operand.tmp 14) (.reg []
  [⟨some 15, Go.Op.move (Go.Operand.tmp 0), none⟩,
  ⟨some 16, Go.Op.binOp Go.BinOp.sub 3 (Go.Operand.tmp 15) (Go.Operand.const (Go.Value.int Go.IntKind.i64 4294967295)) 3, none⟩,
  ⟨some 0, Go.Op.assign (Go.Operand.tmp 16), none⟩]) (.skip))))) (.reg []
  [⟨some 9, Go.Op.move (Go.Operand.tmp 5), none⟩,
  ⟨some 10, Go.Op.binOp Go.BinOp.add 3 (Go.Operand.tmp 9) (Go.Operand.const (Go.Value.int Go.IntKind.i64 1)) 3, none⟩,
  ⟨some 5, Go.Op.assign (Go.Operand.tmp 10), none⟩])))))) (.seq (.reg []
  [⟨some 17, Go.Op.move (Go.Operand.tmp 0), none⟩,
  ⟨some 4, Go.Op.assign (Go.Operand.tmp 17), none⟩]) (.ret)))
def ms30_0 : List Nat := [0, 2, 3, 5, 6, 7, 8, 9, 10, 11, 12, 13, 14, 15, 16]
theorem ls30 : Try.f30.body.map (strip Try.prog impCodA) = some lc30 := by kernel_rfl
theorem lcall30 {args : List AV} (hargs : args.length ≤ 18) {H0 : AHeap} (lo : Nat) (hlo : H0.length ≤ lo) {r0 : AV} {H0' : AHeap}
    (h : lavc Try.prog glob lc30 (args ++ List.replicate (18 - args.length) (.v undef)) H0 fun e t H => (e = .normal ∨ e = .ret) ∧ aret Try.prog t H [Go.ResultVar.tmp 4] fun r => Fin lo H r r0 H0') :
    ACall Try.prog glob (H0.length == 0) 30 args H0 r0 H0' := LCall' ctx Try.func30 (by kernel_rfl) ls30 (by kernel_rfl) (by kernel_rfl) hargs lo hlo h
/-- (*escutcheon/chacha.words).quarter -/
def lc25 : LCode := .seq (.reg []
  [⟨some 10, Go.Op.move (Go.Operand.tmp 0), none⟩,
  ⟨some 11, Go.Op.move (Go.Operand.tmp 1), none⟩,
  ⟨some 12, Go.Op.move (Go.Operand.tmp 2), none⟩,
  ⟨some 13, Go.Op.move (Go.Operand.tmp 4), none⟩,
  ⟨some 14, Go.Op.call { callee := Go.Callee.value (Go.Operand.func 29), args := #[Go.Operand.tmp 10, Go.Operand.tmp 11, Go.Operand.tmp 12, Go.Operand.tmp 13, Go.Operand.const (Go.Value.int Go.IntKind.i64 16)], argTypes := #[61, 3, 3, 3, 3] }, none⟩]) (.seq (.reg []
  [⟨some 15, Go.Op.move (Go.Operand.tmp 0), none⟩,
  ⟨some 16, Go.Op.move (Go.Operand.tmp 3), none⟩,
  ⟨some 17, Go.Op.move (Go.Operand.tmp 4), none⟩,
  ⟨some 18, Go.Op.move (Go.Operand.tmp 2), none⟩,
  ⟨some 19, Go.Op.call { callee := Go.Callee.value (Go.Operand.func 29), args := #[Go.Operand.tmp 15, Go.Operand.tmp 16, Go.Operand.tmp 17, Go.Operand.tmp 18, Go.Operand.const (Go.Value.int Go.IntKind.i64 12)], argTypes := #[61, 3, 3, 3, 3] }, none⟩]) (.seq (.reg []
  [⟨some 20, Go.Op.move (Go.Operand.tmp 0), none⟩,
  ⟨some 21, Go.Op.move (Go.Operand.tmp 1), none⟩,
  ⟨some 22, Go.Op.move (Go.Operand.tmp 2), none⟩,
  ⟨some 23, Go.Op.move (Go.Operand.tmp 4), none⟩,
  ⟨some 24, Go.Op.call { callee := Go.Callee.value (Go.Operand.func 29), args := #[Go.Operand.tmp 20, Go.Operand.tmp 21, Go.Operand.tmp 22, Go.Operand.tmp 23, Go.Operand.const (Go.Value.int Go.IntKind.i64 8)], argTypes := #[61, 3, 3, 3, 3] }, none⟩]) (.reg []
  [⟨some 25, Go.Op.move (Go.Operand.tmp 0), none⟩,
  ⟨some 26, Go.Op.move (Go.Operand.tmp 3), none⟩,
  ⟨some 27, Go.Op.move (Go.Operand.tmp 4), none⟩,
  ⟨some 28, Go.Op.move (Go.Operand.tmp 2), none⟩,
  ⟨some 29, Go.Op.call { callee := Go.Callee.value (Go.Operand.func 29), args := #[Go.Operand.tmp 25, Go.Operand.tmp 26, Go.Operand.tmp 27, Go.Operand.tmp 28, Go.Operand.const (Go.Value.int Go.IntKind.i64 7)], argTypes := #[61, 3, 3, 3, 3] }, none⟩])))
theorem ls25 : Try.f25.body.map (strip Try.prog impCodA) = some lc25 := by kernel_rfl
theorem lcall25 {args : List AV} (hargs : args.length ≤ 30) {H0 : AHeap} (lo : Nat) (hlo : H0.length ≤ lo) {r0 : AV} {H0' : AHeap}
    (h : lavc Try.prog glob lc25 (args ++ List.replicate (30 - args.length) (.v undef)) H0 fun e t H => (e = .normal ∨ e = .ret) ∧ aret Try.prog t H [] fun r => Fin lo H r r0 H0') :
    ACall Try.prog glob (H0.length == 0) 25 args H0 r0 H0' := LCall' ctx Try.func25 (by kernel_rfl) ls25 (by kernel_rfl) (by kernel_rfl) hargs lo hlo h
/-- escutcheon/escutcheonref06.quarter -/
def lc28 : LCode := .seq (.reg []
  [⟨some 5, Go.Op.box 55 (Go.Operand.tmp 0), none⟩,
  ⟨some 10, Go.Op.alloc 55, none⟩]) (.seq (.reg []
  [⟨some 13, Go.Op.build 64 #[(0, Go.Operand.const (Go.Value.int Go.IntKind.i64 16)), (1, Go.Operand.const (Go.Value.int Go.IntKind.i64 12)), (2, Go.Operand.const (Go.Value.int Go.IntKind.i64 8)), (3, Go.Operand.const (Go.Value.int Go.IntKind.i64 7))], none⟩,
  ⟨some 11, Go.Op.alloc 64, none⟩,
  ⟨none, Go.Op.store 64 (Go.Operand.tmp 11) (Go.Operand.tmp 13), none⟩]) (.seq (.seq (.reg []
  [⟨some 12, Go.Op.assign (Go.Operand.const (Go.Value.int Go.IntKind.i64 0)), none⟩]) (.block 0 (.loop (.seq (.seq (.reg []
  [⟨some 14, Go.Op.move (Go.Operand.tmp 12), none⟩,
  ⟨some 15, Go.Op.binOp Go.BinOp.lss 3 (Go.Operand.tmp 14) (Go.Operand.const (Go.Value.int Go.IntKind.i64 4)) 3, none⟩]) (.cond (Go.Operand.tmp 15) (.skip) (.exit 0))) (.seq (.block 1 (.seq (.reg []
  [⟨some 18, Go.Op.move (Go.Operand.tmp 12), none⟩,
  ⟨some 19, Go.Op.binOp Go.BinOp.rem 3 (Go.Operand.tmp 18) (Go.Operand.const (Go.Value.int Go.IntKind.i64 2)) 3, none⟩,
  ⟨some 20, Go.Op.binOp Go.BinOp.eql 3 (Go.Operand.tmp 19) (Go.Operand.const (Go.Value.int Go.IntKind.i64 0)) 3, none⟩]) (.cond (Go.Operand.tmp 20) (.seq (.reg [⟨some 21, Go.Op.move (Go.Operand.tmp 1), none⟩,
  ⟨some 22, Go.Op.move (Go.Operand.tmp 1), none⟩,
  ⟨some 23, Go.Op.indexAddr 55 (Go.Operand.tmp 5) (Go.Operand.tmp 22), none⟩,
  ⟨some 24, Go.Op.load 3 (Go.Operand.tmp 23), none⟩,
  ⟨some 25, Go.Op.move (Go.Operand.tmp 2), none⟩,
  ⟨some 26, Go.Op.indexAddr 55 (Go.Operand.tmp 5) (Go.Operand.tmp 25), none⟩,
  ⟨some 27, Go.Op.load 3 (Go.Operand.tmp 26), none⟩,
  ⟨some 28, Go.Op.binOp Go.BinOp.add 3 (Go.Operand.tmp 24) (Go.Operand.tmp 27) 3, none⟩,
  ⟨some 29, Go.Op.binOp Go.BinOp.rem 3 (Go.Operand.tmp 28) (Go.Operand.const (Go.Value.int Go.IntKind.i64 4294967296)) 3, none⟩,
  ⟨some 30, Go.Op.indexAddr 55 (Go.Operand.tmp 5) (Go.Operand.tmp 21), none⟩]
  [⟨none, Go.Op.store 3 (Go.Operand.tmp 30) (Go.Operand.tmp 29), none⟩]) (.reg [⟨some 31, Go.Op.move (Go.Operand.tmp 4), none⟩,
  ⟨some 32, Go.Op.move (Go.Operand.tmp 4), none⟩,
  ⟨some 33, Go.Op.indexAddr 55 (Go.Operand.tmp 5) (Go.Operand.tmp 32), none⟩,
  ⟨some 34, Go.Op.load 3 (Go.Operand.tmp 33), none⟩,
  ⟨some 35, Go.Op.move (Go.Operand.tmp 1), none⟩,
  ⟨some 36, Go.Op.indexAddr 55 (Go.Operand.tmp 5) (Go.Operand.tmp 35), none⟩,
  ⟨some 37, Go.Op.load 3 (Go.Operand.tmp 36), none⟩,
  ⟨some 38, Go.Op.binOp Go.BinOp.xor 3 (Go.Operand.tmp 34) (Go.Operand.tmp 37) 3, none⟩,
  ⟨some 39, Go.Op.move (Go.Operand.tmp 12), none⟩,
  ⟨some 40, Go.Op.indexAddr 64 (Go.Operand.tmp 11) (Go.Operand.tmp 39), none⟩,
  ⟨some 41, Go.Op.load 3 (Go.Operand.tmp 40), none⟩,
  ⟨some 42, Go.Op.call { callee := Go.Callee.value (Go.Operand.func 30), args := #[Go.Operand.tmp 38, Go.Operand.tmp 41], argTypes := #[3, 3] }, none⟩,
  ⟨some 43, Go.Op.indexAddr 55 (Go.Operand.tmp 5) (Go.Operand.tmp 31), none⟩]
  [⟨none, Go.Op.store 3 (Go.Operand.tmp 43) (Go.Operand.tmp 42), none⟩])) (.seq (.reg [⟨some 44, Go.Op.move (Go.Operand.tmp 3), none⟩,
  ⟨some 45, Go.Op.move (Go.Operand.tmp 3), none⟩,
  ⟨some 46, Go.Op.indexAddr 55 (Go.Operand.tmp 5) (Go.Operand.tmp 45), none⟩,
  ⟨some 47, Go.Op.load 3 (Go.Operand.tmp 46), none⟩,
  ⟨some 48, Go.Op.move (Go.Operand.tmp 4), none⟩,
  ⟨some 49, Go.Op.indexAddr 55 (Go.Operand.tmp 5) (Go.Operand.tmp 48), none⟩,
  ⟨some 50, Go.Op.load 3 (Go.Operand.tmp 49), none⟩,
  ⟨some 51, Go.Op.binOp Go.BinOp.add 3 (Go.Operand.tmp 47) (Go.Operand.tmp 50) 3, none⟩,
  ⟨some 52, Go.Op.binOp Go.BinOp.rem 3 (Go.Operand.tmp 51) (Go.Operand.const (Go.Value.int Go.IntKind.i64 4294967296)) 3, none⟩,
  ⟨some 53, Go.Op.indexAddr 55 (Go.Operand.tmp 5) (Go.Operand.tmp 44), none⟩]
  [⟨none, Go.Op.store 3 (Go.Operand.tmp 53) (Go.Operand.tmp 52), none⟩]) (.reg [⟨some 54, Go.Op.move (Go.Operand.tmp 2), none⟩,
  ⟨some 55, Go.Op.move (Go.Operand.tmp 2), none⟩,
  ⟨some 56, Go.Op.indexAddr 55 (Go.Operand.tmp 5) (Go.Operand.tmp 55), none⟩,
  ⟨some 57, Go.Op.load 3 (Go.Operand.tmp 56), none⟩,
  ⟨some 58, Go.Op.move (Go.Operand.tmp 3), none⟩,
  ⟨some 59, Go.Op.indexAddr 55 (Go.Operand.tmp 5) (Go.Operand.tmp 58), none⟩,
  ⟨some 60, Go.Op.load 3 (Go.Operand.tmp 59), none⟩,
  ⟨some 61, Go.Op.binOp Go.BinOp.xor 3 (Go.Operand.tmp 57) (Go.Operand.tmp 60) 3, none⟩,
  ⟨some 62, Go.Op.move (Go.Operand.tmp 12), none⟩,
  ⟨some 63, Go.Op.indexAddr 64 (Go.Operand.tmp 11) (Go.Operand.tmp 62), none⟩,
  ⟨some 64, Go.Op.load 3 (Go.Operand.tmp 63), none⟩,
  ⟨some 65, Go.Op.call { callee := Go.Callee.value (Go.Operand.func 30), args := #[Go.Operand.tmp 61, Go.Operand.tmp 64], argTypes := #[3, 3] }, none⟩,
  ⟨some 66, Go.Op.indexAddr 55 (Go.Operand.tmp 5) (Go.Operand.tmp 54), none⟩]
  [⟨none, Go.Op.store 3 (Go.Operand.tmp 66) (Go.Operand.tmp 65), none⟩]))))) (.reg []
  [⟨some 16, Go.Op.move (Go.Operand.tmp 12), none⟩,
  ⟨some 17, Go.Op.binOp Go.BinOp.add 3 (Go.Operand.tmp 16) (Go.Operand.const (Go.Value.int Go.IntKind.i64 1)) 3, none⟩,
  ⟨some 12, Go.Op.assign (Go.Operand.tmp 17), none⟩])))))) (.seq (.reg []
  [⟨some 67, Go.Op.load 55 (Go.Operand.tmp 5), none⟩,
  ⟨none, Go.Op.store 55 (Go.Operand.tmp 10) (Go.Operand.tmp 67), none⟩]) (.ret))))
def ms28_0 : List Nat := [0, 6, 7, 8, 9, 12, 13, 14, 15, 16, 17, 18, 19, 20, 21, 22, 23, 24, 25, 26, 27, 28, 29, 30, 31, 32, 33, 34, 35, 36, 37, 38, 39, 40, 41, 42, 43, 44, 45, 46, 47, 48, 49, 50, 51, 52, 53, 54, 55, 56, 57, 58, 59, 60, 61, 62, 63, 64, 65, 66]
theorem ls28 : Try.f28.body.map (strip Try.prog impCodA) = some lc28 := by kernel_rfl
theorem lcall28 {args : List AV} (hargs : args.length ≤ 68) {H0 : AHeap} (lo : Nat) (hlo : H0.length ≤ lo) {r0 : AV} {H0' : AHeap}
    (h : lavc Try.prog glob lc28 (args ++ List.replicate (68 - args.length) (.v undef)) H0 fun e t H => (e = .normal ∨ e = .ret) ∧ aret Try.prog t H [Go.ResultVar.cell 10 55] fun r => Fin lo H r r0 H0') :
    ACall Try.prog glob (H0.length == 0) 28 args H0 r0 H0' := LCall' ctx Try.func28 (by kernel_rfl) ls28 (by kernel_rfl) (by kernel_rfl) hargs lo hlo h
/-- (escutcheon/chacha.grid).stirred -/
def lc18 : LCode := .seq (.reg []
  [⟨some 1, Go.Op.box 51 (Go.Operand.tmp 0), none⟩,
  ⟨some 2, Go.Op.alloc 51, none⟩]) (.seq (.seq (.reg []
  [⟨some 5, Go.Op.move (Go.Operand.const (Go.Value.int Go.IntKind.i64 0)), none⟩]) (.block 0 (.loop (.seq (.reg []
  [⟨some 6, Go.Op.binOp Go.BinOp.lss 3 (Go.Operand.tmp 5) (Go.Operand.const (Go.Value.int Go.IntKind.i64 10)) 3, none⟩]) (.seq (.cond (Go.Operand.tmp 6) (.skip) (.exit 0)) (.seq (.block 1 (.seq (.seq (.reg []
  [⟨some 7, Go.Op.move (Go.Operand.const (Go.Value.int Go.IntKind.i64 0)), none⟩]) (.block 2 (.loop (.seq (.reg []
  [⟨some 8, Go.Op.binOp Go.BinOp.lss 3 (Go.Operand.tmp 7) (Go.Operand.const (Go.Value.int Go.IntKind.i64 4)) 3, none⟩]) (.seq (.cond (Go.Operand.tmp 8) (.skip) (.exit 2)) (.seq (.block 3 (.seq (.reg []
  [⟨some 9, Go.Op.move (Go.Operand.tmp 7), none⟩,
  ⟨some 3, Go.Op.assign (Go.Operand.tmp 9), none⟩]) (.reg []
  [⟨some 10, Go.Op.fieldAddr 51 (Go.Operand.tmp 1) 0, none⟩,
  ⟨some 11, Go.Op.move (Go.Operand.tmp 3), none⟩,
  ⟨some 12, Go.Op.move (Go.Operand.tmp 3), none⟩,
  ⟨some 13, Go.Op.binOp Go.BinOp.add 3 (Go.Operand.const (Go.Value.int Go.IntKind.i64 4)) (Go.Operand.tmp 12) 3, none⟩,
  ⟨some 14, Go.Op.move (Go.Operand.tmp 3), none⟩,
  ⟨some 15, Go.Op.binOp Go.BinOp.add 3 (Go.Operand.const (Go.Value.int Go.IntKind.i64 8)) (Go.Operand.tmp 14) 3, none⟩,
  ⟨some 16, Go.Op.move (Go.Operand.tmp 3), none⟩,
  ⟨some 17, Go.Op.binOp Go.BinOp.add 3 (Go.Operand.const (Go.Value.int Go.IntKind.i64 12)) (Go.Operand.tmp 16) 3, none⟩,
  ⟨some 18, Go.Op.call { callee := Go.Callee.value (Go.Operand.func 25), args := #[Go.Operand.tmp 10, Go.Operand.tmp 11, Go.Operand.tmp 13, Go.Operand.tmp 15, Go.Operand.tmp 17], argTypes := #[47, 3, 3, 3, 3] }, none⟩]))) (.reg []
  [⟨some 19, Go.Op.binOp Go.BinOp.add 3 (Go.Operand.tmp 7) (Go.Operand.const (Go.Value.int Go.IntKind.i64 1)) 3, none⟩,
  ⟨some 7, Go.Op.move (Go.Operand.tmp 19), none⟩]))))))) (.seq (.reg []
  [⟨some 20, Go.Op.move (Go.Operand.const (Go.Value.int Go.IntKind.i64 0)), none⟩]) (.block 4 (.loop (.seq (.reg []
  [⟨some 21, Go.Op.binOp Go.BinOp.lss 3 (Go.Operand.tmp 20) (Go.Operand.const (Go.Value.int Go.IntKind.i64 4)) 3, none⟩]) (.seq (.cond (Go.Operand.tmp 21) (.skip) (.exit 4)) (.seq (.block 5 (.seq (.reg []
  [⟨some 22, Go.Op.move (Go.Operand.tmp 20), none⟩,
  ⟨some 4, Go.Op.assign (Go.Operand.tmp 22), none⟩]) (.reg []
  [⟨some 23, Go.Op.fieldAddr 51 (Go.Operand.tmp 1) 0, none⟩,
  ⟨some 24, Go.Op.move (Go.Operand.tmp 4), none⟩,
  ⟨some 25, Go.Op.move (Go.Operand.tmp 4), none⟩,
  ⟨some 26, Go.Op.binOp Go.BinOp.add 3 (Go.Operand.tmp 25) (Go.Operand.const (Go.Value.int Go.IntKind.i64 1)) 3, none⟩,
  ⟨some 27, Go.Op.binOp Go.BinOp.rem 3 (Go.Operand.tmp 26) (Go.Operand.const (Go.Value.int Go.IntKind.i64 4)) 3, none⟩,
  ⟨some 28, Go.Op.binOp Go.BinOp.add 3 (Go.Operand.const (Go.Value.int Go.IntKind.i64 4)) (Go.Operand.tmp 27) 3, none⟩,
  ⟨some 29, Go.Op.move (Go.Operand.tmp 4), none⟩,
  ⟨some 30, Go.Op.binOp Go.BinOp.add 3 (Go.Operand.tmp 29) (Go.Operand.const (Go.Value.int Go.IntKind.i64 2)) 3, none⟩,
  ⟨some 31, Go.Op.binOp Go.BinOp.rem 3 (Go.Operand.tmp 30) (Go.Operand.const (Go.Value.int Go.IntKind.i64 4)) 3, none⟩,
  ⟨some 32, Go.Op.binOp Go.BinOp.add 3 (Go.Operand.const (Go.Value.int Go.IntKind.i64 8)) (Go.Operand.tmp 31) 3, none⟩,
  ⟨some 33, Go.Op.move (Go.Operand.tmp 4), none⟩,
  ⟨some 34, Go.Op.binOp Go.BinOp.add 3 (Go.Operand.tmp 33) (Go.Operand.const (Go.Value.int Go.IntKind.i64 3)) 3, none⟩,
  ⟨some 35, Go.Op.binOp Go.BinOp.rem 3 (Go.Operand.tmp 34) (Go.Operand.const (Go.Value.int Go.IntKind.i64 4)) 3, none⟩,
  ⟨some 36, Go.Op.binOp Go.BinOp.add 3 (Go.Operand.const (Go.Value.int Go.IntKind.i64 12)) (Go.Operand.tmp 35) 3, none⟩,
  ⟨some 37, Go.Op.call { callee := Go.Callee.value (Go.Operand.func 25), args := #[Go.Operand.tmp 23, Go.Operand.tmp 24, Go.Operand.tmp 28, Go.Operand.tmp 32, Go.Operand.tmp 36], argTypes := #[47, 3, 3, 3, 3] }, none⟩]))) (.reg []
  [⟨some 38, Go.Op.binOp Go.BinOp.add 3 (Go.Operand.tmp 20) (Go.Operand.const (Go.Value.int Go.IntKind.i64 1)) 3, none⟩,
  ⟨some 20, Go.Op.move (Go.Operand.tmp 38), none⟩]))))))))) (.reg []
  [⟨some 39, Go.Op.binOp Go.BinOp.add 3 (Go.Operand.tmp 5) (Go.Operand.const (Go.Value.int Go.IntKind.i64 1)) 3, none⟩,
  ⟨some 5, Go.Op.move (Go.Operand.tmp 39), none⟩]))))))) (.seq (.reg []
  [⟨some 40, Go.Op.load 51 (Go.Operand.tmp 1), none⟩,
  ⟨none, Go.Op.store 51 (Go.Operand.tmp 2) (Go.Operand.tmp 40), none⟩]) (.ret)))
def ms18_0 : List Nat := [0, 3, 4, 5, 6, 7, 8, 9, 10, 11, 12, 13, 14, 15, 16, 17, 18, 19, 20, 21, 22, 23, 24, 25, 26, 27, 28, 29, 30, 31, 32, 33, 34, 35, 36, 37, 38, 39]
def ms18_1 : List Nat := [0, 3, 7, 8, 9, 10, 11, 12, 13, 14, 15, 16, 17, 18, 19, 37]
def ms18_2 : List Nat := [0, 4, 18, 20, 21, 22, 23, 24, 25, 26, 27, 28, 29, 30, 31, 32, 33, 34, 35, 36, 37, 38]
theorem ls18 : Try.f18.body.map (strip Try.prog impCodA) = some lc18 := by kernel_rfl
theorem lcall18 {args : List AV} (hargs : args.length ≤ 41) {H0 : AHeap} (lo : Nat) (hlo : H0.length ≤ lo) {r0 : AV} {H0' : AHeap}
    (h : lavc Try.prog glob lc18 (args ++ List.replicate (41 - args.length) (.v undef)) H0 fun e t H => (e = .normal ∨ e = .ret) ∧ aret Try.prog t H [Go.ResultVar.cell 2 51] fun r => Fin lo H r r0 H0') :
    ACall Try.prog glob (H0.length == 0) 18 args H0 r0 H0' := LCall' ctx Try.func18 (by kernel_rfl) ls18 (by kernel_rfl) (by kernel_rfl) hargs lo hlo h
/-- escutcheon/escutcheonref06.Stir -/
def lc23 : LCode := .seq (.reg []
  [⟨some 1, Go.Op.box 55 (Go.Operand.tmp 0), none⟩,
  ⟨some 2, Go.Op.alloc 55, none⟩]) (.seq (.reg []
  [⟨some 6, Go.Op.build 64 #[(0, Go.Operand.const (Go.Value.int Go.IntKind.i64 0)), (1, Go.Operand.const (Go.Value.int Go.IntKind.i64 4)), (2, Go.Operand.const (Go.Value.int Go.IntKind.i64 8)), (3, Go.Operand.const (Go.Value.int Go.IntKind.i64 12))], none⟩,
  ⟨some 7, Go.Op.build 64 #[(0, Go.Operand.const (Go.Value.int Go.IntKind.i64 1)), (1, Go.Operand.const (Go.Value.int Go.IntKind.i64 5)), (2, Go.Operand.const (Go.Value.int Go.IntKind.i64 9)), (3, Go.Operand.const (Go.Value.int Go.IntKind.i64 13))], none⟩,
  ⟨some 8, Go.Op.build 64 #[(0, Go.Operand.const (Go.Value.int Go.IntKind.i64 2)), (1, Go.Operand.const (Go.Value.int Go.IntKind.i64 6)), (2, Go.Operand.const (Go.Value.int Go.IntKind.i64 10)), (3, Go.Operand.const (Go.Value.int Go.IntKind.i64 14))], none⟩,
  ⟨some 9, Go.Op.build 64 #[(0, Go.Operand.const (Go.Value.int Go.IntKind.i64 3)), (1, Go.Operand.const (Go.Value.int Go.IntKind.i64 7)), (2, Go.Operand.const (Go.Value.int Go.IntKind.i64 11)), (3, Go.Operand.const (Go.Value.int Go.IntKind.i64 15))], none⟩,
  ⟨some 10, Go.Op.build 64 #[(0, Go.Operand.const (Go.Value.int Go.IntKind.i64 0)), (1, Go.Operand.const (Go.Value.int Go.IntKind.i64 5)), (2, Go.Operand.const (Go.Value.int Go.IntKind.i64 10)), (3, Go.Operand.const (Go.Value.int Go.IntKind.i64 15))], none⟩,
  ⟨some 11, Go.Op.build 64 #[(0, Go.Operand.const (Go.Value.int Go.IntKind.i64 1)), (1, Go.Operand.const (Go.Value.int Go.IntKind.i64 6)), (2, Go.Operand.const (Go.Value.int Go.IntKind.i64 11)), (3, Go.Operand.const (Go.Value.int Go.IntKind.i64 12))], none⟩,
  ⟨some 12, Go.Op.build 64 #[(0, Go.Operand.const (Go.Value.int Go.IntKind.i64 2)), (1, Go.Operand.const (Go.Value.int Go.IntKind.i64 7)), (2, Go.Operand.const (Go.Value.int Go.IntKind.i64 8)), (3, Go.Operand.const (Go.Value.int Go.IntKind.i64 13))], none⟩,
  ⟨some 13, Go.Op.build 64 #[(0, Go.Operand.const (Go.Value.int Go.IntKind.i64 3)), (1, Go.Operand.const (Go.Value.int Go.IntKind.i64 4)), (2, Go.Operand.const (Go.Value.int Go.IntKind.i64 9)), (3, Go.Operand.const (Go.Value.int Go.IntKind.i64 14))], none⟩,
  ⟨some 14, Go.Op.build 65 #[(0, Go.Operand.tmp 6), (1, Go.Operand.tmp 7), (2, Go.Operand.tmp 8), (3, Go.Operand.tmp 9), (4, Go.Operand.tmp 10), (5, Go.Operand.tmp 11), (6, Go.Operand.tmp 12), (7, Go.Operand.tmp 13)], none⟩,
  ⟨some 3, Go.Op.alloc 65, none⟩,
  ⟨none, Go.Op.store 65 (Go.Operand.tmp 3) (Go.Operand.tmp 14), none⟩]) (.seq (.seq (.reg []
  [⟨some 4, Go.Op.assign (Go.Operand.const (Go.Value.int Go.IntKind.i64 0)), none⟩]) (.block 0 (.loop (.seq (.seq (.reg []
  [⟨some 15, Go.Op.move (Go.Operand.tmp 4), none⟩,
  ⟨some 16, Go.Op.binOp Go.BinOp.lss 3 (Go.Operand.tmp 15) (Go.Operand.const (Go.Value.int Go.IntKind.i64 10)) 3, none⟩]) (.cond (Go.Operand.tmp 16) (.skip) (.exit 0))) (.seq (.block 1 (.seq (.reg []
  [⟨some 19, Go.Op.move (Go.Operand.const (Go.Value.int Go.IntKind.i64 0)), none⟩]) (.block 2 (.loop (.seq (.reg []
  [⟨some 20, Go.Op.binOp Go.BinOp.lss 3 (Go.Operand.tmp 19) (Go.Operand.const (Go.Value.int Go.IntKind.i64 8)) 3, none⟩]) (.seq (.cond (Go.Operand.tmp 20) (.skip) (.exit 2)) (.seq (.block 3 (.seq (.reg []
  [⟨some 21, Go.Op.move (Go.Operand.tmp 19), none⟩,
  ⟨some 5, Go.Op.assign (Go.Operand.tmp 21), none⟩]) (.reg [⟨some 22, Go.Op.load 55 (Go.Operand.tmp 1), none⟩,
  ⟨some 23, Go.Op.move (Go.Operand.tmp 5), none⟩,
  ⟨some 24, Go.Op.indexAddr 65 (Go.Operand.tmp 3) (Go.Operand.tmp 23), none⟩,
  ⟨some 25, Go.Op.indexAddr 64 (Go.Operand.tmp 24) (Go.Operand.const (Go.Value.int Go.IntKind.i64 0)), none⟩,
  ⟨some 26, Go.Op.load 3 (Go.Operand.tmp 25), none⟩,
  ⟨some 27, Go.Op.move (Go.Operand.tmp 5), none⟩,
  ⟨some 28, Go.Op.indexAddr 65 (Go.Operand.tmp 3) (Go.Operand.tmp 27), none⟩,
  ⟨some 29, Go.Op.indexAddr 64 (Go.Operand.tmp 28) (Go.Operand.const (Go.Value.int Go.IntKind.i64 1)), none⟩,
  ⟨some 30, Go.Op.load 3 (Go.Operand.tmp 29), none⟩,
  ⟨some 31, Go.Op.move (Go.Operand.tmp 5), none⟩,
  ⟨some 32, Go.Op.indexAddr 65 (Go.Operand.tmp 3) (Go.Operand.tmp 31), none⟩,
  ⟨some 33, Go.Op.indexAddr 64 (Go.Operand.tmp 32) (Go.Operand.const (Go.Value.int Go.IntKind.i64 2)), none⟩,
  ⟨some 34, Go.Op.load 3 (Go.Operand.tmp 33), none⟩,
  ⟨some 35, Go.Op.move (Go.Operand.tmp 5), none⟩,
  ⟨some 36, Go.Op.indexAddr 65 (Go.Operand.tmp 3) (Go.Operand.tmp 35), none⟩,
  ⟨some 37, Go.Op.indexAddr 64 (Go.Operand.tmp 36) (Go.Operand.const (Go.Value.int Go.IntKind.i64 3)), none⟩,
  ⟨some 38, Go.Op.load 3 (Go.Operand.tmp 37), none⟩,
  ⟨some 39, Go.Op.call { callee := Go.Callee.value (Go.Operand.func 28), args := #[Go.Operand.tmp 22, Go.Operand.tmp 26, Go.Operand.tmp 30, Go.Operand.tmp 34, Go.Operand.tmp 38], argTypes := #[55, 3, 3, 3, 3] }, none⟩]
  [⟨none, Go.Op.store 55 (Go.Operand.tmp 1) (Go.Operand.tmp 39), none⟩]))) (.reg []
  [⟨some 40, Go.Op.binOp Go.BinOp.add 3 (Go.Operand.tmp 19) (Go.Operand.const (Go.Value.int Go.IntKind.i64 1)) 3, none⟩,
  ⟨some 19, Go.Op.move (Go.Operand.tmp 40), none⟩])))))))) (.reg []
  [⟨some 17, Go.Op.move (Go.Operand.tmp 4), none⟩,
  ⟨some 18, Go.Op.binOp Go.BinOp.add 3 (Go.Operand.tmp 17) (Go.Operand.const (Go.Value.int Go.IntKind.i64 1)) 3, none⟩,
  ⟨some 4, Go.Op.assign (Go.Operand.tmp 18), none⟩])))))) (.seq (.reg []
  [⟨some 41, Go.Op.load 55 (Go.Operand.tmp 1), none⟩,
  ⟨none, Go.Op.store 55 (Go.Operand.tmp 2) (Go.Operand.tmp 41), none⟩]) (.ret))))
def ms23_0 : List Nat := [0, 4, 5, 6, 7, 8, 9, 10, 11, 12, 13, 14, 15, 16, 17, 18, 19, 20, 21, 22, 23, 24, 25, 26, 27, 28, 29, 30, 31, 32, 33, 34, 35, 36, 37, 38, 39, 40]
def ms23_1 : List Nat := [0, 5, 6, 7, 8, 9, 10, 11, 12, 13, 14, 19, 20, 21, 22, 23, 24, 25, 26, 27, 28, 29, 30, 31, 32, 33, 34, 35, 36, 37, 38, 39, 40]
theorem ls23 : Try.f23.body.map (strip Try.prog impCodA) = some lc23 := by kernel_rfl
theorem lcall23 {args : List AV} (hargs : args.length ≤ 42) {H0 : AHeap} (lo : Nat) (hlo : H0.length ≤ lo) {r0 : AV} {H0' : AHeap}
    (h : lavc Try.prog glob lc23 (args ++ List.replicate (42 - args.length) (.v undef)) H0 fun e t H => (e = .normal ∨ e = .ret) ∧ aret Try.prog t H [Go.ResultVar.cell 2 55] fun r => Fin lo H r r0 H0') :
    ACall Try.prog glob (H0.length == 0) 23 args H0 r0 H0' := LCall' ctx Try.func23 (by kernel_rfl) ls23 (by kernel_rfl) (by kernel_rfl) hargs lo hlo h
/-- escutcheon/escutcheonref06.Words -/
def lc27 : LCode := .seq (.reg []
  [⟨some 2, Go.Op.alloc 55, none⟩]) (.seq (.reg []
  [⟨some 5, Go.Op.build 55 #[], none⟩,
  ⟨some 3, Go.Op.alloc 55, none⟩,
  ⟨none, Go.Op.store 55 (Go.Operand.tmp 3) (Go.Operand.tmp 5), none⟩]) (.seq (.seq (.reg []
  [⟨some 6, Go.Op.move (Go.Operand.const (Go.Value.int Go.IntKind.i64 0)), none⟩]) (.block 0 (.loop (.seq (.reg []
  [⟨some 7, Go.Op.binOp Go.BinOp.lss 3 (Go.Operand.tmp 6) (Go.Operand.const (Go.Value.int Go.IntKind.i64 16)) 3, none⟩]) (.seq (.cond (Go.Operand.tmp 7) (.skip) (.exit 0)) (.seq (.block 1 (.seq (.reg []
  [⟨some 8, Go.Op.move (Go.Operand.tmp 6), none⟩,
  ⟨some 4, Go.Op.assign (Go.Operand.tmp 8), none⟩]) (.reg [⟨some 9, Go.Op.move (Go.Operand.tmp 4), none⟩,
  ⟨some 10, Go.Op.move (Go.Operand.tmp 0), none⟩,
  ⟨some 11, Go.Op.move (Go.Operand.tmp 4), none⟩,
  ⟨some 12, Go.Op.binOp Go.BinOp.mul 3 (Go.Operand.const (Go.Value.int Go.IntKind.i64 4)) (Go.Operand.tmp 11) 3, none⟩,
  ⟨some 13, Go.Op.indexAddr 26 (Go.Operand.tmp 10) (Go.Operand.tmp 12), none⟩,
  ⟨some 14, Go.Op.load 5 (Go.Operand.tmp 13), none⟩,
  ⟨some 15, Go.Op.convert 5 3 (Go.Operand.tmp 14), none⟩,
  ⟨some 16, Go.Op.move (Go.Operand.tmp 0), none⟩,
  ⟨some 17, Go.Op.move (Go.Operand.tmp 4), none⟩,
  ⟨some 18, Go.Op.binOp Go.BinOp.mul 3 (Go.Operand.const (Go.Value.int Go.IntKind.i64 4)) (Go.Operand.tmp 17) 3, none⟩,
  ⟨some 19, Go.Op.binOp Go.BinOp.add 3 (Go.Operand.tmp 18) (Go.Operand.const (Go.Value.int Go.IntKind.i64 1)) 3, none⟩,
  ⟨some 20, Go.Op.indexAddr 26 (Go.Operand.tmp 16) (Go.Operand.tmp 19), none⟩,
  ⟨some 21, Go.Op.load 5 (Go.Operand.tmp 20), none⟩,
  ⟨some 22, Go.Op.convert 5 3 (Go.Operand.tmp 21), none⟩,
  ⟨some 23, Go.Op.binOp Go.BinOp.mul 3 (Go.Operand.const (Go.Value.int Go.IntKind.i64 256)) (Go.Operand.tmp 22) 3, none⟩,
  ⟨some 24, Go.Op.binOp Go.BinOp.add 3 (Go.Operand.tmp 15) (Go.Operand.tmp 23) 3, none⟩,
  ⟨some 25, Go.Op.move (Go.Operand.tmp 0), none⟩,
  ⟨some 26, Go.Op.move (Go.Operand.tmp 4), none⟩,
  ⟨some 27, Go.Op.binOp Go.BinOp.mul 3 (Go.Operand.const (Go.Value.int Go.IntKind.i64 4)) (Go.Operand.tmp 26) 3, none⟩,
  ⟨some 28, Go.Op.binOp Go.BinOp.add 3 (Go.Operand.tmp 27) (Go.Operand.const (Go.Value.int Go.IntKind.i64 2)) 3, none⟩,
  ⟨some 29, Go.Op.indexAddr 26 (Go.Operand.tmp 25) (Go.Operand.tmp 28), none⟩,
  ⟨some 30, Go.Op.load 5 (Go.Operand.tmp 29), none⟩,
  ⟨some 31, Go.Op.convert 5 3 (Go.Operand.tmp 30), none⟩,
  ⟨some 32, Go.Op.binOp Go.BinOp.mul 3 (Go.Operand.const (Go.Value.int Go.IntKind.i64 65536)) (Go.Operand.tmp 31) 3, none⟩,
  ⟨some 33, Go.Op.binOp Go.BinOp.add 3 (Go.Operand.tmp 24) (Go.Operand.tmp 32) 3, none⟩,
  ⟨some 34, Go.Op.move (Go.Operand.tmp 0), none⟩,
  ⟨some 35, Go.Op.move (Go.Operand.tmp 4), none⟩,
  ⟨some 36, Go.Op.binOp Go.BinOp.mul 3 (Go.Operand.const (Go.Value.int Go.IntKind.i64 4)) (Go.Operand.tmp 35) 3, none⟩,
  ⟨some 37, Go.Op.binOp Go.BinOp.add 3 (Go.Operand.tmp 36) (Go.Operand.const (Go.Value.int Go.IntKind.i64 3)) 3, none⟩,
  ⟨some 38, Go.Op.indexAddr 26 (Go.Operand.tmp 34) (Go.Operand.tmp 37), none⟩,
  ⟨some 39, Go.Op.load 5 (Go.Operand.tmp 38), none⟩,
  ⟨some 40, Go.Op.convert 5 3 (Go.Operand.tmp 39), none⟩,
  ⟨some 41, Go.Op.binOp Go.BinOp.mul 3 (Go.Operand.const (Go.Value.int Go.IntKind.i64 16777216)) (Go.Operand.tmp 40) 3, none⟩,
  ⟨some 42, Go.Op.binOp Go.BinOp.add 3 (Go.Operand.tmp 33) (Go.Operand.tmp 41) 3, none⟩,
  ⟨some 43, Go.Op.indexAddr 55 (Go.Operand.tmp 3) (Go.Operand.tmp 9), none⟩]
  [⟨none, Go.Op.store 3 (Go.Operand.tmp 43) (Go.Operand.tmp 42), none⟩]))) (.reg []
  [⟨some 44, Go.Op.binOp Go.BinOp.add 3 (Go.Operand.tmp 6) (Go.Operand.const (Go.Value.int Go.IntKind.i64 1)) 3, none⟩,
  ⟨some 6, Go.Op.move (Go.Operand.tmp 44), none⟩]))))))) (.seq (.reg []
  [⟨some 45, Go.Op.load 55 (Go.Operand.tmp 3), none⟩,
  ⟨none, Go.Op.store 55 (Go.Operand.tmp 2) (Go.Operand.tmp 45), none⟩]) (.ret))))
def ms27_0 : List Nat := [1, 4, 5, 6, 7, 8, 9, 10, 11, 12, 13, 14, 15, 16, 17, 18, 19, 20, 21, 22, 23, 24, 25, 26, 27, 28, 29, 30, 31, 32, 33, 34, 35, 36, 37, 38, 39, 40, 41, 42, 43, 44]
theorem ls27 : Try.f27.body.map (strip Try.prog impCodA) = some lc27 := by kernel_rfl
theorem lcall27 {args : List AV} (hargs : args.length ≤ 46) {H0 : AHeap} (lo : Nat) (hlo : H0.length ≤ lo) {r0 : AV} {H0' : AHeap}
    (h : lavc Try.prog glob lc27 (args ++ List.replicate (46 - args.length) (.v undef)) H0 fun e t H => (e = .normal ∨ e = .ret) ∧ aret Try.prog t H [Go.ResultVar.cell 2 55] fun r => Fin lo H r r0 H0') :
    ACall Try.prog glob (H0.length == 0) 27 args H0 r0 H0' := LCall' ctx Try.func27 (by kernel_rfl) ls27 (by kernel_rfl) (by kernel_rfl) hargs lo hlo h
/-- escutcheon/escutcheonref06.four -/
def lc24 : LCode := .seq (.reg []
  [⟨some 2, Go.Op.assign (Go.Operand.const (Go.Value.slice none 0 0)), none⟩]) (.seq (.reg []
  [⟨some 3, Go.Op.move (Go.Operand.tmp 0), none⟩,
  ⟨some 4, Go.Op.binOp Go.BinOp.rem 3 (Go.Operand.tmp 3) (Go.Operand.const (Go.Value.int Go.IntKind.i64 256)) 3, none⟩,
  ⟨some 5, Go.Op.convert 3 5 (Go.Operand.tmp 4), none⟩,
  ⟨some 6, Go.Op.move (Go.Operand.tmp 0), none⟩,
  ⟨some 7, Go.Op.binOp Go.BinOp.quo 3 (Go.Operand.tmp 6) (Go.Operand.const (Go.Value.int Go.IntKind.i64 256)) 3, none⟩,
  ⟨some 8, Go.Op.binOp Go.BinOp.rem 3 (Go.Operand.tmp 7) (Go.Operand.const (Go.Value.int Go.IntKind.i64 256)) 3, none⟩,
  ⟨some 9, Go.Op.convert 3 5 (Go.Operand.tmp 8), none⟩,
  ⟨some 10, Go.Op.move (Go.Operand.tmp 0), none⟩,
  ⟨some 11, Go.Op.binOp Go.BinOp.quo 3 (Go.Operand.tmp 10) (Go.Operand.const (Go.Value.int Go.IntKind.i64 65536)) 3, none⟩,
  ⟨some 12, Go.Op.binOp Go.BinOp.rem 3 (Go.Operand.tmp 11) (Go.Operand.const (Go.Value.int Go.IntKind.i64 256)) 3, none⟩,
  ⟨some 13, Go.Op.convert 3 5 (Go.Operand.tmp 12), none⟩,
  ⟨some 14, Go.Op.move (Go.Operand.tmp 0), none⟩,
  ⟨some 15, Go.Op.binOp Go.BinOp.quo 3 (Go.Operand.tmp 14) (Go.Operand.const (Go.Value.int Go.IntKind.i64 16777216)) 3, none⟩,
  ⟨some 16, Go.Op.convert 3 5 (Go.Operand.tmp 15), none⟩,
  ⟨some 17, Go.Op.buildSlice 26 4 #[(0, Go.Operand.tmp 5), (1, Go.Operand.tmp 9), (2, Go.Operand.tmp 13), (3, Go.Operand.tmp 16)], none⟩,
  ⟨some 2, Go.Op.assign (Go.Operand.tmp 17), none⟩]) (.ret))
theorem ls24 : Try.f24.body.map (strip Try.prog impCodA) = some lc24 := by kernel_rfl
theorem lcall24 {args : List AV} (hargs : args.length ≤ 18) {H0 : AHeap} (lo : Nat) (hlo : H0.length ≤ lo) {r0 : AV} {H0' : AHeap}
    (h : lavc Try.prog glob lc24 (args ++ List.replicate (18 - args.length) (.v undef)) H0 fun e t H => (e = .normal ∨ e = .ret) ∧ aret Try.prog t H [Go.ResultVar.tmp 2] fun r => Fin lo H r r0 H0') :
    ACall Try.prog glob (H0.length == 0) 24 args H0 r0 H0' := LCall' ctx Try.func24 (by kernel_rfl) ls24 (by kernel_rfl) (by kernel_rfl) hargs lo hlo h
/-- escutcheon/coin.Eight -/
def lc17 : LCode := .seq (.reg []
  [⟨some 2, Go.Op.assign (Go.Operand.const (Go.Value.slice none 0 0)), none⟩]) (.seq (.reg []
  [⟨some 3, Go.Op.assign (Go.Operand.const (Go.Value.slice none 0 0)), none⟩]) (.seq (.seq (.reg []
  [⟨some 4, Go.Op.move (Go.Operand.const (Go.Value.int Go.IntKind.i64 0)), none⟩]) (.block 0 (.loop (.seq (.reg []
  [⟨some 5, Go.Op.binOp Go.BinOp.lss 3 (Go.Operand.tmp 4) (Go.Operand.const (Go.Value.int Go.IntKind.i64 8)) 3, none⟩]) (.seq (.cond (Go.Operand.tmp 5) (.skip) (.exit 0)) (.seq (.block 1 (.seq (.reg []
  [⟨some 6, Go.Op.move (Go.Operand.tmp 3), none⟩,
  ⟨some 7, Go.Op.move (Go.Operand.tmp 0), none⟩,
  ⟨some 8, Go.Op.convert 3 5 (Go.Operand.tmp 7), none⟩,
  ⟨some 9, Go.Op.buildSlice 26 1 #[(0, Go.Operand.tmp 8)], none⟩,
  ⟨some 10, Go.Op.call { callee := Go.Callee.builtin Go.Builtin.append, args := #[Go.Operand.tmp 6, Go.Operand.tmp 9], argTypes := #[26, 26] }, none⟩,
  ⟨some 3, Go.Op.assign (Go.Operand.tmp 10), none⟩]) (.reg []
  [⟨some 11, Go.Op.move (Go.Operand.tmp 0), none⟩,
  ⟨some 12, Go.Op.binOp Go.BinOp.shr 3 (Go.Operand.tmp 11) (Go.Operand.const (Go.Value.int Go.IntKind.u64 8)) 59, none⟩,
  ⟨some 0, Go.Op.assign (Go.Operand.tmp 12), none⟩]))) (.reg []
  [⟨some 13, Go.Op.binOp Go.BinOp.add 3 (Go.Operand.tmp 4) (Go.Operand.const (Go.Value.int Go.IntKind.i64 1)) 3, none⟩,
  ⟨some 4, Go.Op.move (Go.Operand.tmp 13), none⟩]))))))) (.seq (.reg []
  [⟨some 14, Go.Op.move (Go.Operand.tmp 3), none⟩,
  ⟨some 2, Go.Op.assign (Go.Operand.tmp 14), none⟩]) (.ret))))
def ms17_0 : List Nat := [0, 1, 3, 4, 5, 6, 7, 8, 9, 10, 11, 12, 13]
theorem ls17 : Try.f17.body.map (strip Try.prog impCodA) = some lc17 := by kernel_rfl
theorem lcall17 {args : List AV} (hargs : args.length ≤ 15) {H0 : AHeap} (lo : Nat) (hlo : H0.length ≤ lo) {r0 : AV} {H0' : AHeap}
    (h : lavc Try.prog glob lc17 (args ++ List.replicate (15 - args.length) (.v undef)) H0 fun e t H => (e = .normal ∨ e = .ret) ∧ aret Try.prog t H [Go.ResultVar.tmp 2] fun r => Fin lo H r r0 H0') :
    ACall Try.prog glob (H0.length == 0) 17 args H0 r0 H0' := LCall' ctx Try.func17 (by kernel_rfl) ls17 (by kernel_rfl) (by kernel_rfl) hargs lo hlo h
/-- escutcheon/escutcheonref01.Eight -/
def lc22 : LCode := .seq (.reg []
  [⟨some 2, Go.Op.assign (Go.Operand.const (Go.Value.slice none 0 0)), none⟩]) (.seq (.reg []
  [⟨some 3, Go.Op.assign (Go.Operand.const (Go.Value.slice none 0 0)), none⟩]) (.seq (.seq (.reg []
  [⟨some 4, Go.Op.assign (Go.Operand.const (Go.Value.int Go.IntKind.i64 0)), none⟩]) (.block 0 (.loop (.seq (.seq (.reg []
  [⟨some 5, Go.Op.move (Go.Operand.tmp 4), none⟩,
  ⟨some 6, Go.Op.binOp Go.BinOp.lss 3 (Go.Operand.tmp 5) (Go.Operand.const (Go.Value.int Go.IntKind.i64 8)) 3, none⟩]) (.cond (Go.Operand.tmp 6) (.skip) (.exit 0))) (.seq (.block 1 (.seq (.reg []
  [⟨some 9, Go.Op.move (Go.Operand.tmp 3), none⟩,
  ⟨some 10, Go.Op.move (Go.Operand.tmp 0), none⟩,
  ⟨some 11, Go.Op.binOp Go.BinOp.rem 3 (Go.Operand.tmp 10) (Go.Operand.const (Go.Value.int Go.IntKind.i64 256)) 3, none⟩,
  ⟨some 12, Go.Op.convert 3 5 (Go.Operand.tmp 11), none⟩,
  ⟨some 13, Go.Op.buildSlice 26 1 #[(0, Go.Operand.tmp 12)], none⟩,
  ⟨some 14, Go.Op.call { callee := Go.Callee.builtin Go.Builtin.append, args := #[Go.Operand.tmp 9, Go.Operand.tmp 13], argTypes := #[26, 26] }, none⟩,
  ⟨some 3, Go.Op.assign (Go.Operand.tmp 14), none⟩]) (.reg []
  [⟨some 15, Go.Op.move (Go.Operand.tmp 0), none⟩,
  ⟨some 16, Go.Op.binOp Go.BinOp.quo 3 (Go.Operand.tmp 15) (Go.Operand.const (Go.Value.int Go.IntKind.i64 256)) 3, none⟩,
  ⟨some 0, Go.Op.assign (Go.Operand.tmp 16), none⟩]))) (.reg []
  [⟨some 7, Go.Op.move (Go.Operand.tmp 4), none⟩,
  ⟨some 8, Go.Op.binOp Go.BinOp.add 3 (Go.Operand.tmp 7) (Go.Operand.const (Go.Value.int Go.IntKind.i64 1)) 3, none⟩,
  ⟨some 4, Go.Op.assign (Go.Operand.tmp 8), none⟩])))))) (.seq (.reg []
  [⟨some 17, Go.Op.move (Go.Operand.tmp 3), none⟩,
  ⟨some 2, Go.Op.assign (Go.Operand.tmp 17), none⟩]) (.ret))))
def ms22_0 : List Nat := [0, 1, 3, 4, 5, 6, 7, 8, 9, 10, 11, 12, 13, 14, 15, 16]
theorem ls22 : Try.f22.body.map (strip Try.prog impCodA) = some lc22 := by kernel_rfl
theorem lcall22 {args : List AV} (hargs : args.length ≤ 18) {H0 : AHeap} (lo : Nat) (hlo : H0.length ≤ lo) {r0 : AV} {H0' : AHeap}
    (h : lavc Try.prog glob lc22 (args ++ List.replicate (18 - args.length) (.v undef)) H0 fun e t H => (e = .normal ∨ e = .ret) ∧ aret Try.prog t H [Go.ResultVar.tmp 2] fun r => Fin lo H r r0 H0') :
    ACall Try.prog glob (H0.length == 0) 22 args H0 r0 H0' := LCall' ctx Try.func22 (by kernel_rfl) ls22 (by kernel_rfl) (by kernel_rfl) hargs lo hlo h
/-- (*escutcheon/chacha.words).bytes -/
def lc19 : LCode := .seq (.reg []
  [⟨some 2, Go.Op.assign (Go.Operand.const (Go.Value.slice none 0 0)), none⟩]) (.seq (.reg []
  [⟨some 3, Go.Op.assign (Go.Operand.const (Go.Value.slice none 0 0)), none⟩]) (.seq (.seq (.reg []
  [⟨some 6, Go.Op.move (Go.Operand.tmp 0), none⟩,
  ⟨some 7, Go.Op.move (Go.Operand.const (Go.Value.int Go.IntKind.i64 0)), none⟩]) (.block 0 (.loop (.seq (.reg []
  [⟨some 8, Go.Op.binOp Go.BinOp.lss 3 (Go.Operand.tmp 7) (Go.Operand.const (Go.Value.int Go.IntKind.i64 16)) 3, none⟩]) (.seq (.cond (Go.Operand.tmp 8) (.skip) (.exit 0)) (.seq (.block 1 (.seq (.reg []
  [⟨some 9, Go.Op.nilCheck (Go.Operand.tmp 6), none⟩,
  ⟨some 10, Go.Op.indexAddr 47 (Go.Operand.tmp 9) (Go.Operand.tmp 7), none⟩,
  ⟨some 11, Go.Op.load 45 (Go.Operand.tmp 10), none⟩,
  ⟨some 5, Go.Op.assign (Go.Operand.tmp 11), none⟩]) (.reg []
  [⟨some 12, Go.Op.move (Go.Operand.tmp 3), none⟩,
  ⟨some 13, Go.Op.move (Go.Operand.tmp 5), none⟩,
  ⟨some 14, Go.Op.convert 45 5 (Go.Operand.tmp 13), none⟩,
  ⟨some 15, Go.Op.move (Go.Operand.tmp 5), none⟩,
  ⟨some 16, Go.Op.binOp Go.BinOp.shr 45 (Go.Operand.tmp 15) (Go.Operand.const (Go.Value.int Go.IntKind.u64 8)) 59, none⟩,
  ⟨some 17, Go.Op.convert 45 5 (Go.Operand.tmp 16), none⟩,
  ⟨some 18, Go.Op.move (Go.Operand.tmp 5), none⟩,
  ⟨some 19, Go.Op.binOp Go.BinOp.shr 45 (Go.Operand.tmp 18) (Go.Operand.const (Go.Value.int Go.IntKind.u64 16)) 59, none⟩,
  ⟨some 20, Go.Op.convert 45 5 (Go.Operand.tmp 19), none⟩,
  ⟨some 21, Go.Op.move (Go.Operand.tmp 5), none⟩,
  ⟨some 22, Go.Op.binOp Go.BinOp.shr 45 (Go.Operand.tmp 21) (Go.Operand.const (Go.Value.int Go.IntKind.u64 24)) 59, none⟩,
  ⟨some 23, Go.Op.convert 45 5 (Go.Operand.tmp 22), none⟩,
  ⟨some 24, Go.Op.buildSlice 26 4 #[(0, Go.Operand.tmp 14), (1, Go.Operand.tmp 17), (2, Go.Operand.tmp 20), (3, Go.Operand.tmp 23)], none⟩,
  ⟨some 25, Go.Op.call { callee := Go.Callee.builtin Go.Builtin.append, args := #[Go.Operand.tmp 12, Go.Operand.tmp 24], argTypes := #[26, 26] }, none⟩,
  ⟨some 3, Go.Op.assign (Go.Operand.tmp 25), none⟩]))) (.reg []
  [⟨some 26, Go.Op.binOp Go.BinOp.add 3 (Go.Operand.tmp 7) (Go.Operand.const (Go.Value.int Go.IntKind.i64 1)) 3, none⟩,
  ⟨some 7, Go.Op.move (Go.Operand.tmp 26), none⟩]))))))) (.seq (.reg []
  [⟨some 27, Go.Op.move (Go.Operand.tmp 3), none⟩,
  ⟨some 2, Go.Op.assign (Go.Operand.tmp 27), none⟩]) (.ret))))
def ms19_0 : List Nat := [0, 1, 3, 4, 5, 7, 8, 9, 10, 11, 12, 13, 14, 15, 16, 17, 18, 19, 20, 21, 22, 23, 24, 25, 26]
theorem ls19 : Try.f19.body.map (strip Try.prog impCodA) = some lc19 := by kernel_rfl
theorem lcall19 {args : List AV} (hargs : args.length ≤ 28) {H0 : AHeap} (lo : Nat) (hlo : H0.length ≤ lo) {r0 : AV} {H0' : AHeap}
    (h : lavc Try.prog glob lc19 (args ++ List.replicate (28 - args.length) (.v undef)) H0 fun e t H => (e = .normal ∨ e = .ret) ∧ aret Try.prog t H [Go.ResultVar.tmp 2] fun r => Fin lo H r r0 H0') :
    ACall Try.prog glob (H0.length == 0) 19 args H0 r0 H0' := LCall' ctx Try.func19 (by kernel_rfl) ls19 (by kernel_rfl) (by kernel_rfl) hargs lo hlo h
/-- escutcheon/chacha.from -/
def lc16 : LCode := .seq (.reg []
  [⟨some 2, Go.Op.alloc 47, none⟩]) (.seq (.reg []
  [⟨some 3, Go.Op.alloc 47, none⟩]) (.seq (.seq (.reg []
  [⟨some 6, Go.Op.move (Go.Operand.tmp 0), none⟩,
  ⟨some 7, Go.Op.call { callee := Go.Callee.value (Go.Operand.func 20), args := #[Go.Operand.tmp 6], argTypes := #[58] }, none⟩,
  ⟨some 8, Go.Op.call { callee := Go.Callee.builtin Go.Builtin.len, args := #[Go.Operand.tmp 7], argTypes := #[26] }, none⟩,
  ⟨some 9, Go.Op.move (Go.Operand.const (Go.Value.int Go.IntKind.i64 0)), none⟩]) (.block 0 (.loop (.seq (.reg []
  [⟨some 10, Go.Op.binOp Go.BinOp.lss 3 (Go.Operand.tmp 9) (Go.Operand.tmp 8) 3, none⟩]) (.seq (.cond (Go.Operand.tmp 10) (.skip) (.exit 0)) (.seq (.block 1 (.seq (.reg []
  [⟨some 11, Go.Op.move (Go.Operand.tmp 9), none⟩,
  ⟨some 12, Go.Op.indexAddr 26 (Go.Operand.tmp 7) (Go.Operand.tmp 9), none⟩,
  ⟨some 13, Go.Op.load 5 (Go.Operand.tmp 12), none⟩,
  ⟨some 4, Go.Op.assign (Go.Operand.tmp 11), none⟩,
  ⟨some 5, Go.Op.assign (Go.Operand.tmp 13), none⟩]) (.reg [⟨some 14, Go.Op.move (Go.Operand.tmp 4), none⟩,
  ⟨some 15, Go.Op.binOp Go.BinOp.quo 3 (Go.Operand.tmp 14) (Go.Operand.const (Go.Value.int Go.IntKind.i64 4)) 3, none⟩,
  ⟨some 16, Go.Op.indexAddr 47 (Go.Operand.tmp 3) (Go.Operand.tmp 15), none⟩,
  ⟨some 17, Go.Op.load 45 (Go.Operand.tmp 16), none⟩,
  ⟨some 18, Go.Op.move (Go.Operand.tmp 5), none⟩,
  ⟨some 19, Go.Op.convert 5 45 (Go.Operand.tmp 18), none⟩,
  ⟨some 20, Go.Op.move (Go.Operand.tmp 4), none⟩,
  ⟨some 21, Go.Op.binOp Go.BinOp.rem 3 (Go.Operand.tmp 20) (Go.Operand.const (Go.Value.int Go.IntKind.i64 4)) 3, none⟩,
  ⟨some 22, Go.Op.binOp Go.BinOp.mul 3 (Go.Operand.const (Go.Value.int Go.IntKind.i64 8)) (Go.Operand.tmp 21) 3, none⟩,
  ⟨some 23, Go.Op.binOp Go.BinOp.shl 45 (Go.Operand.tmp 19) (Go.Operand.tmp 22) 3, none⟩,
  ⟨some 24, Go.Op.binOp Go.BinOp.or 45 (Go.Operand.tmp 17) (Go.Operand.tmp 23) 45, none⟩,
  ⟨some 25, Go.Op.indexAddr 47 (Go.Operand.tmp 3) (Go.Operand.tmp 15), none⟩]
  [⟨none, Go.Op.store 45 (Go.Operand.tmp 25) (Go.Operand.tmp 24), none⟩]))) (.reg []
  [⟨some 26, Go.Op.binOp Go.BinOp.add 3 (Go.Operand.tmp 9) (Go.Operand.const (Go.Value.int Go.IntKind.i64 1)) 3, none⟩,
  ⟨some 9, Go.Op.move (Go.Operand.tmp 26), none⟩]))))))) (.seq (.reg []
  [⟨some 27, Go.Op.load 47 (Go.Operand.tmp 3), none⟩,
  ⟨none, Go.Op.store 47 (Go.Operand.tmp 2) (Go.Operand.tmp 27), none⟩]) (.ret))))
def ms16_0 : List Nat := [0, 1, 4, 5, 6, 9, 10, 11, 12, 13, 14, 15, 16, 17, 18, 19, 20, 21, 22, 23, 24, 25, 26]
theorem ls16 : Try.f16.body.map (strip Try.prog impCodA) = some lc16 := by kernel_rfl
theorem lcall16 {args : List AV} (hargs : args.length ≤ 28) {H0 : AHeap} (lo : Nat) (hlo : H0.length ≤ lo) {r0 : AV} {H0' : AHeap}
    (h : lavc Try.prog glob lc16 (args ++ List.replicate (28 - args.length) (.v undef)) H0 fun e t H => (e = .normal ∨ e = .ret) ∧ aret Try.prog t H [Go.ResultVar.cell 2 47] fun r => Fin lo H r r0 H0') :
    ACall Try.prog glob (H0.length == 0) 16 args H0 r0 H0' := LCall' ctx Try.func16 (by kernel_rfl) ls16 (by kernel_rfl) (by kernel_rfl) hargs lo hlo h
/-- escutcheon/escutcheonref06.start -/
def lc21 : LCode := .seq (.reg []
  [⟨some 4, Go.Op.alloc 55, none⟩]) (.seq (.reg []
  [⟨some 5, Go.Op.buildSlice 26 16 #[(0, Go.Operand.const (Go.Value.int Go.IntKind.u8 101)), (1, Go.Operand.const (Go.Value.int Go.IntKind.u8 120)), (2, Go.Operand.const (Go.Value.int Go.IntKind.u8 112)), (3, Go.Operand.const (Go.Value.int Go.IntKind.u8 97)), (4, Go.Operand.const (Go.Value.int Go.IntKind.u8 110)), (5, Go.Operand.const (Go.Value.int Go.IntKind.u8 100)), (6, Go.Operand.const (Go.Value.int Go.IntKind.u8 32)), (7, Go.Operand.const (Go.Value.int Go.IntKind.u8 51)), (8, Go.Operand.const (Go.Value.int Go.IntKind.u8 50)), (9, Go.Operand.const (Go.Value.int Go.IntKind.u8 45)), (10, Go.Operand.const (Go.Value.int Go.IntKind.u8 98)), (11, Go.Operand.const (Go.Value.int Go.IntKind.u8 121)), (12, Go.Operand.const (Go.Value.int Go.IntKind.u8 116)), (13, Go.Operand.const (Go.Value.int Go.IntKind.u8 101)), (14, Go.Operand.const (Go.Value.int Go.IntKind.u8 32)), (15, Go.Operand.const (Go.Value.int Go.IntKind.u8 107))], none⟩,
  ⟨some 6, Go.Op.convert 26 26 (Go.Operand.tmp 5), none⟩,
  ⟨some 7, Go.Op.move (Go.Operand.tmp 0), none⟩,
  ⟨some 8, Go.Op.call { callee := Go.Callee.builtin Go.Builtin.append, args := #[Go.Operand.tmp 6, Go.Operand.tmp 7], argTypes := #[26, 26] }, none⟩,
  ⟨some 9, Go.Op.move (Go.Operand.tmp 1), none⟩,
  ⟨some 10, Go.Op.call { callee := Go.Callee.builtin Go.Builtin.append, args := #[Go.Operand.tmp 8, Go.Operand.tmp 9], argTypes := #[26, 26] }, none⟩,
  ⟨some 11, Go.Op.call { callee := Go.Callee.value (Go.Operand.func 27), args := #[Go.Operand.tmp 10], argTypes := #[26] }, none⟩,
  ⟨none, Go.Op.store 55 (Go.Operand.tmp 4) (Go.Operand.tmp 11), none⟩]) (.ret))
theorem ls21 : Try.f21.body.map (strip Try.prog impCodA) = some lc21 := by kernel_rfl
theorem lcall21 {args : List AV} (hargs : args.length ≤ 12) {H0 : AHeap} (lo : Nat) (hlo : H0.length ≤ lo) {r0 : AV} {H0' : AHeap}
    (h : lavc Try.prog glob lc21 (args ++ List.replicate (12 - args.length) (.v undef)) H0 fun e t H => (e = .normal ∨ e = .ret) ∧ aret Try.prog t H [Go.ResultVar.cell 4 55] fun r => Fin lo H r r0 H0') :
    ACall Try.prog glob (H0.length == 0) 21 args H0 r0 H0' := LCall' ctx Try.func21 (by kernel_rfl) ls21 (by kernel_rfl) (by kernel_rfl) hargs lo hlo h
/-- escutcheon/chacha.Block -/
def lc9 : LCode := .seq (.reg []
  [⟨some 3, Go.Op.box 22 (Go.Operand.tmp 0), none⟩,
  ⟨some 5, Go.Op.box 25 (Go.Operand.tmp 2), none⟩,
  ⟨some 6, Go.Op.alloc 27, none⟩]) (.seq (.reg [⟨some 10, Go.Op.buildSlice 26 16 #[(0, Go.Operand.const (Go.Value.int Go.IntKind.u8 101)), (1, Go.Operand.const (Go.Value.int Go.IntKind.u8 120)), (2, Go.Operand.const (Go.Value.int Go.IntKind.u8 112)), (3, Go.Operand.const (Go.Value.int Go.IntKind.u8 97)), (4, Go.Operand.const (Go.Value.int Go.IntKind.u8 110)), (5, Go.Operand.const (Go.Value.int Go.IntKind.u8 100)), (6, Go.Operand.const (Go.Value.int Go.IntKind.u8 32)), (7, Go.Operand.const (Go.Value.int Go.IntKind.u8 51)), (8, Go.Operand.const (Go.Value.int Go.IntKind.u8 50)), (9, Go.Operand.const (Go.Value.int Go.IntKind.u8 45)), (10, Go.Operand.const (Go.Value.int Go.IntKind.u8 98)), (11, Go.Operand.const (Go.Value.int Go.IntKind.u8 121)), (12, Go.Operand.const (Go.Value.int Go.IntKind.u8 116)), (13, Go.Operand.const (Go.Value.int Go.IntKind.u8 101)), (14, Go.Operand.const (Go.Value.int Go.IntKind.u8 32)), (15, Go.Operand.const (Go.Value.int Go.IntKind.u8 107))], none⟩,
  ⟨some 11, Go.Op.convert 26 26 (Go.Operand.tmp 10), none⟩,
  ⟨some 12, Go.Op.slice 22 (Go.Operand.tmp 3) none none none, none⟩,
  ⟨some 13, Go.Op.move (Go.Operand.tmp 1), none⟩,
  ⟨some 14, Go.Op.call { callee := Go.Callee.value (Go.Operand.func 17), args := #[Go.Operand.tmp 13], argTypes := #[3] }, none⟩,
  ⟨some 15, Go.Op.slice 25 (Go.Operand.tmp 5) none none none, none⟩,
  ⟨some 16, Go.Op.buildSlice 58 4 #[(0, Go.Operand.tmp 11), (1, Go.Operand.tmp 12), (2, Go.Operand.tmp 14), (3, Go.Operand.tmp 15)], none⟩,
  ⟨some 17, Go.Op.call { callee := Go.Callee.value (Go.Operand.func 16), args := #[Go.Operand.tmp 16], argTypes := #[58] }, none⟩,
  ⟨some 18, Go.Op.build 51 #[(0, Go.Operand.tmp 17)], none⟩,
  ⟨some 7, Go.Op.alloc 51, none⟩]
  [⟨none, Go.Op.store 51 (Go.Operand.tmp 7) (Go.Operand.tmp 18), none⟩]) (.seq (.reg []
  [⟨some 19, Go.Op.load 51 (Go.Operand.tmp 7), none⟩,
  ⟨some 20, Go.Op.call { callee := Go.Callee.value (Go.Operand.func 18), args := #[Go.Operand.tmp 19], argTypes := #[51] }, none⟩,
  ⟨some 8, Go.Op.alloc 51, none⟩,
  ⟨none, Go.Op.store 51 (Go.Operand.tmp 8) (Go.Operand.tmp 20), none⟩]) (.seq (.seq (.reg []
  [⟨some 21, Go.Op.move (Go.Operand.const (Go.Value.int Go.IntKind.i64 0)), none⟩]) (.block 0 (.loop (.seq (.reg []
  [⟨some 22, Go.Op.binOp Go.BinOp.lss 3 (Go.Operand.tmp 21) (Go.Operand.const (Go.Value.int Go.IntKind.i64 16)) 3, none⟩]) (.seq (.cond (Go.Operand.tmp 22) (.skip) (.exit 0)) (.seq (.block 1 (.seq (.reg []
  [⟨some 23, Go.Op.move (Go.Operand.tmp 21), none⟩,
  ⟨some 9, Go.Op.assign (Go.Operand.tmp 23), none⟩]) (.reg [⟨some 24, Go.Op.move (Go.Operand.tmp 9), none⟩,
  ⟨some 25, Go.Op.fieldAddr 51 (Go.Operand.tmp 8) 0, none⟩,
  ⟨some 26, Go.Op.indexAddr 47 (Go.Operand.tmp 25) (Go.Operand.tmp 24), none⟩,
  ⟨some 27, Go.Op.load 45 (Go.Operand.tmp 26), none⟩,
  ⟨some 28, Go.Op.move (Go.Operand.tmp 9), none⟩,
  ⟨some 29, Go.Op.fieldAddr 51 (Go.Operand.tmp 7) 0, none⟩,
  ⟨some 30, Go.Op.indexAddr 47 (Go.Operand.tmp 29) (Go.Operand.tmp 28), none⟩,
  ⟨some 31, Go.Op.load 45 (Go.Operand.tmp 30), none⟩,
  ⟨some 32, Go.Op.binOp Go.BinOp.add 45 (Go.Operand.tmp 27) (Go.Operand.tmp 31) 45, none⟩,
  ⟨some 33, Go.Op.fieldAddr 51 (Go.Operand.tmp 8) 0, none⟩,
  ⟨some 34, Go.Op.indexAddr 47 (Go.Operand.tmp 33) (Go.Operand.tmp 24), none⟩]
  [⟨none, Go.Op.store 45 (Go.Operand.tmp 34) (Go.Operand.tmp 32), none⟩]))) (.reg []
  [⟨some 35, Go.Op.binOp Go.BinOp.add 3 (Go.Operand.tmp 21) (Go.Operand.const (Go.Value.int Go.IntKind.i64 1)) 3, none⟩,
  ⟨some 21, Go.Op.move (Go.Operand.tmp 35), none⟩]))))))) (.seq (.reg []
  [⟨some 36, Go.Op.fieldAddr 51 (Go.Operand.tmp 8) 0, none⟩,
  ⟨some 37, Go.Op.call { callee := Go.Callee.value (Go.Operand.func 19), args := #[Go.Operand.tmp 36], argTypes := #[47] }, none⟩,
  ⟨some 38, Go.Op.sliceToArrayPointer 27 (Go.Operand.tmp 37), none⟩,
  ⟨some 39, Go.Op.load 27 (Go.Operand.tmp 38), none⟩,
  ⟨none, Go.Op.store 27 (Go.Operand.tmp 6) (Go.Operand.tmp 39), none⟩]) (.ret)))))
def ms9_0 : List Nat := [0, 1, 2, 3, 4, 5, 9, 10, 11, 12, 13, 14, 15, 16, 17, 18, 19, 20, 21, 22, 23, 24, 25, 26, 27, 28, 29, 30, 31, 32, 33, 34, 35]
theorem ls9 : Try.f9.body.map (strip Try.prog impCodA) = some lc9 := by kernel_rfl
theorem lcall9 {args : List AV} (hargs : args.length ≤ 40) {H0 : AHeap} (lo : Nat) (hlo : H0.length ≤ lo) {r0 : AV} {H0' : AHeap}
    (h : lavc Try.prog glob lc9 (args ++ List.replicate (40 - args.length) (.v undef)) H0 fun e t H => (e = .normal ∨ e = .ret) ∧ aret Try.prog t H [Go.ResultVar.cell 6 27] fun r => Fin lo H r r0 H0') :
    ACall Try.prog glob (H0.length == 0) 9 args H0 r0 H0' := LCall' ctx Try.func9 (by kernel_rfl) ls9 (by kernel_rfl) (by kernel_rfl) hargs lo hlo h
/-- escutcheon/escutcheonref06.Block -/
def lc11 : LCode := .seq (.reg []
  [⟨some 6, Go.Op.assign (Go.Operand.const (Go.Value.slice none 0 0)), none⟩]) (.seq (.reg []
  [⟨some 11, Go.Op.move (Go.Operand.tmp 0), none⟩,
  ⟨some 12, Go.Op.move (Go.Operand.tmp 1), none⟩,
  ⟨some 13, Go.Op.call { callee := Go.Callee.value (Go.Operand.func 22), args := #[Go.Operand.tmp 12], argTypes := #[3] }, none⟩,
  ⟨some 14, Go.Op.move (Go.Operand.tmp 2), none⟩,
  ⟨some 15, Go.Op.call { callee := Go.Callee.builtin Go.Builtin.append, args := #[Go.Operand.tmp 13, Go.Operand.tmp 14], argTypes := #[26, 26] }, none⟩,
  ⟨some 16, Go.Op.call { callee := Go.Callee.value (Go.Operand.func 21), args := #[Go.Operand.tmp 11, Go.Operand.tmp 15], argTypes := #[26, 26] }, none⟩,
  ⟨some 7, Go.Op.alloc 55, none⟩,
  ⟨none, Go.Op.store 55 (Go.Operand.tmp 7) (Go.Operand.tmp 16), none⟩]) (.seq (.reg []
  [⟨some 17, Go.Op.load 55 (Go.Operand.tmp 7), none⟩,
  ⟨some 18, Go.Op.call { callee := Go.Callee.value (Go.Operand.func 23), args := #[Go.Operand.tmp 17], argTypes := #[55] }, none⟩,
  ⟨some 8, Go.Op.alloc 55, none⟩,
  ⟨none, Go.Op.store 55 (Go.Operand.tmp 8) (Go.Operand.tmp 18), none⟩]) (.seq (.reg []
  [⟨some 9, Go.Op.assign (Go.Operand.const (Go.Value.slice none 0 0)), none⟩]) (.seq (.seq (.reg []
  [⟨some 19, Go.Op.move (Go.Operand.const (Go.Value.int Go.IntKind.i64 0)), none⟩]) (.block 0 (.loop (.seq (.reg []
  [⟨some 20, Go.Op.binOp Go.BinOp.lss 3 (Go.Operand.tmp 19) (Go.Operand.const (Go.Value.int Go.IntKind.i64 16)) 3, none⟩]) (.seq (.cond (Go.Operand.tmp 20) (.skip) (.exit 0)) (.seq (.block 1 (.seq (.reg []
  [⟨some 21, Go.Op.move (Go.Operand.tmp 19), none⟩,
  ⟨some 10, Go.Op.assign (Go.Operand.tmp 21), none⟩]) (.reg [⟨some 22, Go.Op.move (Go.Operand.tmp 9), none⟩,
  ⟨some 23, Go.Op.move (Go.Operand.tmp 10), none⟩,
  ⟨some 24, Go.Op.indexAddr 55 (Go.Operand.tmp 7) (Go.Operand.tmp 23), none⟩,
  ⟨some 25, Go.Op.load 3 (Go.Operand.tmp 24), none⟩,
  ⟨some 26, Go.Op.move (Go.Operand.tmp 10), none⟩,
  ⟨some 27, Go.Op.indexAddr 55 (Go.Operand.tmp 8) (Go.Operand.tmp 26), none⟩,
  ⟨some 28, Go.Op.load 3 (Go.Operand.tmp 27), none⟩,
  ⟨some 29, Go.Op.binOp Go.BinOp.add 3 (Go.Operand.tmp 25) (Go.Operand.tmp 28) 3, none⟩,
  ⟨some 30, Go.Op.binOp Go.BinOp.rem 3 (Go.Operand.tmp 29) (Go.Operand.const (Go.Value.int Go.IntKind.i64 4294967296)) 3, none⟩,
  ⟨some 31, Go.Op.call { callee := Go.Callee.value (Go.Operand.func 24), args := #[Go.Operand.tmp 30], argTypes := #[3] }, none⟩]
  [⟨some 32, Go.Op.call { callee := Go.Callee.builtin Go.Builtin.append, args := #[Go.Operand.tmp 22, Go.Operand.tmp 31], argTypes := #[26, 26] }, none⟩,
  ⟨some 9, Go.Op.assign (Go.Operand.tmp 32), none⟩]))) (.reg []
  [⟨some 33, Go.Op.binOp Go.BinOp.add 3 (Go.Operand.tmp 19) (Go.Operand.const (Go.Value.int Go.IntKind.i64 1)) 3, none⟩,
  ⟨some 19, Go.Op.move (Go.Operand.tmp 33), none⟩]))))))) (.seq (.reg []
  [⟨some 34, Go.Op.move (Go.Operand.tmp 9), none⟩,
  ⟨some 6, Go.Op.assign (Go.Operand.tmp 34), none⟩]) (.ret))))))
def ms11_0 : List Nat := [0, 1, 2, 3, 4, 5, 9, 10, 11, 12, 13, 14, 15, 16, 17, 18, 19, 20, 21, 22, 23, 24, 25, 26, 27, 28, 29, 30, 31, 32, 33]
theorem ls11 : Try.f11.body.map (strip Try.prog impCodA) = some lc11 := by kernel_rfl
theorem lcall11 {args : List AV} (hargs : args.length ≤ 35) {H0 : AHeap} (lo : Nat) (hlo : H0.length ≤ lo) {r0 : AV} {H0' : AHeap}
    (h : lavc Try.prog glob lc11 (args ++ List.replicate (35 - args.length) (.v undef)) H0 fun e t H => (e = .normal ∨ e = .ret) ∧ aret Try.prog t H [Go.ResultVar.tmp 6] fun r => Fin lo H r r0 H0') :
    ACall Try.prog glob (H0.length == 0) 11 args H0 r0 H0' := LCall' ctx Try.func11 (by kernel_rfl) ls11 (by kernel_rfl) (by kernel_rfl) hargs lo hlo h
/-- escutcheon/chacha.Short -/
def lc10 : LCode := .seq (.reg []
  [⟨some 2, Go.Op.box 22 (Go.Operand.tmp 0), none⟩,
  ⟨some 3, Go.Op.box 23 (Go.Operand.tmp 1), none⟩,
  ⟨some 4, Go.Op.alloc 22, none⟩]) (.seq (.reg [⟨some 7, Go.Op.buildSlice 26 16 #[(0, Go.Operand.const (Go.Value.int Go.IntKind.u8 101)), (1, Go.Operand.const (Go.Value.int Go.IntKind.u8 120)), (2, Go.Operand.const (Go.Value.int Go.IntKind.u8 112)), (3, Go.Operand.const (Go.Value.int Go.IntKind.u8 97)), (4, Go.Operand.const (Go.Value.int Go.IntKind.u8 110)), (5, Go.Operand.const (Go.Value.int Go.IntKind.u8 100)), (6, Go.Operand.const (Go.Value.int Go.IntKind.u8 32)), (7, Go.Operand.const (Go.Value.int Go.IntKind.u8 51)), (8, Go.Operand.const (Go.Value.int Go.IntKind.u8 50)), (9, Go.Operand.const (Go.Value.int Go.IntKind.u8 45)), (10, Go.Operand.const (Go.Value.int Go.IntKind.u8 98)), (11, Go.Operand.const (Go.Value.int Go.IntKind.u8 121)), (12, Go.Operand.const (Go.Value.int Go.IntKind.u8 116)), (13, Go.Operand.const (Go.Value.int Go.IntKind.u8 101)), (14, Go.Operand.const (Go.Value.int Go.IntKind.u8 32)), (15, Go.Operand.const (Go.Value.int Go.IntKind.u8 107))], none⟩,
  ⟨some 8, Go.Op.convert 26 26 (Go.Operand.tmp 7), none⟩,
  ⟨some 9, Go.Op.slice 22 (Go.Operand.tmp 2) none none none, none⟩,
  ⟨some 10, Go.Op.slice 23 (Go.Operand.tmp 3) none none none, none⟩,
  ⟨some 11, Go.Op.buildSlice 58 3 #[(0, Go.Operand.tmp 8), (1, Go.Operand.tmp 9), (2, Go.Operand.tmp 10)], none⟩,
  ⟨some 12, Go.Op.call { callee := Go.Callee.value (Go.Operand.func 16), args := #[Go.Operand.tmp 11], argTypes := #[58] }, none⟩,
  ⟨some 13, Go.Op.build 51 #[(0, Go.Operand.tmp 12)], none⟩,
  ⟨some 14, Go.Op.call { callee := Go.Callee.value (Go.Operand.func 18), args := #[Go.Operand.tmp 13], argTypes := #[51] }, none⟩,
  ⟨some 5, Go.Op.alloc 51, none⟩]
  [⟨none, Go.Op.store 51 (Go.Operand.tmp 5) (Go.Operand.tmp 14), none⟩]) (.seq (.reg []
  [⟨some 15, Go.Op.fieldAddr 51 (Go.Operand.tmp 5) 0, none⟩,
  ⟨some 16, Go.Op.call { callee := Go.Callee.value (Go.Operand.func 19), args := #[Go.Operand.tmp 15], argTypes := #[47] }, none⟩,
  ⟨some 6, Go.Op.assign (Go.Operand.tmp 16), none⟩]) (.seq (.reg [⟨some 17, Go.Op.move (Go.Operand.tmp 6), none⟩,
  ⟨some 18, Go.Op.slice 26 (Go.Operand.tmp 17) none (some (Go.Operand.const (Go.Value.int Go.IntKind.i64 16))) none, none⟩,
  ⟨some 19, Go.Op.move (Go.Operand.tmp 6), none⟩,
  ⟨some 20, Go.Op.slice 26 (Go.Operand.tmp 19) (some (Go.Operand.const (Go.Value.int Go.IntKind.i64 48))) none none, none⟩,
  ⟨some 21, Go.Op.buildSlice 58 2 #[(0, Go.Operand.tmp 18), (1, Go.Operand.tmp 20)], none⟩,
  ⟨some 22, Go.Op.call { callee := Go.Callee.value (Go.Operand.func 20), args := #[Go.Operand.tmp 21], argTypes := #[58] }, none⟩,
  ⟨some 23, Go.Op.sliceToArrayPointer 22 (Go.Operand.tmp 22), none⟩,
  ⟨some 24, Go.Op.load 22 (Go.Operand.tmp 23), none⟩]
  [⟨none, Go.Op.store 22 (Go.Operand.tmp 4) (Go.Operand.tmp 24), none⟩]) (.ret))))
theorem ls10 : Try.f10.body.map (strip Try.prog impCodA) = some lc10 := by kernel_rfl
theorem lcall10 {args : List AV} (hargs : args.length ≤ 25) {H0 : AHeap} (lo : Nat) (hlo : H0.length ≤ lo) {r0 : AV} {H0' : AHeap}
    (h : lavc Try.prog glob lc10 (args ++ List.replicate (25 - args.length) (.v undef)) H0 fun e t H => (e = .normal ∨ e = .ret) ∧ aret Try.prog t H [Go.ResultVar.cell 4 22] fun r => Fin lo H r r0 H0') :
    ACall Try.prog glob (H0.length == 0) 10 args H0 r0 H0' := LCall' ctx Try.func10 (by kernel_rfl) ls10 (by kernel_rfl) (by kernel_rfl) hargs lo hlo h
/-- escutcheon/escutcheonref06.Short -/
def lc12 : LCode := .seq (.reg []
  [⟨some 4, Go.Op.assign (Go.Operand.const (Go.Value.slice none 0 0)), none⟩]) (.seq (.reg []
  [⟨some 8, Go.Op.move (Go.Operand.tmp 0), none⟩,
  ⟨some 9, Go.Op.move (Go.Operand.tmp 1), none⟩,
  ⟨some 10, Go.Op.call { callee := Go.Callee.value (Go.Operand.func 21), args := #[Go.Operand.tmp 8, Go.Operand.tmp 9], argTypes := #[26, 26] }, none⟩,
  ⟨some 11, Go.Op.call { callee := Go.Callee.value (Go.Operand.func 23), args := #[Go.Operand.tmp 10], argTypes := #[55] }, none⟩,
  ⟨some 5, Go.Op.alloc 55, none⟩,
  ⟨none, Go.Op.store 55 (Go.Operand.tmp 5) (Go.Operand.tmp 11), none⟩]) (.seq (.reg []
  [⟨some 6, Go.Op.assign (Go.Operand.const (Go.Value.slice none 0 0)), none⟩]) (.seq (.seq (.reg []
  [⟨some 12, Go.Op.move (Go.Operand.const (Go.Value.int Go.IntKind.i64 0)), none⟩]) (.block 0 (.loop (.seq (.reg []
  [⟨some 13, Go.Op.binOp Go.BinOp.lss 3 (Go.Operand.tmp 12) (Go.Operand.const (Go.Value.int Go.IntKind.i64 16)) 3, none⟩]) (.seq (.cond (Go.Operand.tmp 13) (.skip) (.exit 0)) (.seq (.block 1 (.seq (.reg []
  [⟨some 14, Go.Op.move (Go.Operand.tmp 12), none⟩,
  ⟨some 7, Go.Op.assign (Go.Operand.tmp 14), none⟩]) (.seq (.reg []
  [⟨some 15, Go.Op.move (Go.Operand.tmp 7), none⟩,
  ⟨some 16, Go.Op.binOp Go.BinOp.lss 3 (Go.Operand.tmp 15) (Go.Operand.const (Go.Value.int Go.IntKind.i64 4)) 3, none⟩,
  ⟨some 17, Go.Op.move (Go.Operand.tmp 16), none⟩,
  ⟨some 18, Go.Op.move (Go.Operand.tmp 7), (some (17, false))⟩,
  ⟨some 19, Go.Op.binOp Go.BinOp.geq 3 (Go.Operand.tmp 18) (Go.Operand.const (Go.Value.int Go.IntKind.i64 12)) 3, (some (17, false))⟩,
  ⟨some 20, Go.Op.pick (Go.Operand.tmp 17) (Go.Operand.const (Go.Value.bool true)) (Go.Operand.tmp 19), none⟩]) (.cond (Go.Operand.tmp 20) (.reg []
  [⟨some 21, Go.Op.move (Go.Operand.tmp 6), none⟩,
  ⟨some 22, Go.Op.move (Go.Operand.tmp 7), none⟩,
  ⟨some 23, Go.Op.indexAddr 55 (Go.Operand.tmp 5) (Go.Operand.tmp 22), none⟩,
  ⟨some 24, Go.Op.load 3 (Go.Operand.tmp 23), none⟩,
  ⟨some 25, Go.Op.call { callee := Go.Callee.value (Go.Operand.func 24), args := #[Go.Operand.tmp 24], argTypes := #[3] }, none⟩,
  ⟨some 26, Go.Op.call { callee := Go.Callee.builtin Go.Builtin.append, args := #[Go.Operand.tmp 21, Go.Operand.tmp 25], argTypes := #[26, 26] }, none⟩,
  ⟨some 6, Go.Op.assign (Go.Operand.tmp 26), none⟩]) (.skip))))) (.reg []
  [⟨some 27, Go.Op.binOp Go.BinOp.add 3 (Go.Operand.tmp 12) (Go.Operand.const (Go.Value.int Go.IntKind.i64 1)) 3, none⟩,
  ⟨some 12, Go.Op.move (Go.Operand.tmp 27), none⟩]))))))) (.seq (.reg []
  [⟨some 28, Go.Op.move (Go.Operand.tmp 6), none⟩,
  ⟨some 4, Go.Op.assign (Go.Operand.tmp 28), none⟩]) (.ret)))))
def ms12_0 : List Nat := [0, 1, 2, 3, 6, 7, 8, 9, 10, 11, 12, 13, 14, 15, 16, 17, 18, 19, 20, 21, 22, 23, 24, 25, 26, 27]
theorem ls12 : Try.f12.body.map (strip Try.prog impCodA) = some lc12 := by kernel_rfl
theorem lcall12 {args : List AV} (hargs : args.length ≤ 29) {H0 : AHeap} (lo : Nat) (hlo : H0.length ≤ lo) {r0 : AV} {H0' : AHeap}
    (h : lavc Try.prog glob lc12 (args ++ List.replicate (29 - args.length) (.v undef)) H0 fun e t H => (e = .normal ∨ e = .ret) ∧ aret Try.prog t H [Go.ResultVar.tmp 4] fun r => Fin lo H r r0 H0') :
    ACall Try.prog glob (H0.length == 0) 12 args H0 r0 H0' := LCall' ctx Try.func12 (by kernel_rfl) ls12 (by kernel_rfl) (by kernel_rfl) hargs lo hlo h
/-- slices.Concat[[]byte,byte] -/
def lc20 : LCode := .seq (.reg []
  [⟨some 2, Go.Op.assign (Go.Operand.const (Go.Value.slice none 0 0)), none⟩]) (.seq (.reg []
  [⟨some 3, Go.Op.assign (Go.Operand.const (Go.Value.int Go.IntKind.i64 0)), none⟩]) (.seq (.seq (.reg []
  [⟨some 9, Go.Op.move (Go.Operand.tmp 0), none⟩,
  ⟨some 10, Go.Op.call { callee := Go.Callee.builtin Go.Builtin.len, args := #[Go.Operand.tmp 9], argTypes := #[58] }, none⟩,
  ⟨some 11, Go.Op.move (Go.Operand.const (Go.Value.int Go.IntKind.i64 0)), none⟩]) (.block 0 (.loop (.seq (.reg []
  [⟨some 12, Go.Op.binOp Go.BinOp.lss 3 (Go.Operand.tmp 11) (Go.Operand.tmp 10) 3, none⟩]) (.seq (.cond (Go.Operand.tmp 12) (.skip) (.exit 0)) (.seq (.block 1 (.seq (.reg []
  [⟨some 13, Go.Op.indexAddr 58 (Go.Operand.tmp 9) (Go.Operand.tmp 11), none⟩,
  ⟨some 14, Go.Op.load 26 (Go.Operand.tmp 13), none⟩,
  ⟨some 5, Go.Op.assign (Go.Operand.tmp 14), none⟩]) (.seq (.reg []
  [⟨some 15, Go.Op.move (Go.Operand.tmp 3), none⟩,
  ⟨some 16, Go.Op.move (Go.Operand.tmp 5), none⟩,
  ⟨some 17, Go.Op.call { callee := Go.Callee.builtin Go.Builtin.len, args := #[Go.Operand.tmp 16], argTypes := #[26] }, none⟩,
  ⟨some 18, Go.Op.binOp Go.BinOp.add 3 (Go.Operand.tmp 15) (Go.Operand.tmp 17) 3, none⟩,
  ⟨some 3, Go.Op.assign (Go.Operand.tmp 18), none⟩]) (.seq (.reg []
  [⟨some 19, Go.Op.move (Go.Operand.tmp 3), none⟩,
  ⟨some 20, Go.Op.binOp Go.BinOp.lss 3 (Go.Operand.tmp 19) (Go.Operand.const (Go.Value.int Go.IntKind.i64 0)) 3, none⟩]) (.cond (Go.Operand.tmp 20) (.reg []
  [⟨some 21, Go.Op.makeInterface 9 (Go.Operand.const (Go.Value.string { data := #[108, 101, 110, 32, 111, 117, 116, 32, 111, 102, 32, 114, 97, 110, 103, 101] })), none⟩,
  ⟨none, Go.Op.panic (Go.Operand.tmp 21), none⟩]) (.skip)))))) (.reg []
  [⟨some 22, Go.Op.binOp Go.BinOp.add 3 (Go.Operand.tmp 11) (Go.Operand.const (Go.Value.int Go.IntKind.i64 1)) 3, none⟩,
  ⟨some 11, Go.Op.move (Go.Operand.tmp 22), none⟩]))))))) (.seq (.reg []
  [⟨some 23, Go.Op.move (Go.Operand.tmp 3), none⟩,
  ⟨some 24, Go.Op.call { callee := Go.Callee.value (Go.Operand.func 26), args := #[Go.Operand.const (Go.Value.slice none 0 0), Go.Operand.tmp 23], argTypes := #[26, 3] }, none⟩,
  ⟨some 6, Go.Op.assign (Go.Operand.tmp 24), none⟩]) (.seq (.seq (.reg []
  [⟨some 25, Go.Op.move (Go.Operand.tmp 0), none⟩,
  ⟨some 26, Go.Op.call { callee := Go.Callee.builtin Go.Builtin.len, args := #[Go.Operand.tmp 25], argTypes := #[58] }, none⟩,
  ⟨some 27, Go.Op.move (Go.Operand.const (Go.Value.int Go.IntKind.i64 0)), none⟩]) (.block 2 (.loop (.seq (.reg []
  [⟨some 28, Go.Op.binOp Go.BinOp.lss 3 (Go.Operand.tmp 27) (Go.Operand.tmp 26) 3, none⟩]) (.seq (.cond (Go.Operand.tmp 28) (.skip) (.exit 2)) (.seq (.block 3 (.seq (.reg []
  [⟨some 29, Go.Op.indexAddr 58 (Go.Operand.tmp 25) (Go.Operand.tmp 27), none⟩,
  ⟨some 30, Go.Op.load 26 (Go.Operand.tmp 29), none⟩,
  ⟨some 8, Go.Op.assign (Go.Operand.tmp 30), none⟩]) (.reg []
  [⟨some 31, Go.Op.move (Go.Operand.tmp 6), none⟩,
  ⟨some 32, Go.Op.move (Go.Operand.tmp 8), none⟩,
  ⟨some 33, Go.Op.call { callee := Go.Callee.builtin Go.Builtin.append, args := #[Go.Operand.tmp 31, Go.Operand.tmp 32], argTypes := #[26, 26] }, none⟩,
  ⟨some 6, Go.Op.assign (Go.Operand.tmp 33), none⟩]))) (.reg []
  [⟨some 34, Go.Op.binOp Go.BinOp.add 3 (Go.Operand.tmp 27) (Go.Operand.const (Go.Value.int Go.IntKind.i64 1)) 3, none⟩,
  ⟨some 27, Go.Op.move (Go.Operand.tmp 34), none⟩]))))))) (.seq (.reg []
  [⟨some 35, Go.Op.move (Go.Operand.tmp 6), none⟩,
  ⟨some 2, Go.Op.assign (Go.Operand.tmp 35), none⟩]) (.ret))))))
def ms20_0 : List Nat := [1, 3, 4, 5, 7, 11, 12, 13, 14, 15, 16, 17, 18, 19, 20, 21, 22]
def ms20_1 : List Nat := [0, 1, 3, 4, 5, 6, 7, 8, 9, 10, 11, 12, 13, 14, 15, 16, 17, 18, 19, 20, 21, 22, 23, 24, 27, 28, 29, 30, 31, 32, 33, 34]
theorem ls20 : Try.f20.body.map (strip Try.prog impCodA) = some lc20 := by kernel_rfl
theorem lcall20 {args : List AV} (hargs : args.length ≤ 36) {H0 : AHeap} (lo : Nat) (hlo : H0.length ≤ lo) {r0 : AV} {H0' : AHeap}
    (h : lavc Try.prog glob lc20 (args ++ List.replicate (36 - args.length) (.v undef)) H0 fun e t H => (e = .normal ∨ e = .ret) ∧ aret Try.prog t H [Go.ResultVar.tmp 2] fun r => Fin lo H r r0 H0') :
    ACall Try.prog glob (H0.length == 0) 20 args H0 r0 H0' := LCall' ctx Try.func20 (by kernel_rfl) ls20 (by kernel_rfl) (by kernel_rfl) hargs lo hlo h
/-- slices.Grow[[]byte,byte] -/
def lc26 : LCode := .seq (.reg []
  [⟨some 4, Go.Op.assign (Go.Operand.const (Go.Value.slice none 0 0)), none⟩]) (.seq (.seq (.reg []
  [⟨some 5, Go.Op.move (Go.Operand.tmp 1), none⟩,
  ⟨some 6, Go.Op.binOp Go.BinOp.lss 3 (Go.Operand.tmp 5) (Go.Operand.const (Go.Value.int Go.IntKind.i64 0)) 3, none⟩]) (.cond (Go.Operand.tmp 6) (.reg []
  [⟨some 7, Go.Op.makeInterface 9 (Go.Operand.const (Go.Value.string { data := #[99, 97, 110, 110, 111, 116, 32, 98, 101, 32, 110, 101, 103, 97, 116, 105, 118, 101] })), none⟩,
  ⟨none, Go.Op.panic (Go.Operand.tmp 7), none⟩]) (.skip))) (.seq (.seq (.reg []
  [⟨some 8, Go.Op.move (Go.Operand.tmp 1), none⟩,
  ⟨some 9, Go.Op.move (Go.Operand.tmp 0), none⟩,
  ⟨some 10, Go.Op.call { callee := Go.Callee.builtin Go.Builtin.cap, args := #[Go.Operand.tmp 9], argTypes := #[26] }, none⟩,
  ⟨some 11, Go.Op.move (Go.Operand.tmp 0), none⟩,
  ⟨some 12, Go.Op.call { callee := Go.Callee.builtin Go.Builtin.len, args := #[Go.Operand.tmp 11], argTypes := #[26] }, none⟩,
  ⟨some 13, Go.Op.binOp Go.BinOp.sub 3 (Go.Operand.tmp 10) (Go.Operand.tmp 12) 3, none⟩,
  ⟨some 14, Go.Op.binOp Go.BinOp.sub 3 (Go.Operand.tmp 8) (Go.Operand.tmp 13) 3, none⟩,
  ⟨some 1, Go.Op.assign (Go.Operand.tmp 14), none⟩]) (.seq (.reg []
  [⟨some 15, Go.Op.move (Go.Operand.tmp 1), none⟩,
  ⟨some 16, Go.Op.binOp Go.BinOp.gtr 3 (Go.Operand.tmp 15) (Go.Operand.const (Go.Value.int Go.IntKind.i64 0)) 3, none⟩]) (.cond (Go.Operand.tmp 16) (.reg []
  [⟨some 17, Go.Op.move (Go.Operand.tmp 0), none⟩,
  ⟨some 18, Go.Op.move (Go.Operand.tmp 0), none⟩,
  ⟨some 19, Go.Op.call { callee := Go.Callee.builtin Go.Builtin.cap, args := #[Go.Operand.tmp 18], argTypes := #[26] }, none⟩,
  ⟨some 20, Go.Op.slice 26 (Go.Operand.tmp 17) none (some (Go.Operand.tmp 19)) none, none⟩,
  ⟨some 21, Go.Op.move (Go.Operand.tmp 1), none⟩,
  ⟨some 22, Go.Op.call { callee := Go.Callee.builtin Go.Builtin.append, args := #[Go.Operand.tmp 20, Go.Operand.tmp 21], argTypes := #[26, 3] }, none⟩,
  ⟨some 23, Go.Op.move (Go.Operand.tmp 0), none⟩,
  ⟨some 24, Go.Op.call { callee := Go.Callee.builtin Go.Builtin.len, args := #[Go.Operand.tmp 23], argTypes := #[26] }, none⟩,
  ⟨some 25, Go.Op.slice 26 (Go.Operand.tmp 22) none (some (Go.Operand.tmp 24)) none, none⟩,
  ⟨some 0, Go.Op.assign (Go.Operand.tmp 25), none⟩]) (.skip)))) (.seq (.reg []
  [⟨some 26, Go.Op.move (Go.Operand.tmp 0), none⟩,
  ⟨some 4, Go.Op.assign (Go.Operand.tmp 26), none⟩]) (.ret))))
theorem ls26 : Try.f26.body.map (strip Try.prog impCodA) = some lc26 := by kernel_rfl
theorem lcall26 {args : List AV} (hargs : args.length ≤ 27) {H0 : AHeap} (lo : Nat) (hlo : H0.length ≤ lo) {r0 : AV} {H0' : AHeap}
    (h : lavc Try.prog glob lc26 (args ++ List.replicate (27 - args.length) (.v undef)) H0 fun e t H => (e = .normal ∨ e = .ret) ∧ aret Try.prog t H [Go.ResultVar.tmp 4] fun r => Fin lo H r r0 H0') :
    ACall Try.prog glob (H0.length == 0) 26 args H0 r0 H0' := LCall' ctx Try.func26 (by kernel_rfl) ls26 (by kernel_rfl) (by kernel_rfl) hargs lo hlo h
/-- escutcheon/chacha.Stream -/
def lc13 : LCode := .seq (.reg []
  [⟨some 6, Go.Op.assign (Go.Operand.const (Go.Value.slice none 0 0)), none⟩,
  ⟨some 7, Go.Op.assign (Go.Operand.const (Go.Value.int Go.IntKind.i64 0)), none⟩]) (.seq (.seq (.reg []
  [⟨some 12, Go.Op.move (Go.Operand.tmp 0), none⟩,
  ⟨some 13, Go.Op.call { callee := Go.Callee.builtin Go.Builtin.len, args := #[Go.Operand.tmp 12], argTypes := #[26] }, none⟩,
  ⟨some 14, Go.Op.binOp Go.BinOp.neq 3 (Go.Operand.tmp 13) (Go.Operand.const (Go.Value.int Go.IntKind.i64 32)) 3, none⟩,
  ⟨some 15, Go.Op.move (Go.Operand.tmp 14), none⟩,
  ⟨some 16, Go.Op.move (Go.Operand.tmp 1), (some (15, false))⟩,
  ⟨some 17, Go.Op.call { callee := Go.Callee.builtin Go.Builtin.len, args := #[Go.Operand.tmp 16], argTypes := #[26] }, (some (15, false))⟩,
  ⟨some 18, Go.Op.binOp Go.BinOp.neq 3 (Go.Operand.tmp 17) (Go.Operand.const (Go.Value.int Go.IntKind.i64 24)) 3, (some (15, false))⟩,
  ⟨some 19, Go.Op.pick (Go.Operand.tmp 15) (Go.Operand.const (Go.Value.bool true)) (Go.Operand.tmp 18), none⟩]) (.cond (Go.Operand.tmp 19) (.seq (.reg []
  [⟨some 6, Go.Op.assign (Go.Operand.const (Go.Value.slice none 0 0)), none⟩,
  ⟨some 7, Go.Op.assign (Go.Operand.const (Go.Value.int Go.IntKind.i64 3)), none⟩]) (.ret)) (.skip))) (.seq (.reg [⟨some 20, Go.Op.move (Go.Operand.tmp 0), none⟩,
  ⟨some 21, Go.Op.sliceToArrayPointer 22 (Go.Operand.tmp 20), none⟩,
  ⟨some 22, Go.Op.load 22 (Go.Operand.tmp 21), none⟩,
  ⟨some 23, Go.Op.move (Go.Operand.tmp 1), none⟩,
  ⟨some 24, Go.Op.slice 26 (Go.Operand.tmp 23) none (some (Go.Operand.const (Go.Value.int Go.IntKind.i64 16))) none, none⟩,
  ⟨some 25, Go.Op.sliceToArrayPointer 23 (Go.Operand.tmp 24), none⟩,
  ⟨some 26, Go.Op.load 23 (Go.Operand.tmp 25), none⟩,
  ⟨some 27, Go.Op.call { callee := Go.Callee.value (Go.Operand.func 10), args := #[Go.Operand.tmp 22, Go.Operand.tmp 26], argTypes := #[22, 23] }, none⟩,
  ⟨some 8, Go.Op.alloc 22, none⟩]
  [⟨none, Go.Op.store 22 (Go.Operand.tmp 8) (Go.Operand.tmp 27), none⟩]) (.seq (.reg []
  [⟨some 9, Go.Op.assign (Go.Operand.const (Go.Value.slice none 0 0)), none⟩]) (.seq (.seq (.reg []
  [⟨some 10, Go.Op.assign (Go.Operand.const (Go.Value.int Go.IntKind.i64 0)), none⟩]) (.block 0 (.loop (.seq (.seq (.reg []
  [⟨some 28, Go.Op.move (Go.Operand.tmp 9), none⟩,
  ⟨some 29, Go.Op.call { callee := Go.Callee.builtin Go.Builtin.len, args := #[Go.Operand.tmp 28], argTypes := #[26] }, none⟩,
  ⟨some 30, Go.Op.move (Go.Operand.tmp 2), none⟩,
  ⟨some 31, Go.Op.binOp Go.BinOp.lss 3 (Go.Operand.tmp 29) (Go.Operand.tmp 30) 3, none⟩]) (.cond (Go.Operand.tmp 31) (.skip) (.exit 0))) (.seq (.block 1 (.seq (.reg [⟨some 34, Go.Op.load 22 (Go.Operand.tmp 8), none⟩,
  ⟨some 35, Go.Op.move (Go.Operand.tmp 10), none⟩,
  ⟨some 36, Go.Op.move (Go.Operand.tmp 1), none⟩,
  ⟨some 37, Go.Op.slice 26 (Go.Operand.tmp 36) (some (Go.Operand.const (Go.Value.int Go.IntKind.i64 16))) none none, none⟩,
  ⟨some 38, Go.Op.sliceToArrayPointer 25 (Go.Operand.tmp 37), none⟩,
  ⟨some 39, Go.Op.load 25 (Go.Operand.tmp 38), none⟩,
  ⟨some 40, Go.Op.call { callee := Go.Callee.value (Go.Operand.func 9), args := #[Go.Operand.tmp 34, Go.Operand.tmp 35, Go.Operand.tmp 39], argTypes := #[22, 3, 25] }, none⟩,
  ⟨some 11, Go.Op.alloc 27, none⟩]
  [⟨none, Go.Op.store 27 (Go.Operand.tmp 11) (Go.Operand.tmp 40), none⟩]) (.reg []
  [⟨some 41, Go.Op.move (Go.Operand.tmp 9), none⟩,
  ⟨some 42, Go.Op.slice 27 (Go.Operand.tmp 11) none none none, none⟩,
  ⟨some 43, Go.Op.call { callee := Go.Callee.builtin Go.Builtin.append, args := #[Go.Operand.tmp 41, Go.Operand.tmp 42], argTypes := #[26, 26] }, none⟩,
  ⟨some 9, Go.Op.assign (Go.Operand.tmp 43), none⟩]))) (.reg []
  [⟨some 32, Go.Op.move (Go.Operand.tmp 10), none⟩,
  ⟨some 33, Go.Op.binOp Go.BinOp.add 3 (Go.Operand.tmp 32) (Go.Operand.const (Go.Value.int Go.IntKind.i64 1)) 3, none⟩,
  ⟨some 10, Go.Op.assign (Go.Operand.tmp 33), none⟩])))))) (.seq (.reg []
  [⟨some 44, Go.Op.move (Go.Operand.tmp 9), none⟩,
  ⟨some 45, Go.Op.move (Go.Operand.tmp 2), none⟩,
  ⟨some 46, Go.Op.move (Go.Operand.tmp 2), none⟩,
  ⟨some 47, Go.Op.slice 26 (Go.Operand.tmp 44) none (some (Go.Operand.tmp 45)) (some (Go.Operand.tmp 46)), none⟩,
  ⟨some 6, Go.Op.assign (Go.Operand.tmp 47), none⟩,
  ⟨some 7, Go.Op.assign (Go.Operand.const (Go.Value.int Go.IntKind.i64 0)), none⟩]) (.ret))))))
def ms13_0 : List Nat := [0, 3, 4, 5, 9, 10, 11, 12, 13, 14, 15, 16, 17, 18, 19, 20, 21, 22, 23, 24, 25, 26, 27, 28, 29, 30, 31, 32, 33, 34, 35, 36, 37, 38, 39, 40, 41, 42, 43]
theorem ls13 : Try.f13.body.map (strip Try.prog impCodA) = some lc13 := by kernel_rfl
theorem lcall13 {args : List AV} (hargs : args.length ≤ 48) {H0 : AHeap} (lo : Nat) (hlo : H0.length ≤ lo) {r0 : AV} {H0' : AHeap}
    (h : lavc Try.prog glob lc13 (args ++ List.replicate (48 - args.length) (.v undef)) H0 fun e t H => (e = .normal ∨ e = .ret) ∧ aret Try.prog t H [Go.ResultVar.tmp 6, Go.ResultVar.tmp 7] fun r => Fin lo H r r0 H0') :
    ACall Try.prog glob (H0.length == 0) 13 args H0 r0 H0' := LCall' ctx Try.func13 (by kernel_rfl) ls13 (by kernel_rfl) (by kernel_rfl) hargs lo hlo h
/-- escutcheon/chacha.Turn -/
def lc14 : LCode := .seq (.reg []
  [⟨some 6, Go.Op.assign (Go.Operand.const (Go.Value.slice none 0 0)), none⟩,
  ⟨some 7, Go.Op.assign (Go.Operand.const (Go.Value.int Go.IntKind.i64 0)), none⟩]) (.seq (.reg []
  [⟨some 13, Go.Op.move (Go.Operand.tmp 2), none⟩,
  ⟨some 14, Go.Op.call { callee := Go.Callee.value (Go.Operand.func 20), args := #[Go.Operand.tmp 13], argTypes := #[58] }, none⟩,
  ⟨some 8, Go.Op.assign (Go.Operand.tmp 14), none⟩]) (.seq (.reg []
  [⟨some 16, Go.Op.move (Go.Operand.tmp 0), none⟩,
  ⟨some 17, Go.Op.move (Go.Operand.tmp 1), none⟩,
  ⟨some 18, Go.Op.move (Go.Operand.tmp 8), none⟩,
  ⟨some 19, Go.Op.call { callee := Go.Callee.builtin Go.Builtin.len, args := #[Go.Operand.tmp 18], argTypes := #[26] }, none⟩,
  ⟨some 20, Go.Op.call { callee := Go.Callee.value (Go.Operand.func 13), args := #[Go.Operand.tmp 16, Go.Operand.tmp 17, Go.Operand.tmp 19], argTypes := #[26, 26, 3] }, none⟩,
  ⟨some 15, Go.Op.move (Go.Operand.tmp 20), none⟩,
  ⟨some 21, Go.Op.extract (Go.Operand.tmp 15) 0, none⟩,
  ⟨some 22, Go.Op.extract (Go.Operand.tmp 15) 1, none⟩,
  ⟨some 9, Go.Op.assign (Go.Operand.tmp 21), none⟩,
  ⟨some 10, Go.Op.assign (Go.Operand.tmp 22), none⟩]) (.seq (.seq (.reg []
  [⟨some 23, Go.Op.move (Go.Operand.tmp 10), none⟩,
  ⟨some 24, Go.Op.binOp Go.BinOp.neq 34 (Go.Operand.tmp 23) (Go.Operand.const (Go.Value.int Go.IntKind.i64 0)) 34, none⟩]) (.cond (Go.Operand.tmp 24) (.seq (.reg []
  [⟨some 25, Go.Op.move (Go.Operand.tmp 10), none⟩,
  ⟨some 6, Go.Op.assign (Go.Operand.const (Go.Value.slice none 0 0)), none⟩,
  ⟨some 7, Go.Op.assign (Go.Operand.tmp 25), none⟩]) (.ret)) (.skip))) (.seq (.seq (.reg []
  [⟨some 26, Go.Op.move (Go.Operand.tmp 9), none⟩,
  ⟨some 27, Go.Op.call { callee := Go.Callee.builtin Go.Builtin.len, args := #[Go.Operand.tmp 26], argTypes := #[26] }, none⟩,
  ⟨some 28, Go.Op.move (Go.Operand.const (Go.Value.int Go.IntKind.i64 0)), none⟩]) (.block 0 (.loop (.seq (.reg []
  [⟨some 29, Go.Op.binOp Go.BinOp.lss 3 (Go.Operand.tmp 28) (Go.Operand.tmp 27) 3, none⟩]) (.seq (.cond (Go.Operand.tmp 29) (.skip) (.exit 0)) (.seq (.block 1 (.seq (.reg []
  [⟨some 30, Go.Op.move (Go.Operand.tmp 28), none⟩,
  ⟨some 31, Go.Op.indexAddr 26 (Go.Operand.tmp 26) (Go.Operand.tmp 28), none⟩,
  ⟨some 32, Go.Op.load 5 (Go.Operand.tmp 31), none⟩,
  ⟨some 11, Go.Op.assign (Go.Operand.tmp 30), none⟩,
  ⟨some 12, Go.Op.assign (Go.Operand.tmp 32), none⟩]) (.reg []
  [⟨some 33, Go.Op.move (Go.Operand.tmp 8), none⟩,
  ⟨some 34, Go.Op.move (Go.Operand.tmp 11), none⟩,
  ⟨some 35, Go.Op.indexAddr 26 (Go.Operand.tmp 33) (Go.Operand.tmp 34), none⟩,
  ⟨some 36, Go.Op.load 5 (Go.Operand.tmp 35), none⟩,
  ⟨some 37, Go.Op.move (Go.Operand.tmp 12), none⟩,
  ⟨some 38, Go.Op.binOp Go.BinOp.xor 5 (Go.Operand.tmp 36) (Go.Operand.tmp 37) 5, none⟩,
  ⟨some 39, Go.Op.indexAddr 26 (Go.Operand.tmp 33) (Go.Operand.tmp 34), none⟩,
  ⟨none, Go.Op.store 5 (Go.Operand.tmp 39) (Go.Operand.tmp 38), none⟩]))) (.reg []
  [⟨some 40, Go.Op.binOp Go.BinOp.add 3 (Go.Operand.tmp 28) (Go.Operand.const (Go.Value.int Go.IntKind.i64 1)) 3, none⟩,
  ⟨some 28, Go.Op.move (Go.Operand.tmp 40), none⟩]))))))) (.seq (.reg []
  [⟨some 41, Go.Op.move (Go.Operand.tmp 8), none⟩,
  ⟨some 6, Go.Op.assign (Go.Operand.tmp 41), none⟩,
  ⟨some 7, Go.Op.assign (Go.Operand.const (Go.Value.int Go.IntKind.i64 0)), none⟩]) (.ret))))))
def ms14_0 : List Nat := [0, 1, 2, 3, 4, 5, 9, 10, 11, 12, 13, 14, 15, 16, 17, 18, 19, 20, 21, 22, 23, 24, 25, 28, 29, 30, 31, 32, 33, 34, 35, 36, 37, 38, 39, 40]
theorem ls14 : Try.f14.body.map (strip Try.prog impCodA) = some lc14 := by kernel_rfl
theorem lcall14 {args : List AV} (hargs : args.length ≤ 42) {H0 : AHeap} (lo : Nat) (hlo : H0.length ≤ lo) {r0 : AV} {H0' : AHeap}
    (h : lavc Try.prog glob lc14 (args ++ List.replicate (42 - args.length) (.v undef)) H0 fun e t H => (e = .normal ∨ e = .ret) ∧ aret Try.prog t H [Go.ResultVar.tmp 6, Go.ResultVar.tmp 7] fun r => Fin lo H r r0 H0') :
    ACall Try.prog glob (H0.length == 0) 14 args H0 r0 H0' := LCall' ctx Try.func14 (by kernel_rfl) ls14 (by kernel_rfl) (by kernel_rfl) hargs lo hlo h
/-- escutcheon/escutcheonref06.Turn -/
def lc15 : LCode := .seq (.reg []
  [⟨some 6, Go.Op.assign (Go.Operand.const (Go.Value.slice none 0 0)), none⟩]) (.seq (.reg []
  [⟨some 11, Go.Op.move (Go.Operand.tmp 0), none⟩,
  ⟨some 12, Go.Op.move (Go.Operand.tmp 1), none⟩,
  ⟨some 13, Go.Op.slice 26 (Go.Operand.tmp 12) none (some (Go.Operand.const (Go.Value.int Go.IntKind.i64 16))) none, none⟩,
  ⟨some 14, Go.Op.call { callee := Go.Callee.value (Go.Operand.func 12), args := #[Go.Operand.tmp 11, Go.Operand.tmp 13], argTypes := #[26, 26] }, none⟩,
  ⟨some 7, Go.Op.assign (Go.Operand.tmp 14), none⟩]) (.seq (.reg []
  [⟨some 8, Go.Op.assign (Go.Operand.const (Go.Value.slice none 0 0)), none⟩,
  ⟨some 9, Go.Op.assign (Go.Operand.const (Go.Value.slice none 0 0)), none⟩]) (.seq (.seq (.reg []
  [⟨some 15, Go.Op.move (Go.Operand.tmp 2), none⟩,
  ⟨some 16, Go.Op.call { callee := Go.Callee.builtin Go.Builtin.len, args := #[Go.Operand.tmp 15], argTypes := #[26] }, none⟩,
  ⟨some 17, Go.Op.move (Go.Operand.const (Go.Value.int Go.IntKind.i64 0)), none⟩]) (.block 0 (.loop (.seq (.reg []
  [⟨some 18, Go.Op.binOp Go.BinOp.lss 3 (Go.Operand.tmp 17) (Go.Operand.tmp 16) 3, none⟩]) (.seq (.cond (Go.Operand.tmp 18) (.skip) (.exit 0)) (.seq (.block 1 (.seq (.reg []
  [⟨some 19, Go.Op.move (Go.Operand.tmp 17), none⟩,
  ⟨some 10, Go.Op.assign (Go.Operand.tmp 19), none⟩]) (.seq (.seq (.reg []
  [⟨some 20, Go.Op.move (Go.Operand.tmp 10), none⟩,
  ⟨some 21, Go.Op.binOp Go.BinOp.rem 3 (Go.Operand.tmp 20) (Go.Operand.const (Go.Value.int Go.IntKind.i64 64)) 3, none⟩,
  ⟨some 22, Go.Op.binOp Go.BinOp.eql 3 (Go.Operand.tmp 21) (Go.Operand.const (Go.Value.int Go.IntKind.i64 0)) 3, none⟩]) (.cond (Go.Operand.tmp 22) (.reg []
  [⟨some 23, Go.Op.move (Go.Operand.tmp 7), none⟩,
  ⟨some 24, Go.Op.move (Go.Operand.tmp 10), none⟩,
  ⟨some 25, Go.Op.binOp Go.BinOp.quo 3 (Go.Operand.tmp 24) (Go.Operand.const (Go.Value.int Go.IntKind.i64 64)) 3, none⟩,
  ⟨some 26, Go.Op.move (Go.Operand.tmp 1), none⟩,
  ⟨some 27, Go.Op.slice 26 (Go.Operand.tmp 26) (some (Go.Operand.const (Go.Value.int Go.IntKind.i64 16))) none none, none⟩,
  ⟨some 28, Go.Op.call { callee := Go.Callee.value (Go.Operand.func 11), args := #[Go.Operand.tmp 23, Go.Operand.tmp 25, Go.Operand.tmp 27], argTypes := #[26, 3, 26] }, none⟩,
  ⟨some 9, Go.Op.assign (Go.Operand.tmp 28), none⟩]) (.skip))) (.reg [⟨some 29, Go.Op.move (Go.Operand.tmp 8), none⟩,
  ⟨some 30, Go.Op.move (Go.Operand.tmp 2), none⟩,
  ⟨some 31, Go.Op.move (Go.Operand.tmp 10), none⟩,
  ⟨some 32, Go.Op.indexAddr 26 (Go.Operand.tmp 30) (Go.Operand.tmp 31), none⟩,
  ⟨some 33, Go.Op.load 5 (Go.Operand.tmp 32), none⟩,
  ⟨some 34, Go.Op.move (Go.Operand.tmp 9), none⟩,
  ⟨some 35, Go.Op.move (Go.Operand.tmp 10), none⟩,
  ⟨some 36, Go.Op.binOp Go.BinOp.rem 3 (Go.Operand.tmp 35) (Go.Operand.const (Go.Value.int Go.IntKind.i64 64)) 3, none⟩,
  ⟨some 37, Go.Op.indexAddr 26 (Go.Operand.tmp 34) (Go.Operand.tmp 36), none⟩,
  ⟨some 38, Go.Op.load 5 (Go.Operand.tmp 37), none⟩,
  ⟨some 39, Go.Op.binOp Go.BinOp.xor 5 (Go.Operand.tmp 33) (Go.Operand.tmp 38) 5, none⟩,
  ⟨some 40, Go.Op.buildSlice 26 1 #[(0, Go.Operand.tmp 39)], none⟩]
  [⟨some 41, Go.Op.call { callee := Go.Callee.builtin Go.Builtin.append, args := #[Go.Operand.tmp 29, Go.Operand.tmp 40], argTypes := #[26, 26] }, none⟩,
  ⟨some 8, Go.Op.assign (Go.Operand.tmp 41), none⟩])))) (.reg []
  [⟨some 42, Go.Op.binOp Go.BinOp.add 3 (Go.Operand.tmp 17) (Go.Operand.const (Go.Value.int Go.IntKind.i64 1)) 3, none⟩,
  ⟨some 17, Go.Op.move (Go.Operand.tmp 42), none⟩]))))))) (.seq (.reg []
  [⟨some 43, Go.Op.move (Go.Operand.tmp 8), none⟩,
  ⟨some 6, Go.Op.assign (Go.Operand.tmp 43), none⟩]) (.ret)))))
def ms15_0 : List Nat := [0, 3, 4, 5, 8, 9, 10, 11, 12, 13, 14, 15, 17, 18, 19, 20, 21, 22, 23, 24, 25, 26, 27, 28, 29, 30, 31, 32, 33, 34, 35, 36, 37, 38, 39, 40, 41, 42]
theorem ls15 : Try.f15.body.map (strip Try.prog impCodA) = some lc15 := by kernel_rfl
theorem lcall15 {args : List AV} (hargs : args.length ≤ 44) {H0 : AHeap} (lo : Nat) (hlo : H0.length ≤ lo) {r0 : AV} {H0' : AHeap}
    (h : lavc Try.prog glob lc15 (args ++ List.replicate (44 - args.length) (.v undef)) H0 fun e t H => (e = .normal ∨ e = .ret) ∧ aret Try.prog t H [Go.ResultVar.tmp 6] fun r => Fin lo H r r0 H0') :
    ACall Try.prog glob (H0.length == 0) 15 args H0 r0 H0' := LCall' ctx Try.func15 (by kernel_rfl) ls15 (by kernel_rfl) (by kernel_rfl) hargs lo hlo h
end Go.Abs.S
