/- Code, as it is looked at; written by wip/leancode.py. -/
import Derived.Test.YtkeacmonhjhgeaaDoorAbsSeat
namespace Go.Abs.S
open Go.Proofs
set_option maxRecDepth 100000
def impCodG : FuncId → Bool := fun f => f == 12 || f == 15
/-- escutcheon/escutcheonlaw07.CellarGoods -/
def lc5 : LCode := .seq (.reg []
  [⟨some 1, Go.Op.box 25 (Go.Operand.tmp 0), none⟩,
  ⟨some 2, Go.Op.assign (Go.Operand.const (Go.Value.bool false)), none⟩]) (.seq (.seq (.reg []
  [⟨some 4, Go.Op.call { callee := Go.Callee.value (Go.Operand.func 6), args := #[], argTypes := #[] }, none⟩,
  ⟨some 5, Go.Op.unOp Go.UnOp.not 4 (Go.Operand.tmp 4), none⟩]) (.cond (Go.Operand.tmp 5) (.seq (.reg []
  [⟨some 2, Go.Op.assign (Go.Operand.const (Go.Value.bool false)), none⟩]) (.ret)) (.skip))) (.seq (.reg []
  [⟨some 6, Go.Op.load 25 (Go.Operand.tmp 1), none⟩,
  ⟨some 3, Go.Op.alloc 25, none⟩,
  ⟨none, Go.Op.store 25 (Go.Operand.tmp 3) (Go.Operand.tmp 6), none⟩]) (.seq (.reg []
  [⟨some 7, Go.Op.fieldAddr 25 (Go.Operand.tmp 3) 3, none⟩,
  ⟨none, Go.Op.store 3 (Go.Operand.tmp 7) (Go.Operand.const (Go.Value.int Go.IntKind.i64 7)), none⟩]) (.seq (.reg [⟨some 8, Go.Op.load 25 (Go.Operand.tmp 1), none⟩,
  ⟨some 9, Go.Op.call { callee := Go.Callee.value (Go.Operand.func 7), args := #[Go.Operand.tmp 8], argTypes := #[25] }, none⟩,
  ⟨some 10, Go.Op.load 25 (Go.Operand.tmp 1), none⟩,
  ⟨some 11, Go.Op.call { callee := Go.Callee.value (Go.Operand.func 8), args := #[Go.Operand.tmp 10], argTypes := #[25] }, none⟩,
  ⟨some 12, Go.Op.binOp Go.BinOp.eql 4 (Go.Operand.tmp 9) (Go.Operand.tmp 11) 4, none⟩,
  ⟨some 13, Go.Op.move (Go.Operand.tmp 12), none⟩,
  ⟨some 14, Go.Op.load 25 (Go.Operand.tmp 3), (some (13, true))⟩,
  ⟨some 15, Go.Op.call { callee := Go.Callee.value (Go.Operand.func 7), args := #[Go.Operand.tmp 14], argTypes := #[25] }, (some (13, true))⟩,
  ⟨some 16, Go.Op.load 25 (Go.Operand.tmp 1), (some (13, true))⟩,
  ⟨some 17, Go.Op.call { callee := Go.Callee.value (Go.Operand.func 7), args := #[Go.Operand.tmp 16], argTypes := #[25] }, (some (13, true))⟩,
  ⟨some 18, Go.Op.binOp Go.BinOp.eql 4 (Go.Operand.tmp 15) (Go.Operand.tmp 17) 4, (some (13, true))⟩,
  ⟨some 19, Go.Op.pick (Go.Operand.tmp 13) (Go.Operand.tmp 18) (Go.Operand.const (Go.Value.bool false)), none⟩,
  ⟨some 2, Go.Op.assign (Go.Operand.tmp 19), none⟩]
  []) (.ret)))))
def mj5_0 : List Nat := [0, 2, 4, 5]
theorem ls5 : Tryd.f5.body.map (strip Tryd.prog impCodG) = some lc5 := by kernel_rfl
theorem lcall5 {args : List AV} (hargs : args.length ≤ 20) {H0 : AHeap} (lo : Nat) (hlo : H0.length ≤ lo) {r0 : AV} {H0' : AHeap}
    (h : lavc Tryd.prog glob lc5 (args ++ List.replicate (20 - args.length) (.v undef)) H0 fun e t H => (e = .normal ∨ e = .ret) ∧ aret Tryd.prog t H [Go.ResultVar.tmp 2] fun r => Fin lo H r r0 H0') :
    ACall Tryd.prog glob (H0.length == 0) 5 args H0 r0 H0' := LCall' ctx Tryd.func5 (by kernel_rfl) ls5 (by kernel_rfl) (by kernel_rfl) hargs lo hlo h
theorem lcallk5 {args : List AV} (hargs : args.length ≤ 20) {H0 : AHeap} {r0 : AV} {H0' : AHeap}
    (h : lavc Tryd.prog glob lc5 (args ++ List.replicate (20 - args.length) (.v undef)) H0 fun e t H => (e = .normal ∨ e = .ret) ∧ aret Tryd.prog t H [Go.ResultVar.tmp 2] fun r => r = r0 ∧ H = H0') :
    ACall Tryd.prog glob false 5 args H0 r0 H0' := LCallK' ctx Tryd.func5 (by kernel_rfl) ls5 (by kernel_rfl) (by kernel_rfl) hargs h
/-- escutcheon/escutcheonlaw07.awake -/
def lc6 : LCode := .seq (.reg []
  [⟨some 0, Go.Op.assign (Go.Operand.const (Go.Value.bool false)), none⟩]) (.seq (.reg []
  [⟨some 4, Go.Op.build 25 #[(0, Go.Operand.const (Go.Value.int Go.IntKind.i64 3)), (1, Go.Operand.const (Go.Value.int Go.IntKind.i64 1)), (2, Go.Operand.const (Go.Value.int Go.IntKind.i64 1))], none⟩,
  ⟨some 5, Go.Op.call { callee := Go.Callee.value (Go.Operand.func 9), args := #[Go.Operand.const (Go.Value.slice none 0 0), Go.Operand.const (Go.Value.slice none 0 0), Go.Operand.tmp 4, Go.Operand.const (Go.Value.int Go.IntKind.i64 32)], argTypes := #[22, 22, 25, 3] }, none⟩,
  ⟨some 3, Go.Op.move (Go.Operand.tmp 5), none⟩,
  ⟨some 6, Go.Op.extract (Go.Operand.tmp 3) 0, none⟩,
  ⟨some 7, Go.Op.extract (Go.Operand.tmp 3) 1, none⟩,
  ⟨some 1, Go.Op.assign (Go.Operand.tmp 6), none⟩,
  ⟨some 2, Go.Op.assign (Go.Operand.tmp 7), none⟩]) (.seq (.reg []
  [⟨some 8, Go.Op.move (Go.Operand.tmp 2), none⟩,
  ⟨some 9, Go.Op.binOp Go.BinOp.eql 28 (Go.Operand.tmp 8) (Go.Operand.const (Go.Value.int Go.IntKind.i64 1)) 28, none⟩,
  ⟨some 0, Go.Op.assign (Go.Operand.tmp 9), none⟩]) (.ret)))
theorem ls6 : Tryd.f6.body.map (strip Tryd.prog impCodG) = some lc6 := by kernel_rfl
theorem lcall6 {args : List AV} (hargs : args.length ≤ 10) {H0 : AHeap} (lo : Nat) (hlo : H0.length ≤ lo) {r0 : AV} {H0' : AHeap}
    (h : lavc Tryd.prog glob lc6 (args ++ List.replicate (10 - args.length) (.v undef)) H0 fun e t H => (e = .normal ∨ e = .ret) ∧ aret Tryd.prog t H [Go.ResultVar.tmp 0] fun r => Fin lo H r r0 H0') :
    ACall Tryd.prog glob (H0.length == 0) 6 args H0 r0 H0' := LCall' ctx Tryd.func6 (by kernel_rfl) ls6 (by kernel_rfl) (by kernel_rfl) hargs lo hlo h
theorem lcallk6 {args : List AV} (hargs : args.length ≤ 10) {H0 : AHeap} {r0 : AV} {H0' : AHeap}
    (h : lavc Tryd.prog glob lc6 (args ++ List.replicate (10 - args.length) (.v undef)) H0 fun e t H => (e = .normal ∨ e = .ret) ∧ aret Tryd.prog t H [Go.ResultVar.tmp 0] fun r => r = r0 ∧ H = H0') :
    ACall Tryd.prog glob false 6 args H0 r0 H0' := LCallK' ctx Tryd.func6 (by kernel_rfl) ls6 (by kernel_rfl) (by kernel_rfl) hargs h
/-- escutcheon/cellar.Good -/
def lc7 : LCode := .seq (.reg []
  [⟨some 1, Go.Op.box 25 (Go.Operand.tmp 0), none⟩,
  ⟨some 2, Go.Op.assign (Go.Operand.const (Go.Value.bool false)), none⟩]) (.seq (.reg []
  [⟨some 3, Go.Op.fieldAddr 25 (Go.Operand.tmp 1) 0, none⟩,
  ⟨some 4, Go.Op.load 3 (Go.Operand.tmp 3), none⟩,
  ⟨some 5, Go.Op.call { callee := Go.Callee.value (Go.Operand.func 11), args := #[Go.Operand.tmp 4, Go.Operand.const (Go.Value.int Go.IntKind.i64 4), Go.Operand.const (Go.Value.int Go.IntKind.i64 64)], argTypes := #[3, 3, 3] }, none⟩,
  ⟨some 6, Go.Op.move (Go.Operand.tmp 5), none⟩,
  ⟨some 7, Go.Op.fieldAddr 25 (Go.Operand.tmp 1) 1, (some (6, true))⟩,
  ⟨some 8, Go.Op.load 3 (Go.Operand.tmp 7), (some (6, true))⟩,
  ⟨some 9, Go.Op.call { callee := Go.Callee.value (Go.Operand.func 11), args := #[Go.Operand.tmp 8, Go.Operand.const (Go.Value.int Go.IntKind.i64 1), Go.Operand.const (Go.Value.int Go.IntKind.i64 4)], argTypes := #[3, 3, 3] }, (some (6, true))⟩,
  ⟨some 10, Go.Op.pick (Go.Operand.tmp 6) (Go.Operand.tmp 9) (Go.Operand.const (Go.Value.bool false)), none⟩,
  ⟨some 11, Go.Op.move (Go.Operand.tmp 10), none⟩,
  ⟨some 12, Go.Op.fieldAddr 25 (Go.Operand.tmp 1) 2, (some (11, true))⟩,
  ⟨some 13, Go.Op.load 3 (Go.Operand.tmp 12), (some (11, true))⟩,
  ⟨some 14, Go.Op.call { callee := Go.Callee.value (Go.Operand.func 11), args := #[Go.Operand.tmp 13, Go.Operand.const (Go.Value.int Go.IntKind.i64 1), Go.Operand.const (Go.Value.int Go.IntKind.i64 2)], argTypes := #[3, 3, 3] }, (some (11, true))⟩,
  ⟨some 15, Go.Op.pick (Go.Operand.tmp 11) (Go.Operand.tmp 14) (Go.Operand.const (Go.Value.bool false)), none⟩,
  ⟨some 2, Go.Op.assign (Go.Operand.tmp 15), none⟩]) (.ret))
theorem ls7 : Tryd.f7.body.map (strip Tryd.prog impCodG) = some lc7 := by kernel_rfl
theorem lcall7 {args : List AV} (hargs : args.length ≤ 16) {H0 : AHeap} (lo : Nat) (hlo : H0.length ≤ lo) {r0 : AV} {H0' : AHeap}
    (h : lavc Tryd.prog glob lc7 (args ++ List.replicate (16 - args.length) (.v undef)) H0 fun e t H => (e = .normal ∨ e = .ret) ∧ aret Tryd.prog t H [Go.ResultVar.tmp 2] fun r => Fin lo H r r0 H0') :
    ACall Tryd.prog glob (H0.length == 0) 7 args H0 r0 H0' := LCall' ctx Tryd.func7 (by kernel_rfl) ls7 (by kernel_rfl) (by kernel_rfl) hargs lo hlo h
theorem lcallk7 {args : List AV} (hargs : args.length ≤ 16) {H0 : AHeap} {r0 : AV} {H0' : AHeap}
    (h : lavc Tryd.prog glob lc7 (args ++ List.replicate (16 - args.length) (.v undef)) H0 fun e t H => (e = .normal ∨ e = .ret) ∧ aret Tryd.prog t H [Go.ResultVar.tmp 2] fun r => r = r0 ∧ H = H0') :
    ACall Tryd.prog glob false 7 args H0 r0 H0' := LCallK' ctx Tryd.func7 (by kernel_rfl) ls7 (by kernel_rfl) (by kernel_rfl) hargs h
/-- escutcheon/escutcheonref07.Good -/
def lc8 : LCode := .seq (.reg []
  [⟨some 1, Go.Op.box 25 (Go.Operand.tmp 0), none⟩,
  ⟨some 2, Go.Op.assign (Go.Operand.const (Go.Value.bool false)), none⟩]) (.seq (.reg []
  [⟨some 3, Go.Op.fieldAddr 25 (Go.Operand.tmp 1) 0, none⟩,
  ⟨some 4, Go.Op.load 3 (Go.Operand.tmp 3), none⟩,
  ⟨some 5, Go.Op.binOp Go.BinOp.geq 3 (Go.Operand.tmp 4) (Go.Operand.const (Go.Value.int Go.IntKind.i64 4)) 3, none⟩,
  ⟨some 6, Go.Op.move (Go.Operand.tmp 5), none⟩,
  ⟨some 7, Go.Op.fieldAddr 25 (Go.Operand.tmp 1) 0, (some (6, true))⟩,
  ⟨some 8, Go.Op.load 3 (Go.Operand.tmp 7), (some (6, true))⟩,
  ⟨some 9, Go.Op.binOp Go.BinOp.leq 3 (Go.Operand.tmp 8) (Go.Operand.const (Go.Value.int Go.IntKind.i64 64)) 3, (some (6, true))⟩,
  ⟨some 10, Go.Op.pick (Go.Operand.tmp 6) (Go.Operand.tmp 9) (Go.Operand.const (Go.Value.bool false)), none⟩,
  ⟨some 11, Go.Op.move (Go.Operand.tmp 10), none⟩,
  ⟨some 12, Go.Op.fieldAddr 25 (Go.Operand.tmp 1) 1, (some (11, true))⟩,
  ⟨some 13, Go.Op.load 3 (Go.Operand.tmp 12), (some (11, true))⟩,
  ⟨some 14, Go.Op.binOp Go.BinOp.geq 3 (Go.Operand.tmp 13) (Go.Operand.const (Go.Value.int Go.IntKind.i64 1)) 3, (some (11, true))⟩,
  ⟨some 15, Go.Op.pick (Go.Operand.tmp 11) (Go.Operand.tmp 14) (Go.Operand.const (Go.Value.bool false)), none⟩,
  ⟨some 16, Go.Op.move (Go.Operand.tmp 15), none⟩,
  ⟨some 17, Go.Op.fieldAddr 25 (Go.Operand.tmp 1) 1, (some (16, true))⟩,
  ⟨some 18, Go.Op.load 3 (Go.Operand.tmp 17), (some (16, true))⟩,
  ⟨some 19, Go.Op.binOp Go.BinOp.leq 3 (Go.Operand.tmp 18) (Go.Operand.const (Go.Value.int Go.IntKind.i64 4)) 3, (some (16, true))⟩,
  ⟨some 20, Go.Op.pick (Go.Operand.tmp 16) (Go.Operand.tmp 19) (Go.Operand.const (Go.Value.bool false)), none⟩,
  ⟨some 21, Go.Op.move (Go.Operand.tmp 20), none⟩,
  ⟨some 22, Go.Op.fieldAddr 25 (Go.Operand.tmp 1) 2, (some (21, true))⟩,
  ⟨some 23, Go.Op.load 3 (Go.Operand.tmp 22), (some (21, true))⟩,
  ⟨some 24, Go.Op.binOp Go.BinOp.geq 3 (Go.Operand.tmp 23) (Go.Operand.const (Go.Value.int Go.IntKind.i64 1)) 3, (some (21, true))⟩,
  ⟨some 25, Go.Op.pick (Go.Operand.tmp 21) (Go.Operand.tmp 24) (Go.Operand.const (Go.Value.bool false)), none⟩,
  ⟨some 26, Go.Op.move (Go.Operand.tmp 25), none⟩,
  ⟨some 27, Go.Op.fieldAddr 25 (Go.Operand.tmp 1) 2, (some (26, true))⟩,
  ⟨some 28, Go.Op.load 3 (Go.Operand.tmp 27), (some (26, true))⟩,
  ⟨some 29, Go.Op.binOp Go.BinOp.leq 3 (Go.Operand.tmp 28) (Go.Operand.const (Go.Value.int Go.IntKind.i64 2)) 3, (some (26, true))⟩,
  ⟨some 30, Go.Op.pick (Go.Operand.tmp 26) (Go.Operand.tmp 29) (Go.Operand.const (Go.Value.bool false)), none⟩,
  ⟨some 2, Go.Op.assign (Go.Operand.tmp 30), none⟩]) (.ret))
theorem ls8 : Tryd.f8.body.map (strip Tryd.prog impCodG) = some lc8 := by kernel_rfl
theorem lcall8 {args : List AV} (hargs : args.length ≤ 31) {H0 : AHeap} (lo : Nat) (hlo : H0.length ≤ lo) {r0 : AV} {H0' : AHeap}
    (h : lavc Tryd.prog glob lc8 (args ++ List.replicate (31 - args.length) (.v undef)) H0 fun e t H => (e = .normal ∨ e = .ret) ∧ aret Tryd.prog t H [Go.ResultVar.tmp 2] fun r => Fin lo H r r0 H0') :
    ACall Tryd.prog glob (H0.length == 0) 8 args H0 r0 H0' := LCall' ctx Tryd.func8 (by kernel_rfl) ls8 (by kernel_rfl) (by kernel_rfl) hargs lo hlo h
theorem lcallk8 {args : List AV} (hargs : args.length ≤ 31) {H0 : AHeap} {r0 : AV} {H0' : AHeap}
    (h : lavc Tryd.prog glob lc8 (args ++ List.replicate (31 - args.length) (.v undef)) H0 fun e t H => (e = .normal ∨ e = .ret) ∧ aret Tryd.prog t H [Go.ResultVar.tmp 2] fun r => r = r0 ∧ H = H0') :
    ACall Tryd.prog glob false 8 args H0 r0 H0' := LCallK' ctx Tryd.func8 (by kernel_rfl) ls8 (by kernel_rfl) (by kernel_rfl) hargs h
/-- escutcheon/cellar.Hash -/
def lc9 : LCode := .seq (.reg []
  [⟨some 6, Go.Op.box 25 (Go.Operand.tmp 2), none⟩,
  ⟨some 8, Go.Op.assign (Go.Operand.const (Go.Value.slice none 0 0)), none⟩,
  ⟨some 9, Go.Op.assign (Go.Operand.const (Go.Value.int Go.IntKind.i64 0)), none⟩]) (.seq (.seq (.reg []
  [⟨some 15, Go.Op.load 25 (Go.Operand.tmp 6), none⟩,
  ⟨some 16, Go.Op.call { callee := Go.Callee.value (Go.Operand.func 7), args := #[Go.Operand.tmp 15], argTypes := #[25] }, none⟩,
  ⟨some 17, Go.Op.unOp Go.UnOp.not 4 (Go.Operand.tmp 16), none⟩,
  ⟨some 18, Go.Op.move (Go.Operand.tmp 17), none⟩,
  ⟨some 19, Go.Op.move (Go.Operand.tmp 3), (some (18, false))⟩,
  ⟨some 20, Go.Op.call { callee := Go.Callee.value (Go.Operand.func 11), args := #[Go.Operand.tmp 19, Go.Operand.const (Go.Value.int Go.IntKind.i64 1), Go.Operand.const (Go.Value.int Go.IntKind.i64 64)], argTypes := #[3, 3, 3] }, (some (18, false))⟩,
  ⟨some 21, Go.Op.unOp Go.UnOp.not 4 (Go.Operand.tmp 20), (some (18, false))⟩,
  ⟨some 22, Go.Op.pick (Go.Operand.tmp 18) (Go.Operand.const (Go.Value.bool true)) (Go.Operand.tmp 21), none⟩]) (.cond (Go.Operand.tmp 22) (.seq (.reg []
  [⟨some 8, Go.Op.assign (Go.Operand.const (Go.Value.slice none 0 0)), none⟩,
  ⟨some 9, Go.Op.assign (Go.Operand.const (Go.Value.int Go.IntKind.i64 1)), none⟩]) (.ret)) (.skip))) (.seq (.reg []
  [⟨some 23, Go.Op.load 25 (Go.Operand.tmp 6), none⟩,
  ⟨some 24, Go.Op.build 38 #[(0, Go.Operand.tmp 23)], none⟩,
  ⟨some 25, Go.Op.box 38 (Go.Operand.tmp 24), none⟩,
  ⟨some 10, Go.Op.assign (Go.Operand.tmp 25), none⟩]) (.seq (.reg [⟨some 26, Go.Op.move (Go.Operand.tmp 10), none⟩,
  ⟨some 27, Go.Op.move (Go.Operand.tmp 10), none⟩,
  ⟨some 28, Go.Op.nilCheck (Go.Operand.tmp 27), none⟩,
  ⟨some 29, Go.Op.fieldAddr 38 (Go.Operand.tmp 28) 0, none⟩,
  ⟨some 30, Go.Op.fieldAddr 25 (Go.Operand.tmp 29) 0, none⟩,
  ⟨some 31, Go.Op.load 3 (Go.Operand.tmp 30), none⟩,
  ⟨some 32, Go.Op.move (Go.Operand.tmp 10), none⟩,
  ⟨some 33, Go.Op.nilCheck (Go.Operand.tmp 32), none⟩,
  ⟨some 34, Go.Op.fieldAddr 38 (Go.Operand.tmp 33) 0, none⟩,
  ⟨some 35, Go.Op.fieldAddr 25 (Go.Operand.tmp 34) 1, none⟩,
  ⟨some 36, Go.Op.load 3 (Go.Operand.tmp 35), none⟩,
  ⟨some 37, Go.Op.move (Go.Operand.tmp 10), none⟩,
  ⟨some 38, Go.Op.nilCheck (Go.Operand.tmp 37), none⟩,
  ⟨some 39, Go.Op.fieldAddr 38 (Go.Operand.tmp 38) 0, none⟩,
  ⟨some 40, Go.Op.fieldAddr 25 (Go.Operand.tmp 39) 2, none⟩,
  ⟨some 41, Go.Op.load 3 (Go.Operand.tmp 40), none⟩,
  ⟨some 42, Go.Op.move (Go.Operand.tmp 3), none⟩,
  ⟨some 43, Go.Op.buildSlice 52 5 #[(0, Go.Operand.tmp 31), (1, Go.Operand.tmp 36), (2, Go.Operand.tmp 41), (3, Go.Operand.tmp 42), (4, Go.Operand.const (Go.Value.int Go.IntKind.i64 1))], none⟩,
  ⟨some 44, Go.Op.call { callee := Go.Callee.value (Go.Operand.func 14), args := #[Go.Operand.tmp 43], argTypes := #[52] }, none⟩,
  ⟨some 45, Go.Op.move (Go.Operand.tmp 0), none⟩,
  ⟨some 46, Go.Op.move (Go.Operand.tmp 1), none⟩,
  ⟨some 47, Go.Op.buildSlice 44 3 #[(0, Go.Operand.tmp 44), (1, Go.Operand.tmp 45), (2, Go.Operand.tmp 46)], none⟩,
  ⟨some 48, Go.Op.call { callee := Go.Callee.value (Go.Operand.func 13), args := #[Go.Operand.tmp 47], argTypes := #[44] }, none⟩]
  [⟨some 49, Go.Op.call { callee := Go.Callee.value (Go.Operand.func 12), args := #[Go.Operand.tmp 26, Go.Operand.tmp 48], argTypes := #[35, 22] }, none⟩]) (.seq (.seq (.reg []
  [⟨some 50, Go.Op.move (Go.Operand.tmp 10), none⟩,
  ⟨some 51, Go.Op.nilCheck (Go.Operand.tmp 50), none⟩,
  ⟨some 52, Go.Op.fieldAddr 38 (Go.Operand.tmp 51) 0, none⟩,
  ⟨some 53, Go.Op.fieldAddr 25 (Go.Operand.tmp 52) 1, none⟩,
  ⟨some 54, Go.Op.load 3 (Go.Operand.tmp 53), none⟩,
  ⟨some 55, Go.Op.move (Go.Operand.const (Go.Value.int Go.IntKind.i64 0)), none⟩]) (.block 0 (.loop (.seq (.reg []
  [⟨some 56, Go.Op.binOp Go.BinOp.lss 3 (Go.Operand.tmp 55) (Go.Operand.tmp 54) 3, none⟩]) (.seq (.cond (Go.Operand.tmp 56) (.skip) (.exit 0)) (.seq (.block 1 (.seq (.reg []
  [⟨some 57, Go.Op.move (Go.Operand.tmp 55), none⟩,
  ⟨some 11, Go.Op.assign (Go.Operand.tmp 57), none⟩]) (.seq (.reg []
  [⟨some 58, Go.Op.move (Go.Operand.tmp 10), none⟩,
  ⟨some 59, Go.Op.nilCheck (Go.Operand.tmp 58), none⟩,
  ⟨some 60, Go.Op.fieldAddr 38 (Go.Operand.tmp 59) 0, none⟩,
  ⟨some 61, Go.Op.fieldAddr 25 (Go.Operand.tmp 60) 2, none⟩,
  ⟨some 62, Go.Op.load 3 (Go.Operand.tmp 61), none⟩,
  ⟨some 63, Go.Op.move (Go.Operand.const (Go.Value.int Go.IntKind.i64 0)), none⟩]) (.block 2 (.loop (.seq (.reg []
  [⟨some 64, Go.Op.binOp Go.BinOp.lss 3 (Go.Operand.tmp 63) (Go.Operand.tmp 62) 3, none⟩]) (.seq (.cond (Go.Operand.tmp 64) (.skip) (.exit 2)) (.seq (.block 3 (.seq (.reg []
  [⟨some 65, Go.Op.move (Go.Operand.tmp 63), none⟩,
  ⟨some 12, Go.Op.assign (Go.Operand.tmp 65), none⟩]) (.seq (.reg []
  [⟨some 13, Go.Op.assign (Go.Operand.const (Go.Value.int Go.IntKind.i64 0)), none⟩]) (.seq (.seq (.reg []
  [⟨some 66, Go.Op.move (Go.Operand.tmp 11), none⟩,
  ⟨some 67, Go.Op.binOp Go.BinOp.eql 3 (Go.Operand.tmp 66) (Go.Operand.const (Go.Value.int Go.IntKind.i64 0)) 3, none⟩]) (.cond (Go.Operand.tmp 67) (.reg []
  [⟨some 13, Go.Op.assign (Go.Operand.const (Go.Value.int Go.IntKind.i64 2)), none⟩]) (.skip))) (.seq (.reg []
  [⟨some 68, Go.Op.move (Go.Operand.tmp 13), none⟩,
  ⟨some 14, Go.Op.assign (Go.Operand.tmp 68), none⟩]) (.block 4 (.loop (.seq (.seq (.reg []
  [⟨some 69, Go.Op.move (Go.Operand.tmp 14), none⟩,
  ⟨some 70, Go.Op.move (Go.Operand.tmp 10), none⟩,
  ⟨some 71, Go.Op.nilCheck (Go.Operand.tmp 70), none⟩,
  ⟨some 72, Go.Op.fieldAddr 38 (Go.Operand.tmp 71) 0, none⟩,
  ⟨some 73, Go.Op.fieldAddr 25 (Go.Operand.tmp 72) 0, none⟩,
  ⟨some 74, Go.Op.load 3 (Go.Operand.tmp 73), none⟩,
  ⟨some 75, Go.Op.binOp Go.BinOp.lss 3 (Go.Operand.tmp 69) (Go.Operand.tmp 74) 3, none⟩]) (.cond (Go.Operand.tmp 75) (.skip) (.exit 4))) (.seq (.block 5 (.reg []
  [⟨some 78, Go.Op.move (Go.Operand.tmp 10), none⟩,
  ⟨some 79, Go.Op.move (Go.Operand.tmp 11), none⟩,
  ⟨some 80, Go.Op.move (Go.Operand.tmp 12), none⟩,
  ⟨some 81, Go.Op.move (Go.Operand.tmp 14), none⟩,
  ⟨some 82, Go.Op.call { callee := Go.Callee.value (Go.Operand.func 15), args := #[Go.Operand.tmp 78, Go.Operand.tmp 79, Go.Operand.tmp 80, Go.Operand.tmp 81], argTypes := #[35, 3, 3, 3] }, none⟩])) (.reg []
  [⟨some 76, Go.Op.move (Go.Operand.tmp 14), none⟩,
  ⟨some 77, Go.Op.binOp Go.BinOp.add 3 (Go.Operand.tmp 76) (Go.Operand.const (Go.Value.int Go.IntKind.i64 1)) 3, none⟩,
  ⟨some 14, Go.Op.assign (Go.Operand.tmp 77), none⟩])))))))))) (.reg []
  [⟨some 83, Go.Op.binOp Go.BinOp.add 3 (Go.Operand.tmp 63) (Go.Operand.const (Go.Value.int Go.IntKind.i64 1)) 3, none⟩,
  ⟨some 63, Go.Op.move (Go.Operand.tmp 83), none⟩]))))))))) (.reg []
  [⟨some 84, Go.Op.binOp Go.BinOp.add 3 (Go.Operand.tmp 55) (Go.Operand.const (Go.Value.int Go.IntKind.i64 1)) 3, none⟩,
  ⟨some 55, Go.Op.move (Go.Operand.tmp 84), none⟩]))))))) (.seq (.reg []
  [⟨some 85, Go.Op.move (Go.Operand.tmp 3), none⟩,
  ⟨some 86, Go.Op.move (Go.Operand.tmp 10), none⟩,
  ⟨some 87, Go.Op.call { callee := Go.Callee.value (Go.Operand.func 18), args := #[Go.Operand.tmp 86], argTypes := #[35] }, none⟩,
  ⟨some 88, Go.Op.call { callee := Go.Callee.value (Go.Operand.func 17), args := #[Go.Operand.tmp 87], argTypes := #[44] }, none⟩,
  ⟨some 89, Go.Op.buildSlice 44 1 #[(0, Go.Operand.tmp 88)], none⟩,
  ⟨some 90, Go.Op.call { callee := Go.Callee.value (Go.Operand.func 16), args := #[Go.Operand.tmp 85, Go.Operand.const (Go.Value.slice none 0 0), Go.Operand.tmp 89], argTypes := #[3, 22, 44] }, none⟩,
  ⟨some 91, Go.Op.extract (Go.Operand.tmp 90) 0, none⟩,
  ⟨some 92, Go.Op.extract (Go.Operand.tmp 90) 1, none⟩,
  ⟨some 8, Go.Op.assign (Go.Operand.tmp 91), none⟩,
  ⟨some 9, Go.Op.assign (Go.Operand.tmp 92), none⟩]) (.ret))))))
def ms9_0 : List Nat := [0, 1, 2, 4, 5, 6, 7, 11, 12, 13, 14, 15, 16, 17, 18, 19, 20, 21, 22, 23, 24, 25, 26, 27, 28, 29, 30, 31, 32, 33, 34, 35, 36, 37, 38, 39, 40, 41, 42, 43, 44, 45, 46, 47, 48, 49, 50, 51, 52, 53, 55, 56, 57, 58, 59, 60, 61, 62, 63, 64, 65, 66, 67, 68, 69, 70, 71, 72, 73, 74, 75, 76, 77, 78, 79, 80, 81, 82, 83, 84]
def ms9_1 : List Nat := [0, 1, 2, 4, 5, 6, 7, 12, 13, 14, 15, 16, 17, 18, 19, 20, 21, 22, 23, 24, 25, 26, 27, 28, 29, 30, 31, 32, 33, 34, 35, 36, 37, 38, 39, 40, 41, 42, 43, 44, 45, 46, 47, 48, 49, 50, 51, 52, 53, 63, 64, 65, 66, 67, 68, 69, 70, 71, 72, 73, 74, 75, 76, 77, 78, 79, 80, 81, 82, 83]
def ms9_2 : List Nat := [0, 1, 2, 4, 5, 6, 7, 14, 15, 16, 17, 18, 19, 20, 21, 22, 23, 24, 25, 26, 27, 28, 29, 30, 31, 32, 33, 34, 35, 36, 37, 38, 39, 40, 41, 42, 43, 44, 45, 46, 47, 48, 49, 50, 51, 52, 53, 69, 70, 71, 72, 73, 74, 75, 76, 77, 78, 79, 80, 81, 82]
def mj9_0 : List Nat := [2, 4, 5, 7, 8, 9, 15, 16, 17, 18, 19, 20, 21, 22, 49, 82]
def mj9_1 : List Nat := [0, 1, 2, 4, 5, 6, 7, 15, 16, 17, 18, 19, 20, 21, 22, 23, 24, 25, 26, 27, 28, 29, 30, 31, 32, 33, 34, 35, 36, 37, 38, 39, 40, 41, 42, 43, 44, 45, 46, 47, 48, 49, 50, 51, 52, 53, 82]
def mj9_2 : List Nat := [0, 1, 2, 4, 5, 6, 7, 15, 16, 17, 18, 19, 20, 21, 22, 23, 24, 25, 26, 27, 28, 29, 30, 31, 32, 33, 34, 35, 36, 37, 38, 39, 40, 41, 42, 43, 44, 45, 46, 47, 48, 49, 50, 51, 52, 53, 82]
def mj9_3 : List Nat := [0, 1, 2, 4, 5, 6, 7, 13, 15, 16, 17, 18, 19, 20, 21, 22, 23, 24, 25, 26, 27, 28, 29, 30, 31, 32, 33, 34, 35, 36, 37, 38, 39, 40, 41, 42, 43, 44, 45, 46, 47, 48, 49, 50, 51, 52, 53, 82]
def mj9_4 : List Nat := [0, 1, 2, 4, 5, 6, 7, 15, 16, 17, 18, 19, 20, 21, 22, 23, 24, 25, 26, 27, 28, 29, 30, 31, 32, 33, 34, 35, 36, 37, 38, 39, 40, 41, 42, 43, 44, 45, 46, 47, 48, 49, 50, 51, 52, 53, 82]
theorem ls9 : Tryd.f9.body.map (strip Tryd.prog impCodG) = some lc9 := by kernel_rfl
theorem lcall9 {args : List AV} (hargs : args.length ≤ 93) {H0 : AHeap} (lo : Nat) (hlo : H0.length ≤ lo) {r0 : AV} {H0' : AHeap}
    (h : lavc Tryd.prog glob lc9 (args ++ List.replicate (93 - args.length) (.v undef)) H0 fun e t H => (e = .normal ∨ e = .ret) ∧ aret Tryd.prog t H [Go.ResultVar.tmp 8, Go.ResultVar.tmp 9] fun r => Fin lo H r r0 H0') :
    ACall Tryd.prog glob (H0.length == 0) 9 args H0 r0 H0' := LCall' ctx Tryd.func9 (by kernel_rfl) ls9 (by kernel_rfl) (by kernel_rfl) hargs lo hlo h
theorem lcallk9 {args : List AV} (hargs : args.length ≤ 93) {H0 : AHeap} {r0 : AV} {H0' : AHeap}
    (h : lavc Tryd.prog glob lc9 (args ++ List.replicate (93 - args.length) (.v undef)) H0 fun e t H => (e = .normal ∨ e = .ret) ∧ aret Tryd.prog t H [Go.ResultVar.tmp 8, Go.ResultVar.tmp 9] fun r => r = r0 ∧ H = H0') :
    ACall Tryd.prog glob false 9 args H0 r0 H0' := LCallK' ctx Tryd.func9 (by kernel_rfl) ls9 (by kernel_rfl) (by kernel_rfl) hargs h
/-- escutcheon/cellar.within -/
def lc11 : LCode := .seq (.reg []
  [⟨some 6, Go.Op.assign (Go.Operand.const (Go.Value.bool false)), none⟩]) (.seq (.reg []
  [⟨some 7, Go.Op.move (Go.Operand.tmp 0), none⟩,
  ⟨some 8, Go.Op.move (Go.Operand.tmp 1), none⟩,
  ⟨some 9, Go.Op.binOp Go.BinOp.geq 3 (Go.Operand.tmp 7) (Go.Operand.tmp 8) 3, none⟩,
  ⟨some 10, Go.Op.move (Go.Operand.tmp 9), none⟩,
  ⟨some 11, Go.Op.move (Go.Operand.tmp 0), (some (10, true))⟩,
  ⟨some 12, Go.Op.move (Go.Operand.tmp 2), (some (10, true))⟩,
  ⟨some 13, Go.Op.binOp Go.BinOp.leq 3 (Go.Operand.tmp 11) (Go.Operand.tmp 12) 3, (some (10, true))⟩,
  ⟨some 14, Go.Op.pick (Go.Operand.tmp 10) (Go.Operand.tmp 13) (Go.Operand.const (Go.Value.bool false)), none⟩,
  ⟨some 6, Go.Op.assign (Go.Operand.tmp 14), none⟩]) (.ret))
theorem ls11 : Tryd.f11.body.map (strip Tryd.prog impCodG) = some lc11 := by kernel_rfl
theorem lcall11 {args : List AV} (hargs : args.length ≤ 15) {H0 : AHeap} (lo : Nat) (hlo : H0.length ≤ lo) {r0 : AV} {H0' : AHeap}
    (h : lavc Tryd.prog glob lc11 (args ++ List.replicate (15 - args.length) (.v undef)) H0 fun e t H => (e = .normal ∨ e = .ret) ∧ aret Tryd.prog t H [Go.ResultVar.tmp 6] fun r => Fin lo H r r0 H0') :
    ACall Tryd.prog glob (H0.length == 0) 11 args H0 r0 H0' := LCall' ctx Tryd.func11 (by kernel_rfl) ls11 (by kernel_rfl) (by kernel_rfl) hargs lo hlo h
theorem lcallk11 {args : List AV} (hargs : args.length ≤ 15) {H0 : AHeap} {r0 : AV} {H0' : AHeap}
    (h : lavc Tryd.prog glob lc11 (args ++ List.replicate (15 - args.length) (.v undef)) H0 fun e t H => (e = .normal ∨ e = .ret) ∧ aret Tryd.prog t H [Go.ResultVar.tmp 6] fun r => r = r0 ∧ H = H0') :
    ACall Tryd.prog glob false 11 args H0 r0 H0' := LCallK' ctx Tryd.func11 (by kernel_rfl) ls11 (by kernel_rfl) (by kernel_rfl) hargs h
end Go.Abs.S
