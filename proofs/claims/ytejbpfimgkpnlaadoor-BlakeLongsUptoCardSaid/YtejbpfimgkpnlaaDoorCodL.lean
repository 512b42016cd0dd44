/- Code, as it is looked at; written by wip/leancode.py. -/
import Derived.Test.YtejbpfimgkpnlaaDoorAbsSeat
namespace Go.Abs.S
open Go.Proofs
set_option maxRecDepth 100000
def impCodL : FuncId → Bool := fun _ => false
/-- escutcheon/escutcheonlaw04.joined -/
def lc9 : LCode := .seq (.reg []
  [⟨some 2, Go.Op.assign (Go.Operand.const (Go.Value.slice none 0 0)), none⟩]) (.seq (.reg []
  [⟨some 3, Go.Op.assign (Go.Operand.const (Go.Value.slice none 0 0)), none⟩]) (.seq (.seq (.reg []
  [⟨some 6, Go.Op.move (Go.Operand.tmp 0), none⟩,
  ⟨some 7, Go.Op.call { callee := Go.Callee.builtin Go.Builtin.len, args := #[Go.Operand.tmp 6], argTypes := #[23] }, none⟩,
  ⟨some 8, Go.Op.move (Go.Operand.const (Go.Value.int Go.IntKind.i64 0)), none⟩]) (.block 0 (.loop (.seq (.reg []
  [⟨some 9, Go.Op.binOp Go.BinOp.lss 3 (Go.Operand.tmp 8) (Go.Operand.tmp 7) 3, none⟩]) (.seq (.cond (Go.Operand.tmp 9) (.skip) (.exit 0)) (.seq (.block 1 (.seq (.reg []
  [⟨some 10, Go.Op.indexAddr 23 (Go.Operand.tmp 6) (Go.Operand.tmp 8), none⟩,
  ⟨some 11, Go.Op.load 22 (Go.Operand.tmp 10), none⟩,
  ⟨some 5, Go.Op.assign (Go.Operand.tmp 11), none⟩]) (.reg []
  [⟨some 12, Go.Op.move (Go.Operand.tmp 3), none⟩,
  ⟨some 13, Go.Op.move (Go.Operand.tmp 5), none⟩,
  ⟨some 14, Go.Op.call { callee := Go.Callee.builtin Go.Builtin.append, args := #[Go.Operand.tmp 12, Go.Operand.tmp 13], argTypes := #[22, 22] }, none⟩,
  ⟨some 3, Go.Op.assign (Go.Operand.tmp 14), none⟩]))) (.reg []
  [⟨some 15, Go.Op.binOp Go.BinOp.add 3 (Go.Operand.tmp 8) (Go.Operand.const (Go.Value.int Go.IntKind.i64 1)) 3, none⟩,
  ⟨some 8, Go.Op.move (Go.Operand.tmp 15), none⟩]))))))) (.seq (.reg []
  [⟨some 16, Go.Op.move (Go.Operand.tmp 3), none⟩,
  ⟨some 2, Go.Op.assign (Go.Operand.tmp 16), none⟩]) (.ret))))
def ms9_0 : List Nat := [0, 1, 3, 4, 5, 8, 9, 10, 11, 12, 13, 14, 15]
def mj9_0 : List Nat := [0, 1, 4]
theorem ls9 : Tryd.f9.body.map (strip Tryd.prog impCodL) = some lc9 := by kernel_rfl
theorem lcall9 {args : List AV} (hargs : args.length ≤ 17) {H0 : AHeap} (lo : Nat) (hlo : H0.length ≤ lo) {r0 : AV} {H0' : AHeap}
    (h : lavc Tryd.prog glob lc9 (args ++ List.replicate (17 - args.length) (.v undef)) H0 fun e t H => (e = .normal ∨ e = .ret) ∧ aret Tryd.prog t H [Go.ResultVar.tmp 2] fun r => Fin lo H r r0 H0') :
    ACall Tryd.prog glob (H0.length == 0) 9 args H0 r0 H0' := LCall' ctx Tryd.func9 (by kernel_rfl) ls9 (by kernel_rfl) (by kernel_rfl) hargs lo hlo h
/-- escutcheon/escutcheonlaw04.awake -/
def lc10 : LCode := .seq (.reg []
  [⟨some 0, Go.Op.assign (Go.Operand.const (Go.Value.bool false)), none⟩]) (.seq (.reg []
  [⟨some 4, Go.Op.call { callee := Go.Callee.value (Go.Operand.func 11), args := #[Go.Operand.const (Go.Value.int Go.IntKind.i64 0), Go.Operand.const (Go.Value.slice none 0 0), Go.Operand.const (Go.Value.slice none 0 0)], argTypes := #[3, 22, 23] }, none⟩,
  ⟨some 3, Go.Op.move (Go.Operand.tmp 4), none⟩,
  ⟨some 5, Go.Op.extract (Go.Operand.tmp 3) 0, none⟩,
  ⟨some 6, Go.Op.extract (Go.Operand.tmp 3) 1, none⟩,
  ⟨some 1, Go.Op.assign (Go.Operand.tmp 5), none⟩,
  ⟨some 2, Go.Op.assign (Go.Operand.tmp 6), none⟩]) (.seq (.reg []
  [⟨some 7, Go.Op.move (Go.Operand.tmp 2), none⟩,
  ⟨some 8, Go.Op.binOp Go.BinOp.eql 26 (Go.Operand.tmp 7) (Go.Operand.const (Go.Value.int Go.IntKind.i64 1)) 26, none⟩,
  ⟨some 9, Go.Op.move (Go.Operand.tmp 8), none⟩,
  ⟨some 10, Go.Op.call { callee := Go.Callee.value (Go.Operand.func 13), args := #[Go.Operand.const (Go.Value.slice none 0 0)], argTypes := #[23] }, (some (9, true))⟩,
  ⟨some 11, Go.Op.call { callee := Go.Callee.builtin Go.Builtin.len, args := #[Go.Operand.tmp 10], argTypes := #[22] }, (some (9, true))⟩,
  ⟨some 12, Go.Op.binOp Go.BinOp.eql 3 (Go.Operand.tmp 11) (Go.Operand.const (Go.Value.int Go.IntKind.i64 64)) 3, (some (9, true))⟩,
  ⟨some 13, Go.Op.pick (Go.Operand.tmp 9) (Go.Operand.tmp 12) (Go.Operand.const (Go.Value.bool false)), none⟩,
  ⟨some 0, Go.Op.assign (Go.Operand.tmp 13), none⟩]) (.ret)))
theorem ls10 : Tryd.f10.body.map (strip Tryd.prog impCodL) = some lc10 := by kernel_rfl
theorem lcall10 {args : List AV} (hargs : args.length ≤ 14) {H0 : AHeap} (lo : Nat) (hlo : H0.length ≤ lo) {r0 : AV} {H0' : AHeap}
    (h : lavc Tryd.prog glob lc10 (args ++ List.replicate (14 - args.length) (.v undef)) H0 fun e t H => (e = .normal ∨ e = .ret) ∧ aret Tryd.prog t H [Go.ResultVar.tmp 0] fun r => Fin lo H r r0 H0') :
    ACall Tryd.prog glob (H0.length == 0) 10 args H0 r0 H0' := LCall' ctx Tryd.func10 (by kernel_rfl) ls10 (by kernel_rfl) (by kernel_rfl) hargs lo hlo h
/-- escutcheon/escutcheonlaw04.BlakeSums -/
def lc3 : LCode := .seq (.reg []
  [⟨some 6, Go.Op.assign (Go.Operand.const (Go.Value.bool false)), none⟩]) (.seq (.reg []
  [⟨some 10, Go.Op.move (Go.Operand.tmp 2), none⟩,
  ⟨some 11, Go.Op.call { callee := Go.Callee.value (Go.Operand.func 9), args := #[Go.Operand.tmp 10], argTypes := #[23] }, none⟩,
  ⟨some 7, Go.Op.assign (Go.Operand.tmp 11), none⟩]) (.seq (.seq (.reg []
  [⟨some 12, Go.Op.call { callee := Go.Callee.value (Go.Operand.func 10), args := #[], argTypes := #[] }, none⟩,
  ⟨some 13, Go.Op.unOp Go.UnOp.not 4 (Go.Operand.tmp 12), none⟩,
  ⟨some 14, Go.Op.move (Go.Operand.tmp 13), none⟩,
  ⟨some 15, Go.Op.move (Go.Operand.tmp 1), (some (14, false))⟩,
  ⟨some 16, Go.Op.call { callee := Go.Callee.builtin Go.Builtin.len, args := #[Go.Operand.tmp 15], argTypes := #[22] }, (some (14, false))⟩,
  ⟨some 17, Go.Op.binOp Go.BinOp.gtr 3 (Go.Operand.tmp 16) (Go.Operand.const (Go.Value.int Go.IntKind.i64 100)) 3, (some (14, false))⟩,
  ⟨some 18, Go.Op.pick (Go.Operand.tmp 14) (Go.Operand.const (Go.Value.bool true)) (Go.Operand.tmp 17), none⟩,
  ⟨some 19, Go.Op.move (Go.Operand.tmp 18), none⟩,
  ⟨some 20, Go.Op.move (Go.Operand.tmp 2), (some (19, false))⟩,
  ⟨some 21, Go.Op.call { callee := Go.Callee.builtin Go.Builtin.len, args := #[Go.Operand.tmp 20], argTypes := #[23] }, (some (19, false))⟩,
  ⟨some 22, Go.Op.binOp Go.BinOp.gtr 3 (Go.Operand.tmp 21) (Go.Operand.const (Go.Value.int Go.IntKind.i64 20)) 3, (some (19, false))⟩,
  ⟨some 23, Go.Op.pick (Go.Operand.tmp 19) (Go.Operand.const (Go.Value.bool true)) (Go.Operand.tmp 22), none⟩,
  ⟨some 24, Go.Op.move (Go.Operand.tmp 23), none⟩,
  ⟨some 25, Go.Op.move (Go.Operand.tmp 7), (some (24, false))⟩,
  ⟨some 26, Go.Op.call { callee := Go.Callee.builtin Go.Builtin.len, args := #[Go.Operand.tmp 25], argTypes := #[22] }, (some (24, false))⟩,
  ⟨some 27, Go.Op.binOp Go.BinOp.gtr 3 (Go.Operand.tmp 26) (Go.Operand.const (Go.Value.int Go.IntKind.i64 600)) 3, (some (24, false))⟩,
  ⟨some 28, Go.Op.pick (Go.Operand.tmp 24) (Go.Operand.const (Go.Value.bool true)) (Go.Operand.tmp 27), none⟩]) (.cond (Go.Operand.tmp 28) (.seq (.reg []
  [⟨some 29, Go.Op.call { callee := Go.Callee.value (Go.Operand.func 10), args := #[], argTypes := #[] }, none⟩,
  ⟨some 6, Go.Op.assign (Go.Operand.tmp 29), none⟩]) (.ret)) (.skip))) (.seq (.reg []
  [⟨some 31, Go.Op.move (Go.Operand.tmp 0), none⟩,
  ⟨some 32, Go.Op.move (Go.Operand.tmp 1), none⟩,
  ⟨some 33, Go.Op.move (Go.Operand.tmp 2), none⟩,
  ⟨some 34, Go.Op.call { callee := Go.Callee.value (Go.Operand.func 11), args := #[Go.Operand.tmp 31, Go.Operand.tmp 32, Go.Operand.tmp 33], argTypes := #[3, 22, 23] }, none⟩,
  ⟨some 30, Go.Op.move (Go.Operand.tmp 34), none⟩,
  ⟨some 35, Go.Op.extract (Go.Operand.tmp 30) 0, none⟩,
  ⟨some 36, Go.Op.extract (Go.Operand.tmp 30) 1, none⟩,
  ⟨some 8, Go.Op.assign (Go.Operand.tmp 35), none⟩,
  ⟨some 9, Go.Op.assign (Go.Operand.tmp 36), none⟩]) (.seq (.seq (.reg []
  [⟨some 37, Go.Op.move (Go.Operand.tmp 0), none⟩,
  ⟨some 38, Go.Op.binOp Go.BinOp.lss 3 (Go.Operand.tmp 37) (Go.Operand.const (Go.Value.int Go.IntKind.i64 1)) 3, none⟩,
  ⟨some 39, Go.Op.move (Go.Operand.tmp 38), none⟩,
  ⟨some 40, Go.Op.move (Go.Operand.tmp 0), (some (39, false))⟩,
  ⟨some 41, Go.Op.binOp Go.BinOp.gtr 3 (Go.Operand.tmp 40) (Go.Operand.const (Go.Value.int Go.IntKind.i64 64)) 3, (some (39, false))⟩,
  ⟨some 42, Go.Op.pick (Go.Operand.tmp 39) (Go.Operand.const (Go.Value.bool true)) (Go.Operand.tmp 41), none⟩,
  ⟨some 43, Go.Op.move (Go.Operand.tmp 42), none⟩,
  ⟨some 44, Go.Op.move (Go.Operand.tmp 1), (some (43, false))⟩,
  ⟨some 45, Go.Op.call { callee := Go.Callee.builtin Go.Builtin.len, args := #[Go.Operand.tmp 44], argTypes := #[22] }, (some (43, false))⟩,
  ⟨some 46, Go.Op.binOp Go.BinOp.gtr 3 (Go.Operand.tmp 45) (Go.Operand.const (Go.Value.int Go.IntKind.i64 64)) 3, (some (43, false))⟩,
  ⟨some 47, Go.Op.pick (Go.Operand.tmp 43) (Go.Operand.const (Go.Value.bool true)) (Go.Operand.tmp 46), none⟩]) (.cond (Go.Operand.tmp 47) (.seq (.reg []
  [⟨some 48, Go.Op.move (Go.Operand.tmp 9), none⟩,
  ⟨some 49, Go.Op.binOp Go.BinOp.eql 26 (Go.Operand.tmp 48) (Go.Operand.const (Go.Value.int Go.IntKind.i64 1)) 26, none⟩,
  ⟨some 50, Go.Op.move (Go.Operand.tmp 49), none⟩,
  ⟨some 51, Go.Op.move (Go.Operand.tmp 8), (some (50, true))⟩,
  ⟨some 52, Go.Op.call { callee := Go.Callee.builtin Go.Builtin.len, args := #[Go.Operand.tmp 51], argTypes := #[22] }, (some (50, true))⟩,
  ⟨some 53, Go.Op.binOp Go.BinOp.eql 3 (Go.Operand.tmp 52) (Go.Operand.const (Go.Value.int Go.IntKind.i64 0)) 3, (some (50, true))⟩,
  ⟨some 54, Go.Op.pick (Go.Operand.tmp 50) (Go.Operand.tmp 53) (Go.Operand.const (Go.Value.bool false)), none⟩,
  ⟨some 6, Go.Op.assign (Go.Operand.tmp 54), none⟩]) (.ret)) (.skip))) (.seq (.reg [⟨some 55, Go.Op.move (Go.Operand.tmp 9), none⟩,
  ⟨some 56, Go.Op.binOp Go.BinOp.eql 26 (Go.Operand.tmp 55) (Go.Operand.const (Go.Value.int Go.IntKind.i64 0)) 26, none⟩,
  ⟨some 57, Go.Op.move (Go.Operand.tmp 56), none⟩,
  ⟨some 58, Go.Op.move (Go.Operand.tmp 8), (some (57, true))⟩,
  ⟨some 59, Go.Op.convert 22 9 (Go.Operand.tmp 58), (some (57, true))⟩,
  ⟨some 60, Go.Op.move (Go.Operand.tmp 0), (some (57, true))⟩,
  ⟨some 61, Go.Op.move (Go.Operand.tmp 1), (some (57, true))⟩,
  ⟨some 62, Go.Op.move (Go.Operand.tmp 7), (some (57, true))⟩,
  ⟨some 63, Go.Op.call { callee := Go.Callee.value (Go.Operand.func 12), args := #[Go.Operand.tmp 60, Go.Operand.tmp 61, Go.Operand.tmp 62], argTypes := #[3, 22, 22] }, (some (57, true))⟩,
  ⟨some 64, Go.Op.convert 22 9 (Go.Operand.tmp 63), (some (57, true))⟩,
  ⟨some 65, Go.Op.binOp Go.BinOp.eql 9 (Go.Operand.tmp 59) (Go.Operand.tmp 64) 9, (some (57, true))⟩,
  ⟨some 66, Go.Op.pick (Go.Operand.tmp 57) (Go.Operand.tmp 65) (Go.Operand.const (Go.Value.bool false)), none⟩,
  ⟨some 67, Go.Op.move (Go.Operand.tmp 66), none⟩,
  ⟨some 68, Go.Op.move (Go.Operand.tmp 2), (some (67, true))⟩,
  ⟨some 69, Go.Op.call { callee := Go.Callee.value (Go.Operand.func 9), args := #[Go.Operand.tmp 68], argTypes := #[23] }, (some (67, true))⟩,
  ⟨some 70, Go.Op.convert 22 9 (Go.Operand.tmp 69), (some (67, true))⟩,
  ⟨some 71, Go.Op.move (Go.Operand.tmp 7), (some (67, true))⟩,
  ⟨some 72, Go.Op.convert 22 9 (Go.Operand.tmp 71), (some (67, true))⟩,
  ⟨some 73, Go.Op.binOp Go.BinOp.eql 9 (Go.Operand.tmp 70) (Go.Operand.tmp 72) 9, (some (67, true))⟩,
  ⟨some 74, Go.Op.pick (Go.Operand.tmp 67) (Go.Operand.tmp 73) (Go.Operand.const (Go.Value.bool false)), none⟩,
  ⟨some 6, Go.Op.assign (Go.Operand.tmp 74), none⟩]
  []) (.ret))))))
def mj3_0 : List Nat := [3, 4, 5, 6, 10, 11, 12, 13, 14, 15, 16, 17, 18, 19, 20, 21, 22, 23, 24, 25, 26, 27, 28, 29]
def mj3_1 : List Nat := [3, 4, 5, 6, 10, 11, 12, 13, 14, 15, 16, 17, 18, 19, 20, 21, 22, 23, 24, 25, 26, 27, 28, 29, 30, 31, 32, 33, 34, 35, 36, 37, 38, 39, 40, 41, 42, 43, 44, 45, 46, 47, 48, 49, 50, 51, 52, 53, 54]
theorem ls3 : Tryd.f3.body.map (strip Tryd.prog impCodL) = some lc3 := by kernel_rfl
theorem lcall3 {args : List AV} (hargs : args.length ≤ 75) {H0 : AHeap} (lo : Nat) (hlo : H0.length ≤ lo) {r0 : AV} {H0' : AHeap}
    (h : lavc Tryd.prog glob lc3 (args ++ List.replicate (75 - args.length) (.v undef)) H0 fun e t H => (e = .normal ∨ e = .ret) ∧ aret Tryd.prog t H [Go.ResultVar.tmp 6] fun r => Fin lo H r r0 H0') :
    ACall Tryd.prog glob (H0.length == 0) 3 args H0 r0 H0' := LCall' ctx Tryd.func3 (by kernel_rfl) ls3 (by kernel_rfl) (by kernel_rfl) hargs lo hlo h
/-- escutcheon/escutcheonlaw04.BlakeLongs -/
def lc4 : LCode := .seq (.reg []
  [⟨some 2, Go.Op.assign (Go.Operand.const (Go.Value.bool false)), none⟩]) (.seq (.reg []
  [⟨some 4, Go.Op.move (Go.Operand.tmp 0), none⟩,
  ⟨some 5, Go.Op.call { callee := Go.Callee.value (Go.Operand.func 9), args := #[Go.Operand.tmp 4], argTypes := #[23] }, none⟩,
  ⟨some 3, Go.Op.assign (Go.Operand.tmp 5), none⟩]) (.seq (.seq (.reg []
  [⟨some 6, Go.Op.call { callee := Go.Callee.value (Go.Operand.func 10), args := #[], argTypes := #[] }, none⟩,
  ⟨some 7, Go.Op.unOp Go.UnOp.not 4 (Go.Operand.tmp 6), none⟩,
  ⟨some 8, Go.Op.move (Go.Operand.tmp 7), none⟩,
  ⟨some 9, Go.Op.move (Go.Operand.tmp 0), (some (8, false))⟩,
  ⟨some 10, Go.Op.call { callee := Go.Callee.builtin Go.Builtin.len, args := #[Go.Operand.tmp 9], argTypes := #[23] }, (some (8, false))⟩,
  ⟨some 11, Go.Op.binOp Go.BinOp.gtr 3 (Go.Operand.tmp 10) (Go.Operand.const (Go.Value.int Go.IntKind.i64 20)) 3, (some (8, false))⟩,
  ⟨some 12, Go.Op.pick (Go.Operand.tmp 8) (Go.Operand.const (Go.Value.bool true)) (Go.Operand.tmp 11), none⟩,
  ⟨some 13, Go.Op.move (Go.Operand.tmp 12), none⟩,
  ⟨some 14, Go.Op.move (Go.Operand.tmp 3), (some (13, false))⟩,
  ⟨some 15, Go.Op.call { callee := Go.Callee.builtin Go.Builtin.len, args := #[Go.Operand.tmp 14], argTypes := #[22] }, (some (13, false))⟩,
  ⟨some 16, Go.Op.binOp Go.BinOp.gtr 3 (Go.Operand.tmp 15) (Go.Operand.const (Go.Value.int Go.IntKind.i64 600)) 3, (some (13, false))⟩,
  ⟨some 17, Go.Op.pick (Go.Operand.tmp 13) (Go.Operand.const (Go.Value.bool true)) (Go.Operand.tmp 16), none⟩]) (.cond (Go.Operand.tmp 17) (.seq (.reg []
  [⟨some 18, Go.Op.call { callee := Go.Callee.value (Go.Operand.func 10), args := #[], argTypes := #[] }, none⟩,
  ⟨some 2, Go.Op.assign (Go.Operand.tmp 18), none⟩]) (.ret)) (.skip))) (.seq (.reg [⟨some 19, Go.Op.move (Go.Operand.tmp 0), none⟩,
  ⟨some 20, Go.Op.call { callee := Go.Callee.value (Go.Operand.func 13), args := #[Go.Operand.tmp 19], argTypes := #[23] }, none⟩,
  ⟨some 21, Go.Op.convert 22 9 (Go.Operand.tmp 20), none⟩,
  ⟨some 22, Go.Op.move (Go.Operand.tmp 3), none⟩,
  ⟨some 23, Go.Op.call { callee := Go.Callee.value (Go.Operand.func 12), args := #[Go.Operand.const (Go.Value.int Go.IntKind.i64 64), Go.Operand.const (Go.Value.slice none 0 0), Go.Operand.tmp 22], argTypes := #[3, 22, 22] }, none⟩,
  ⟨some 24, Go.Op.convert 22 9 (Go.Operand.tmp 23), none⟩,
  ⟨some 25, Go.Op.binOp Go.BinOp.eql 9 (Go.Operand.tmp 21) (Go.Operand.tmp 24) 9, none⟩,
  ⟨some 2, Go.Op.assign (Go.Operand.tmp 25), none⟩]
  []) (.ret))))
def mj4_0 : List Nat := [1, 2, 4, 5, 6, 7, 8, 9, 10, 11, 12, 13, 14, 15, 16, 17, 18]
theorem ls4 : Tryd.f4.body.map (strip Tryd.prog impCodL) = some lc4 := by kernel_rfl
theorem lcall4 {args : List AV} (hargs : args.length ≤ 26) {H0 : AHeap} (lo : Nat) (hlo : H0.length ≤ lo) {r0 : AV} {H0' : AHeap}
    (h : lavc Tryd.prog glob lc4 (args ++ List.replicate (26 - args.length) (.v undef)) H0 fun e t H => (e = .normal ∨ e = .ret) ∧ aret Tryd.prog t H [Go.ResultVar.tmp 2] fun r => Fin lo H r r0 H0') :
    ACall Tryd.prog glob (H0.length == 0) 4 args H0 r0 H0' := LCall' ctx Tryd.func4 (by kernel_rfl) ls4 (by kernel_rfl) (by kernel_rfl) hargs lo hlo h
/-- escutcheon/escutcheonlaw04.BlakeEdges -/
def lc5 : LCode := .seq (.reg []
  [⟨some 6, Go.Op.assign (Go.Operand.const (Go.Value.bool false)), none⟩]) (.seq (.seq (.reg []
  [⟨some 11, Go.Op.call { callee := Go.Callee.value (Go.Operand.func 10), args := #[], argTypes := #[] }, none⟩,
  ⟨some 12, Go.Op.unOp Go.UnOp.not 4 (Go.Operand.tmp 11), none⟩]) (.cond (Go.Operand.tmp 12) (.seq (.reg []
  [⟨some 6, Go.Op.assign (Go.Operand.const (Go.Value.bool false)), none⟩]) (.ret)) (.skip))) (.seq (.reg []
  [⟨some 13, Go.Op.move (Go.Operand.tmp 0), none⟩,
  ⟨some 14, Go.Op.convert 5 3 (Go.Operand.tmp 13), none⟩,
  ⟨some 15, Go.Op.move (Go.Operand.tmp 1), none⟩,
  ⟨some 16, Go.Op.binOp Go.BinOp.rem 5 (Go.Operand.tmp 15) (Go.Operand.const (Go.Value.int Go.IntKind.u8 3)) 5, none⟩,
  ⟨some 17, Go.Op.convert 5 3 (Go.Operand.tmp 16), none⟩,
  ⟨some 18, Go.Op.binOp Go.BinOp.mul 3 (Go.Operand.const (Go.Value.int Go.IntKind.i64 128)) (Go.Operand.tmp 17) 3, none⟩,
  ⟨some 19, Go.Op.binOp Go.BinOp.add 3 (Go.Operand.tmp 14) (Go.Operand.tmp 18) 3, none⟩,
  ⟨some 20, Go.Op.makeSlice 22 (Go.Operand.tmp 19) (Go.Operand.tmp 19), none⟩,
  ⟨some 7, Go.Op.assign (Go.Operand.tmp 20), none⟩]) (.seq (.reg []
  [⟨some 21, Go.Op.move (Go.Operand.tmp 2), none⟩,
  ⟨some 22, Go.Op.binOp Go.BinOp.rem 5 (Go.Operand.tmp 21) (Go.Operand.const (Go.Value.int Go.IntKind.u8 65)) 5, none⟩,
  ⟨some 23, Go.Op.convert 5 3 (Go.Operand.tmp 22), none⟩,
  ⟨some 24, Go.Op.makeSlice 22 (Go.Operand.tmp 23) (Go.Operand.tmp 23), none⟩,
  ⟨some 8, Go.Op.assign (Go.Operand.tmp 24), none⟩]) (.seq (.reg []
  [⟨some 26, Go.Op.move (Go.Operand.tmp 8), none⟩,
  ⟨some 27, Go.Op.move (Go.Operand.tmp 7), none⟩,
  ⟨some 28, Go.Op.buildSlice 23 1 #[(0, Go.Operand.tmp 27)], none⟩,
  ⟨some 29, Go.Op.call { callee := Go.Callee.value (Go.Operand.func 11), args := #[Go.Operand.const (Go.Value.int Go.IntKind.i64 32), Go.Operand.tmp 26, Go.Operand.tmp 28], argTypes := #[3, 22, 23] }, none⟩,
  ⟨some 25, Go.Op.move (Go.Operand.tmp 29), none⟩,
  ⟨some 30, Go.Op.extract (Go.Operand.tmp 25) 0, none⟩,
  ⟨some 31, Go.Op.extract (Go.Operand.tmp 25) 1, none⟩,
  ⟨some 9, Go.Op.assign (Go.Operand.tmp 30), none⟩,
  ⟨some 10, Go.Op.assign (Go.Operand.tmp 31), none⟩]) (.seq (.reg [⟨some 32, Go.Op.move (Go.Operand.tmp 10), none⟩,
  ⟨some 33, Go.Op.binOp Go.BinOp.eql 26 (Go.Operand.tmp 32) (Go.Operand.const (Go.Value.int Go.IntKind.i64 0)) 26, none⟩,
  ⟨some 34, Go.Op.move (Go.Operand.tmp 33), none⟩,
  ⟨some 35, Go.Op.move (Go.Operand.tmp 9), (some (34, true))⟩,
  ⟨some 36, Go.Op.convert 22 9 (Go.Operand.tmp 35), (some (34, true))⟩,
  ⟨some 37, Go.Op.move (Go.Operand.tmp 8), (some (34, true))⟩,
  ⟨some 38, Go.Op.move (Go.Operand.tmp 7), (some (34, true))⟩,
  ⟨some 39, Go.Op.call { callee := Go.Callee.value (Go.Operand.func 12), args := #[Go.Operand.const (Go.Value.int Go.IntKind.i64 32), Go.Operand.tmp 37, Go.Operand.tmp 38], argTypes := #[3, 22, 22] }, (some (34, true))⟩,
  ⟨some 40, Go.Op.convert 22 9 (Go.Operand.tmp 39), (some (34, true))⟩,
  ⟨some 41, Go.Op.binOp Go.BinOp.eql 9 (Go.Operand.tmp 36) (Go.Operand.tmp 40) 9, (some (34, true))⟩,
  ⟨some 42, Go.Op.pick (Go.Operand.tmp 34) (Go.Operand.tmp 41) (Go.Operand.const (Go.Value.bool false)), none⟩,
  ⟨some 6, Go.Op.assign (Go.Operand.tmp 42), none⟩]
  []) (.ret))))))
def mj5_0 : List Nat := [3, 4, 5, 6, 11, 12]
theorem ls5 : Tryd.f5.body.map (strip Tryd.prog impCodL) = some lc5 := by kernel_rfl
theorem lcall5 {args : List AV} (hargs : args.length ≤ 43) {H0 : AHeap} (lo : Nat) (hlo : H0.length ≤ lo) {r0 : AV} {H0' : AHeap}
    (h : lavc Tryd.prog glob lc5 (args ++ List.replicate (43 - args.length) (.v undef)) H0 fun e t H => (e = .normal ∨ e = .ret) ∧ aret Tryd.prog t H [Go.ResultVar.tmp 6] fun r => Fin lo H r r0 H0') :
    ACall Tryd.prog glob (H0.length == 0) 5 args H0 r0 H0' := LCall' ctx Tryd.func5 (by kernel_rfl) ls5 (by kernel_rfl) (by kernel_rfl) hargs lo hlo h
/-- escutcheon/escutcheonlaw04.BlakeChecks -/
def lc6 : LCode := .seq (.reg []
  [⟨some 6, Go.Op.assign (Go.Operand.const (Go.Value.bool false)), none⟩]) (.seq (.seq (.reg []
  [⟨some 9, Go.Op.call { callee := Go.Callee.value (Go.Operand.func 10), args := #[], argTypes := #[] }, none⟩,
  ⟨some 10, Go.Op.unOp Go.UnOp.not 4 (Go.Operand.tmp 9), none⟩,
  ⟨some 11, Go.Op.move (Go.Operand.tmp 10), none⟩,
  ⟨some 12, Go.Op.move (Go.Operand.tmp 0), (some (11, false))⟩,
  ⟨some 13, Go.Op.call { callee := Go.Callee.builtin Go.Builtin.len, args := #[Go.Operand.tmp 12], argTypes := #[22] }, (some (11, false))⟩,
  ⟨some 14, Go.Op.binOp Go.BinOp.gtr 3 (Go.Operand.tmp 13) (Go.Operand.const (Go.Value.int Go.IntKind.i64 100)) 3, (some (11, false))⟩,
  ⟨some 15, Go.Op.pick (Go.Operand.tmp 11) (Go.Operand.const (Go.Value.bool true)) (Go.Operand.tmp 14), none⟩,
  ⟨some 16, Go.Op.move (Go.Operand.tmp 15), none⟩,
  ⟨some 17, Go.Op.move (Go.Operand.tmp 1), (some (16, false))⟩,
  ⟨some 18, Go.Op.call { callee := Go.Callee.builtin Go.Builtin.len, args := #[Go.Operand.tmp 17], argTypes := #[22] }, (some (16, false))⟩,
  ⟨some 19, Go.Op.binOp Go.BinOp.gtr 3 (Go.Operand.tmp 18) (Go.Operand.const (Go.Value.int Go.IntKind.i64 100)) 3, (some (16, false))⟩,
  ⟨some 20, Go.Op.pick (Go.Operand.tmp 16) (Go.Operand.const (Go.Value.bool true)) (Go.Operand.tmp 19), none⟩,
  ⟨some 21, Go.Op.move (Go.Operand.tmp 20), none⟩,
  ⟨some 22, Go.Op.move (Go.Operand.tmp 2), (some (21, false))⟩,
  ⟨some 23, Go.Op.call { callee := Go.Callee.builtin Go.Builtin.len, args := #[Go.Operand.tmp 22], argTypes := #[22] }, (some (21, false))⟩,
  ⟨some 24, Go.Op.binOp Go.BinOp.gtr 3 (Go.Operand.tmp 23) (Go.Operand.const (Go.Value.int Go.IntKind.i64 300)) 3, (some (21, false))⟩,
  ⟨some 25, Go.Op.pick (Go.Operand.tmp 21) (Go.Operand.const (Go.Value.bool true)) (Go.Operand.tmp 24), none⟩]) (.cond (Go.Operand.tmp 25) (.seq (.reg []
  [⟨some 26, Go.Op.call { callee := Go.Callee.value (Go.Operand.func 10), args := #[], argTypes := #[] }, none⟩,
  ⟨some 6, Go.Op.assign (Go.Operand.tmp 26), none⟩]) (.ret)) (.skip))) (.seq (.reg []
  [⟨some 27, Go.Op.move (Go.Operand.tmp 0), none⟩,
  ⟨some 28, Go.Op.move (Go.Operand.tmp 1), none⟩,
  ⟨some 29, Go.Op.move (Go.Operand.tmp 2), none⟩,
  ⟨some 30, Go.Op.buildSlice 23 1 #[(0, Go.Operand.tmp 29)], none⟩,
  ⟨some 31, Go.Op.call { callee := Go.Callee.value (Go.Operand.func 14), args := #[Go.Operand.tmp 27, Go.Operand.tmp 28, Go.Operand.tmp 30], argTypes := #[22, 22, 23] }, none⟩,
  ⟨some 7, Go.Op.assign (Go.Operand.tmp 31), none⟩]) (.seq (.seq (.reg []
  [⟨some 32, Go.Op.move (Go.Operand.tmp 0), none⟩,
  ⟨some 33, Go.Op.call { callee := Go.Callee.builtin Go.Builtin.len, args := #[Go.Operand.tmp 32], argTypes := #[22] }, none⟩,
  ⟨some 34, Go.Op.binOp Go.BinOp.lss 3 (Go.Operand.tmp 33) (Go.Operand.const (Go.Value.int Go.IntKind.i64 1)) 3, none⟩,
  ⟨some 35, Go.Op.move (Go.Operand.tmp 34), none⟩,
  ⟨some 36, Go.Op.move (Go.Operand.tmp 0), (some (35, false))⟩,
  ⟨some 37, Go.Op.call { callee := Go.Callee.builtin Go.Builtin.len, args := #[Go.Operand.tmp 36], argTypes := #[22] }, (some (35, false))⟩,
  ⟨some 38, Go.Op.binOp Go.BinOp.gtr 3 (Go.Operand.tmp 37) (Go.Operand.const (Go.Value.int Go.IntKind.i64 64)) 3, (some (35, false))⟩,
  ⟨some 39, Go.Op.pick (Go.Operand.tmp 35) (Go.Operand.const (Go.Value.bool true)) (Go.Operand.tmp 38), none⟩,
  ⟨some 40, Go.Op.move (Go.Operand.tmp 39), none⟩,
  ⟨some 41, Go.Op.move (Go.Operand.tmp 1), (some (40, false))⟩,
  ⟨some 42, Go.Op.call { callee := Go.Callee.builtin Go.Builtin.len, args := #[Go.Operand.tmp 41], argTypes := #[22] }, (some (40, false))⟩,
  ⟨some 43, Go.Op.binOp Go.BinOp.gtr 3 (Go.Operand.tmp 42) (Go.Operand.const (Go.Value.int Go.IntKind.i64 64)) 3, (some (40, false))⟩,
  ⟨some 44, Go.Op.pick (Go.Operand.tmp 40) (Go.Operand.const (Go.Value.bool true)) (Go.Operand.tmp 43), none⟩]) (.cond (Go.Operand.tmp 44) (.seq (.reg []
  [⟨some 45, Go.Op.move (Go.Operand.tmp 7), none⟩,
  ⟨some 46, Go.Op.binOp Go.BinOp.eql 26 (Go.Operand.tmp 45) (Go.Operand.const (Go.Value.int Go.IntKind.i64 1)) 26, none⟩,
  ⟨some 6, Go.Op.assign (Go.Operand.tmp 46), none⟩]) (.ret)) (.skip))) (.seq (.reg []
  [⟨some 47, Go.Op.move (Go.Operand.tmp 0), none⟩,
  ⟨some 48, Go.Op.call { callee := Go.Callee.builtin Go.Builtin.len, args := #[Go.Operand.tmp 47], argTypes := #[22] }, none⟩,
  ⟨some 49, Go.Op.move (Go.Operand.tmp 1), none⟩,
  ⟨some 50, Go.Op.move (Go.Operand.tmp 2), none⟩,
  ⟨some 51, Go.Op.call { callee := Go.Callee.value (Go.Operand.func 12), args := #[Go.Operand.tmp 48, Go.Operand.tmp 49, Go.Operand.tmp 50], argTypes := #[3, 22, 22] }, none⟩,
  ⟨some 8, Go.Op.assign (Go.Operand.tmp 51), none⟩]) (.seq (.seq (.reg []
  [⟨some 52, Go.Op.move (Go.Operand.tmp 8), none⟩,
  ⟨some 53, Go.Op.move (Go.Operand.tmp 1), none⟩,
  ⟨some 54, Go.Op.move (Go.Operand.tmp 2), none⟩,
  ⟨some 55, Go.Op.buildSlice 23 1 #[(0, Go.Operand.tmp 54)], none⟩,
  ⟨some 56, Go.Op.call { callee := Go.Callee.value (Go.Operand.func 14), args := #[Go.Operand.tmp 52, Go.Operand.tmp 53, Go.Operand.tmp 55], argTypes := #[22, 22, 23] }, none⟩,
  ⟨some 57, Go.Op.binOp Go.BinOp.neq 26 (Go.Operand.tmp 56) (Go.Operand.const (Go.Value.int Go.IntKind.i64 0)) 26, none⟩]) (.cond (Go.Operand.tmp 57) (.seq (.reg []
  [⟨some 6, Go.Op.assign (Go.Operand.const (Go.Value.bool false)), none⟩]) (.ret)) (.skip))) (.seq (.reg []
  [⟨some 58, Go.Op.move (Go.Operand.tmp 7), none⟩,
  ⟨some 59, Go.Op.binOp Go.BinOp.eql 26 (Go.Operand.tmp 58) (Go.Operand.const (Go.Value.int Go.IntKind.i64 0)) 26, none⟩,
  ⟨some 60, Go.Op.move (Go.Operand.tmp 8), none⟩,
  ⟨some 61, Go.Op.convert 22 9 (Go.Operand.tmp 60), none⟩,
  ⟨some 62, Go.Op.move (Go.Operand.tmp 0), none⟩,
  ⟨some 63, Go.Op.convert 22 9 (Go.Operand.tmp 62), none⟩,
  ⟨some 64, Go.Op.binOp Go.BinOp.eql 9 (Go.Operand.tmp 61) (Go.Operand.tmp 63) 9, none⟩,
  ⟨some 65, Go.Op.binOp Go.BinOp.eql 4 (Go.Operand.tmp 59) (Go.Operand.tmp 64) 4, none⟩,
  ⟨some 66, Go.Op.move (Go.Operand.tmp 65), none⟩,
  ⟨some 67, Go.Op.move (Go.Operand.tmp 7), (some (66, true))⟩,
  ⟨some 68, Go.Op.binOp Go.BinOp.eql 26 (Go.Operand.tmp 67) (Go.Operand.const (Go.Value.int Go.IntKind.i64 0)) 26, (some (66, true))⟩,
  ⟨some 69, Go.Op.move (Go.Operand.tmp 68), (some (66, true))⟩,
  ⟨some 70, Go.Op.move (Go.Operand.tmp 7), (some (69, false))⟩,
  ⟨some 71, Go.Op.binOp Go.BinOp.eql 26 (Go.Operand.tmp 70) (Go.Operand.const (Go.Value.int Go.IntKind.i64 8)) 26, (some (69, false))⟩,
  ⟨some 72, Go.Op.pick (Go.Operand.tmp 69) (Go.Operand.const (Go.Value.bool true)) (Go.Operand.tmp 71), (some (66, true))⟩,
  ⟨some 73, Go.Op.pick (Go.Operand.tmp 66) (Go.Operand.tmp 72) (Go.Operand.const (Go.Value.bool false)), none⟩,
  ⟨some 6, Go.Op.assign (Go.Operand.tmp 73), none⟩]) (.ret)))))))
def mj6_0 : List Nat := [3, 4, 5, 6, 9, 10, 11, 12, 13, 14, 15, 16, 17, 18, 19, 20, 21, 22, 23, 24, 25, 26]
def mj6_1 : List Nat := [3, 4, 5, 6, 9, 10, 11, 12, 13, 14, 15, 16, 17, 18, 19, 20, 21, 22, 23, 24, 25, 26, 27, 28, 29, 30, 31, 32, 33, 34, 35, 36, 37, 38, 39, 40, 41, 42, 43, 44, 45, 46]
def mj6_2 : List Nat := [1, 2, 3, 4, 5, 6, 9, 10, 11, 12, 13, 14, 15, 16, 17, 18, 19, 20, 21, 22, 23, 24, 25, 26, 27, 28, 29, 30, 31, 32, 33, 34, 35, 36, 37, 38, 39, 40, 41, 42, 43, 44, 45, 46, 47, 48, 49, 50, 51, 52, 53, 54, 55, 56, 57]
theorem ls6 : Tryd.f6.body.map (strip Tryd.prog impCodL) = some lc6 := by kernel_rfl
theorem lcall6 {args : List AV} (hargs : args.length ≤ 74) {H0 : AHeap} (lo : Nat) (hlo : H0.length ≤ lo) {r0 : AV} {H0' : AHeap}
    (h : lavc Tryd.prog glob lc6 (args ++ List.replicate (74 - args.length) (.v undef)) H0 fun e t H => (e = .normal ∨ e = .ret) ∧ aret Tryd.prog t H [Go.ResultVar.tmp 6] fun r => Fin lo H r r0 H0') :
    ACall Tryd.prog glob (H0.length == 0) 6 args H0 r0 H0' := LCall' ctx Tryd.func6 (by kernel_rfl) ls6 (by kernel_rfl) (by kernel_rfl) hargs lo hlo h
/-- escutcheon/escutcheonlaw04.BlakeParts -/
def lc7 : LCode := .seq (.reg []
  [⟨some 5, Go.Op.box 36 (Go.Operand.tmp 2), none⟩,
  ⟨some 6, Go.Op.assign (Go.Operand.const (Go.Value.bool false)), none⟩]) (.seq (.seq (.reg []
  [⟨some 14, Go.Op.call { callee := Go.Callee.value (Go.Operand.func 10), args := #[], argTypes := #[] }, none⟩,
  ⟨some 15, Go.Op.unOp Go.UnOp.not 4 (Go.Operand.tmp 14), none⟩,
  ⟨some 16, Go.Op.move (Go.Operand.tmp 15), none⟩,
  ⟨some 17, Go.Op.move (Go.Operand.tmp 0), (some (16, false))⟩,
  ⟨some 18, Go.Op.call { callee := Go.Callee.builtin Go.Builtin.len, args := #[Go.Operand.tmp 17], argTypes := #[22] }, (some (16, false))⟩,
  ⟨some 19, Go.Op.binOp Go.BinOp.gtr 3 (Go.Operand.tmp 18) (Go.Operand.const (Go.Value.int Go.IntKind.i64 400)) 3, (some (16, false))⟩,
  ⟨some 20, Go.Op.pick (Go.Operand.tmp 16) (Go.Operand.const (Go.Value.bool true)) (Go.Operand.tmp 19), none⟩,
  ⟨some 21, Go.Op.move (Go.Operand.tmp 20), none⟩,
  ⟨some 22, Go.Op.move (Go.Operand.tmp 1), (some (21, false))⟩,
  ⟨some 23, Go.Op.call { callee := Go.Callee.builtin Go.Builtin.len, args := #[Go.Operand.tmp 22], argTypes := #[22] }, (some (21, false))⟩,
  ⟨some 24, Go.Op.binOp Go.BinOp.gtr 3 (Go.Operand.tmp 23) (Go.Operand.const (Go.Value.int Go.IntKind.i64 64)) 3, (some (21, false))⟩,
  ⟨some 25, Go.Op.pick (Go.Operand.tmp 21) (Go.Operand.const (Go.Value.bool true)) (Go.Operand.tmp 24), none⟩]) (.cond (Go.Operand.tmp 25) (.seq (.reg []
  [⟨some 26, Go.Op.call { callee := Go.Callee.value (Go.Operand.func 10), args := #[], argTypes := #[] }, none⟩,
  ⟨some 6, Go.Op.assign (Go.Operand.tmp 26), none⟩]) (.ret)) (.skip))) (.seq (.reg []
  [⟨some 27, Go.Op.indexAddr 36 (Go.Operand.tmp 5) (Go.Operand.const (Go.Value.int Go.IntKind.i64 0)), none⟩,
  ⟨some 28, Go.Op.load 5 (Go.Operand.tmp 27), none⟩,
  ⟨some 29, Go.Op.convert 5 3 (Go.Operand.tmp 28), none⟩,
  ⟨some 30, Go.Op.move (Go.Operand.tmp 0), none⟩,
  ⟨some 31, Go.Op.call { callee := Go.Callee.builtin Go.Builtin.len, args := #[Go.Operand.tmp 30], argTypes := #[22] }, none⟩,
  ⟨some 32, Go.Op.binOp Go.BinOp.add 3 (Go.Operand.tmp 31) (Go.Operand.const (Go.Value.int Go.IntKind.i64 1)) 3, none⟩,
  ⟨some 33, Go.Op.binOp Go.BinOp.rem 3 (Go.Operand.tmp 29) (Go.Operand.tmp 32) 3, none⟩,
  ⟨some 7, Go.Op.assign (Go.Operand.tmp 33), none⟩]) (.seq (.reg []
  [⟨some 34, Go.Op.move (Go.Operand.tmp 7), none⟩,
  ⟨some 35, Go.Op.indexAddr 36 (Go.Operand.tmp 5) (Go.Operand.const (Go.Value.int Go.IntKind.i64 1)), none⟩,
  ⟨some 36, Go.Op.load 5 (Go.Operand.tmp 35), none⟩,
  ⟨some 37, Go.Op.convert 5 3 (Go.Operand.tmp 36), none⟩,
  ⟨some 38, Go.Op.move (Go.Operand.tmp 0), none⟩,
  ⟨some 39, Go.Op.call { callee := Go.Callee.builtin Go.Builtin.len, args := #[Go.Operand.tmp 38], argTypes := #[22] }, none⟩,
  ⟨some 40, Go.Op.move (Go.Operand.tmp 7), none⟩,
  ⟨some 41, Go.Op.binOp Go.BinOp.sub 3 (Go.Operand.tmp 39) (Go.Operand.tmp 40) 3, none⟩,
  ⟨some 42, Go.Op.binOp Go.BinOp.add 3 (Go.Operand.tmp 41) (Go.Operand.const (Go.Value.int Go.IntKind.i64 1)) 3, none⟩,
  ⟨some 43, Go.Op.binOp Go.BinOp.rem 3 (Go.Operand.tmp 37) (Go.Operand.tmp 42) 3, none⟩,
  ⟨some 44, Go.Op.binOp Go.BinOp.add 3 (Go.Operand.tmp 34) (Go.Operand.tmp 43) 3, none⟩,
  ⟨some 8, Go.Op.assign (Go.Operand.tmp 44), none⟩]) (.seq (.reg []
  [⟨some 45, Go.Op.indexAddr 36 (Go.Operand.tmp 5) (Go.Operand.const (Go.Value.int Go.IntKind.i64 2)), none⟩,
  ⟨some 46, Go.Op.load 5 (Go.Operand.tmp 45), none⟩,
  ⟨some 47, Go.Op.binOp Go.BinOp.rem 5 (Go.Operand.tmp 46) (Go.Operand.const (Go.Value.int Go.IntKind.u8 64)) 5, none⟩,
  ⟨some 48, Go.Op.convert 5 3 (Go.Operand.tmp 47), none⟩,
  ⟨some 49, Go.Op.binOp Go.BinOp.add 3 (Go.Operand.const (Go.Value.int Go.IntKind.i64 1)) (Go.Operand.tmp 48) 3, none⟩,
  ⟨some 9, Go.Op.assign (Go.Operand.tmp 49), none⟩]) (.seq (.reg []
  [⟨some 51, Go.Op.move (Go.Operand.tmp 9), none⟩,
  ⟨some 52, Go.Op.move (Go.Operand.tmp 1), none⟩,
  ⟨some 53, Go.Op.move (Go.Operand.tmp 0), none⟩,
  ⟨some 54, Go.Op.buildSlice 23 1 #[(0, Go.Operand.tmp 53)], none⟩,
  ⟨some 55, Go.Op.call { callee := Go.Callee.value (Go.Operand.func 11), args := #[Go.Operand.tmp 51, Go.Operand.tmp 52, Go.Operand.tmp 54], argTypes := #[3, 22, 23] }, none⟩,
  ⟨some 50, Go.Op.move (Go.Operand.tmp 55), none⟩,
  ⟨some 56, Go.Op.extract (Go.Operand.tmp 50) 0, none⟩,
  ⟨some 57, Go.Op.extract (Go.Operand.tmp 50) 1, none⟩,
  ⟨some 10, Go.Op.assign (Go.Operand.tmp 56), none⟩,
  ⟨some 11, Go.Op.assign (Go.Operand.tmp 57), none⟩]) (.seq (.reg [⟨some 59, Go.Op.move (Go.Operand.tmp 9), none⟩,
  ⟨some 60, Go.Op.move (Go.Operand.tmp 1), none⟩,
  ⟨some 61, Go.Op.move (Go.Operand.tmp 0), none⟩,
  ⟨some 62, Go.Op.move (Go.Operand.tmp 7), none⟩,
  ⟨some 63, Go.Op.slice 22 (Go.Operand.tmp 61) none (some (Go.Operand.tmp 62)) none, none⟩,
  ⟨some 64, Go.Op.move (Go.Operand.tmp 0), none⟩,
  ⟨some 65, Go.Op.move (Go.Operand.tmp 7), none⟩,
  ⟨some 66, Go.Op.move (Go.Operand.tmp 8), none⟩,
  ⟨some 67, Go.Op.slice 22 (Go.Operand.tmp 64) (some (Go.Operand.tmp 65)) (some (Go.Operand.tmp 66)) none, none⟩,
  ⟨some 68, Go.Op.move (Go.Operand.tmp 0), none⟩,
  ⟨some 69, Go.Op.move (Go.Operand.tmp 8), none⟩,
  ⟨some 70, Go.Op.slice 22 (Go.Operand.tmp 68) (some (Go.Operand.tmp 69)) none none, none⟩,
  ⟨some 71, Go.Op.buildSlice 23 3 #[(0, Go.Operand.tmp 63), (1, Go.Operand.tmp 67), (2, Go.Operand.tmp 70)], none⟩,
  ⟨some 72, Go.Op.call { callee := Go.Callee.value (Go.Operand.func 11), args := #[Go.Operand.tmp 59, Go.Operand.tmp 60, Go.Operand.tmp 71], argTypes := #[3, 22, 23] }, none⟩,
  ⟨some 58, Go.Op.move (Go.Operand.tmp 72), none⟩,
  ⟨some 73, Go.Op.extract (Go.Operand.tmp 58) 0, none⟩,
  ⟨some 74, Go.Op.extract (Go.Operand.tmp 58) 1, none⟩,
  ⟨some 12, Go.Op.assign (Go.Operand.tmp 73), none⟩,
  ⟨some 13, Go.Op.assign (Go.Operand.tmp 74), none⟩]
  []) (.seq (.reg [⟨some 75, Go.Op.move (Go.Operand.tmp 11), none⟩,
  ⟨some 76, Go.Op.binOp Go.BinOp.eql 26 (Go.Operand.tmp 75) (Go.Operand.const (Go.Value.int Go.IntKind.i64 0)) 26, none⟩,
  ⟨some 77, Go.Op.move (Go.Operand.tmp 76), none⟩,
  ⟨some 78, Go.Op.move (Go.Operand.tmp 13), (some (77, true))⟩,
  ⟨some 79, Go.Op.binOp Go.BinOp.eql 26 (Go.Operand.tmp 78) (Go.Operand.const (Go.Value.int Go.IntKind.i64 0)) 26, (some (77, true))⟩,
  ⟨some 80, Go.Op.pick (Go.Operand.tmp 77) (Go.Operand.tmp 79) (Go.Operand.const (Go.Value.bool false)), none⟩,
  ⟨some 81, Go.Op.move (Go.Operand.tmp 80), none⟩,
  ⟨some 82, Go.Op.move (Go.Operand.tmp 10), (some (81, true))⟩,
  ⟨some 83, Go.Op.call { callee := Go.Callee.builtin Go.Builtin.len, args := #[Go.Operand.tmp 82], argTypes := #[22] }, (some (81, true))⟩,
  ⟨some 84, Go.Op.move (Go.Operand.tmp 9), (some (81, true))⟩,
  ⟨some 85, Go.Op.binOp Go.BinOp.eql 3 (Go.Operand.tmp 83) (Go.Operand.tmp 84) 3, (some (81, true))⟩,
  ⟨some 86, Go.Op.pick (Go.Operand.tmp 81) (Go.Operand.tmp 85) (Go.Operand.const (Go.Value.bool false)), none⟩,
  ⟨some 87, Go.Op.move (Go.Operand.tmp 86), none⟩,
  ⟨some 88, Go.Op.move (Go.Operand.tmp 10), (some (87, true))⟩,
  ⟨some 89, Go.Op.convert 22 9 (Go.Operand.tmp 88), (some (87, true))⟩,
  ⟨some 90, Go.Op.move (Go.Operand.tmp 12), (some (87, true))⟩,
  ⟨some 91, Go.Op.convert 22 9 (Go.Operand.tmp 90), (some (87, true))⟩,
  ⟨some 92, Go.Op.binOp Go.BinOp.eql 9 (Go.Operand.tmp 89) (Go.Operand.tmp 91) 9, (some (87, true))⟩,
  ⟨some 93, Go.Op.pick (Go.Operand.tmp 87) (Go.Operand.tmp 92) (Go.Operand.const (Go.Value.bool false)), none⟩,
  ⟨some 94, Go.Op.move (Go.Operand.tmp 93), none⟩,
  ⟨some 95, Go.Op.move (Go.Operand.tmp 10), (some (94, true))⟩,
  ⟨some 96, Go.Op.move (Go.Operand.tmp 1), (some (94, true))⟩,
  ⟨some 97, Go.Op.move (Go.Operand.tmp 0), (some (94, true))⟩,
  ⟨some 98, Go.Op.move (Go.Operand.tmp 8), (some (94, true))⟩,
  ⟨some 99, Go.Op.slice 22 (Go.Operand.tmp 97) none (some (Go.Operand.tmp 98)) none, (some (94, true))⟩,
  ⟨some 100, Go.Op.move (Go.Operand.tmp 0), (some (94, true))⟩,
  ⟨some 101, Go.Op.move (Go.Operand.tmp 8), (some (94, true))⟩,
  ⟨some 102, Go.Op.slice 22 (Go.Operand.tmp 100) (some (Go.Operand.tmp 101)) none none, (some (94, true))⟩,
  ⟨some 103, Go.Op.buildSlice 23 2 #[(0, Go.Operand.tmp 99), (1, Go.Operand.tmp 102)], (some (94, true))⟩,
  ⟨some 104, Go.Op.call { callee := Go.Callee.value (Go.Operand.func 14), args := #[Go.Operand.tmp 95, Go.Operand.tmp 96, Go.Operand.tmp 103], argTypes := #[22, 22, 23] }, (some (94, true))⟩,
  ⟨some 105, Go.Op.binOp Go.BinOp.eql 26 (Go.Operand.tmp 104) (Go.Operand.const (Go.Value.int Go.IntKind.i64 0)) 26, (some (94, true))⟩,
  ⟨some 106, Go.Op.pick (Go.Operand.tmp 94) (Go.Operand.tmp 105) (Go.Operand.const (Go.Value.bool false)), none⟩,
  ⟨some 6, Go.Op.assign (Go.Operand.tmp 106), none⟩]
  []) (.ret))))))))
def mj7_0 : List Nat := [2, 3, 4, 6, 14, 15, 16, 17, 18, 19, 20, 21, 22, 23, 24, 25, 26]
theorem ls7 : Tryd.f7.body.map (strip Tryd.prog impCodL) = some lc7 := by kernel_rfl
theorem lcall7 {args : List AV} (hargs : args.length ≤ 107) {H0 : AHeap} (lo : Nat) (hlo : H0.length ≤ lo) {r0 : AV} {H0' : AHeap}
    (h : lavc Tryd.prog glob lc7 (args ++ List.replicate (107 - args.length) (.v undef)) H0 fun e t H => (e = .normal ∨ e = .ret) ∧ aret Tryd.prog t H [Go.ResultVar.tmp 6] fun r => Fin lo H r r0 H0') :
    ACall Tryd.prog glob (H0.length == 0) 7 args H0 r0 H0' := LCall' ctx Tryd.func7 (by kernel_rfl) ls7 (by kernel_rfl) (by kernel_rfl) hargs lo hlo h
/-- escutcheon/escutcheonlaw04.BlakeRanges -/
def lc8 : LCode := .seq (.reg []
  [⟨some 6, Go.Op.assign (Go.Operand.const (Go.Value.bool false)), none⟩]) (.seq (.seq (.reg []
  [⟨some 9, Go.Op.call { callee := Go.Callee.value (Go.Operand.func 10), args := #[], argTypes := #[] }, none⟩,
  ⟨some 10, Go.Op.unOp Go.UnOp.not 4 (Go.Operand.tmp 9), none⟩,
  ⟨some 11, Go.Op.move (Go.Operand.tmp 10), none⟩,
  ⟨some 12, Go.Op.move (Go.Operand.tmp 1), (some (11, false))⟩,
  ⟨some 13, Go.Op.call { callee := Go.Callee.builtin Go.Builtin.len, args := #[Go.Operand.tmp 12], argTypes := #[22] }, (some (11, false))⟩,
  ⟨some 14, Go.Op.binOp Go.BinOp.gtr 3 (Go.Operand.tmp 13) (Go.Operand.const (Go.Value.int Go.IntKind.i64 100)) 3, (some (11, false))⟩,
  ⟨some 15, Go.Op.pick (Go.Operand.tmp 11) (Go.Operand.const (Go.Value.bool true)) (Go.Operand.tmp 14), none⟩,
  ⟨some 16, Go.Op.move (Go.Operand.tmp 15), none⟩,
  ⟨some 17, Go.Op.move (Go.Operand.tmp 2), (some (16, false))⟩,
  ⟨some 18, Go.Op.call { callee := Go.Callee.builtin Go.Builtin.len, args := #[Go.Operand.tmp 17], argTypes := #[22] }, (some (16, false))⟩,
  ⟨some 19, Go.Op.binOp Go.BinOp.gtr 3 (Go.Operand.tmp 18) (Go.Operand.const (Go.Value.int Go.IntKind.i64 100)) 3, (some (16, false))⟩,
  ⟨some 20, Go.Op.pick (Go.Operand.tmp 16) (Go.Operand.const (Go.Value.bool true)) (Go.Operand.tmp 19), none⟩,
  ⟨some 21, Go.Op.move (Go.Operand.tmp 20), none⟩,
  ⟨some 22, Go.Op.move (Go.Operand.tmp 0), (some (21, false))⟩,
  ⟨some 23, Go.Op.binOp Go.BinOp.gtr 3 (Go.Operand.tmp 22) (Go.Operand.const (Go.Value.int Go.IntKind.i64 200)) 3, (some (21, false))⟩,
  ⟨some 24, Go.Op.pick (Go.Operand.tmp 21) (Go.Operand.const (Go.Value.bool true)) (Go.Operand.tmp 23), none⟩]) (.cond (Go.Operand.tmp 24) (.seq (.reg []
  [⟨some 25, Go.Op.call { callee := Go.Callee.value (Go.Operand.func 10), args := #[], argTypes := #[] }, none⟩,
  ⟨some 6, Go.Op.assign (Go.Operand.tmp 25), none⟩]) (.ret)) (.skip))) (.seq (.reg []
  [⟨some 27, Go.Op.move (Go.Operand.tmp 0), none⟩,
  ⟨some 28, Go.Op.move (Go.Operand.tmp 1), none⟩,
  ⟨some 29, Go.Op.move (Go.Operand.tmp 2), none⟩,
  ⟨some 30, Go.Op.buildSlice 23 1 #[(0, Go.Operand.tmp 29)], none⟩,
  ⟨some 31, Go.Op.call { callee := Go.Callee.value (Go.Operand.func 11), args := #[Go.Operand.tmp 27, Go.Operand.tmp 28, Go.Operand.tmp 30], argTypes := #[3, 22, 23] }, none⟩,
  ⟨some 26, Go.Op.move (Go.Operand.tmp 31), none⟩,
  ⟨some 32, Go.Op.extract (Go.Operand.tmp 26) 0, none⟩,
  ⟨some 33, Go.Op.extract (Go.Operand.tmp 26) 1, none⟩,
  ⟨some 7, Go.Op.assign (Go.Operand.tmp 32), none⟩,
  ⟨some 8, Go.Op.assign (Go.Operand.tmp 33), none⟩]) (.seq (.seq (.reg []
  [⟨some 34, Go.Op.move (Go.Operand.tmp 0), none⟩,
  ⟨some 35, Go.Op.binOp Go.BinOp.geq 3 (Go.Operand.tmp 34) (Go.Operand.const (Go.Value.int Go.IntKind.i64 1)) 3, none⟩,
  ⟨some 36, Go.Op.move (Go.Operand.tmp 35), none⟩,
  ⟨some 37, Go.Op.move (Go.Operand.tmp 0), (some (36, true))⟩,
  ⟨some 38, Go.Op.binOp Go.BinOp.leq 3 (Go.Operand.tmp 37) (Go.Operand.const (Go.Value.int Go.IntKind.i64 64)) 3, (some (36, true))⟩,
  ⟨some 39, Go.Op.pick (Go.Operand.tmp 36) (Go.Operand.tmp 38) (Go.Operand.const (Go.Value.bool false)), none⟩,
  ⟨some 40, Go.Op.move (Go.Operand.tmp 39), none⟩,
  ⟨some 41, Go.Op.move (Go.Operand.tmp 1), (some (40, true))⟩,
  ⟨some 42, Go.Op.call { callee := Go.Callee.builtin Go.Builtin.len, args := #[Go.Operand.tmp 41], argTypes := #[22] }, (some (40, true))⟩,
  ⟨some 43, Go.Op.binOp Go.BinOp.leq 3 (Go.Operand.tmp 42) (Go.Operand.const (Go.Value.int Go.IntKind.i64 64)) 3, (some (40, true))⟩,
  ⟨some 44, Go.Op.pick (Go.Operand.tmp 40) (Go.Operand.tmp 43) (Go.Operand.const (Go.Value.bool false)), none⟩]) (.cond (Go.Operand.tmp 44) (.seq (.reg []
  [⟨some 45, Go.Op.move (Go.Operand.tmp 8), none⟩,
  ⟨some 46, Go.Op.binOp Go.BinOp.eql 26 (Go.Operand.tmp 45) (Go.Operand.const (Go.Value.int Go.IntKind.i64 0)) 26, none⟩,
  ⟨some 47, Go.Op.move (Go.Operand.tmp 46), none⟩,
  ⟨some 48, Go.Op.move (Go.Operand.tmp 7), (some (47, true))⟩,
  ⟨some 49, Go.Op.call { callee := Go.Callee.builtin Go.Builtin.len, args := #[Go.Operand.tmp 48], argTypes := #[22] }, (some (47, true))⟩,
  ⟨some 50, Go.Op.move (Go.Operand.tmp 0), (some (47, true))⟩,
  ⟨some 51, Go.Op.binOp Go.BinOp.eql 3 (Go.Operand.tmp 49) (Go.Operand.tmp 50) 3, (some (47, true))⟩,
  ⟨some 52, Go.Op.pick (Go.Operand.tmp 47) (Go.Operand.tmp 51) (Go.Operand.const (Go.Value.bool false)), none⟩,
  ⟨some 53, Go.Op.move (Go.Operand.tmp 52), none⟩,
  ⟨some 54, Go.Op.move (Go.Operand.tmp 7), (some (53, true))⟩,
  ⟨some 55, Go.Op.move (Go.Operand.tmp 1), (some (53, true))⟩,
  ⟨some 56, Go.Op.move (Go.Operand.tmp 2), (some (53, true))⟩,
  ⟨some 57, Go.Op.buildSlice 23 1 #[(0, Go.Operand.tmp 56)], (some (53, true))⟩,
  ⟨some 58, Go.Op.call { callee := Go.Callee.value (Go.Operand.func 14), args := #[Go.Operand.tmp 54, Go.Operand.tmp 55, Go.Operand.tmp 57], argTypes := #[22, 22, 23] }, (some (53, true))⟩,
  ⟨some 59, Go.Op.binOp Go.BinOp.eql 26 (Go.Operand.tmp 58) (Go.Operand.const (Go.Value.int Go.IntKind.i64 0)) 26, (some (53, true))⟩,
  ⟨some 60, Go.Op.pick (Go.Operand.tmp 53) (Go.Operand.tmp 59) (Go.Operand.const (Go.Value.bool false)), none⟩,
  ⟨some 6, Go.Op.assign (Go.Operand.tmp 60), none⟩]) (.ret)) (.skip))) (.seq (.reg []
  [⟨some 61, Go.Op.move (Go.Operand.tmp 8), none⟩,
  ⟨some 62, Go.Op.binOp Go.BinOp.eql 26 (Go.Operand.tmp 61) (Go.Operand.const (Go.Value.int Go.IntKind.i64 1)) 26, none⟩,
  ⟨some 63, Go.Op.move (Go.Operand.tmp 62), none⟩,
  ⟨some 64, Go.Op.move (Go.Operand.tmp 7), (some (63, true))⟩,
  ⟨some 65, Go.Op.call { callee := Go.Callee.builtin Go.Builtin.len, args := #[Go.Operand.tmp 64], argTypes := #[22] }, (some (63, true))⟩,
  ⟨some 66, Go.Op.binOp Go.BinOp.eql 3 (Go.Operand.tmp 65) (Go.Operand.const (Go.Value.int Go.IntKind.i64 0)) 3, (some (63, true))⟩,
  ⟨some 67, Go.Op.pick (Go.Operand.tmp 63) (Go.Operand.tmp 66) (Go.Operand.const (Go.Value.bool false)), none⟩,
  ⟨some 68, Go.Op.move (Go.Operand.tmp 67), none⟩,
  ⟨some 69, Go.Op.move (Go.Operand.tmp 0), (some (68, true))⟩,
  ⟨some 70, Go.Op.call { callee := Go.Callee.builtin Go.Builtin.max, args := #[Go.Operand.tmp 69, Go.Operand.const (Go.Value.int Go.IntKind.i64 0)], argTypes := #[3, 3] }, (some (68, true))⟩,
  ⟨some 71, Go.Op.makeSlice 22 (Go.Operand.tmp 70) (Go.Operand.tmp 70), (some (68, true))⟩,
  ⟨some 72, Go.Op.move (Go.Operand.tmp 1), (some (68, true))⟩,
  ⟨some 73, Go.Op.move (Go.Operand.tmp 2), (some (68, true))⟩,
  ⟨some 74, Go.Op.buildSlice 23 1 #[(0, Go.Operand.tmp 73)], (some (68, true))⟩,
  ⟨some 75, Go.Op.call { callee := Go.Callee.value (Go.Operand.func 14), args := #[Go.Operand.tmp 71, Go.Operand.tmp 72, Go.Operand.tmp 74], argTypes := #[22, 22, 23] }, (some (68, true))⟩,
  ⟨some 76, Go.Op.binOp Go.BinOp.eql 26 (Go.Operand.tmp 75) (Go.Operand.const (Go.Value.int Go.IntKind.i64 1)) 26, (some (68, true))⟩,
  ⟨some 77, Go.Op.pick (Go.Operand.tmp 68) (Go.Operand.tmp 76) (Go.Operand.const (Go.Value.bool false)), none⟩,
  ⟨some 6, Go.Op.assign (Go.Operand.tmp 77), none⟩]) (.ret)))))
def mj8_0 : List Nat := [3, 4, 5, 6, 9, 10, 11, 12, 13, 14, 15, 16, 17, 18, 19, 20, 21, 22, 23, 24, 25]
def mj8_1 : List Nat := [3, 4, 5, 6, 9, 10, 11, 12, 13, 14, 15, 16, 17, 18, 19, 20, 21, 22, 23, 24, 25, 26, 27, 28, 29, 30, 31, 32, 33, 34, 35, 36, 37, 38, 39, 40, 41, 42, 43, 44, 45, 46, 47, 48, 49, 50, 51, 52, 53, 54, 55, 56, 57, 58, 59, 60]
theorem ls8 : Tryd.f8.body.map (strip Tryd.prog impCodL) = some lc8 := by kernel_rfl
theorem lcall8 {args : List AV} (hargs : args.length ≤ 78) {H0 : AHeap} (lo : Nat) (hlo : H0.length ≤ lo) {r0 : AV} {H0' : AHeap}
    (h : lavc Tryd.prog glob lc8 (args ++ List.replicate (78 - args.length) (.v undef)) H0 fun e t H => (e = .normal ∨ e = .ret) ∧ aret Tryd.prog t H [Go.ResultVar.tmp 6] fun r => Fin lo H r r0 H0') :
    ACall Tryd.prog glob (H0.length == 0) 8 args H0 r0 H0' := LCall' ctx Tryd.func8 (by kernel_rfl) ls8 (by kernel_rfl) (by kernel_rfl) hargs lo hlo h
end Go.Abs.S
